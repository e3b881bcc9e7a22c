/- Functions and their walks (printed by auto.py over the engine). -/
import Derived.Test.YtnhifhlbelogcaaGreatDoorYAb
import Derived.Test.YtnhifhlbelogcaaGreatDoorProg
import Derived.Test.YtnhifhlbelogcaaGreatDoorYLG
set_option maxRecDepth 100000
set_option maxHeartbeats 1000000
namespace Go.Proofs.YtnhifhlbelogcaaGreatDoor
open Go Go.Eng
set_option linter.unusedSimpArgs false
set_option linter.unusedVariables false
theorem T.call120:Callable TP 120:=cm Tryz.func120
theorem T.call121:Callable TP 121:=cm Tryz.func121
theorem T.call143:Callable TP 143:=cm Tryz.func143
theorem T.call40:Callable TP 40:=cm Tryz.func40
theorem T.call41:Callable TP 41:=cm Tryz.func41
theorem T.call79:Callable TP 79:=cm Tryz.func79
theorem T.call80:Callable TP 80:=cm Tryz.func80
theorem T.call81:Callable TP 81:=cm Tryz.func81
theorem T.call82:Callable TP 82:=cm Tryz.func82
theorem T.call83:Callable TP 83:=cm Tryz.func83
theorem T.call84:Callable TP 84:=cm Tryz.func84
theorem T.call93:Callable TP 93:=cm Tryz.func93
theorem T.call94:Callable TP 94:=cm Tryz.func94
theorem T.call97:Callable TP 97:=cm Tryz.func97
theorem T.elt37:Elt TP 37 41 4 40:=elt_mk (z:=.agg #[I 0,.string ⟨#[]⟩,I 0,I 0]) Tryz.underlying37 (by kernel_rfl) rfl
theorem T.str9:isStr TP 9=true:=by kernel_rfl
def lx_letter (k:Nat) (q:Int):Option Bool:=(if 97≤q then (if q≤122 then (some true) else (if 65≤q then (some (decide (q≤90))) else (some false))) else (if 65≤q then (some (decide (q≤90))) else (some false)))
theorem lx_letter_calls (k:Nat) (E:Int) {w:World} {r_:Bool} (hF:lx_letter k E=some r_) :
    Calls TP 93 [.int .u8 E].toArray w fun e w'=>e = .returned (.bool r_)∧St w (KS []) w' []:=by
 unfold lx_letter at hF;have S:=St.ofFalse (As:=[]) (St.init0 w);refine enter 17 [(0,.int .u8 E)] Tryz.func93 rfl rfl rfl rfl ?_;refine wq (wr (av rfl (wn (we (wq (wr (mv rfl (wp (G.geq rfl rfl rfl) rfl (mv rfl ?_)))))))));rcases io hF with ⟨q,hF⟩|⟨q,hF⟩
 ·
  refine won rfl (dt q) (mv rfl (won rfl (dt q) (wp (G.leq rfl rfl rfl) rfl (wp (G.pick_t (kb rfl (dt q)) rfl) rfl (mv rfl ?_)))));rcases io hF with ⟨h2,hF⟩|⟨h2,hF⟩
  ·
   refine wof rfl (dt h2) rfl (wof rfl (dt h2) rfl (wof rfl (dt h2) rfl ?_));refine WOps.off rfl rfl rfl rfl ?_;refine WOps.off rfl rfl rfl rfl ?_;refine wof rfl (dt h2) rfl (wp (G.pick_t (kb rfl (dt h2)) rfl) rfl (av rfl (wn (we (wg (l':=[(2,.bool true)]) ⟨rfl,trivial⟩ (wrt ?_))))));obtain rfl:=se hF;refine WEx.ret1 rfl rfl ?_;exact ⟨rfl,sk (As:=[]) S⟩
  ·
   refine won rfl (df h2) (mv rfl (won rfl (df h2) (wp (G.geq rfl rfl rfl) rfl (won rfl (df h2) (mv rfl ?_)))));rcases io hF with ⟨C,hF⟩|⟨C,hF⟩
   ·
    refine won rfl (dt C) (mv rfl (won rfl (dt C) (wp (G.leq rfl rfl rfl) rfl (won rfl (df h2) (wp (G.pick_t (kb rfl (dt C)) rfl) rfl (wp (G.pick_f (kb rfl (df h2)) rfl) rfl (av rfl (wn (we (wg (l':=[(2,.bool (decide (E≤90)))]) ⟨rfl,trivial⟩ (wrt ?_)))))))))));obtain rfl:=se hF;refine WEx.ret1 rfl rfl ?_;exact ⟨rfl,sk (As:=[]) S⟩
   ·
    refine wof rfl (df C) rfl (wof rfl (df C) rfl (won rfl (df h2) (wp (G.pick_f (kb rfl (df C)) rfl) rfl (wp (G.pick_f (kb rfl (df h2)) rfl) rfl (av rfl (wn (we (wg (l':=[(2,.bool false)]) ⟨rfl,trivial⟩ (wrt ?_)))))))));obtain rfl:=se hF;refine WEx.ret1 rfl rfl ?_;exact ⟨rfl,sk (As:=[]) S⟩
 ·
  refine wof rfl (df q) rfl (wof rfl (df q) rfl (wp (G.pick_f (kb rfl (df q)) rfl) rfl (mv rfl ?_)));refine WOps.on rfl rfl ?_;refine mv rfl ?_;refine WOps.on rfl rfl ?_;refine wp (G.geq rfl rfl rfl) rfl ?_;refine WOps.on rfl rfl ?_;refine mv rfl ?_;rcases io hF with ⟨D,hF⟩|⟨D,hF⟩
  ·
   refine won rfl (dt D) (mv rfl (won rfl (dt D) (wp (G.leq rfl rfl rfl) rfl ?_)));refine WOps.on rfl rfl ?_;refine wp (G.pick_t (kb rfl (dt D)) rfl) rfl (wp (G.pick_f rfl rfl) rfl (av rfl (wn (we (wg (l':=[(2,.bool (decide (E≤90)))]) ⟨rfl,trivial⟩ (wrt ?_))))));obtain rfl:=se hF;refine WEx.ret1 rfl rfl ?_;exact ⟨rfl,sk (As:=[]) S⟩
  ·
   refine wof rfl (df D) rfl (wof rfl (df D) rfl ?_);refine WOps.on rfl rfl ?_;refine wp (G.pick_f (kb rfl (df D)) rfl) rfl (wp (G.pick_f rfl rfl) rfl (av rfl (wn (we (wg (l':=[(2,.bool false)]) ⟨rfl,trivial⟩ (wrt ?_))))));obtain rfl:=se hF;refine WEx.ret1 rfl rfl ?_;exact ⟨rfl,sk (As:=[]) S⟩
def lx_digit (k:Nat) (q:Int):Option Bool:=(if 48≤q then (some (decide (q≤57))) else (some false))
theorem lx_digit_calls (k:Nat) (C:Int) {w:World} {r_:Bool} (hF:lx_digit k C=some r_) :
    Calls TP 94 [.int .u8 C].toArray w fun e w'=>e = .returned (.bool r_)∧St w (KS []) w' []:=by
 unfold lx_digit at hF;have S:=St.ofFalse (As:=[]) (St.init0 w);refine enter 9 [(0,.int .u8 C)] Tryz.func94 rfl rfl rfl rfl ?_;refine wq (wr (av rfl (wn (we (wq (wr (mv rfl (wp (G.geq rfl rfl rfl) rfl (mv rfl ?_)))))))));rcases io hF with ⟨q,hF⟩|⟨q,hF⟩
 ·
  refine won rfl (dt q) (mv rfl (won rfl (dt q) (wp (G.leq rfl rfl rfl) rfl (wp (G.pick_t (kb rfl (dt q)) rfl) rfl (av rfl (wn (we (wrt ?_))))))));obtain rfl:=se hF;refine WEx.ret1 rfl rfl ?_;exact ⟨rfl,sk (As:=[]) S⟩
 ·
  refine wof rfl (df q) rfl (wof rfl (df q) rfl (wp (G.pick_f (kb rfl (df q)) rfl) rfl (av rfl (wn (we (wrt ?_))))));obtain rfl:=se hF;refine WEx.ret1 rfl rfl ?_;exact ⟨rfl,sk (As:=[]) S⟩
def lx_inRun (k:Nat) (q:Int):Option Bool:=((lx_letter k q).bind fun C=>if C=true then (some true) else (lx_digit k q).bind fun D=>if D=true then (some true) else some (decide (q=95)))
theorem lx_inRun_calls (k:Nat) (D:Int) {w:World} {r_:Bool} (hF:lx_inRun k D=some r_) :
    Calls TP 97 [.int .u8 D].toArray w fun e w'=>e = .returned (.bool r_)∧St w (KS []) w' []:=by
 unfold lx_inRun at hF;have S:=St.ofFalse (As:=[]) (St.init0 w);refine enter 13 [(0,.int .u8 D)] Tryz.func97 rfl rfl rfl rfl ?_;refine wq (wr (av rfl (wn (we (wq (wr (mv rfl ?_)))))));obtain ⟨Z,J,hF⟩:=bo hF;refine wc T.call93 (ec rfl en) rfl ?_;refine (lx_letter_calls k D J).mono ?_;rintro _ aa ⟨rfl,Y⟩;have O:=sc (As:=[]) S Y;refine ⟨_,rfl,?_⟩;refine mv rfl ?_;rcases io hF with ⟨C,hF⟩|⟨C,hF⟩
 ·
  refine wof rfl C rfl (wof rfl C rfl (wp (G.pick_t (kb rfl C) rfl) rfl (mv rfl ?_)));refine WOps.off rfl rfl rfl rfl ?_;refine WOps.off rfl rfl rfl rfl ?_;refine wp (G.pick_t rfl rfl) rfl (av rfl (wn (we (wg (l':=[(2,.bool true)]) ⟨rfl,trivial⟩ (wrt ?_)))));obtain rfl:=se hF;refine WEx.ret1 rfl rfl ?_;exact ⟨rfl,sk O⟩
 ·
  refine won rfl (bf C) (mv rfl (won rfl (bf C) ?_));obtain ⟨ab,V,hF⟩:=bo hF;refine wc T.call94 (ec rfl en) rfl ?_;refine (lx_digit_calls k D V).mono ?_;rintro _ ad ⟨rfl,X⟩;have E:=scT X O;refine ⟨_,rfl,?_⟩;refine wp (G.pick_f (kb rfl (bf C)) rfl) rfl (mv rfl ?_);rcases io hF with ⟨q,hF⟩|⟨q,hF⟩
  ·
   refine wof rfl q rfl (wof rfl q rfl (wp (G.pick_t (kb rfl q) rfl) rfl (av rfl (wn (we (wg (l':=[(2,.bool true)]) ⟨rfl,trivial⟩ (wrt ?_)))))));obtain rfl:=se hF;refine WEx.ret1 rfl rfl ?_;exact ⟨rfl,sk E⟩
  ·
   refine won rfl (bf q) (mv rfl (won rfl (bf q) (wp (G.eql rfl rfl rfl) rfl (wp (G.pick_f (kb rfl (bf q)) rfl) rfl (av rfl (wn (we (wg (l':=[(2,.bool (decide (D=95)))]) ⟨rfl,trivial⟩ (wrt ?_)))))))));obtain rfl:=se hF;refine WEx.ret1 rfl rfl ?_;exact ⟨rfl,sk E⟩
def lx_isBlank (k:Nat) (q:Int):Option Bool:=(if q=32 then (some true) else (if q=9 then (some true) else (if q=10 then (some true) else (some (decide (q=13))))))
theorem lx_isBlank_calls (k:Nat) (D:Int) {w:World} {r_:Bool} (hF:lx_isBlank k D=some r_) :
    Calls TP 91 [.int .u8 D].toArray w fun e w'=>e = .returned (.bool r_)∧St w (KS []) w' []:=by
 unfold lx_isBlank at hF;have S:=St.ofFalse (As:=[]) (St.init0 w);refine enter 17 [(0,.int .u8 D)] Tryz.func91 rfl rfl rfl rfl ?_;refine wq (wr (av rfl (wn (we (wq (wr (mv rfl (wp (G.eql rfl rfl rfl) rfl (mv rfl ?_)))))))));rcases io hF with ⟨q,hF⟩|⟨q,hF⟩
 ·
  refine wof rfl (dt q) rfl (wof rfl (dt q) rfl (wp (G.pick_t (kb rfl (dt q)) rfl) rfl (mv rfl ?_)));refine WOps.off rfl rfl rfl rfl ?_;refine WOps.off rfl rfl rfl rfl ?_;refine wp (G.pick_t rfl rfl) rfl (mv rfl ?_);refine WOps.off rfl rfl rfl rfl ?_;refine WOps.off rfl rfl rfl rfl ?_;refine wp (G.pick_t rfl rfl) rfl (av rfl (wn (we (wg (l':=[(2,.bool true)]) ⟨rfl,trivial⟩ (wrt ?_)))));obtain rfl:=se hF;refine WEx.ret1 rfl rfl ?_;exact ⟨rfl,sk (As:=[]) S⟩
 ·
  refine won rfl (df q) (mv rfl (won rfl (df q) (wp (G.eql rfl rfl rfl) rfl (wp (G.pick_f (kb rfl (df q)) rfl) rfl (mv rfl ?_)))));rcases io hF with ⟨h2,hF⟩|⟨h2,hF⟩
  ·
   refine wof rfl (dt h2) rfl (wof rfl (dt h2) rfl (wp (G.pick_t (kb rfl (dt h2)) rfl) rfl (mv rfl ?_)));refine WOps.off rfl rfl rfl rfl ?_;refine WOps.off rfl rfl rfl rfl ?_;refine wp (G.pick_t rfl rfl) rfl (av rfl (wn (we (wg (l':=[(2,.bool true)]) ⟨rfl,trivial⟩ (wrt ?_)))));obtain rfl:=se hF;refine WEx.ret1 rfl rfl ?_;exact ⟨rfl,sk (As:=[]) S⟩
  ·
   refine won rfl (df h2) (mv rfl (won rfl (df h2) (wp (G.eql rfl rfl rfl) rfl (wp (G.pick_f (kb rfl (df h2)) rfl) rfl (mv rfl ?_)))));rcases io hF with ⟨C,hF⟩|⟨C,hF⟩
   ·
    refine wof rfl (dt C) rfl (wof rfl (dt C) rfl (wp (G.pick_t (kb rfl (dt C)) rfl) rfl (av rfl (wn (we (wg (l':=[(2,.bool true)]) ⟨rfl,trivial⟩ (wrt ?_)))))));obtain rfl:=se hF;refine WEx.ret1 rfl rfl ?_;exact ⟨rfl,sk (As:=[]) S⟩
   ·
    refine won rfl (df C) (mv rfl (won rfl (df C) (wp (G.eql rfl rfl rfl) rfl (wp (G.pick_f (kb rfl (df C)) rfl) rfl (av rfl (wn (we (wg (l':=[(2,.bool (decide (D=13)))]) ⟨rfl,trivial⟩ (wrt ?_)))))))));obtain rfl:=se hF;refine WEx.ret1 rfl rfl ?_;exact ⟨rfl,sk (As:=[]) S⟩
def lx_run.l1:Nat→List UInt8→Int→Option Int
  | 0,_,_=>none
  | D+1,C,q=>if q < (C.length:Int) then ((idx C q).bind fun J=>(lx_inRun D ((J).toNat:Int)).bind fun E=>if E=true then (lx_run.l1 D C (w64 (q+1))) else some q) else some q
def lx_run (k:Nat) (q:List UInt8):Option Int:=(lx_run.l1 k q 0)
theorem lx_run_calls (k:Nat) (D:List UInt8) {w:World} {r_:Int} (hF:lx_run k D=some r_) :
    Calls TP 53 [.string (bs D)].toArray w fun e w'=>e = .returned (I r_)∧St w (KS []) w' []:=by
 unfold lx_run at hF;have S:=St.ofFalse (As:=[]) (St.init0 w);refine enter 17 [(0,.string (bs D))] Tryz.func53 rfl rfl rfl rfl ?_;refine wq (wr (av rfl (wn (we (wq (wr (av rfl (wn (we (wq ?_))))))))));refine WCode.block ?_;change St _ _ _ [] at S;refine wg (l':=[(0,.string (bs D)),(3,I 0)]) ⟨rfl,rfl,trivial⟩ ?_;refine wl (fun n_ l_ w_=>∃ C:Int,l_=[(0,.string (bs D)),(3,I C)]∧lx_run.l1 n_ D C=some r_∧St w (KS []) w_ []) k ⟨0,rfl,hF,S⟩ ?_;rintro Z _ af ⟨C,rfl,hF,V⟩;obtain _ | aa:=Z
 · exact nn hF
 rw [lx_run.l1] at hF;refine wq (wq (wr (mv rfl (mv rfl (wp (G.lenb T.str9 rfl) rfl (wp (G.lss rfl rfl rfl) rfl (mv rfl ?_)))))));rcases io hF with ⟨q,hF⟩|⟨q,hF⟩
 ·
  refine won rfl (dt q) (mv rfl (won rfl (dt q) (mv rfl (won rfl (dt q) ?_))));obtain ⟨ab,X,hF⟩:=bo hF;refine wp (G.idxb T.str9 rfl rfl X) rfl (won rfl (dt q) ?_);obtain ⟨ad,O,hF⟩:=bo hF;refine wc T.call97 (ec rfl en) rfl ?_;refine (lx_inRun_calls aa ((ab).toNat:Int) O).mono ?_;rintro _ ae ⟨rfl,Y⟩;have J:=scT Y V;refine ⟨_,rfl,?_⟩;refine wp (G.pick_t (kb rfl (dt q)) rfl) rfl (wn (we ?_));rcases io hF with ⟨E,hF⟩|⟨E,hF⟩
  ·
   refine ct rfl E (wsk (we ?_));refine WCode.block ?_;refine wr (mv rfl (wp (G.add rfl rfl (r:=(w64 (C+1))) rfl) rfl (av rfl (wn (win ?_)))));refine wag _ _ (by omega) ?_ ⟨w64 (C+1),rfl,hF,J⟩;exact ⟨rfl,rfl,trivial⟩
  ·
   refine cf rfl (bf E) ?_;refine WCode.exit ?_;refine WEx.then_exit ?_;refine WEx.then_exit ?_;refine WEx.in_exit ?_;refine we (wg (l':=[(3,I C)]) ⟨rfl,trivial⟩ (wq (wr (mv rfl (av rfl (wn (we (wrt ?_))))))));obtain rfl:=se hF;refine WEx.ret1 rfl rfl ?_;exact ⟨rfl,sk J⟩
 ·
  refine wof rfl (df q) rfl (wof rfl (df q) rfl (wof rfl (df q) rfl (wof rfl (df q) rfl (wp (G.pick_f (kb rfl (df q)) rfl) rfl (wn (we ?_))))));refine WCode.cond_f rfl ?_;refine WCode.exit ?_;refine WEx.then_exit ?_;refine WEx.then_exit ?_;refine WEx.in_exit ?_;refine we (wg (l':=[(3,I C)]) ⟨rfl,trivial⟩ (wq (wr (mv rfl (av rfl (wn (we (wrt ?_))))))));obtain rfl:=se hF;refine WEx.ret1 rfl rfl ?_;exact ⟨rfl,sk V⟩
def rf_letter (k:Nat) (q:Int):Option Bool:=(if 97≤q then (if q≤122 then (some true) else (if 65≤q then (some (decide (q≤90))) else (some false))) else (if 65≤q then (some (decide (q≤90))) else (some false)))
theorem rf_letter_calls (k:Nat) (E:Int) {w:World} {r_:Bool} (hF:rf_letter k E=some r_) :
    Calls TP 79 [.int .u8 E].toArray w fun e w'=>e = .returned (.bool r_)∧St w (KS []) w' []:=by
 unfold rf_letter at hF;have S:=St.ofFalse (As:=[]) (St.init0 w);refine enter 17 [(0,.int .u8 E)] Tryz.func79 rfl rfl rfl rfl ?_;refine wq (wr (av rfl (wn (we (wq (wr (mv rfl (wp (G.geq rfl rfl rfl) rfl (mv rfl ?_)))))))));rcases io hF with ⟨q,hF⟩|⟨q,hF⟩
 ·
  refine won rfl (dt q) (mv rfl (won rfl (dt q) (wp (G.leq rfl rfl rfl) rfl (wp (G.pick_t (kb rfl (dt q)) rfl) rfl (mv rfl ?_)))));rcases io hF with ⟨h2,hF⟩|⟨h2,hF⟩
  ·
   refine wof rfl (dt h2) rfl (wof rfl (dt h2) rfl (wof rfl (dt h2) rfl ?_));refine WOps.off rfl rfl rfl rfl ?_;refine WOps.off rfl rfl rfl rfl ?_;refine wof rfl (dt h2) rfl (wp (G.pick_t (kb rfl (dt h2)) rfl) rfl (av rfl (wn (we (wg (l':=[(2,.bool true)]) ⟨rfl,trivial⟩ (wrt ?_))))));obtain rfl:=se hF;refine WEx.ret1 rfl rfl ?_;exact ⟨rfl,sk (As:=[]) S⟩
  ·
   refine won rfl (df h2) (mv rfl (won rfl (df h2) (wp (G.geq rfl rfl rfl) rfl (won rfl (df h2) (mv rfl ?_)))));rcases io hF with ⟨C,hF⟩|⟨C,hF⟩
   ·
    refine won rfl (dt C) (mv rfl (won rfl (dt C) (wp (G.leq rfl rfl rfl) rfl (won rfl (df h2) (wp (G.pick_t (kb rfl (dt C)) rfl) rfl (wp (G.pick_f (kb rfl (df h2)) rfl) rfl (av rfl (wn (we (wg (l':=[(2,.bool (decide (E≤90)))]) ⟨rfl,trivial⟩ (wrt ?_)))))))))));obtain rfl:=se hF;refine WEx.ret1 rfl rfl ?_;exact ⟨rfl,sk (As:=[]) S⟩
   ·
    refine wof rfl (df C) rfl (wof rfl (df C) rfl (won rfl (df h2) (wp (G.pick_f (kb rfl (df C)) rfl) rfl (wp (G.pick_f (kb rfl (df h2)) rfl) rfl (av rfl (wn (we (wg (l':=[(2,.bool false)]) ⟨rfl,trivial⟩ (wrt ?_)))))))));obtain rfl:=se hF;refine WEx.ret1 rfl rfl ?_;exact ⟨rfl,sk (As:=[]) S⟩
 ·
  refine wof rfl (df q) rfl (wof rfl (df q) rfl (wp (G.pick_f (kb rfl (df q)) rfl) rfl (mv rfl ?_)));refine WOps.on rfl rfl ?_;refine mv rfl ?_;refine WOps.on rfl rfl ?_;refine wp (G.geq rfl rfl rfl) rfl ?_;refine WOps.on rfl rfl ?_;refine mv rfl ?_;rcases io hF with ⟨D,hF⟩|⟨D,hF⟩
  ·
   refine won rfl (dt D) (mv rfl (won rfl (dt D) (wp (G.leq rfl rfl rfl) rfl ?_)));refine WOps.on rfl rfl ?_;refine wp (G.pick_t (kb rfl (dt D)) rfl) rfl (wp (G.pick_f rfl rfl) rfl (av rfl (wn (we (wg (l':=[(2,.bool (decide (E≤90)))]) ⟨rfl,trivial⟩ (wrt ?_))))));obtain rfl:=se hF;refine WEx.ret1 rfl rfl ?_;exact ⟨rfl,sk (As:=[]) S⟩
  ·
   refine wof rfl (df D) rfl (wof rfl (df D) rfl ?_);refine WOps.on rfl rfl ?_;refine wp (G.pick_f (kb rfl (df D)) rfl) rfl (wp (G.pick_f rfl rfl) rfl (av rfl (wn (we (wg (l':=[(2,.bool false)]) ⟨rfl,trivial⟩ (wrt ?_))))));obtain rfl:=se hF;refine WEx.ret1 rfl rfl ?_;exact ⟨rfl,sk (As:=[]) S⟩
def rf_digit (k:Nat) (q:Int):Option Bool:=(if 48≤q then (some (decide (q≤57))) else (some false))
theorem rf_digit_calls (k:Nat) (C:Int) {w:World} {r_:Bool} (hF:rf_digit k C=some r_) :
    Calls TP 82 [.int .u8 C].toArray w fun e w'=>e = .returned (.bool r_)∧St w (KS []) w' []:=by
 unfold rf_digit at hF;have S:=St.ofFalse (As:=[]) (St.init0 w);refine enter 9 [(0,.int .u8 C)] Tryz.func82 rfl rfl rfl rfl ?_;refine wq (wr (av rfl (wn (we (wq (wr (mv rfl (wp (G.geq rfl rfl rfl) rfl (mv rfl ?_)))))))));rcases io hF with ⟨q,hF⟩|⟨q,hF⟩
 ·
  refine won rfl (dt q) (mv rfl (won rfl (dt q) (wp (G.leq rfl rfl rfl) rfl (wp (G.pick_t (kb rfl (dt q)) rfl) rfl (av rfl (wn (we (wrt ?_))))))));obtain rfl:=se hF;refine WEx.ret1 rfl rfl ?_;exact ⟨rfl,sk (As:=[]) S⟩
 ·
  refine wof rfl (df q) rfl (wof rfl (df q) rfl (wp (G.pick_f (kb rfl (df q)) rfl) rfl (av rfl (wn (we (wrt ?_))))));obtain rfl:=se hF;refine WEx.ret1 rfl rfl ?_;exact ⟨rfl,sk (As:=[]) S⟩
def rf_within (k:Nat) (q:Int):Option Bool:=((rf_digit k q).bind fun C=>(rf_letter k q).bind fun D=>if C=true then (some true) else if D=true then (some true) else some (decide (q=95)))
theorem rf_within_calls (k:Nat) (D:Int) {w:World} {r_:Bool} (hF:rf_within k D=some r_) :
    Calls TP 120 [.int .u8 D].toArray w fun e w'=>e = .returned (.bool r_)∧St w (KS []) w' []:=by
 unfold rf_within at hF;have S:=St.ofFalse (As:=[]) (St.init0 w);refine enter 17 [(0,.int .u8 D)] Tryz.func120 rfl rfl rfl rfl ?_;refine wq (wr (av rfl (wn (we (wq (wr (mv rfl ?_)))))));obtain ⟨Z,J,hF⟩:=bo hF;refine wc T.call82 (ec rfl en) rfl ?_;refine (rf_digit_calls k D J).mono ?_;rintro _ aa ⟨rfl,V⟩;have X:=sc (As:=[]) S V;refine ⟨_,rfl,?_⟩;refine av rfl (wn (we (wq (wr (mv rfl ?_)))));obtain ⟨ab,O,hF⟩:=bo hF;refine wc T.call79 (ec rfl en) rfl ?_;refine (rf_letter_calls k D O).mono ?_;rintro _ ad ⟨rfl,Y⟩;have E:=scT Y X;refine ⟨_,rfl,?_⟩;refine av rfl (wn (we (wq (wr (mv rfl (mv rfl ?_))))));rcases io hF with ⟨C,hF⟩|⟨C,hF⟩
 ·
  refine wof rfl C rfl (wp (G.pick_t (kb rfl C) rfl) rfl (mv rfl ?_));refine WOps.off rfl rfl rfl rfl ?_;refine WOps.off rfl rfl rfl rfl ?_;refine wp (G.pick_t rfl rfl) rfl (av rfl (wn (we (wg (l':=[(2,.bool true)]) ⟨rfl,trivial⟩ (wrt ?_)))));obtain rfl:=se hF;refine WEx.ret1 rfl rfl ?_;exact ⟨rfl,sk E⟩
 ·
  refine won rfl (bf C) (mv rfl (wp (G.pick_f (kb rfl (bf C)) rfl) rfl (mv rfl ?_)));rcases io hF with ⟨q,hF⟩|⟨q,hF⟩
  ·
   refine wof rfl q rfl (wof rfl q rfl (wp (G.pick_t (kb rfl q) rfl) rfl (av rfl (wn (we (wg (l':=[(2,.bool true)]) ⟨rfl,trivial⟩ (wrt ?_)))))));obtain rfl:=se hF;refine WEx.ret1 rfl rfl ?_;exact ⟨rfl,sk E⟩
  ·
   refine won rfl (bf q) (mv rfl (won rfl (bf q) (wp (G.eql rfl rfl rfl) rfl (wp (G.pick_f (kb rfl (bf q)) rfl) rfl (av rfl (wn (we (wg (l':=[(2,.bool (decide (D=95)))]) ⟨rfl,trivial⟩ (wrt ?_)))))))));obtain rfl:=se hF;refine WEx.ret1 rfl rfl ?_;exact ⟨rfl,sk E⟩
def rf_run.l1:Nat→List UInt8→Int→Option Int
  | 0,_,_=>none
  | D+1,C,q=>if q < (C.length:Int) then ((idx C q).bind fun J=>(rf_within D ((J).toNat:Int)).bind fun E=>if E=true then (rf_run.l1 D C (w64 (q+1))) else some q) else some q
def rf_run (k:Nat) (q:List UInt8) (C:Int):Option Int:=(rf_run.l1 k q C)
theorem rf_run_calls (k:Nat) (q:List UInt8) (D:Int) {w:World} {r_:Int} (hF:rf_run k q D=some r_) :
    Calls TP 80 [.string (bs q),I D].toArray w fun e w'=>e = .returned (I r_)∧St w (KS []) w' []:=by
 unfold rf_run at hF;have S:=St.ofFalse (As:=[]) (St.init0 w);refine enter 20 [(0,.string (bs q)),(1,I D)] Tryz.func80 rfl rfl rfl rfl ?_;refine wq (wr (av rfl (wn (we (wq ?_)))));refine WCode.block ?_;change St _ _ _ [] at S;refine wg (l':=[(0,.string (bs q)),(1,I D)]) ⟨rfl,rfl,trivial⟩ ?_;refine wl (fun n_ l_ w_=>∃ C:Int,l_=[(0,.string (bs q)),(1,I C)]∧rf_run.l1 n_ q C=some r_∧St w (KS []) w_ []) k ⟨D,rfl,hF,S⟩ ?_;rintro ab _ ag ⟨C,rfl,hF,X⟩;obtain _ | ad:=ab
 · exact nn hF
 rw [rf_run.l1] at hF;refine wq (wq (wr (mv rfl (mv rfl (wp (G.lenb T.str9 rfl) rfl (wp (G.lss rfl rfl rfl) rfl (wn (we ?_))))))));rcases io hF with ⟨O,hF⟩|⟨O,hF⟩
 ·
  refine ct rfl (dt O) (wsk (we ?_));refine WCode.block ?_;refine wq (wr (mv rfl (mv rfl ?_)));obtain ⟨ae,Y,hF⟩:=bo hF;refine wp (G.idxb T.str9 rfl rfl Y) rfl ?_;obtain ⟨Z,V,hF⟩:=bo hF;refine wc T.call120 (ec rfl en) rfl ?_;refine (rf_within_calls ad ((ae).toNat:Int) V).mono ?_;rintro _ af ⟨rfl,aa⟩;have J:=scT aa X;refine ⟨_,rfl,?_⟩;refine av rfl (wn (we (wq (wq (wr (mv rfl (wp (G.not rfl rfl) rfl (wn (we (wg (l':=[(0,.string (bs q)),(1,I C),(15,.bool (!Z))]) ⟨rfl,rfl,rfl,trivial⟩ ?_))))))))));rcases io hF with ⟨E,hF⟩|⟨E,hF⟩
  ·
   refine cf rfl (nf E) (wsk (we (wr (mv rfl (wp (G.add rfl rfl (r:=(w64 (C+1))) rfl) rfl (av rfl (wn (win ?_))))))));refine wag _ _ (by omega) ?_ ⟨w64 (C+1),rfl,hF,J⟩;exact ⟨rfl,rfl,trivial⟩
  ·
   refine ct rfl (nt (bf E)) (wq (wr (mv rfl (av rfl (wn (we (wrt (wtr ?_))))))));refine WEx.in_ret ?_;refine wtr ?_;refine WEx.in_ret ?_;refine wtr ?_;obtain rfl:=se hF;refine WEx.ret1 rfl rfl ?_;exact ⟨rfl,sk J⟩
 ·
  refine cf rfl (df O) ?_;refine WCode.exit ?_;refine WEx.then_exit ?_;refine WEx.then_exit ?_;refine WEx.in_exit ?_;refine we (wq (wr (mv rfl (av rfl (wn (we (wrt ?_)))))));obtain rfl:=se hF;refine WEx.ret1 rfl rfl ?_;exact ⟨rfl,sk X⟩
def rf_sign.l1:Nat→Int→Int→Option Bool
  | 0,_,_=>none
  | D+1,C,q=>if q < 13 then ((idx ([123,125,40,41,91,93,60,62,61,59,58,44,42]:List UInt8) q).bind fun E=>if ((E).toNat:Int)=C then (some true) else rf_sign.l1 D C (w64 (q+1))) else some false
def rf_sign (k:Nat) (q:Int):Option Bool:=(rf_sign.l1 k q 0)
theorem rf_sign_calls (k:Nat) (q:Int) {w:World} {r_:Bool} (hF:rf_sign k q=some r_) :
    Calls TP 84 [.int .u8 q].toArray w fun e w'=>e = .returned (.bool r_)∧St w (KS []) w' []:=by
 unfold rf_sign at hF;have S:=St.ofFalse (As:=[]) (St.init0 w);refine enter 12 [(0,.int .u8 q)] Tryz.func84 rfl rfl rfl rfl ?_;refine wq (wr (av rfl (wn (we (wq (wq (wr (av rfl (wn (we ?_))))))))));refine WCode.block ?_;change St _ _ _ [] at S;refine wg (l':=[(0,.int .u8 q),(3,I 0)]) ⟨rfl,rfl,trivial⟩ ?_;refine wl (fun n_ l_ w_=>∃ C:Int,l_=[(0,.int .u8 q),(3,I C)]∧rf_sign.l1 n_ q C=some r_∧St w (KS []) w_ []) k ⟨0,rfl,hF,S⟩ ?_;rintro V _ X ⟨C,rfl,hF,E⟩;obtain _ | Y:=V
 · exact nn hF
 rw [rf_sign.l1] at hF;refine wq (wq (wr (mv rfl (wp (G.lss rfl rfl rfl) rfl (wn (we ?_))))));rcases io hF with ⟨J,hF⟩|⟨J,hF⟩
 ·
  refine ct rfl (dt J) (wsk (we (wq ?_)));refine WCode.block ?_;refine wq (wr (mv rfl ?_));obtain ⟨Z,O,hF⟩:=bo hF;refine wp (G.idxb T.str9 rfl rfl O) rfl (mv rfl (wp (G.eql rfl rfl rfl) rfl (wn (we ?_))));rcases io hF with ⟨D,hF⟩|⟨D,hF⟩
  ·
   refine ct rfl (dt D) (wq (wr (av rfl (wn (we (wrt ?_))))));refine WEx.in_ret ?_;refine wtr (wtr ?_);refine WEx.in_ret ?_;refine wtr ?_;obtain rfl:=se hF;refine WEx.ret1 rfl rfl ?_;exact ⟨rfl,sk E⟩
  ·
   refine cf rfl (df D) (wsk (win (we (wr (mv rfl (wp (G.add rfl rfl (r:=(w64 (C+1))) rfl) rfl (av rfl (wn ?_))))))));refine wag _ _ (by omega) ?_ ⟨w64 (C+1),rfl,hF,E⟩;exact ⟨rfl,rfl,trivial⟩
 ·
  refine cf rfl (df J) ?_;refine WCode.exit ?_;refine WEx.then_exit ?_;refine WEx.then_exit ?_;refine WEx.in_exit ?_;refine we (wq (wr (av rfl (wn (we (wrt ?_))))));obtain rfl:=se hF;refine WEx.ret1 rfl rfl ?_;exact ⟨rfl,sk E⟩
def rf_comment.l1:Nat→List UInt8→Int→Option Int
  | 0,_,_=>none
  | D+1,C,q=>if (w64 (q+1)) < (C.length:Int) then ((idx C q).bind fun J=>if ((J).toNat:Int)=42 then ((idx C (w64 (q+1))).bind fun E=>if ((E).toNat:Int)=47 then (some (w64 (q+2))) else rf_comment.l1 D C (w64 (q+1))) else rf_comment.l1 D C (w64 (q+1))) else some 0
def rf_comment (k:Nat) (q:List UInt8) (C:Int):Option Int:=(rf_comment.l1 k q (w64 (C+2)))
theorem rf_comment_calls (k:Nat) (D:List UInt8) (E:Int) {w:World} {r_:Int} (hF:rf_comment k D E=some r_) :
    Calls TP 40 [.string (bs D),I E].toArray w fun e w'=>e = .returned (I r_)∧St w (KS []) w' []:=by
 unfold rf_comment at hF;have S:=St.ofFalse (As:=[]) (St.init0 w);refine enter 28 [(0,.string (bs D)),(1,I E)] Tryz.func40 rfl rfl rfl rfl ?_;refine wq (wr (av rfl (wn (we (wq (wq (wr (mv rfl (wp (G.add rfl rfl (r:=(w64 (E+2))) rfl) rfl (av rfl (wn (we ?_))))))))))));refine WCode.block ?_;change St _ _ _ [] at S;refine wg (l':=[(0,.string (bs D)),(5,I (w64 (E+2)))]) ⟨rfl,rfl,trivial⟩ ?_;refine wl (fun n_ l_ w_=>∃ C:Int,l_=[(0,.string (bs D)),(5,I C)]∧rf_comment.l1 n_ D C=some r_∧St w (KS []) w_ []) k ⟨w64 (E+2),rfl,hF,S⟩ ?_;rintro aa _ ab ⟨C,rfl,hF,V⟩;obtain _ | ad:=aa
 · exact nn hF
 rw [rf_comment.l1] at hF;refine wq (wq (wr (mv rfl (wp (G.add rfl rfl (r:=(w64 (C+1))) rfl) rfl (mv rfl (wp (G.lenb T.str9 rfl) rfl (wp (G.lss rfl rfl rfl) rfl (wn (we ?_)))))))));rcases io hF with ⟨X,hF⟩|⟨X,hF⟩
 ·
  refine ct rfl (dt X) (wsk (we (wq ?_)));refine WCode.block ?_;refine wq (wr (mv rfl (mv rfl ?_)));obtain ⟨ae,Z,hF⟩:=bo hF;refine wp (G.idxb T.str9 rfl rfl Z) rfl (wp (G.eql rfl rfl rfl) rfl (mv rfl ?_));rcases io hF with ⟨q,hF⟩|⟨q,hF⟩
  ·
   refine won rfl (dt q) (mv rfl (won rfl (dt q) (mv rfl (won rfl (dt q) (wp (G.add rfl rfl (r:=(w64 (C+1))) rfl) rfl (won rfl (dt q) ?_))))));obtain ⟨J,Y,hF⟩:=bo hF;refine wp (G.idxb T.str9 rfl rfl Y) rfl (won rfl (dt q) (wp (G.eql rfl rfl rfl) rfl (wp (G.pick_t (kb rfl (dt q)) rfl) rfl (wn (we (wg (l':=[(0,.string (bs D)),(5,I C),(20,.string (bs D)),(21,I C),(22,I (w64 (C+1))),(23,.int .u8 ((J).toNat:Int)),(24,.bool (decide (((J).toNat:Int)=47))),(25,.bool (decide (((J).toNat:Int)=47)))]) ⟨rfl,rfl,rfl,rfl,rfl,rfl,rfl,rfl,trivial⟩ ?_))))));rcases io hF with ⟨O,hF⟩|⟨O,hF⟩
   ·
    refine ct rfl (dt O) (wq (wr (mv rfl (wp (G.add rfl rfl (r:=(w64 (C+2))) rfl) rfl (av rfl (wn (we (wg (l':=[(4,I (w64 (C+2)))]) ⟨rfl,trivial⟩ (wrt ?_)))))))));refine WEx.in_ret ?_;refine wtr (wtr ?_);refine WEx.in_ret ?_;refine wtr ?_;obtain rfl:=se hF;refine WEx.ret1 rfl rfl ?_;exact ⟨rfl,sk V⟩
   ·
    refine cf rfl (df O) (wsk (win (we (wr (mv rfl (wp (G.add rfl rfl (r:=(w64 (C+1))) rfl) rfl (av rfl (wn ?_))))))));refine wag _ _ (by omega) ?_ ⟨w64 (C+1),rfl,hF,V⟩;exact ⟨rfl,rfl,trivial⟩
  ·
   refine wof rfl (df q) rfl (wof rfl (df q) rfl (wof rfl (df q) rfl (wof rfl (df q) rfl (wof rfl (df q) rfl (wp (G.pick_f (kb rfl (df q)) rfl) rfl (wn (we (wg (l':=[(0,.string (bs D)),(5,I C),(20,undef),(21,undef),(22,undef),(23,undef),(24,undef),(25,.bool false)]) ⟨rfl,rfl,rfl,rfl,rfl,rfl,rfl,rfl,trivial⟩ ?_))))))));refine WCode.cond_f rfl ?_;refine wsk (win (we (wr (mv rfl (wp (G.add rfl rfl (r:=(w64 (C+1))) rfl) rfl (av rfl (wn ?_)))))));refine wag _ _ (by omega) ?_ ⟨w64 (C+1),rfl,hF,V⟩;exact ⟨rfl,rfl,trivial⟩
 ·
  refine cf rfl (df X) ?_;refine WCode.exit ?_;refine WEx.then_exit ?_;refine WEx.then_exit ?_;refine WEx.in_exit ?_;refine we (wq (wr (av rfl (wn (we (wrt ?_))))));obtain rfl:=se hF;refine WEx.ret1 rfl rfl ?_;exact ⟨rfl,sk V⟩
def rf_value.j2 (E:Nat) (q:Int) (C:Int) (D:Bool):Option Int:=(if D=true then (if C≤(w64 ((w64 (IntKind.u8.wrap (q - 97)))+10)) then (some (-1)) else (some (w64 ((w64 (IntKind.u8.wrap (q - 97)))+10)))) else (if 65≤q then (if q≤70 then (if C≤(w64 ((w64 (IntKind.u8.wrap (q - 65)))+10)) then (some (-1)) else (some (w64 ((w64 (IntKind.u8.wrap (q - 65)))+10)))) else (if C≤(-1) then (some (-1)) else (some (-1)))) else (if C≤(-1) then (some (-1)) else (some (-1)))))
def rf_value.j1 (D:Nat) (q:Int) (C:Int) (E:Bool):Option Int:=(if E=true then (if C≤(w64 (IntKind.u8.wrap (q - 48))) then (some (-1)) else (some (w64 (IntKind.u8.wrap (q - 48))))) else (if 97≤q then (rf_value.j2 D q C (decide (q≤102))) else (rf_value.j2 D q C false)))
def rf_value (k:Nat) (q:Int) (C:Int):Option Int:=(if 48≤q then (rf_value.j1 k q C (decide (q≤57))) else (rf_value.j1 k q C false))
theorem rf_value_calls (k:Nat) (q:Int) (C:Int) {w:World} {r_:Int} (hF:rf_value k q C=some r_) :
    Calls TP 143 [.int .u8 q,I C].toArray w fun e w'=>e = .returned (I r_)∧St w (KS []) w' []:=by
 unfold rf_value at hF;have S:=St.ofFalse (As:=[]) (St.init0 w);refine enter 42 [(0,.int .u8 q),(1,I C)] Tryz.func143 rfl rfl rfl rfl ?_;refine wq (wr (av rfl (wn (we (wq (wr (av rfl (wn (we (wq ?_))))))))));refine WCode.block ?_;refine wqs (fun l_ w_=>∃ ad:Nat,∃ ag:Bool,l_=[(0,.int .u8 q),(1,I C),(5,I (-1)),(6,.bool ag)]∧rf_value.j1 ad q C ag=some r_∧St w (KS []) w_ []) ?_ ?_
 ·
  refine wr (mv rfl (wp (G.geq rfl rfl rfl) rfl (mv rfl ?_)));rcases io hF with ⟨O,hF⟩|⟨O,hF⟩
  ·
   refine won rfl (dt O) (mv rfl (won rfl (dt O) (wp (G.leq rfl rfl rfl) rfl (wp (G.pick_t (kb rfl (dt O)) rfl) rfl (av rfl (wn ?_))))));change St _ _ _ [] at S;refine wx _ ?_ ⟨k,decide (q≤57),rfl,hF,S⟩;exact ⟨rfl,rfl,rfl,rfl,trivial⟩
  ·
   refine wof rfl (df O) rfl (wof rfl (df O) rfl (wp (G.pick_f (kb rfl (df O)) rfl) rfl (av rfl (wn ?_))));refine wx _ ?_ ⟨k,false,rfl,hF,S⟩;exact ⟨rfl,rfl,rfl,rfl,trivial⟩
 ·
  rintro _ al ⟨ad,ag,rfl,hF,ae⟩;unfold rf_value.j1 at hF;rcases io hF with ⟨ah,hF⟩|⟨ah,hF⟩
  ·
   refine ct rfl ah (wr (mv rfl (wp (G.sub rfl rfl (r:=(IntKind.u8.wrap (q - 48))) rfl) rfl (wp (G.convi (by kernel_rfl) Tryz.underlying3 rfl (r:=(w64 (IntKind.u8.wrap (q - 48)))) rfl) rfl (av rfl (wn (win (we (wq (wq (wr (mv rfl (mv rfl (wp (G.geq rfl rfl rfl) rfl (wn (we ?_))))))))))))))));rcases io hF with ⟨ai,hF⟩|⟨ai,hF⟩
   ·
    refine WCode.cond_t (kb (b:=decide (C≤(w64 (IntKind.u8.wrap (q - 48))))) rfl (dt ai)) ?_;refine wq (wr (av rfl (wn (we (wg (l':=[(4,I (-1))]) ⟨rfl,trivial⟩ (wrt (wtr ?_)))))));obtain rfl:=se hF;refine WEx.ret1 rfl rfl ?_;exact ⟨rfl,sk ae⟩
   ·
    refine WCode.cond_f (kb (b:=decide (C≤(w64 (IntKind.u8.wrap (q - 48))))) rfl (df ai)) ?_;refine wsk (we (wq (wr (mv rfl (av rfl (wn (we (wg (l':=[(4,I (w64 (IntKind.u8.wrap (q - 48))))]) ⟨rfl,trivial⟩ (wrt ?_)))))))));obtain rfl:=se hF;refine WEx.ret1 rfl rfl ?_;exact ⟨rfl,sk ae⟩
  ·
   refine cf rfl (bf ah) ?_;refine wqs (fun l_ w_=>∃ af:Nat,∃ aj:Bool,l_=[(0,.int .u8 q),(1,I C),(5,I (-1)),(16,.bool aj)]∧rf_value.j2 af q C aj=some r_∧St w (KS []) w_ []) ?_ ?_
   ·
    refine wr (mv rfl (wp (G.geq rfl rfl rfl) rfl (mv rfl ?_)));rcases io hF with ⟨E,hF⟩|⟨E,hF⟩
    ·
     refine won rfl (dt E) (mv rfl (won rfl (dt E) (wp (G.leq rfl rfl rfl) rfl (wp (G.pick_t (kb rfl (dt E)) rfl) rfl (av rfl (wn ?_))))));refine wx _ ?_ ⟨ad,decide (q≤102),rfl,hF,ae⟩;exact ⟨rfl,rfl,rfl,rfl,trivial⟩
    ·
     refine wof rfl (df E) rfl (wof rfl (df E) rfl (wp (G.pick_f (kb rfl (df E)) rfl) rfl (av rfl (wn ?_))));refine wx _ ?_ ⟨ad,false,rfl,hF,ae⟩;exact ⟨rfl,rfl,rfl,rfl,trivial⟩
   ·
    rintro _ ak ⟨af,aj,rfl,hF,D⟩;unfold rf_value.j2 at hF;rcases io hF with ⟨V,hF⟩|⟨V,hF⟩
    ·
     refine ct rfl V (wr (mv rfl (wp (G.sub rfl rfl (r:=(IntKind.u8.wrap (q - 97))) rfl) rfl (wp (G.convi (by kernel_rfl) Tryz.underlying3 rfl (r:=(w64 (IntKind.u8.wrap (q - 97)))) rfl) rfl (wp (G.add rfl rfl (r:=(w64 ((w64 (IntKind.u8.wrap (q - 97)))+10))) rfl) rfl (av rfl (wn (win (we (wq (wq (wr (mv rfl (mv rfl (wp (G.geq rfl rfl rfl) rfl (wn (we ?_)))))))))))))))));rcases io hF with ⟨X,hF⟩|⟨X,hF⟩
     ·
      refine WCode.cond_t (kb (b:=decide (C≤(w64 ((w64 (IntKind.u8.wrap (q - 97)))+10)))) rfl (dt X)) ?_;refine wq (wr (av rfl (wn (we (wg (l':=[(4,I (-1))]) ⟨rfl,trivial⟩ (wrt (wtr ?_)))))));obtain rfl:=se hF;refine WEx.ret1 rfl rfl ?_;exact ⟨rfl,sk D⟩
     ·
      refine WCode.cond_f (kb (b:=decide (C≤(w64 ((w64 (IntKind.u8.wrap (q - 97)))+10)))) rfl (df X)) ?_;refine wsk (we (wg (l':=[(5,I (w64 ((w64 (IntKind.u8.wrap (q - 97)))+10)))]) ⟨rfl,trivial⟩ (wq (wr (mv rfl (av rfl (wn (we (wrt ?_)))))))));obtain rfl:=se hF;refine WEx.ret1 rfl rfl ?_;exact ⟨rfl,sk D⟩
    ·
     refine cf rfl (bf V) (wq (wr (mv rfl (wp (G.geq rfl rfl rfl) rfl (mv rfl ?_)))));rcases io hF with ⟨J,hF⟩|⟨J,hF⟩
     ·
      refine won rfl (dt J) (mv rfl (won rfl (dt J) (wp (G.leq rfl rfl rfl) rfl (wp (G.pick_t (kb rfl (dt J)) rfl) rfl (av rfl (wn (we ?_)))))));rcases io hF with ⟨Y,hF⟩|⟨Y,hF⟩
      ·
       refine ct rfl (dt Y) (wr (mv rfl (wp (G.sub rfl rfl (r:=(IntKind.u8.wrap (q - 65))) rfl) rfl (wp (G.convi (by kernel_rfl) Tryz.underlying3 rfl (r:=(w64 (IntKind.u8.wrap (q - 65)))) rfl) rfl (wp (G.add rfl rfl (r:=(w64 ((w64 (IntKind.u8.wrap (q - 65)))+10))) rfl) rfl (av rfl (wn (win (we (wg (l':=[(1,I C),(5,I (w64 ((w64 (IntKind.u8.wrap (q - 65)))+10)))]) ⟨rfl,rfl,trivial⟩ (wq (wq (wr (mv rfl (mv rfl (wp (G.geq rfl rfl rfl) rfl (wn (we ?_))))))))))))))))));rcases io hF with ⟨Z,hF⟩|⟨Z,hF⟩
       ·
        refine WCode.cond_t (kb (b:=decide (C≤(w64 ((w64 (IntKind.u8.wrap (q - 65)))+10)))) rfl (dt Z)) ?_;refine wq (wr (av rfl (wn (we (wrt (wtr ?_))))));obtain rfl:=se hF;refine WEx.ret1 rfl rfl ?_;exact ⟨rfl,sk D⟩
       ·
        refine WCode.cond_f (kb (b:=decide (C≤(w64 ((w64 (IntKind.u8.wrap (q - 65)))+10)))) rfl (df Z)) ?_;refine wsk (we (wq (wr (mv rfl (av rfl (wn (we (wrt ?_))))))));obtain rfl:=se hF;refine WEx.ret1 rfl rfl ?_;exact ⟨rfl,sk D⟩
      ·
       refine cf rfl (df Y) (wsk (win (we (wq (wq (wr (mv rfl (mv rfl (wp (G.geq rfl rfl rfl) rfl (wn (we (wg (l':=[(5,I (-1)),(40,.bool (decide (C≤(-1))))]) ⟨rfl,rfl,trivial⟩ ?_))))))))))));rcases io hF with ⟨aa,hF⟩|⟨aa,hF⟩
       ·
        refine ct rfl (dt aa) (wq (wr (av rfl (wn (we (wrt (wtr ?_)))))));obtain rfl:=se hF;refine WEx.ret1 rfl rfl ?_;exact ⟨rfl,sk D⟩
       ·
        refine cf rfl (df aa) (wsk (we (wq (wr (mv rfl (av rfl (wn (we (wrt ?_)))))))));obtain rfl:=se hF;refine WEx.ret1 rfl rfl ?_;exact ⟨rfl,sk D⟩
     ·
      refine wof rfl (df J) rfl (wof rfl (df J) rfl (wp (G.pick_f (kb rfl (df J)) rfl) rfl (av rfl (wn (we ?_)))));refine WCode.cond_f rfl ?_;refine wsk (win (we (wq (wq (wr (mv rfl (mv rfl (wp (G.geq rfl rfl rfl) rfl (wn (we (wg (l':=[(5,I (-1)),(40,.bool (decide (C≤(-1))))]) ⟨rfl,rfl,trivial⟩ ?_)))))))))));rcases io hF with ⟨ab,hF⟩|⟨ab,hF⟩
      ·
       refine ct rfl (dt ab) (wq (wr (av rfl (wn (we (wrt (wtr ?_)))))));obtain rfl:=se hF;refine WEx.ret1 rfl rfl ?_;exact ⟨rfl,sk D⟩
      ·
       refine cf rfl (df ab) (wsk (we (wq (wr (mv rfl (av rfl (wn (we (wrt ?_)))))))));obtain rfl:=se hF;refine WEx.ret1 rfl rfl ?_;exact ⟨rfl,sk D⟩
def rf_digits.l1:Nat→List UInt8→Int→Int→Int→Option (Int×Bool)
  | 0,_,_,_,_=>none
  | O+1,C,D,E,J=>if J < (C.length:Int) then ((idx C J).bind fun V=>(rf_value O ((V).toNat:Int) D).bind fun q=>if q < 0 then (some (0,false)) else if 4294967295 < (w64 ((w64 (E * D))+q)) then (some (0,false)) else rf_digits.l1 O C D (w64 ((w64 (E * D))+q)) (w64 (J+1))) else some (E,!(decide (C=[])))
def rf_digits (k:Nat) (q:List UInt8) (C:Int):Option (Int×Bool):=(rf_digits.l1 k q C 0 0)
theorem rf_digits_calls (k:Nat) (E:List UInt8) (q:Int) {w:World} {r_:Int×Bool} (hF:rf_digits k E q=some r_) :
    Calls TP 121 [.string (bs E),I q].toArray w fun e w'=>e = .returned (.tuple #[I r_.1,.bool r_.2])∧St w (KS []) w' []:=by
 unfold rf_digits at hF;have S:=St.ofFalse (As:=[]) (St.init0 w);refine enter 32 [(0,.string (bs E)),(1,I q)] Tryz.func121 rfl rfl rfl rfl ?_;refine wq (wr (av rfl (av rfl (wn (we (wq (wr (av rfl (wn (we (wq (wq (wr (av rfl (wn (we ?_))))))))))))))));refine WCode.block ?_;change St _ _ _ [] at S;refine wg (l':=[(0,.string (bs E)),(1,I q),(6,I 0),(7,I 0)]) ⟨rfl,rfl,rfl,rfl,trivial⟩ ?_;refine wl (fun n_ l_ w_=>∃ C:Int,∃ J:Int,l_=[(0,.string (bs E)),(1,I q),(6,I C),(7,I J)]∧rf_digits.l1 n_ E q C J=some r_∧St w (KS []) w_ []) k ⟨0,0,rfl,hF,S⟩ ?_;rintro ae _ ai ⟨C,J,rfl,hF,ab⟩;obtain _ | af:=ae
 · exact nn hF
 rw [rf_digits.l1] at hF;refine wq (wq (wr (mv rfl (mv rfl (wp (G.lenb T.str9 rfl) rfl (wp (G.lss rfl rfl rfl) rfl (wn (we ?_))))))));rcases io hF with ⟨Y,hF⟩|⟨Y,hF⟩
 ·
  refine ct rfl (dt Y) (wsk (we (wq ?_)));refine WCode.block ?_;refine wq (wr (mv rfl (mv rfl ?_)));obtain ⟨ag,Z,hF⟩:=bo hF;refine wp (G.idxb T.str9 rfl rfl Z) rfl (mv rfl ?_);obtain ⟨D,aa,hF⟩:=bo hF;refine wc T.call143 (ec rfl (ec rfl en)) rfl ?_;refine (rf_value_calls af ((ag).toNat:Int) q aa).mono ?_;rintro _ ah ⟨rfl,ad⟩;have O:=scT ad ab;refine ⟨_,rfl,?_⟩;refine av rfl (wn (we (wq (wq (wr (mv rfl (wp (G.lss rfl rfl rfl) rfl (wn (we (wg (l':=[(0,.string (bs E)),(1,I q),(6,I C),(7,I J),(8,I D),(21,.bool (decide (D < 0)))]) ⟨rfl,rfl,rfl,rfl,rfl,rfl,trivial⟩ ?_))))))))));rcases io hF with ⟨V,hF⟩|⟨V,hF⟩
  ·
   refine ct rfl (dt V) (wq (wr (av rfl (av rfl (wn (we (wrt (wtr ?_))))))));refine WEx.in_ret ?_;refine wtr (wtr ?_);refine WEx.in_ret ?_;refine wtr ?_;obtain rfl:=se hF;refine WEx.ret2 rfl rfl rfl ?_;exact ⟨rfl,sk O⟩
  ·
   refine cf rfl (df V) (wsk (we (wq (wr (mv rfl (mv rfl (wp (G.mul rfl rfl (r:=(w64 (C * q))) rfl) rfl (mv rfl (wp (G.add rfl rfl (r:=(w64 ((w64 (C * q))+D))) rfl) rfl (av rfl (wn (we (wq (wr (mv rfl (wp (G.gtr rfl rfl rfl) rfl (wn (we ?_))))))))))))))))));rcases io hF with ⟨X,hF⟩|⟨X,hF⟩
   ·
    refine WCode.cond_t (kb (b:=decide (4294967295 < (w64 ((w64 (C * q))+D)))) rfl (dt X)) ?_;refine wq (wr (av rfl (av rfl (wn (we (wg (l':=[(4,I 0),(5,.bool false)]) ⟨rfl,rfl,trivial⟩ (wrt ?_)))))));refine WEx.in_ret ?_;refine wtr (wtr ?_);refine WEx.in_ret ?_;refine wtr ?_;obtain rfl:=se hF;refine WEx.ret2 rfl rfl rfl ?_;exact ⟨rfl,sk O⟩
   ·
    refine WCode.cond_f (kb (b:=decide (4294967295 < (w64 ((w64 (C * q))+D)))) rfl (df X)) ?_;refine wsk (win (we (wr (mv rfl (wp (G.add rfl rfl (r:=(w64 (J+1))) rfl) rfl (av rfl (wn ?_)))))));refine wag _ _ (by omega) ?_ ⟨w64 ((w64 (C * q))+D),w64 (J+1),rfl,hF,O⟩;exact ⟨rfl,rfl,rfl,rfl,trivial⟩
 ·
  refine cf rfl (df Y) ?_;refine WCode.exit ?_;refine WEx.then_exit ?_;refine WEx.then_exit ?_;refine WEx.in_exit ?_;refine we (wq (wr (mv rfl (mv rfl (wp (G.neqlb' rfl rfl rfl) rfl (av rfl (av rfl (wn (we (wg (l':=[(4,I C),(5,.bool (!(decide (E=[]))))]) ⟨rfl,rfl,trivial⟩ (wrt ?_)))))))))));obtain rfl:=se hF;refine WEx.ret2 rfl rfl rfl ?_;exact ⟨rfl,sk ab⟩
def rf_number.j1 (C:Nat) (q:List UInt8) (O:Bool):Option (Int×Bool):=(if O=true then ((cut q 2 (q.length:Int)).bind fun V=>(rf_digits C V 16).bind fun D=>some (D.1,D.2)) else (idx q 0).bind fun X=>if ((X).toNat:Int)=48 then ((cut q 1 (q.length:Int)).bind fun Y=>(rf_digits C Y 8).bind fun E=>some (E.1,E.2)) else (rf_digits C q 10).bind fun J=>some (J.1,J.2))
def rf_number (k:Nat) (q:List UInt8) (E:Bool):Option (Int×Bool):=(if E=true then ((rf_digits k q 10).bind fun C=>if C.2=true then ((idx q 0).bind fun J=>if ((J).toNat:Int)=48 then (some (w64 (-C.1),false)) else some (w64 (-C.1),decide (C.1≤2147483648))) else some (w64 (-C.1),false)) else if q=[48] then (some (0,true)) else if 2 < (q.length:Int) then ((cut q 0 2).bind fun D=>rf_number.j1 k q (decide (D=[48,120]))) else rf_number.j1 k q false)
theorem rf_number_calls (k:Nat) (E:List UInt8) (af:Bool) {w:World} {r_:Int×Bool} (hF:rf_number k E af=some r_) :
    Calls TP 83 [.string (bs E),.bool af].toArray w fun e w'=>e = .returned (.tuple #[I r_.1,.bool r_.2])∧St w (KS []) w' []:=by
 unfold rf_number at hF;have S:=St.ofFalse (As:=[]) (St.init0 w);refine enter 57 [(0,.string (bs E)),(1,.bool af)] Tryz.func83 rfl rfl rfl rfl ?_;refine wq (wr (av rfl (av rfl (wn (we (wq ?_))))));refine WCode.block ?_;refine wq (wr (mv rfl (av rfl (wn (we ?_)))));rcases io hF with ⟨ag,hF⟩|⟨ag,hF⟩
 ·
  refine ct rfl ag (wq (wr (mv rfl ?_)));obtain ⟨O,ap,hF⟩:=bo hF;refine wc T.call121 (ec rfl (ec rfl en)) rfl ?_;refine (rf_digits_calls k E 10 ap).mono ?_;rintro _ aL ⟨rfl,aE⟩;have ah:=sc (As:=[]) S aE;refine ⟨_,rfl,?_⟩;refine mv rfl (wp (G.extract rfl rfl) rfl (wp (G.extract rfl rfl) rfl (av rfl (av rfl (wn (we (wg (l':=[(0,.string (bs E)),(6,I O.1),(7,.bool O.2)]) ⟨rfl,rfl,rfl,trivial⟩ (wq (wr (mv rfl (wp (G.neg rfl (r:=(w64 (-O.1))) rfl) rfl (mv rfl (mv rfl ?_)))))))))))));rcases io hF with ⟨D,hF⟩|⟨D,hF⟩
  ·
   refine won rfl D (mv rfl (won rfl D ?_));obtain ⟨V,aq,hF⟩:=bo hF;refine wp (G.idxb T.str9 rfl rfl aq) rfl (won rfl D (wp (G.neq rfl rfl rfl) rfl (wp (G.pick_t (kb rfl D) rfl) rfl (mv rfl ?_))));rcases io hF with ⟨C,hF⟩|⟨C,hF⟩
   ·
    refine WOps.off rfl (kbl (b:=!(decide (((V).toNat:Int)=48))) rfl (nf (dt C))) rfl rfl ?_;refine WOps.off rfl (kbl (b:=!(decide (((V).toNat:Int)=48))) rfl (nf (dt C))) rfl rfl ?_;refine wp (G.pick_f (kb (b:=!(decide (((V).toNat:Int)=48))) rfl (nf (dt C))) rfl) rfl (av rfl (av rfl (wn (we (wg (l':=[(4,I (w64 (-O.1))),(5,.bool false)]) ⟨rfl,rfl,trivial⟩ (wrt ?_))))));refine WEx.in_ret ?_;refine wtr ?_;obtain rfl:=se hF;refine WEx.ret2 rfl rfl rfl ?_;exact ⟨rfl,sk ah⟩
   ·
    refine WOps.on rfl (kbl (b:=!(decide (((V).toNat:Int)=48))) rfl (nt (df C))) ?_;refine mv rfl ?_;refine WOps.on rfl (kbl (b:=!(decide (((V).toNat:Int)=48))) rfl (nt (df C))) ?_;refine wp (G.leq rfl rfl rfl) rfl (wp (G.pick_t (kb (b:=!(decide (((V).toNat:Int)=48))) rfl (nt (df C))) rfl) rfl (av rfl (av rfl (wn (we (wg (l':=[(4,I (w64 (-O.1))),(5,.bool (decide (O.1≤2147483648)))]) ⟨rfl,rfl,trivial⟩ (wrt ?_)))))));refine WEx.in_ret ?_;refine wtr ?_;obtain rfl:=se hF;refine WEx.ret2 rfl rfl rfl ?_;exact ⟨rfl,sk ah⟩
  ·
   refine wof rfl (bf D) rfl (wof rfl (bf D) rfl (wof rfl (bf D) rfl (wp (G.pick_f (kb rfl (bf D)) rfl) rfl (mv rfl ?_))));refine WOps.off rfl rfl rfl rfl ?_;refine WOps.off rfl rfl rfl rfl ?_;refine wp (G.pick_f rfl rfl) rfl (av rfl (av rfl (wn (we (wg (l':=[(4,I (w64 (-O.1))),(5,.bool false)]) ⟨rfl,rfl,trivial⟩ (wrt ?_))))));refine WEx.in_ret ?_;refine wtr ?_;obtain rfl:=se hF;refine WEx.ret2 rfl rfl rfl ?_;exact ⟨rfl,sk ah⟩
 ·
  refine cf rfl (bf ag) (wq (wr (mv rfl (wp (G.eqlb' rfl rfl rfl) rfl (av rfl (wn (we ?_)))))));rcases io hF with ⟨X,hF⟩|⟨X,hF⟩
  ·
   refine ct rfl (dt X) (wq (wr (av rfl (av rfl (wn (we (wrt ?_)))))));refine WEx.in_ret ?_;refine wtr ?_;obtain rfl:=se hF;refine WEx.ret2 rfl rfl rfl ?_;exact ⟨rfl,sk (As:=[]) S⟩
  ·
   refine cf rfl (df X) ?_;refine wqs (fun l_ w_=>∃ J:Nat,∃ Y:Bool,l_=[(0,.string (bs E)),(30,.bool Y)]∧rf_number.j1 J E Y=some r_∧St w (KS []) w_ []) ?_ ?_
   ·
    refine wr (mv rfl (wp (G.lenb T.str9 rfl) rfl (wp (G.gtr rfl rfl rfl) rfl (mv rfl ?_))));rcases io hF with ⟨q,hF⟩|⟨q,hF⟩
    ·
     refine won rfl (dt q) (mv rfl (won rfl (dt q) ?_));obtain ⟨ar,ai,hF⟩:=bo hF;refine wp (G.cutb_h T.str9 rfl rfl ai) rfl (won rfl (dt q) (wp (G.eqlb' rfl rfl rfl) rfl (wp (G.pick_t (kb rfl (dt q)) rfl) rfl (av rfl (wn ?_)))));change St _ _ _ [] at S;refine wx _ ?_ ⟨k,decide (ar=[48,120]),rfl,hF,S⟩;exact ⟨rfl,rfl,trivial⟩
    ·
     refine wof rfl (df q) rfl (wof rfl (df q) rfl (wof rfl (df q) rfl (wp (G.pick_f (kb rfl (df q)) rfl) rfl (av rfl (wn ?_)))));refine wx _ ?_ ⟨k,false,rfl,hF,S⟩;exact ⟨rfl,rfl,trivial⟩
   ·
    rintro _ aF ⟨J,Y,rfl,hF,Z⟩;unfold rf_number.j1 at hF;rcases io hF with ⟨aa,hF⟩|⟨aa,hF⟩
    ·
     refine ct rfl aa (wq (wr (mv rfl ?_)));obtain ⟨au,aj,hF⟩:=bo hF;refine wp (G.cutb_l T.str9 rfl rfl aj) rfl ?_;obtain ⟨aG,ak,hF⟩:=bo hF;refine wc T.call121 (ec rfl (ec rfl en)) rfl ?_;refine (rf_digits_calls J au 16 ak).mono ?_;rintro _ aH ⟨rfl,ax⟩;have ay:=scT ax Z;refine ⟨_,rfl,?_⟩;refine wp (G.extract rfl rfl) rfl (wp (G.extract rfl rfl) rfl (av rfl (av rfl (wn (we (wrt ?_))))));refine WEx.in_ret ?_;refine wtr ?_;obtain rfl:=se hF;refine WEx.ret2 rfl rfl rfl ?_;exact ⟨rfl,sk ay⟩
    ·
     refine cf rfl (bf aa) (wq (wr (mv rfl ?_)));obtain ⟨aI,al,hF⟩:=bo hF;refine wp (G.idxb T.str9 rfl rfl al) rfl (wp (G.eql rfl rfl rfl) rfl (av rfl (wn (we ?_))));rcases io hF with ⟨ab,hF⟩|⟨ab,hF⟩
     ·
      refine ct rfl (dt ab) (wq (wr (mv rfl ?_)));obtain ⟨az,am,hF⟩:=bo hF;refine wp (G.cutb_l T.str9 rfl rfl am) rfl ?_;obtain ⟨ad,an,hF⟩:=bo hF;refine wc T.call121 (ec rfl (ec rfl en)) rfl ?_;refine (rf_digits_calls J az 8 an).mono ?_;rintro _ aJ ⟨rfl,aA⟩;have aB:=scT aA Z;refine ⟨_,rfl,?_⟩;refine wp (G.extract rfl rfl) rfl (wp (G.extract rfl rfl) rfl (av rfl (av rfl (wn (we (wg (l':=[(4,I ad.1),(5,.bool ad.2)]) ⟨rfl,rfl,trivial⟩ (wrt ?_)))))));refine WEx.in_ret ?_;refine wtr ?_;obtain rfl:=se hF;refine WEx.ret2 rfl rfl rfl ?_;exact ⟨rfl,sk aB⟩
     ·
      refine cf rfl (df ab) (wsk (win (we (wq (wr (mv rfl ?_))))));obtain ⟨ae,ao,hF⟩:=bo hF;refine wc T.call121 (ec rfl (ec rfl en)) rfl ?_;refine (rf_digits_calls J E 10 ao).mono ?_;rintro _ aK ⟨rfl,aC⟩;have aD:=scT aC Z;refine ⟨_,rfl,?_⟩;refine wp (G.extract rfl rfl) rfl (wp (G.extract rfl rfl) rfl (av rfl (av rfl (wn (we (wg (l':=[(4,I ae.1),(5,.bool ae.2)]) ⟨rfl,rfl,trivial⟩ (wrt ?_)))))));obtain rfl:=se hF;refine WEx.ret2 rfl rfl rfl ?_;exact ⟨rfl,sk aD⟩
mutual
def rf_IsWord.j1:Nat→List UInt8→Int→Int→Bool→Option Bool
  | 0,_,_,_,_=>none
  | J+1,q,D,C,O=>if O=true then ((cut [32,98,111,111,108,32,99,97,115,101,32,99,111,110,115,116,32,100,101,102,97,117,108,116,32,100,111,117,98,108,101,32,101,110,117,109,32,102,108,111,97,116,32,104,121,112,101,114,32,105,110,116,32,111,112,97,113,117,101,32,112,114,111,103,114,97,109,32,113,117,97,100,114,117,112,108,101,32,115,116,114,105,110,103,32,115,116,114,117,99,116,32,115,119,105,116,99,104,32,116,121,112,101,100,101,102,32,117,110,105,111,110,32,117,110,115,105,103,110,101,100,32,118,101,114,115,105,111,110,32,118,111,105,100,32] C (w64 (C+(w64 ((q.length:Int)+2))))).bind fun V=>(cat ([32]:List UInt8) q).bind fun X=>(cat X [32]).bind fun Y=>if V=Y then (some true) else rf_IsWord.l1 J q D (w64 (C+1))) else some false
def rf_IsWord.l1:Nat→List UInt8→Int→Int→Option Bool
  | 0,_,_,_=>none
  | E+1,q,D,C=>(if (w64 (C+(w64 ((q.length:Int)+2))))≤135 then (if q=[] then (rf_IsWord.j1 E q D C false) else (rf_IsWord.j1 E q D C (decide (D=(q.length:Int))))) else (rf_IsWord.j1 E q D C false))
end
def rf_IsWord (k:Nat) (q:List UInt8):Option Bool:=((rf_run k q 0).bind fun C=>rf_IsWord.l1 k q C 0)
theorem rf_IsWord_calls (k:Nat) (q:List UInt8) {w:World} {r_:Bool} (hF:rf_IsWord k q=some r_) :
    Calls TP 81 [.string (bs q)].toArray w fun e w'=>e = .returned (.bool r_)∧St w (KS []) w' []:=by
 unfold rf_IsWord at hF;have S:=St.ofFalse (As:=[]) (St.init0 w);refine enter 36 [(0,.string (bs q))] Tryz.func81 rfl rfl rfl rfl ?_;refine wq (wr (av rfl (wn (we (wq (wr (mv rfl (wp (G.lenb T.str9 rfl) rfl (wp (G.add rfl rfl (r:=(w64 ((q.length:Int)+2))) rfl) rfl (av rfl (wn (we (wq (wr (mv rfl ?_)))))))))))))));obtain ⟨J,ag,hF⟩:=bo hF;refine wc T.call80 (ec rfl (ec rfl en)) rfl ?_;refine (rf_run_calls k q 0 ag).mono ?_;rintro _ aq ⟨rfl,ai⟩;have aj:=sc (As:=[]) S ai;refine ⟨_,rfl,?_⟩;refine mv rfl (wp (G.lenb T.str9 rfl) rfl (wp (G.eql rfl rfl rfl) rfl (av rfl (wn (we (wq (wq (wr (av rfl (wn (we ?_)))))))))));refine WCode.block ?_;refine wg (l':=[(0,.string (bs q)),(3,I (w64 ((q.length:Int)+2))),(4,.bool (decide (J=(q.length:Int)))),(5,I 0)]) ⟨rfl,rfl,rfl,rfl,trivial⟩ ?_;refine wl (fun n_ l_ w_=>∃ C:Int,l_=[(0,.string (bs q)),(3,I (w64 ((q.length:Int)+2))),(4,.bool (decide (J=(q.length:Int)))),(5,I C)]∧rf_IsWord.l1 n_ q J C=some r_∧St w (KS []) w_ []) k ⟨0,rfl,hF,aj⟩ ?_;rintro ah _ ar ⟨C,rfl,hF,ab⟩;obtain _ | aa:=ah
 · exact nn hF
 rw [rf_IsWord.l1] at hF;refine wq ?_;refine wqs (fun l_ w_=>∃ O:Nat,∃ V:Bool,l_=[(0,.string (bs q)),(3,I (w64 ((q.length:Int)+2))),(4,.bool (decide (J=(q.length:Int)))),(5,I C),(24,.bool V)]∧rf_IsWord.j1 O q J C V=some r_∧O≤aa∧St w (KS []) w_ []) ?_ ?_
 ·
  refine wr (mv rfl (mv rfl (wp (G.add rfl rfl (r:=(w64 (C+(w64 ((q.length:Int)+2))))) rfl) rfl (wp (G.leq rfl rfl rfl) rfl (mv rfl ?_)))));rcases io hF with ⟨D,hF⟩|⟨D,hF⟩
  ·
   refine WOps.on rfl (kbl (b:=decide ((w64 (C+(w64 ((q.length:Int)+2))))≤135)) rfl (dt D)) ?_;refine mv rfl ?_;refine WOps.on rfl (kbl (b:=decide ((w64 (C+(w64 ((q.length:Int)+2))))≤135)) rfl (dt D)) ?_;refine wp (G.neqlb' rfl rfl rfl) rfl (wp (G.pick_t (kb (b:=decide ((w64 (C+(w64 ((q.length:Int)+2))))≤135)) rfl (dt D)) rfl) rfl (mv rfl ?_));rcases io hF with ⟨E,hF⟩|⟨E,hF⟩
   ·
    refine WOps.off rfl (kbl rfl (nf (dt E))) rfl rfl ?_;refine wp (G.pick_f (kb rfl (nf (dt E))) rfl) rfl (wn ?_);refine wx _ ?_ ⟨aa,false,rfl,hF,(by omega),ab⟩;exact ⟨rfl,rfl,rfl,rfl,rfl,trivial⟩
   ·
    refine WOps.on rfl (kbl rfl (nt (df E))) ?_;refine mv rfl (wp (G.pick_t (kb rfl (nt (df E))) rfl) rfl (wn ?_));refine wx _ ?_ ⟨aa,decide (J=(q.length:Int)),rfl,hF,(by omega),ab⟩;exact ⟨rfl,rfl,rfl,rfl,rfl,trivial⟩
  ·
   refine WOps.off rfl (kbl (b:=decide ((w64 (C+(w64 ((q.length:Int)+2))))≤135)) rfl (df D)) rfl rfl ?_;refine WOps.off rfl (kbl (b:=decide ((w64 (C+(w64 ((q.length:Int)+2))))≤135)) rfl (df D)) rfl rfl ?_;refine wp (G.pick_f (kb (b:=decide ((w64 (C+(w64 ((q.length:Int)+2))))≤135)) rfl (df D)) rfl) rfl (mv rfl ?_);refine WOps.off rfl rfl rfl rfl ?_;refine wp (G.pick_f rfl rfl) rfl (wn ?_);refine wx _ ?_ ⟨aa,false,rfl,hF,(by omega),ab⟩;exact ⟨rfl,rfl,rfl,rfl,rfl,trivial⟩
 ·
  rintro _ al ⟨O,V,rfl,hF,ak,X⟩;obtain _ | am:=O
  · exact nn hF
  rw [rf_IsWord.j1] at hF;rcases io hF with ⟨Y,hF⟩|⟨Y,hF⟩
  ·
   refine ct rfl Y (wsk (we (wq ?_)));refine WCode.block ?_;refine wq (wr (mv rfl (mv rfl (mv rfl (wp (G.add rfl rfl (r:=(w64 (C+(w64 ((q.length:Int)+2))))) rfl) rfl ?_)))));obtain ⟨an,ad,hF⟩:=bo hF;refine wp (G.cutb_lh T.str9 rfl rfl rfl ad) rfl (mv rfl ?_);obtain ⟨ao,ae,hF⟩:=bo hF;refine wp (G.catb rfl rfl ae) rfl ?_;obtain ⟨ap,af,hF⟩:=bo hF;refine wp (G.catb rfl rfl af) rfl (wp (G.eqlb' rfl rfl rfl) rfl (wn (we ?_)));rcases io hF with ⟨Z,hF⟩|⟨Z,hF⟩
   ·
    refine ct rfl (dt Z) (wq (wr (av rfl (wn (we (wg (l':=[(2,.bool true)]) ⟨rfl,trivial⟩ (wrt ?_)))))));refine WEx.in_ret ?_;refine wtr (wtr ?_);refine WEx.in_ret ?_;refine wtr ?_;obtain rfl:=se hF;refine WEx.ret1 rfl rfl ?_;exact ⟨rfl,sk X⟩
   ·
    refine cf rfl (df Z) (wsk (win (we (wg (l':=[(0,.string (bs q)),(3,I (w64 ((q.length:Int)+2))),(4,.bool (decide (J=(q.length:Int)))),(5,I C)]) ⟨rfl,rfl,rfl,rfl,trivial⟩ (wr (mv rfl (wp (G.add rfl rfl (r:=(w64 (C+1))) rfl) rfl (av rfl (wn ?_)))))))));refine wag _ _ (by omega) ?_ ⟨w64 (C+1),rfl,hF,X⟩;exact ⟨rfl,rfl,rfl,rfl,trivial⟩
  ·
   refine cf rfl (bf Y) ?_;refine WCode.exit ?_;refine WEx.then_exit ?_;refine WEx.then_exit ?_;refine WEx.in_exit ?_;refine we (wq (wr (av rfl (wn (we (wrt ?_))))));obtain rfl:=se hF;refine WEx.ret1 rfl rfl ?_;exact ⟨rfl,sk X⟩
def rf_one.j1 (J:Nat) (E:Int) (C:Int) (q:List UInt8) (D:Int):Option (Token×Int×Int):=(if 32 < (q.length:Int) then (some ((⟨0,[],0,0⟩:Token),0,32)) else (some ((⟨D,q,0,E⟩:Token),C,0)))
def rf_one.j3 (q:Nat) (O:List UInt8) (C:Int) (V:UInt8) (D:Int) (X:Bool):Option (Token×Int×Int):=(if X=true then ((rf_run q O D).bind fun E=>(cut O D E).bind fun Y=>(rf_number q Y (decide (((V).toNat:Int)=45))).bind fun J=>if J.2=true then (some ((⟨3,[],J.1,C⟩:Token),E,0)) else some ((⟨0,[],0,0⟩:Token),0,31)) else (rf_sign q ((V).toNat:Int)).bind fun Z=>if Z=true then ((cut O C (w64 (C+1))).bind fun aa=>some ((⟨4,aa,0,C⟩:Token),w64 (C+1),0)) else some ((⟨0,[],0,0⟩:Token),0,30))
def rf_one.j2 (C:Nat) (D:List UInt8) (E:Int) (J:UInt8) (q:Int):Option (Token×Int×Int):=(if q < (D.length:Int) then ((idx D q).bind fun O=>(rf_digit C ((O).toNat:Int)).bind fun V=>rf_one.j3 C D E J q V) else rf_one.j3 C D E J q false)
def rf_one (k:Nat) (C:List UInt8) (q:Int):Option (Token×Int×Int):=((idx C q).bind fun J=>(rf_letter k ((J).toNat:Int)).bind fun V=>if V=true then ((rf_run k C q).bind fun D=>(cut C q D).bind fun E=>(rf_IsWord k E).bind fun O=>if O=true then (rf_one.j1 k q D E 2) else rf_one.j1 k q D E 1) else if ((J).toNat:Int)=45 then (rf_one.j2 k C q J (w64 (q+1))) else rf_one.j2 k C q J q)
theorem rf_one_calls (k:Nat) (E:List UInt8) (q:Int) {w:World} {r_:Token×Int×Int} (hF:rf_one k E q=some r_) :
    Calls TP 41 [.string (bs E),I q].toArray w fun e w'=>e = .returned (.tuple #[.agg (ka r_.1),I r_.2.1,I r_.2.2])∧St w (KS []) w' []:=by
 unfold rf_one at hF;have S:=St.ofFalse (As:=[]) (St.init0 w);refine enter 94 [(0,.string (bs E)),(1,I q)] Tryz.func41 rfl rfl rfl rfl ?_;refine wq (wr ?_);obtain ⟨C,bJ,bh,bi,bK,bL⟩:=sv S (z:=.agg #[I 0,.string (bs []),I 0,I 0]) T.zero41;refine wee bh rfl ?_;refine av rfl (av rfl (wn (we (wq (wr (mv rfl (mv rfl ?_)))))));obtain ⟨J,aU,hF⟩:=bo hF;refine wp (G.idxb T.str9 rfl rfl aU) rfl (av rfl (wn (we (wq (wr (mv rfl ?_))))));obtain ⟨bM,aH,hF⟩:=bo hF;refine wc T.call79 (ec rfl en) rfl ?_;refine (rf_letter_calls k ((J).toNat:Int) aH).mono ?_;rintro _ bk ⟨rfl,aV⟩;have ad:=scT aV bi;refine ⟨_,rfl,?_⟩;refine av rfl (wn (we (wq (wq (wr (mv rfl (wn (we ?_))))))));rcases io hF with ⟨ae,hF⟩|⟨ae,hF⟩
 ·
  refine ct rfl ae (wq (wr (mv rfl (mv rfl ?_))));obtain ⟨aa,aI,hF⟩:=bo hF;refine wc T.call80 (ec rfl (ec rfl en)) rfl ?_;refine (rf_run_calls k E q aI).mono ?_;rintro _ bl ⟨rfl,aW⟩;have aX:=scT aW ad;refine ⟨_,rfl,?_⟩;refine av rfl (wn (we (wg (l':=[(0,.string (bs E)),(1,I q),(4,(Pt C)),(9,I aa)]) ⟨rfl,rfl,rfl,rfl,trivial⟩ (wq (wr (mv rfl (mv rfl (mv rfl ?_))))))));obtain ⟨D,aJ,hF⟩:=bo hF;refine wp (G.cutb_lh T.str9 rfl rfl rfl aJ) rfl (mv rfl (wp (G.build (cells:=#[I 1,.string (bs D),I 0,I q]) (fs_ (fc rfl (fc rfl (fc rfl fn_)))) (by kernel_rfl)) rfl ?_));obtain ⟨af,bm,aY,aZ,bn,bp⟩:=sv aX (z:=.agg #[I 0,.string (bs []),I 0,I 0]) T.zero41;refine wee aY rfl ?_;obtain ⟨bq,a0,ar⟩:=sw aZ 0 #[I 1,.string (bs D),I 0,I q] T.size41_4 rfl rfl rfl rfl;refine wuu (a0 rfl rfl) ?_;refine wn (we (wq (wr (wp (G.field T.fld41_1 rfl rfl) rfl ?_))));refine wrr (G.load1 T.one9 rfl (cell_blk (ar.blk 0 rfl) rfl)) rfl ?_;obtain ⟨a1,aK,hF⟩:=bo hF;refine wc T.call81 (ec rfl en) rfl ?_;refine (rf_IsWord_calls k D aK).mono ?_;rintro _ br ⟨rfl,a2⟩;have au:=scT a2 ar;refine ⟨_,rfl,?_⟩;refine av rfl (wn (we (wg (l':=[(4,(Pt C)),(9,I aa),(10,(Pt af)),(11,.bool a1)]) ⟨rfl,rfl,rfl,rfl,trivial⟩ ?_)));refine wqs (fun l_ w_=>∃ ax:Nat,∃ O:Int,l_=[(4,(Pt C)),(9,I aa),(10,(Pt af))]∧rf_one.j1 ax q aa D O=some r_∧St w (KS []) w_ [(B af #[I O,.string (bs D),I 0,I q] 41),(B C #[I 0,.string (bs []),I 0,I 0] 41)]) ?_ ?_
  ·
   refine wq (wr (mv rfl (wn (we ?_))));rcases io hF with ⟨ag,hF⟩|⟨ag,hF⟩
   ·
    refine ct rfl ag (wr (wp (G.field T.fld41_0 rfl rfl) rfl ?_));obtain ⟨bt,a3,a4⟩:=so (P:=TP) au 0 3 (I 2) (off:=0) (cur':=#[I 2,.string (bs D),I 0,I q]) rfl T.size3_1 rfl rfl rfl;refine wuu (a3 rfl rfl) ?_;refine wn ?_;refine wx _ ?_ ⟨k,2,rfl,hF,a4⟩;exact ⟨rfl,rfl,rfl,trivial⟩
   ·
    refine cf rfl (bf ag) (wsk ?_);refine wx _ ?_ ⟨k,1,rfl,hF,au⟩;exact ⟨rfl,rfl,rfl,trivial⟩
  ·
   rintro _ bu ⟨ax,O,rfl,hF,ab⟩;unfold rf_one.j1 at hF;refine wq (wq (wr (wp (G.field T.fld41_1 rfl rfl) rfl ?_)));refine wrr (G.load1 T.one9 rfl (cell_blk (ab.blk 0 rfl) rfl)) rfl ?_;refine wp (G.lenb T.str9 rfl) rfl (wp (G.gtr rfl rfl rfl) rfl (wn (we ?_)));rcases io hF with ⟨ah,hF⟩|⟨ah,hF⟩
   ·
    refine ct rfl (dt ah) (wq (wr (wp (G.build (cells:=#[I 0,.string (bs []),I 0,I 0]) (fs_ (fn_)) (by kernel_rfl)) rfl ?_)));obtain ⟨bv,a5,ay⟩:=sw ab 1 #[I 0,.string (bs []),I 0,I 0] T.size41_4 rfl rfl rfl rfl;refine wuu (a5 rfl rfl) ?_;refine av rfl (av rfl (wn (we (wrt (wtr (wtr ?_))))));obtain rfl:=se hF;refine WEx.retc2 rfl rfl (cs:=[I 0,.string (bs []),I 0,I 0]) T.agg41_4 (cb (ay.blk 1 rfl) rfl) rfl rfl ?_;exact ⟨rfl,sk ay⟩
   ·
    refine cf rfl (df ah) (wsk (we (wq (wr ?_))));refine wrr (G.loada T.agg41_4 rfl (cs:=[I O,.string (bs D),I 0,I q]) (cb (ab.blk 0 rfl) rfl)) rfl ?_;refine mv rfl ?_;obtain ⟨bx,a6,az⟩:=sw ab 1 #[I O,.string (bs D),I 0,I q] T.size41_4 rfl rfl rfl rfl;refine wuu (a6 rfl rfl) ?_;refine av rfl (av rfl (wn (we (wrt (wtr ?_)))));obtain rfl:=se hF;refine WEx.retc2 rfl rfl (cs:=[I O,.string (bs D),I 0,I q]) T.agg41_4 (cb (az.blk 1 rfl) rfl) rfl rfl ?_;exact ⟨rfl,sk az⟩
 ·
  refine cf rfl (bf ae) (wsk (we (wq (wr (mv rfl (wp (G.eql rfl rfl rfl) rfl (av rfl (wn (we (wg (l':=[(0,.string (bs E)),(1,I q),(4,(Pt C)),(7,.int .u8 ((J).toNat:Int)),(12,.bool (decide (((J).toNat:Int)=45)))]) ⟨rfl,rfl,rfl,rfl,rfl,trivial⟩ (wq (wr (mv rfl (av rfl (wn (we ?_))))))))))))))));refine wqs (fun l_ w_=>∃ X:Nat,∃ V:Int,l_=[(0,.string (bs E)),(1,I q),(4,(Pt C)),(7,.int .u8 ((J).toNat:Int)),(12,.bool (decide (((J).toNat:Int)=45))),(13,I V)]∧rf_one.j2 X E q J V=some r_∧St w (KS []) w_ [(B C #[I 0,.string (bs []),I 0,I 0] 41)]) ?_ ?_
  ·
   refine wq (wr (mv rfl (wn (we ?_))));rcases io hF with ⟨ai,hF⟩|⟨ai,hF⟩
   ·
    refine ct rfl (dt ai) (wr (mv rfl (wp (G.add rfl rfl (r:=(w64 (q+1))) rfl) rfl (av rfl (wn ?_)))));refine wx _ ?_ ⟨k,w64 (q+1),rfl,hF,ad⟩;exact ⟨rfl,rfl,rfl,rfl,rfl,rfl,trivial⟩
   ·
    refine cf rfl (df ai) (wsk ?_);refine wx _ ?_ ⟨k,q,rfl,hF,ad⟩;exact ⟨rfl,rfl,rfl,rfl,rfl,rfl,trivial⟩
  ·
   rintro _ bz ⟨X,V,rfl,hF,aA⟩;unfold rf_one.j2 at hF;refine wq (wr (av rfl (wn (we ?_))));refine wqs (fun l_ w_=>∃ Y:Nat,∃ aj:Bool,l_=[(0,.string (bs E)),(1,I q),(4,(Pt C)),(7,.int .u8 ((J).toNat:Int)),(12,.bool (decide (((J).toNat:Int)=45))),(13,I V),(14,.bool aj)]∧rf_one.j3 Y E q J V aj=some r_∧St w (KS []) w_ [(B C #[I 0,.string (bs []),I 0,I 0] 41)]) ?_ ?_
   ·
    refine wq (wr (mv rfl (mv rfl (wp (G.lenb T.str9 rfl) rfl (wp (G.lss rfl rfl rfl) rfl (wn (we ?_)))))));rcases io hF with ⟨ak,hF⟩|⟨ak,hF⟩
    ·
     refine ct rfl (dt ak) (wr (mv rfl (mv rfl ?_)));obtain ⟨a7,aL,hF⟩:=bo hF;refine wp (G.idxb T.str9 rfl rfl aL) rfl ?_;obtain ⟨a8,aM,hF⟩:=bo hF;refine wc T.call82 (ec rfl en) rfl ?_;refine (rf_digit_calls X ((a7).toNat:Int) aM).mono ?_;rintro _ bA ⟨rfl,a9⟩;have aw:=scT a9 aA;refine ⟨_,rfl,?_⟩;refine av rfl (wn ?_);refine wx _ ?_ ⟨X,a8,rfl,hF,aw⟩;exact ⟨rfl,rfl,rfl,rfl,rfl,rfl,rfl,trivial⟩
    ·
     refine cf rfl (df ak) (wsk ?_);refine wx _ ?_ ⟨X,false,rfl,hF,aA⟩;exact ⟨rfl,rfl,rfl,rfl,rfl,rfl,rfl,trivial⟩
   ·
    rintro _ bB ⟨Y,aj,rfl,hF,aB⟩;unfold rf_one.j3 at hF;refine wq (wq (wr (mv rfl (wn (we ?_)))));rcases io hF with ⟨al,hF⟩|⟨al,hF⟩
    ·
     refine ct rfl al (wq (wr (mv rfl (mv rfl ?_))));obtain ⟨aC,aN,hF⟩:=bo hF;refine wc T.call80 (ec rfl (ec rfl en)) rfl ?_;refine (rf_run_calls Y E V aN).mono ?_;rintro _ bC ⟨rfl,a'⟩;have ba:=scT a' aB;refine ⟨_,rfl,?_⟩;refine av rfl (wn (we (wq (wr (mv rfl (mv rfl (mv rfl ?_)))))));obtain ⟨bb,aO,hF⟩:=bo hF;refine wp (G.cutb_lh T.str9 rfl rfl rfl aO) rfl (mv rfl ?_);obtain ⟨Z,aP,hF⟩:=bo hF;refine wc T.call83 (ec rfl (ec rfl en)) rfl ?_;refine (rf_number_calls Y bb (decide (((J).toNat:Int)=45)) aP).mono ?_;rintro _ bD ⟨rfl,bc⟩;have aD:=scT bc ba;refine ⟨_,rfl,?_⟩;refine mv rfl (wp (G.extract rfl rfl) rfl (wp (G.extract rfl rfl) rfl (av rfl (av rfl (wn (we (wg (l':=[(1,I q),(4,(Pt C)),(15,I aC),(16,I Z.1),(17,.bool Z.2)]) ⟨rfl,rfl,rfl,rfl,rfl,trivial⟩ (wq (wq (wr (mv rfl (wp (G.not rfl rfl) rfl (wn (we ?_))))))))))))));rcases io hF with ⟨am,hF⟩|⟨am,hF⟩
     ·
      refine cf rfl (nf am) (wsk (we (wq (wr (mv rfl (mv rfl (wp (G.build (cells:=#[I 3,.string (bs []),I Z.1,I q]) (fs_ (fc rfl (fc rfl (fc rfl fn_)))) (by kernel_rfl)) rfl (mv rfl ?_))))))));obtain ⟨bE,bd,aE⟩:=sw aD 0 #[I 3,.string (bs []),I Z.1,I q] T.size41_4 rfl rfl rfl rfl;refine wuu (bd rfl rfl) ?_;refine av rfl (av rfl (wn (we (wg (l':=[(4,(Pt C)),(5,I aC),(6,I 0)]) ⟨rfl,rfl,rfl,trivial⟩ (wrt (wtr ?_))))));obtain rfl:=se hF;refine WEx.retc2 rfl rfl (cs:=[I 3,.string (bs []),I Z.1,I q]) T.agg41_4 (cb (aE.blk 0 rfl) rfl) rfl rfl ?_;exact ⟨rfl,sk aE⟩
     ·
      refine ct rfl (nt (bf am)) (wq (wr (wp (G.build (cells:=#[I 0,.string (bs []),I 0,I 0]) (fs_ (fn_)) (by kernel_rfl)) rfl ?_)));obtain ⟨bF,be,aF⟩:=sw aD 0 #[I 0,.string (bs []),I 0,I 0] T.size41_4 rfl rfl rfl rfl;refine wuu (be rfl rfl) ?_;refine av rfl (av rfl (wn (we (wrt (wtr (wtr ?_))))));obtain rfl:=se hF;refine WEx.retc2 rfl rfl (cs:=[I 0,.string (bs []),I 0,I 0]) T.agg41_4 (cb (aF.blk 0 rfl) rfl) rfl rfl ?_;exact ⟨rfl,sk aF⟩
    ·
     refine cf rfl (bf al) (wsk (we (wq (wr (mv rfl ?_)))));obtain ⟨bG,aQ,hF⟩:=bo hF;refine wc T.call84 (ec rfl en) rfl ?_;refine (rf_sign_calls Y ((J).toNat:Int) aQ).mono ?_;rintro _ bH ⟨rfl,bg⟩;have aG:=scT bg aB;refine ⟨_,rfl,?_⟩;refine av rfl (wn (we (wq (wq (wr (mv rfl (wp (G.not rfl rfl) rfl (wn (we ?_)))))))));rcases io hF with ⟨an,hF⟩|⟨an,hF⟩
     ·
      refine cf rfl (nf an) (wsk (we (wg (l':=[(0,.string (bs E)),(1,I q),(4,(Pt C))]) ⟨rfl,rfl,rfl,trivial⟩ (wq (wr (mv rfl (mv rfl (mv rfl (wp (G.add rfl rfl (r:=(w64 (q+1))) rfl) rfl ?_)))))))));obtain ⟨ao,aR,hF⟩:=bo hF;refine wp (G.cutb_lh T.str9 rfl rfl rfl aR) rfl (mv rfl (wp (G.build (cells:=#[I 4,.string (bs ao),I 0,I q]) (fs_ (fc rfl (fc rfl (fc rfl fn_)))) (by kernel_rfl)) rfl (mv rfl (wp (G.add rfl rfl (r:=(w64 (q+1))) rfl) rfl ?_))));obtain ⟨bI,aS,ap⟩:=sw aG 0 #[I 4,.string (bs ao),I 0,I q] T.size41_4 rfl rfl rfl rfl;refine wuu (aS rfl rfl) ?_;refine av rfl (av rfl (wn (we (wg (l':=[(4,(Pt C)),(5,I (w64 (q+1))),(6,I 0)]) ⟨rfl,rfl,rfl,trivial⟩ (wrt ?_)))));obtain rfl:=se hF;refine WEx.retc2 rfl rfl (cs:=[I 4,.string (bs ao),I 0,I q]) T.agg41_4 (cb (ap.blk 0 rfl) rfl) rfl rfl ?_;exact ⟨rfl,sk ap⟩
     ·
      refine ct rfl (nt (bf an)) (wq (wr (wp (G.build (cells:=#[I 0,.string (bs []),I 0,I 0]) (fs_ (fn_)) (by kernel_rfl)) rfl ?_)));obtain ⟨bj,aT,aq⟩:=sw aG 0 #[I 0,.string (bs []),I 0,I 0] T.size41_4 rfl rfl rfl rfl;refine wuu (aT rfl rfl) ?_;refine av rfl (av rfl (wn (we (wg (l':=[(4,(Pt C)),(5,I 0),(6,I 30)]) ⟨rfl,rfl,rfl,trivial⟩ (wrt (wtr ?_))))));obtain rfl:=se hF;refine WEx.retc2 rfl rfl (cs:=[I 0,.string (bs []),I 0,I 0]) T.agg41_4 (cb (aq.blk 0 rfl) rfl) rfl rfl ?_;exact ⟨rfl,sk aq⟩
mutual
def rf_Scan.j2:Nat→List UInt8→List Token→Int→Option ((List Token)×Int×Int)
  | 0,_,_,_=>none
  | X+1,q,E,C=>(rf_one X q C).bind fun O=>if O.2.2=0 then ((cat E ([O.1]:List Token)).bind fun Z=>rf_Scan.l1 X q Z O.2.1) else some ([],O.2.2,C)
def rf_Scan.j1:Nat→List UInt8→List Token→Int→UInt8→Bool→Option ((List Token)×Int×Int)
  | 0,_,_,_,_,_=>none
  | J+1,q,E,C,D,aa=>if aa=true then (rf_Scan.l1 J q E (w64 (C+1))) else if ((D).toNat:Int)=47 then (if (w64 (C+1)) < (q.length:Int) then ((idx q (w64 (C+1))).bind fun ab=>if ((ab).toNat:Int)=42 then ((rf_comment J q C).bind fun Y=>if Y=0 then (some ([],33,C)) else rf_Scan.l1 J q E Y) else rf_Scan.j2 J q E C) else rf_Scan.j2 J q E C) else rf_Scan.j2 J q E C
def rf_Scan.l1:Nat→List UInt8→List Token→Int→Option ((List Token)×Int×Int)
  | 0,_,_,_=>none
  | V+1,q,E,C=>if C < (q.length:Int) then ((idx q C).bind fun D=>if ((D).toNat:Int)=32 then (rf_Scan.j1 V q E C D true) else if ((D).toNat:Int)=9 then (rf_Scan.j1 V q E C D true) else if ((D).toNat:Int)=10 then (rf_Scan.j1 V q E C D true) else rf_Scan.j1 V q E C D (decide (((D).toNat:Int)=13))) else (cat E ([(⟨5,[],0,(q.length:Int)⟩:Token)]:List Token)).bind fun ad=>some (ad,0,0)
end
def rf_Scan (k:Nat) (q:List UInt8):Option ((List Token)×Int×Int):=(if 16000 < (q.length:Int) then (some ([],34,16000)) else (rf_Scan.l1 k q [] 0))
theorem rf_Scan_calls (k:Nat) (q:List UInt8) {w:World} {r_:(List Token)×Int×Int} (hF:rf_Scan k q=some r_) :
    Calls TP 25 [.string (bs q)].toArray w fun e w'=>∃ au:Option Addr,∃ ax:Nat,∃ ay:Grp,e = .returned (.tuple #[.slice au (r_.1).length ax,I r_.2.1,I r_.2.2])∧SlO 41 Token.rp (.slice au (r_.1).length ax) (r_.1) ay∧St w (KS []) w' [ay]:=by
 unfold rf_Scan at hF;have S:=St.ofFalse (As:=[]) (St.init0 w);refine enter 83 [(0,.string (bs q))] Tryz.func25 rfl rfl rfl rfl ?_;refine wq (wr (av rfl (av rfl (av rfl (wn (we (wq (wq (wr (mv rfl (wp (G.lenb T.str9 rfl) rfl (wp (G.gtr rfl rfl rfl) rfl (wn (we ?_))))))))))))));rcases io hF with ⟨aG,hF⟩|⟨aG,hF⟩
 ·
  refine ct rfl (dt aG) (wq (wr (av rfl (av rfl (av rfl (wn (we (wrt (wtr ?_)))))))));obtain rfl:=se hF;refine WEx.ret3 rfl rfl rfl rfl ?_;have bg:=S.emp;exact ⟨none,0,[],rfl,(sn 41 Token.rp),sk bg⟩
 ·
  refine cf rfl (df aG) (wsk (we (wq (wr (av rfl (wn (we (wq (wr (av rfl (wn (we (wq ?_)))))))))))));refine WCode.block ?_;have aP:=S.emp;refine wg (l':=[(0,.string (bs q)),(5,.slice none 0 0),(6,I 0)]) ⟨rfl,rfl,rfl,trivial⟩ ?_;refine wl (fun n_ l_ w_=>∃ Z:Option Addr,∃ aa:Nat,∃ J:List Token,∃ ag:Grp,∃ C:Int,l_=[(0,.string (bs q)),(5,.slice Z J.length aa),(6,I C)]∧rf_Scan.l1 n_ q J C=some r_∧(SlO 41 Token.rp (.slice Z J.length aa) J ag)∧St w (KS []) w_ [ag]) k ⟨none,0,[],[],0,rfl,hF,(sn 41 Token.rp),aP⟩ ?_;rintro aQ _ bk ⟨Z,aa,J,ag,C,rfl,hF,ah,ab⟩;obtain _ | ad:=aQ
  · exact nn hF
  rw [rf_Scan.l1] at hF;refine wq (wq (wr (mv rfl (mv rfl (wp (G.lenb T.str9 rfl) rfl (wp (G.lss rfl rfl rfl) rfl (wn (we ?_))))))));rcases io hF with ⟨ak,hF⟩|⟨ak,hF⟩
  ·
   refine ct rfl (dt ak) (wsk (we ?_));refine WCode.block ?_;refine wq (wr (mv rfl (mv rfl ?_)));obtain ⟨al,aH,hF⟩:=bo hF;refine wp (G.idxb T.str9 rfl rfl aH) rfl (av rfl (wn (we (wq ?_))));refine wqs (fun l_ w_=>∃ ai:Nat,∃ am:Bool,l_=[(0,.string (bs q)),(5,.slice Z J.length aa),(6,I C),(7,.int .u8 ((al).toNat:Int)),(35,.bool am)]∧rf_Scan.j1 ai q J C al am=some r_∧ai≤ad∧St w (KS []) w_ [ag]) ?_ ?_
   ·
    refine wr (mv rfl (wp (G.eql rfl rfl rfl) rfl (mv rfl ?_)));rcases io hF with ⟨V,hF⟩|⟨V,hF⟩
    ·
     refine wof rfl (dt V) rfl (wof rfl (dt V) rfl (wp (G.pick_t (kb rfl (dt V)) rfl) rfl (mv rfl ?_)));refine WOps.off rfl rfl rfl rfl ?_;refine WOps.off rfl rfl rfl rfl ?_;refine wp (G.pick_t rfl rfl) rfl (mv rfl ?_);refine WOps.off rfl rfl rfl rfl ?_;refine WOps.off rfl rfl rfl rfl ?_;refine wp (G.pick_t rfl rfl) rfl (wn ?_);refine wx _ ?_ ⟨ad,true,rfl,hF,(by omega),ab⟩;exact ⟨rfl,rfl,rfl,rfl,rfl,trivial⟩
    ·
     refine won rfl (df V) (mv rfl (won rfl (df V) (wp (G.eql rfl rfl rfl) rfl (wp (G.pick_f (kb rfl (df V)) rfl) rfl (mv rfl ?_)))));rcases io hF with ⟨X,hF⟩|⟨X,hF⟩
     ·
      refine wof rfl (dt X) rfl (wof rfl (dt X) rfl (wp (G.pick_t (kb rfl (dt X)) rfl) rfl (mv rfl ?_)));refine WOps.off rfl rfl rfl rfl ?_;refine WOps.off rfl rfl rfl rfl ?_;refine wp (G.pick_t rfl rfl) rfl (wn ?_);refine wx _ ?_ ⟨ad,true,rfl,hF,(by omega),ab⟩;exact ⟨rfl,rfl,rfl,rfl,rfl,trivial⟩
     ·
      refine won rfl (df X) (mv rfl (won rfl (df X) (wp (G.eql rfl rfl rfl) rfl (wp (G.pick_f (kb rfl (df X)) rfl) rfl (mv rfl ?_)))));rcases io hF with ⟨Y,hF⟩|⟨Y,hF⟩
      ·
       refine wof rfl (dt Y) rfl (wof rfl (dt Y) rfl (wp (G.pick_t (kb rfl (dt Y)) rfl) rfl (wn ?_)));refine wx _ ?_ ⟨ad,true,rfl,hF,(by omega),ab⟩;exact ⟨rfl,rfl,rfl,rfl,rfl,trivial⟩
      ·
       refine won rfl (df Y) (mv rfl (won rfl (df Y) (wp (G.eql rfl rfl rfl) rfl (wp (G.pick_f (kb rfl (df Y)) rfl) rfl (wn ?_)))));refine wx _ ?_ ⟨ad,decide (((al).toNat:Int)=13),rfl,hF,(by omega),ab⟩;exact ⟨rfl,rfl,rfl,rfl,rfl,trivial⟩
   ·
    rintro _ bl ⟨ai,am,rfl,hF,bh,ae⟩;obtain _ | af:=ai
    · exact nn hF
    rw [rf_Scan.j1] at hF;rcases io hF with ⟨an,hF⟩|⟨an,hF⟩
    ·
     refine ct rfl an (wq (wr (mv rfl (wp (G.add rfl rfl (r:=(w64 (C+1))) rfl) rfl (av rfl (wn (we ?_)))))));refine WCode.exit ?_;refine WEx.then_exit ?_;refine WEx.in_exit ?_;refine wag _ _ (by omega) ?_ ⟨Z,aa,J,ag,w64 (C+1),rfl,hF,ah,ae⟩;exact ⟨rfl,rfl,rfl,trivial⟩
    ·
     refine cf rfl (bf an) (wsk (we ?_));refine wqs (fun l_ w_=>∃ aj:Nat,l_=[(0,.string (bs q)),(5,.slice Z J.length aa),(6,I C)]∧rf_Scan.j2 aj q J C=some r_∧aj≤af∧St w (KS []) w_ [ag]) ?_ ?_
     ·
      refine wq (wr (mv rfl (wp (G.eql rfl rfl rfl) rfl (mv rfl ?_))));rcases io hF with ⟨D,hF⟩|⟨D,hF⟩
      ·
       refine won rfl (dt D) (mv rfl (won rfl (dt D) (wp (G.add rfl rfl (r:=(w64 (C+1))) rfl) rfl (won rfl (dt D) (mv rfl (won rfl (dt D) (wp (G.lenb T.str9 rfl) rfl (won rfl (dt D) (wp (G.lss rfl rfl rfl) rfl (wp (G.pick_t (kb rfl (dt D)) rfl) rfl (mv rfl ?_)))))))))));rcases io hF with ⟨E,hF⟩|⟨E,hF⟩
       ·
        refine won rfl (dt E) (mv rfl (won rfl (dt E) (mv rfl (won rfl (dt E) (wp (G.add rfl rfl (r:=(w64 (C+1))) rfl) rfl (won rfl (dt E) ?_))))));obtain ⟨az,aI,hF⟩:=bo hF;refine wp (G.idxb T.str9 rfl rfl aI) rfl (won rfl (dt E) (wp (G.eql rfl rfl rfl) rfl (wp (G.pick_t (kb rfl (dt E)) rfl) rfl (wn (we ?_)))));rcases io hF with ⟨ao,hF⟩|⟨ao,hF⟩
        ·
         refine ct rfl (dt ao) (wq (wr (mv rfl (mv rfl ?_))));obtain ⟨aA,aJ,hF⟩:=bo hF;refine wc T.call40 (ec rfl (ec rfl en)) rfl ?_;refine (rf_comment_calls af q C aJ).mono ?_;rintro _ bm ⟨rfl,aR⟩;have aB:=scT aR ae;refine ⟨_,rfl,?_⟩;refine av rfl (wn (we (wg (l':=[(0,.string (bs q)),(5,.slice Z J.length aa),(6,I C),(8,I aA),(41,I C),(42,I (w64 (C+1))),(43,.string (bs q)),(44,I (q.length:Int)),(45,.bool (decide ((w64 (C+1)) < (q.length:Int)))),(48,.string (bs q)),(49,I C),(50,I (w64 (C+1))),(51,.int .u8 ((az).toNat:Int)),(52,.bool (decide (((az).toNat:Int)=42)))]) ⟨rfl,rfl,rfl,rfl,rfl,rfl,rfl,rfl,rfl,rfl,rfl,rfl,rfl,rfl,trivial⟩ (wq (wq (wr (mv rfl (wp (G.eql rfl rfl rfl) rfl (wn (we ?_))))))))));rcases io hF with ⟨ap,hF⟩|⟨ap,hF⟩
         ·
          refine ct rfl (dt ap) (wq (wr (mv rfl (av rfl (av rfl (av rfl (wn (we (wg (l':=[(2,.slice none 0 0),(3,I 33),(4,I C)]) ⟨rfl,rfl,rfl,trivial⟩ (wrt (wtr (wtr ?_))))))))))));refine WEx.in_ret ?_;refine wtr ?_;refine WEx.in_ret ?_;refine wtr ?_;obtain rfl:=se hF;refine WEx.ret3 rfl rfl rfl rfl ?_;have aS:=aB.emp;exact ⟨none,0,[],rfl,(sn 41 Token.rp),sk aS⟩
         ·
          refine cf rfl (df ap) (wsk (we (wq (wr (mv rfl (av rfl (wn (we ?_))))))));refine WCode.exit ?_;refine WEx.then_exit ?_;refine WEx.in_exit ?_;refine wag _ _ (by omega) ?_ ⟨Z,aa,J,ag,aA,rfl,hF,ah,aB⟩;exact ⟨rfl,rfl,rfl,trivial⟩
        ·
         refine cf rfl (df ao) (wsk ?_);refine wx _ ?_ ⟨af,rfl,hF,(by omega),ae⟩;exact ⟨rfl,rfl,rfl,trivial⟩
       ·
        refine wof rfl (df E) rfl (wof rfl (df E) rfl (wof rfl (df E) rfl (wof rfl (df E) rfl (wof rfl (df E) rfl (wp (G.pick_f (kb rfl (df E)) rfl) rfl (wn (we ?_)))))));refine WCode.cond_f rfl ?_;refine wsk ?_;refine wx _ ?_ ⟨af,rfl,hF,(by omega),ae⟩;exact ⟨rfl,rfl,rfl,trivial⟩
      ·
       refine wof rfl (df D) rfl (wof rfl (df D) rfl (wof rfl (df D) rfl (wof rfl (df D) rfl (wof rfl (df D) rfl (wp (G.pick_f (kb rfl (df D)) rfl) rfl (mv rfl ?_))))));refine WOps.off rfl rfl rfl rfl ?_;refine WOps.off rfl rfl rfl rfl ?_;refine WOps.off rfl rfl rfl rfl ?_;refine WOps.off rfl rfl rfl rfl ?_;refine WOps.off rfl rfl rfl rfl ?_;refine wp (G.pick_f rfl rfl) rfl (wn (we ?_));refine WCode.cond_f rfl ?_;refine wsk ?_;refine wx _ ?_ ⟨af,rfl,hF,(by omega),ae⟩;exact ⟨rfl,rfl,rfl,trivial⟩
     ·
      rintro _ bn ⟨aj,rfl,hF,bi,aT⟩;obtain _ | aU:=aj
      · exact nn hF
      rw [rf_Scan.j2] at hF;refine wq (wr (mv rfl (mv rfl ?_)));obtain ⟨O,aK,hF⟩:=bo hF;refine wc T.call41 (ec rfl (ec rfl en)) rfl ?_;refine (rf_one_calls aU q C aK).mono ?_;rintro _ bp ⟨rfl,aV⟩;have aW:=scT aV aT;refine ⟨_,rfl,?_⟩;refine mv rfl (wp (G.extract rfl rfl) rfl (wp (G.extract rfl rfl) rfl (wp (G.extract rfl rfl) rfl ?_)));obtain ⟨aX,bq,aY,aZ,br,bt⟩:=sv aW (z:=.agg #[I 0,.string (bs []),I 0,I 0]) T.zero41;refine wee aY rfl ?_;obtain ⟨bu,a0,aq⟩:=sw aZ 0 (ka O.1) T.size41_4 rfl rfl rfl rfl;refine wuu (a0 rfl rfl) ?_;refine av rfl (av rfl (wn (we (wq (wq (wr (mv rfl (wp (G.neq rfl rfl rfl) rfl (wn (we ?_))))))))));rcases io hF with ⟨ar,hF⟩|⟨ar,hF⟩
      ·
       refine WCode.cond_f (kb rfl (nf (dt ar))) ?_;refine wsk (we (wg (l':=[(0,.string (bs q)),(5,.slice Z J.length aa),(9,(Pt aX)),(10,I O.2.1)]) ⟨rfl,rfl,rfl,rfl,trivial⟩ (wq (wr (mv rfl ?_)))));refine wrr (G.loada T.agg41_4 rfl (cs:=(kl O.1)) (cb (aq.blk 0 rfl) rfl)) rfl ?_;obtain ⟨bv,bx,a1,a2,bz,bA⟩:=sl aq (P:=TP) (t:=37) (e:=41) (n:=1) (vs:=[(0,.agg (ka O.1))]) (cs:=(ka O.1)) (by kernel_rfl);refine wee (a1 (fc rfl fn_)) rfl ?_;obtain ⟨a3,aL,hF⟩:=bo hF;have aC:=a2.front 2 rfl;obtain ⟨a4,a5,a6,bB,a7,aM,a8,bj⟩:=St.appP (P:=TP) (r:=Token.rp) (M:=([O.1]:List Token)) aC T.elt37 rfl ah (Rd.of_blk (aC.blk 1 rfl) (n:=1) (sz:=4) rfl) ⟨_,_,[],[],rfl,rfl,⟨rfl,rfl⟩,⟨rfl,rfl⟩⟩ rfl aL;refine wee (a7 rfl rfl) rfl ?_;refine av rfl (wn (we (wr (mv rfl (av rfl (wn (win ?_)))))));refine wag _ _ (by omega) ?_ ⟨a4,a5,a3,a6,O.2.1,rfl,hF,aM,(sk a8)⟩;exact ⟨rfl,rfl,rfl,trivial⟩
      ·
       refine WCode.cond_t (kb rfl (nt (df ar))) ?_;refine wq (wr (mv rfl (mv rfl (av rfl (av rfl (av rfl (wn (we (wg (l':=[(2,.slice none 0 0),(3,I O.2.2),(4,I C)]) ⟨rfl,rfl,rfl,trivial⟩ (wrt (wtr ?_)))))))))));refine WEx.in_ret ?_;refine wtr ?_;refine WEx.in_ret ?_;refine wtr ?_;obtain rfl:=se hF;refine WEx.ret3 rfl rfl rfl rfl ?_;have a9:=aq.emp;exact ⟨none,0,[],rfl,(sn 41 Token.rp),sk a9⟩
  ·
   refine cf rfl (df ak) ?_;refine WCode.exit ?_;refine WEx.then_exit ?_;refine WEx.then_exit ?_;refine WEx.in_exit ?_;refine we (wq (wr (mv rfl (mv rfl (wp (G.lenb T.str9 rfl) rfl (wp (G.build (cells:=#[I 5,.string (bs []),I 0,I (q.length:Int)]) (fs_ (fc rfl (fc rfl fn_))) (by kernel_rfl)) rfl ?_))))));obtain ⟨bC,bD,aw,a',bE,bF⟩:=sl ab (P:=TP) (t:=37) (e:=41) (n:=1) (vs:=[(0,.agg #[I 5,.string (bs []),I 0,I (q.length:Int)])]) (cs:=#[I 5,.string (bs []),I 0,I (q.length:Int)]) (by kernel_rfl);refine wee (aw (fc rfl fn_)) rfl ?_;obtain ⟨ba,aN,hF⟩:=bo hF;have aD:=a'.front 1 rfl;obtain ⟨aE,aF,bb,bG,bc,aO,bd,be⟩:=St.appP (P:=TP) (r:=Token.rp) (M:=([(⟨5,[],0,(q.length:Int)⟩:Token)]:List Token)) aD T.elt37 rfl ah (Rd.of_blk (aD.blk 1 rfl) (n:=1) (sz:=4) rfl) ⟨_,_,[],[],rfl,rfl,⟨rfl,rfl⟩,⟨rfl,rfl⟩⟩ rfl aN;refine wee (bc rfl rfl) rfl ?_;refine av rfl (av rfl (av rfl (wn (we (wg (l':=[(2,.slice aE ba.length aF),(3,I 0),(4,I 0)]) ⟨rfl,rfl,rfl,trivial⟩ (wrt ?_))))));obtain rfl:=se hF;refine WEx.ret3 rfl rfl rfl rfl ?_;exact ⟨aE,aF,bb,rfl,aO,sk bd⟩
end Go.Proofs.YtnhifhlbelogcaaGreatDoor
