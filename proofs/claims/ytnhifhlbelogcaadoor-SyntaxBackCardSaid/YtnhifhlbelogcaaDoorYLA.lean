/- Functions and their walks (printed by auto.py over the engine). -/
import Derived.Test.YtnhifhlbelogcaaDoorYAb
import Derived.Test.YtnhifhlbelogcaaDoorProg
import Derived.Test.YtnhifhlbelogcaaDoorYLG
set_option maxRecDepth 100000
set_option maxHeartbeats 1000000
namespace Go.Proofs.YtnhifhlbelogcaaDoor
open Go Go.Eng
set_option linter.unusedSimpArgs false
set_option linter.unusedVariables false
theorem T.call50:Callable TP 50:=cm Tryd.func50
theorem T.call51:Callable TP 51:=cm Tryd.func51
theorem T.call54:Callable TP 54:=cm Tryd.func54
theorem T.str9:isStr TP 9=true:=by kernel_rfl
def lx_letter (k:Nat) (q:Int):Option Bool:=(if 97≤q then (if q≤122 then (some true) else (if 65≤q then (some (decide (q≤90))) else (some false))) else (if 65≤q then (some (decide (q≤90))) else (some false)))
theorem lx_letter_calls (k:Nat) (J:Int) {w:World} {r_:Bool} (hF:lx_letter k J=some r_) :
    Calls TP 50 [.int .u8 J].toArray w fun e w'=>e = .returned (.bool r_)∧St w (KS []) w' []:=by
 unfold lx_letter at hF;have S:=St.ofFalse (As:=[]) (St.init0 w);refine enter 17 [(0,.int .u8 J)] Tryd.func50 rfl rfl rfl rfl ?_;refine wq (wr (av rfl (wn (we (wq (wr (mv rfl (wp (G.geq rfl rfl rfl) rfl (mv rfl ?_)))))))));rcases io hF with ⟨C,hF⟩|⟨C,hF⟩
 ·
  refine won rfl (dt C) (mv rfl (won rfl (dt C) (wp (G.leq rfl rfl rfl) rfl (wp (G.pick_t (kb rfl (dt C)) rfl) rfl (mv rfl ?_)))));rcases io hF with ⟨q,hF⟩|⟨q,hF⟩
  ·
   refine wof rfl (dt q) rfl (wof rfl (dt q) rfl (wof rfl (dt q) rfl ?_));refine WOps.off rfl rfl rfl rfl ?_;refine WOps.off rfl rfl rfl rfl ?_;refine wof rfl (dt q) rfl (wp (G.pick_t (kb rfl (dt q)) rfl) rfl (av rfl (wn (we (wg (l':=[(2,.bool true)]) ⟨rfl,trivial⟩ (wrt ?_))))));obtain rfl:=se hF;refine WEx.ret1 rfl rfl ?_;exact ⟨rfl,sk (As:=[]) S⟩
  ·
   refine won rfl (df q) (mv rfl (won rfl (df q) (wp (G.geq rfl rfl rfl) rfl (won rfl (df q) (mv rfl ?_)))));rcases io hF with ⟨D,hF⟩|⟨D,hF⟩
   ·
    refine won rfl (dt D) (mv rfl (won rfl (dt D) (wp (G.leq rfl rfl rfl) rfl (won rfl (df q) (wp (G.pick_t (kb rfl (dt D)) rfl) rfl (wp (G.pick_f (kb rfl (df q)) rfl) rfl (av rfl (wn (we (wg (l':=[(2,.bool (decide (J≤90)))]) ⟨rfl,trivial⟩ (wrt ?_)))))))))));obtain rfl:=se hF;refine WEx.ret1 rfl rfl ?_;exact ⟨rfl,sk (As:=[]) S⟩
   ·
    refine wof rfl (df D) rfl (wof rfl (df D) rfl (won rfl (df q) (wp (G.pick_f (kb rfl (df D)) rfl) rfl (wp (G.pick_f (kb rfl (df q)) rfl) rfl (av rfl (wn (we (wg (l':=[(2,.bool false)]) ⟨rfl,trivial⟩ (wrt ?_)))))))));obtain rfl:=se hF;refine WEx.ret1 rfl rfl ?_;exact ⟨rfl,sk (As:=[]) S⟩
 ·
  refine wof rfl (df C) rfl (wof rfl (df C) rfl (wp (G.pick_f (kb rfl (df C)) rfl) rfl (mv rfl ?_)));refine WOps.on rfl rfl ?_;refine mv rfl ?_;refine WOps.on rfl rfl ?_;refine wp (G.geq rfl rfl rfl) rfl ?_;refine WOps.on rfl rfl ?_;refine mv rfl ?_;rcases io hF with ⟨E,hF⟩|⟨E,hF⟩
  ·
   refine won rfl (dt E) (mv rfl (won rfl (dt E) (wp (G.leq rfl rfl rfl) rfl ?_)));refine WOps.on rfl rfl ?_;refine wp (G.pick_t (kb rfl (dt E)) rfl) rfl (wp (G.pick_f rfl rfl) rfl (av rfl (wn (we (wg (l':=[(2,.bool (decide (J≤90)))]) ⟨rfl,trivial⟩ (wrt ?_))))));obtain rfl:=se hF;refine WEx.ret1 rfl rfl ?_;exact ⟨rfl,sk (As:=[]) S⟩
  ·
   refine wof rfl (df E) rfl (wof rfl (df E) rfl ?_);refine WOps.on rfl rfl ?_;refine wp (G.pick_f (kb rfl (df E)) rfl) rfl (wp (G.pick_f rfl rfl) rfl (av rfl (wn (we (wg (l':=[(2,.bool false)]) ⟨rfl,trivial⟩ (wrt ?_))))));obtain rfl:=se hF;refine WEx.ret1 rfl rfl ?_;exact ⟨rfl,sk (As:=[]) S⟩
def lx_digit (k:Nat) (q:Int):Option Bool:=(if 48≤q then (some (decide (q≤57))) else (some false))
theorem lx_digit_calls (k:Nat) (C:Int) {w:World} {r_:Bool} (hF:lx_digit k C=some r_) :
    Calls TP 51 [.int .u8 C].toArray w fun e w'=>e = .returned (.bool r_)∧St w (KS []) w' []:=by
 unfold lx_digit at hF;have S:=St.ofFalse (As:=[]) (St.init0 w);refine enter 9 [(0,.int .u8 C)] Tryd.func51 rfl rfl rfl rfl ?_;refine wq (wr (av rfl (wn (we (wq (wr (mv rfl (wp (G.geq rfl rfl rfl) rfl (mv rfl ?_)))))))));rcases io hF with ⟨q,hF⟩|⟨q,hF⟩
 ·
  refine won rfl (dt q) (mv rfl (won rfl (dt q) (wp (G.leq rfl rfl rfl) rfl (wp (G.pick_t (kb rfl (dt q)) rfl) rfl (av rfl (wn (we (wrt ?_))))))));obtain rfl:=se hF;refine WEx.ret1 rfl rfl ?_;exact ⟨rfl,sk (As:=[]) S⟩
 ·
  refine wof rfl (df q) rfl (wof rfl (df q) rfl (wp (G.pick_f (kb rfl (df q)) rfl) rfl (av rfl (wn (we (wrt ?_))))));obtain rfl:=se hF;refine WEx.ret1 rfl rfl ?_;exact ⟨rfl,sk (As:=[]) S⟩
def lx_inRun (k:Nat) (q:Int):Option Bool:=((lx_letter k q).bind fun C=>if C=true then (some true) else (lx_digit k q).bind fun D=>if D=true then (some true) else some (decide (q=95)))
theorem lx_inRun_calls (k:Nat) (D:Int) {w:World} {r_:Bool} (hF:lx_inRun k D=some r_) :
    Calls TP 54 [.int .u8 D].toArray w fun e w'=>e = .returned (.bool r_)∧St w (KS []) w' []:=by
 unfold lx_inRun at hF;have S:=St.ofFalse (As:=[]) (St.init0 w);refine enter 13 [(0,.int .u8 D)] Tryd.func54 rfl rfl rfl rfl ?_;refine wq (wr (av rfl (wn (we (wq (wr (mv rfl ?_)))))));obtain ⟨aa,J,hF⟩:=bo hF;refine wc T.call50 (ec rfl en) rfl ?_;refine (lx_letter_calls k D J).mono ?_;rintro _ ab ⟨rfl,Y⟩;have O:=sc (As:=[]) S Y;refine ⟨_,rfl,?_⟩;refine mv rfl ?_;rcases io hF with ⟨C,hF⟩|⟨C,hF⟩
 ·
  refine wof rfl C rfl (wof rfl C rfl (wp (G.pick_t (kb rfl C) rfl) rfl (mv rfl ?_)));refine WOps.off rfl rfl rfl rfl ?_;refine WOps.off rfl rfl rfl rfl ?_;refine wp (G.pick_t rfl rfl) rfl (av rfl (wn (we (wg (l':=[(2,.bool true)]) ⟨rfl,trivial⟩ (wrt ?_)))));obtain rfl:=se hF;refine WEx.ret1 rfl rfl ?_;exact ⟨rfl,sk O⟩
 ·
  refine won rfl (bf C) (mv rfl (won rfl (bf C) ?_));obtain ⟨ad,V,hF⟩:=bo hF;refine wc T.call51 (ec rfl en) rfl ?_;refine (lx_digit_calls k D V).mono ?_;rintro _ ae ⟨rfl,X⟩;have E:=scT X O;refine ⟨_,rfl,?_⟩;refine wp (G.pick_f (kb rfl (bf C)) rfl) rfl (mv rfl ?_);rcases io hF with ⟨q,hF⟩|⟨q,hF⟩
  ·
   refine wof rfl q rfl (wof rfl q rfl (wp (G.pick_t (kb rfl q) rfl) rfl (av rfl (wn (we (wg (l':=[(2,.bool true)]) ⟨rfl,trivial⟩ (wrt ?_)))))));obtain rfl:=se hF;refine WEx.ret1 rfl rfl ?_;exact ⟨rfl,sk E⟩
  ·
   refine won rfl (bf q) (mv rfl (won rfl (bf q) (wp (G.eql rfl rfl rfl) rfl (wp (G.pick_f (kb rfl (bf q)) rfl) rfl (av rfl (wn (we (wg (l':=[(2,.bool (decide (D=95)))]) ⟨rfl,trivial⟩ (wrt ?_)))))))));obtain rfl:=se hF;refine WEx.ret1 rfl rfl ?_;exact ⟨rfl,sk E⟩
def lx_isBlank (k:Nat) (q:Int):Option Bool:=(if q=32 then (some true) else (if q=9 then (some true) else (if q=10 then (some true) else (some (decide (q=13))))))
theorem lx_isBlank_calls (k:Nat) (E:Int) {w:World} {r_:Bool} (hF:lx_isBlank k E=some r_) :
    Calls TP 48 [.int .u8 E].toArray w fun e w'=>e = .returned (.bool r_)∧St w (KS []) w' []:=by
 unfold lx_isBlank at hF;have S:=St.ofFalse (As:=[]) (St.init0 w);refine enter 17 [(0,.int .u8 E)] Tryd.func48 rfl rfl rfl rfl ?_;refine wq (wr (av rfl (wn (we (wq (wr (mv rfl (wp (G.eql rfl rfl rfl) rfl (mv rfl ?_)))))))));rcases io hF with ⟨q,hF⟩|⟨q,hF⟩
 ·
  refine wof rfl (dt q) rfl (wof rfl (dt q) rfl (wp (G.pick_t (kb rfl (dt q)) rfl) rfl (mv rfl ?_)));refine WOps.off rfl rfl rfl rfl ?_;refine WOps.off rfl rfl rfl rfl ?_;refine wp (G.pick_t rfl rfl) rfl (mv rfl ?_);refine WOps.off rfl rfl rfl rfl ?_;refine WOps.off rfl rfl rfl rfl ?_;refine wp (G.pick_t rfl rfl) rfl (av rfl (wn (we (wg (l':=[(2,.bool true)]) ⟨rfl,trivial⟩ (wrt ?_)))));obtain rfl:=se hF;refine WEx.ret1 rfl rfl ?_;exact ⟨rfl,sk (As:=[]) S⟩
 ·
  refine won rfl (df q) (mv rfl (won rfl (df q) (wp (G.eql rfl rfl rfl) rfl (wp (G.pick_f (kb rfl (df q)) rfl) rfl (mv rfl ?_)))));rcases io hF with ⟨C,hF⟩|⟨C,hF⟩
  ·
   refine wof rfl (dt C) rfl (wof rfl (dt C) rfl (wp (G.pick_t (kb rfl (dt C)) rfl) rfl (mv rfl ?_)));refine WOps.off rfl rfl rfl rfl ?_;refine WOps.off rfl rfl rfl rfl ?_;refine wp (G.pick_t rfl rfl) rfl (av rfl (wn (we (wg (l':=[(2,.bool true)]) ⟨rfl,trivial⟩ (wrt ?_)))));obtain rfl:=se hF;refine WEx.ret1 rfl rfl ?_;exact ⟨rfl,sk (As:=[]) S⟩
  ·
   refine won rfl (df C) (mv rfl (won rfl (df C) (wp (G.eql rfl rfl rfl) rfl (wp (G.pick_f (kb rfl (df C)) rfl) rfl (mv rfl ?_)))));rcases io hF with ⟨D,hF⟩|⟨D,hF⟩
   ·
    refine wof rfl (dt D) rfl (wof rfl (dt D) rfl (wp (G.pick_t (kb rfl (dt D)) rfl) rfl (av rfl (wn (we (wg (l':=[(2,.bool true)]) ⟨rfl,trivial⟩ (wrt ?_)))))));obtain rfl:=se hF;refine WEx.ret1 rfl rfl ?_;exact ⟨rfl,sk (As:=[]) S⟩
   ·
    refine won rfl (df D) (mv rfl (won rfl (df D) (wp (G.eql rfl rfl rfl) rfl (wp (G.pick_f (kb rfl (df D)) rfl) rfl (av rfl (wn (we (wg (l':=[(2,.bool (decide (E=13)))]) ⟨rfl,trivial⟩ (wrt ?_)))))))));obtain rfl:=se hF;refine WEx.ret1 rfl rfl ?_;exact ⟨rfl,sk (As:=[]) S⟩
def lx_run.l1:Nat→List UInt8→Int→Option Int
  | 0,_,_=>none
  | D+1,C,q=>if q < (C.length:Int) then ((idx C q).bind fun J=>(lx_inRun D ((J).toNat:Int)).bind fun E=>if E=true then (lx_run.l1 D C (w64 (q+1))) else some q) else some q
def lx_run (k:Nat) (q:List UInt8):Option Int:=(lx_run.l1 k q 0)
theorem lx_run_calls (k:Nat) (D:List UInt8) {w:World} {r_:Int} (hF:lx_run k D=some r_) :
    Calls TP 33 [.string (bs D)].toArray w fun e w'=>e = .returned (I r_)∧St w (KS []) w' []:=by
 unfold lx_run at hF;have S:=St.ofFalse (As:=[]) (St.init0 w);refine enter 17 [(0,.string (bs D))] Tryd.func33 rfl rfl rfl rfl ?_;refine wq (wr (av rfl (wn (we (wq (wr (av rfl (wn (we (wq ?_))))))))));refine WCode.block ?_;change St _ _ _ [] at S;refine wg (l':=[(0,.string (bs D)),(3,I 0)]) ⟨rfl,rfl,trivial⟩ ?_;refine wl (fun n_ l_ w_=>∃ C:Int,l_=[(0,.string (bs D)),(3,I C)]∧lx_run.l1 n_ D C=some r_∧St w (KS []) w_ []) k ⟨0,rfl,hF,S⟩ ?_;rintro aa _ ag ⟨C,rfl,hF,V⟩;obtain _ | ab:=aa
 · exact nn hF
 rw [lx_run.l1] at hF;refine wq (wq (wr (mv rfl (mv rfl (wp (G.lenb T.str9 rfl) rfl (wp (G.lss rfl rfl rfl) rfl (mv rfl ?_)))))));rcases io hF with ⟨q,hF⟩|⟨q,hF⟩
 ·
  refine won rfl (dt q) (mv rfl (won rfl (dt q) (mv rfl (won rfl (dt q) ?_))));obtain ⟨ad,X,hF⟩:=bo hF;refine wp (G.idxb T.str9 rfl rfl X) rfl (won rfl (dt q) ?_);obtain ⟨ae,O,hF⟩:=bo hF;refine wc T.call54 (ec rfl en) rfl ?_;refine (lx_inRun_calls ab ((ad).toNat:Int) O).mono ?_;rintro _ af ⟨rfl,Y⟩;have J:=scT Y V;refine ⟨_,rfl,?_⟩;refine wp (G.pick_t (kb rfl (dt q)) rfl) rfl (wn (we ?_));rcases io hF with ⟨E,hF⟩|⟨E,hF⟩
  ·
   refine ct rfl E (wsk (we ?_));refine WCode.block ?_;refine wr (mv rfl (wp (G.add rfl rfl (r:=(w64 (C+1))) rfl) rfl (av rfl (wn (win ?_)))));refine wag _ _ (by omega) ?_ ⟨w64 (C+1),rfl,hF,J⟩;exact ⟨rfl,rfl,trivial⟩
  ·
   refine cf rfl (bf E) ?_;refine WCode.exit ?_;refine WEx.then_exit ?_;refine WEx.then_exit ?_;refine WEx.in_exit ?_;refine we (wg (l':=[(3,I C)]) ⟨rfl,trivial⟩ (wq (wr (mv rfl (av rfl (wn (we (wrt ?_))))))));obtain rfl:=se hF;refine WEx.ret1 rfl rfl ?_;exact ⟨rfl,sk J⟩
 ·
  refine wof rfl (df q) rfl (wof rfl (df q) rfl (wof rfl (df q) rfl (wof rfl (df q) rfl (wp (G.pick_f (kb rfl (df q)) rfl) rfl (wn (we ?_))))));refine WCode.cond_f rfl ?_;refine WCode.exit ?_;refine WEx.then_exit ?_;refine WEx.then_exit ?_;refine WEx.in_exit ?_;refine we (wg (l':=[(3,I C)]) ⟨rfl,trivial⟩ (wq (wr (mv rfl (av rfl (wn (we (wrt ?_))))))));obtain rfl:=se hF;refine WEx.ret1 rfl rfl ?_;exact ⟨rfl,sk V⟩
end Go.Proofs.YtnhifhlbelogcaaDoor
