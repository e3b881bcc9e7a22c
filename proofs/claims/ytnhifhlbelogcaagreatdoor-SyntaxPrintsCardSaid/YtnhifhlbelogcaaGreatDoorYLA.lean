/- Functions and their walks (printed by auto.py over the engine). -/
import Derived.Test.YtnhifhlbelogcaaGreatDoorYPtrs
import Derived.Test.YtnhifhlbelogcaaGreatDoorProg
import Derived.Test.YtnhifhlbelogcaaGreatDoorYLG
set_option maxRecDepth 100000
set_option maxHeartbeats 1000000
namespace Go.Proofs.YtnhifhlbelogcaaGreatDoor
open Go Go.Eng
set_option linter.unusedSimpArgs false
set_option linter.unusedVariables false
theorem T.c120:Callable TP 120:=cm Tryz.func120
theorem T.c121:Callable TP 121:=cm Tryz.func121
theorem T.c143:Callable TP 143:=cm Tryz.func143
theorem T.c40:Callable TP 40:=cm Tryz.func40
theorem T.c41:Callable TP 41:=cm Tryz.func41
theorem T.c79:Callable TP 79:=cm Tryz.func79
theorem T.c80:Callable TP 80:=cm Tryz.func80
theorem T.c81:Callable TP 81:=cm Tryz.func81
theorem T.c82:Callable TP 82:=cm Tryz.func82
theorem T.c83:Callable TP 83:=cm Tryz.func83
theorem T.c84:Callable TP 84:=cm Tryz.func84
theorem T.c93:Callable TP 93:=cm Tryz.func93
theorem T.c94:Callable TP 94:=cm Tryz.func94
theorem T.c97:Callable TP 97:=cm Tryz.func97
theorem T.e37:Elt TP 37 41 4 40:=elt_mk (z:=.agg #[I 0,.string ⟨#[]⟩,I 0,I 0]) Tryz.underlying37 (by kernel_rfl) r
theorem T.str9:isStr TP 9=true:=by kernel_rfl
def lx_letter (k:Nat) (q:Int):Option Bool:=(if 97≤q then (if q≤122 then (some true) else (if 65≤q then (some (decide (q≤90))) else (some false))) else (if 65≤q then (some (decide (q≤90))) else (some false)))
theorem lx_letter_calls (k:Nat) (J:Int) {w:World} {r_:Bool} (hF:lx_letter k J=some r_) :
    Calls TP 93 [.int .u8 J].toArray w fun e w'=>e = .returned (.bool r_)∧St w (KS []) w' []:=by
 unfold lx_letter at hF;have S:=sff (As:=[]) (St.init0 w);refine enter 17 [(0,.int .u8 J)] Tryz.func93 r r r r ?_;refine q2 (av r (nq (mv r (wp (G.geq r r r) r (mv r ?_)))));obtain ⟨C,hF⟩|⟨C,hF⟩:=io hF
 ·refine won r (dt C) (mv r (won r (dt C) (wp (glq r r r) r (wp (gpt (kb r (dt C)) r) r (mv r ?_)))));obtain ⟨q,hF⟩|⟨q,hF⟩:=io hF
  ·refine wof r (dt q) r (wof r (dt q) r (wof r (dt q) r (wo0 r r r r (wo0 r r r r (wof r (dt q) r (wp (gpt (kb r (dt q)) r) r (av r (nw (wrt ?_)))))))));cases hF;refine wr1 r r ?_;exact ⟨r,sk (As:=[]) S⟩
  ·refine won r (df q) (mv r (won r (df q) (wp (G.geq r r r) r (won r (df q) (mv r ?_)))));obtain ⟨D,hF⟩|⟨D,hF⟩:=io hF
   ·refine won r (dt D) (mv r (won r (dt D) (wp (glq r r r) r (won r (df q) (wp (gpt (kb r (dt D)) r) r (wp (gpf (kb r (df q)) r) r (av r (nw (wrt ?_)))))))));cases hF;refine wr1 r r ?_;exact ⟨r,sk (As:=[]) S⟩
   ·refine wof r (df D) r (wof r (df D) r (won r (df q) (wp (gpf (kb r (df D)) r) r (wp (gpf (kb r (df q)) r) r (av r (nw (wrt ?_)))))));cases hF;refine wr1 r r ?_;exact ⟨r,sk (As:=[]) S⟩
 ·refine wof r (df C) r (wof r (df C) r (wp (gpf (kb r (df C)) r) r (mv r (wo1 r r (mv r (wo1 r r (wp (G.geq r r r) r (wo1 r r (mv r ?_)))))))));obtain ⟨E,hF⟩|⟨E,hF⟩:=io hF
  ·refine won r (dt E) (mv r (won r (dt E) (wp (glq r r r) r (wo1 r r (wp (gpt (kb r (dt E)) r) r (wp (gpf r r) r (av r (nw (wrt ?_)))))))));cases hF;refine wr1 r r ?_;exact ⟨r,sk (As:=[]) S⟩
  ·refine wof r (df E) r (wof r (df E) r (wo1 r r (wp (gpf (kb r (df E)) r) r (wp (gpf r r) r (av r (nw (wrt ?_)))))));cases hF;refine wr1 r r ?_;exact ⟨r,sk (As:=[]) S⟩
def lx_digit (k:Nat) (q:Int):Option Bool:=(if 48≤q then (some (decide (q≤57))) else (some false))
theorem lx_digit_calls (k:Nat) (C:Int) {w:World} {r_:Bool} (hF:lx_digit k C=some r_) :
    Calls TP 94 [.int .u8 C].toArray w fun e w'=>e = .returned (.bool r_)∧St w (KS []) w' []:=by
 unfold lx_digit at hF;have S:=sff (As:=[]) (St.init0 w);refine enter 9 [(0,.int .u8 C)] Tryz.func94 r r r r ?_;refine q2 (av r (nq (mv r (wp (G.geq r r r) r (mv r ?_)))));obtain ⟨q,hF⟩|⟨q,hF⟩:=io hF
 ·refine won r (dt q) (mv r (won r (dt q) (wp (glq r r r) r (wp (gpt (kb r (dt q)) r) r (av r (nw (wrt ?_)))))));cases hF;refine wr1 r r ?_;exact ⟨r,sk (As:=[]) S⟩
 ·refine wof r (df q) r (wof r (df q) r (wp (gpf (kb r (df q)) r) r (av r (nw (wrt ?_)))));cases hF;refine wr1 r r ?_;exact ⟨r,sk (As:=[]) S⟩
def lx_inRun (k:Nat) (q:Int):Option Bool:=((lx_letter k q).bind fun C=>if C=true then (some true) else (lx_digit k q).bind fun D=>if D=true then (some true) else some (decide (q=95)))
theorem lx_inRun_calls (k:Nat) (D:Int) {w:World} {r_:Bool} (hF:lx_inRun k D=some r_) :
    Calls TP 97 [.int .u8 D].toArray w fun e w'=>e = .returned (.bool r_)∧St w (KS []) w' []:=by
 unfold lx_inRun at hF;have S:=sff (As:=[]) (St.init0 w);refine enter 13 [(0,.int .u8 D)] Tryz.func97 r r r r ?_;refine q2 (av r (nq (mv r ?_)));obtain ⟨Z,J,hF⟩:=bo hF;refine wk T.c93 (lx_letter_calls k D J) ?_;rintro _ aa ⟨rfl,Y⟩;have O:=sc (As:=[]) S Y;refine ⟨_,r,(mv r ?_)⟩;obtain ⟨C,hF⟩|⟨C,hF⟩:=io hF
 ·refine wof r C r (wof r C r (wp (gpt (kb r C) r) r (mv r (wo0 r r r r (wo0 r r r r (wp (gpt r r) r (av r (nw (wrt ?_)))))))));cases hF;refine wr1 r r ?_;exact ⟨r,sk O⟩
 ·refine won r (bf C) (mv r (won r (bf C) ?_));obtain ⟨ab,V,hF⟩:=bo hF;refine wk T.c94 (lx_digit_calls k D V) ?_;rintro _ ad ⟨rfl,X⟩;have E:=scT X O;refine ⟨_,r,(wp (gpf (kb r (bf C)) r) r (mv r ?_))⟩;obtain ⟨q,hF⟩|⟨q,hF⟩:=io hF
  ·refine wof r q r (wof r q r (wp (gpt (kb r q) r) r (av r (nw (wrt ?_)))));cases hF;refine wr1 r r ?_;exact ⟨r,sk E⟩
  ·refine won r (bf q) (mv r (won r (bf q) (wp (geq r r r) r (wp (gpf (kb r (bf q)) r) r (av r (nw (wrt ?_)))))));cases hF;refine wr1 r r ?_;exact ⟨r,sk E⟩
def lx_isBlank (k:Nat) (q:Int):Option Bool:=(if q=32 then (some true) else (if q=9 then (some true) else (if q=10 then (some true) else (some (decide (q=13))))))
theorem lx_isBlank_calls (k:Nat) (E:Int) {w:World} {r_:Bool} (hF:lx_isBlank k E=some r_) :
    Calls TP 91 [.int .u8 E].toArray w fun e w'=>e = .returned (.bool r_)∧St w (KS []) w' []:=by
 unfold lx_isBlank at hF;have S:=sff (As:=[]) (St.init0 w);refine enter 17 [(0,.int .u8 E)] Tryz.func91 r r r r ?_;refine q2 (av r (nq (mv r (wp (geq r r r) r (mv r ?_)))));obtain ⟨q,hF⟩|⟨q,hF⟩:=io hF
 ·refine wof r (dt q) r (wof r (dt q) r (wp (gpt (kb r (dt q)) r) r (mv r (wo0 r r r r (wo0 r r r r (wp (gpt r r) r (mv r (wo0 r r r r (wo0 r r r r (wp (gpt r r) r (av r (nw (wrt ?_)))))))))))));cases hF;refine wr1 r r ?_;exact ⟨r,sk (As:=[]) S⟩
 ·refine won r (df q) (mv r (won r (df q) (wp (geq r r r) r (wp (gpf (kb r (df q)) r) r (mv r ?_)))));obtain ⟨C,hF⟩|⟨C,hF⟩:=io hF
  ·refine wof r (dt C) r (wof r (dt C) r (wp (gpt (kb r (dt C)) r) r (mv r (wo0 r r r r (wo0 r r r r (wp (gpt r r) r (av r (nw (wrt ?_)))))))));cases hF;refine wr1 r r ?_;exact ⟨r,sk (As:=[]) S⟩
  ·refine won r (df C) (mv r (won r (df C) (wp (geq r r r) r (wp (gpf (kb r (df C)) r) r (mv r ?_)))));obtain ⟨D,hF⟩|⟨D,hF⟩:=io hF
   ·refine wof r (dt D) r (wof r (dt D) r (wp (gpt (kb r (dt D)) r) r (av r (nw (wrt ?_)))));cases hF;refine wr1 r r ?_;exact ⟨r,sk (As:=[]) S⟩
   ·refine won r (df D) (mv r (won r (df D) (wp (geq r r r) r (wp (gpf (kb r (df D)) r) r (av r (nw (wrt ?_)))))));cases hF;refine wr1 r r ?_;exact ⟨r,sk (As:=[]) S⟩
def lx_run.l1:Nat→By→Int→Option Int
  | 0,_,_=>none
  | D+1,C,q=>if q < (C.length:Int) then ((idx C q).bind fun c8=>(lx_inRun D ((c8).toNat:Int)).bind fun E=>if E=true then (lx_run.l1 D C (w64 (q+1))) else some q) else some q
def lx_run (k:Nat) (q:By):Option Int:=(lx_run.l1 k q 0)
theorem lx_run_calls (k:Nat) (D:By) {w:World} {r_:Int} (hF:lx_run k D=some r_) :
    Calls TP 53 [.string (bs D)].toArray w fun e w'=>e = .returned (I r_)∧St w (KS []) w' []:=by
 unfold lx_run at hF;have S:=sff (As:=[]) (St.init0 w);refine enter 17 [(0,.string (bs D))] Tryz.func53 r r r r ?_;refine q2 (av r (nq (av r (nw (wq (wbl ?_))))));change St _ _ _ [] at S;refine wg (l':=[(0,.string (bs D)),(3,I 0)]) ⟨r,r,trivial⟩ ?_;refine wl (fun n_ l_ w_=>∃ C:Int,l_=[(0,.string (bs D)),(3,I C)]∧lx_run.l1 n_ D C=some r_∧St w (KS []) w_ []) k ⟨0,r,hF,S⟩ ?_;rintro Z _ ae ⟨C,rfl,hF,V⟩;obtain _ | aa:=Z
 · exact nn hF
 rw [lx_run.l1] at hF;refine wq (q2 (mv r (mv r (wp (G.lenb T.str9 r) r (wp (gls r r r) r (mv r ?_))))));obtain ⟨q,hF⟩|⟨q,hF⟩:=io hF
 ·refine won r (dt q) (mv r (won r (dt q) (mv r (won r (dt q) ?_))));obtain ⟨c8,X,hF⟩:=bo hF;refine wp (G.idxb T.str9 r r X) r (won r (dt q) ?_);obtain ⟨ab,O,hF⟩:=bo hF;refine wk T.c97 (lx_inRun_calls aa ((c8).toNat:Int) O) ?_;rintro _ ad ⟨rfl,Y⟩;have J:=scT Y V;refine ⟨_,r,(wp (gpt (kb r (dt q)) r) r (nw ?_))⟩;obtain ⟨E,hF⟩|⟨E,hF⟩:=io hF
  ·refine ct r E (wsk (we (wbl (wr (mv r (wp (gad r r (r:=(w64 (C+1))) r) r (av r (wn (win ?_)))))))));refine wag _ _ (by omega) ?_ ⟨w64 (C+1),r,hF,J⟩;exact ⟨r,r,trivial⟩
  ·refine cf r (bf E) (wxt (wte (wte (wie (we (q2 (mv r (av r (nw (wrt ?_))))))))));cases hF;refine wr1 r r ?_;exact ⟨r,sk J⟩
 ·refine wof r (df q) r (wof r (df q) r (wof r (df q) r (wof r (df q) r (wp (gpf (kb r (df q)) r) r (nw (WCode.cond_f r (wxt (wte (wte (wie (we (q2 (mv r (av r (nw (wrt ?_))))))))))))))));cases hF;refine wr1 r r ?_;exact ⟨r,sk V⟩
def rf_letter (k:Nat) (q:Int):Option Bool:=(if 97≤q then (if q≤122 then (some true) else (if 65≤q then (some (decide (q≤90))) else (some false))) else (if 65≤q then (some (decide (q≤90))) else (some false)))
theorem rf_letter_calls (k:Nat) (J:Int) {w:World} {r_:Bool} (hF:rf_letter k J=some r_) :
    Calls TP 79 [.int .u8 J].toArray w fun e w'=>e = .returned (.bool r_)∧St w (KS []) w' []:=by
 unfold rf_letter at hF;have S:=sff (As:=[]) (St.init0 w);refine enter 17 [(0,.int .u8 J)] Tryz.func79 r r r r ?_;refine q2 (av r (nq (mv r (wp (G.geq r r r) r (mv r ?_)))));obtain ⟨C,hF⟩|⟨C,hF⟩:=io hF
 ·refine won r (dt C) (mv r (won r (dt C) (wp (glq r r r) r (wp (gpt (kb r (dt C)) r) r (mv r ?_)))));obtain ⟨q,hF⟩|⟨q,hF⟩:=io hF
  ·refine wof r (dt q) r (wof r (dt q) r (wof r (dt q) r (wo0 r r r r (wo0 r r r r (wof r (dt q) r (wp (gpt (kb r (dt q)) r) r (av r (nw (wrt ?_)))))))));cases hF;refine wr1 r r ?_;exact ⟨r,sk (As:=[]) S⟩
  ·refine won r (df q) (mv r (won r (df q) (wp (G.geq r r r) r (won r (df q) (mv r ?_)))));obtain ⟨D,hF⟩|⟨D,hF⟩:=io hF
   ·refine won r (dt D) (mv r (won r (dt D) (wp (glq r r r) r (won r (df q) (wp (gpt (kb r (dt D)) r) r (wp (gpf (kb r (df q)) r) r (av r (nw (wrt ?_)))))))));cases hF;refine wr1 r r ?_;exact ⟨r,sk (As:=[]) S⟩
   ·refine wof r (df D) r (wof r (df D) r (won r (df q) (wp (gpf (kb r (df D)) r) r (wp (gpf (kb r (df q)) r) r (av r (nw (wrt ?_)))))));cases hF;refine wr1 r r ?_;exact ⟨r,sk (As:=[]) S⟩
 ·refine wof r (df C) r (wof r (df C) r (wp (gpf (kb r (df C)) r) r (mv r (wo1 r r (mv r (wo1 r r (wp (G.geq r r r) r (wo1 r r (mv r ?_)))))))));obtain ⟨E,hF⟩|⟨E,hF⟩:=io hF
  ·refine won r (dt E) (mv r (won r (dt E) (wp (glq r r r) r (wo1 r r (wp (gpt (kb r (dt E)) r) r (wp (gpf r r) r (av r (nw (wrt ?_)))))))));cases hF;refine wr1 r r ?_;exact ⟨r,sk (As:=[]) S⟩
  ·refine wof r (df E) r (wof r (df E) r (wo1 r r (wp (gpf (kb r (df E)) r) r (wp (gpf r r) r (av r (nw (wrt ?_)))))));cases hF;refine wr1 r r ?_;exact ⟨r,sk (As:=[]) S⟩
def rf_digit (k:Nat) (q:Int):Option Bool:=(if 48≤q then (some (decide (q≤57))) else (some false))
theorem rf_digit_calls (k:Nat) (C:Int) {w:World} {r_:Bool} (hF:rf_digit k C=some r_) :
    Calls TP 82 [.int .u8 C].toArray w fun e w'=>e = .returned (.bool r_)∧St w (KS []) w' []:=by
 unfold rf_digit at hF;have S:=sff (As:=[]) (St.init0 w);refine enter 9 [(0,.int .u8 C)] Tryz.func82 r r r r ?_;refine q2 (av r (nq (mv r (wp (G.geq r r r) r (mv r ?_)))));obtain ⟨q,hF⟩|⟨q,hF⟩:=io hF
 ·refine won r (dt q) (mv r (won r (dt q) (wp (glq r r r) r (wp (gpt (kb r (dt q)) r) r (av r (nw (wrt ?_)))))));cases hF;refine wr1 r r ?_;exact ⟨r,sk (As:=[]) S⟩
 ·refine wof r (df q) r (wof r (df q) r (wp (gpf (kb r (df q)) r) r (av r (nw (wrt ?_)))));cases hF;refine wr1 r r ?_;exact ⟨r,sk (As:=[]) S⟩
def rf_within (k:Nat) (q:Int):Option Bool:=((rf_digit k q).bind fun C=>(rf_letter k q).bind fun D=>if C=true then (some true) else if D=true then (some true) else some (decide (q=95)))
theorem rf_within_calls (k:Nat) (D:Int) {w:World} {r_:Bool} (hF:rf_within k D=some r_) :
    Calls TP 120 [.int .u8 D].toArray w fun e w'=>e = .returned (.bool r_)∧St w (KS []) w' []:=by
 unfold rf_within at hF;have S:=sff (As:=[]) (St.init0 w);refine enter 17 [(0,.int .u8 D)] Tryz.func120 r r r r ?_;refine q2 (av r (nq (mv r ?_)));obtain ⟨Z,J,hF⟩:=bo hF;refine wk T.c82 (rf_digit_calls k D J) ?_;rintro _ aa ⟨rfl,V⟩;have X:=sc (As:=[]) S V;refine ⟨_,r,(av r (nq (mv r ?_)))⟩;obtain ⟨ab,O,hF⟩:=bo hF;refine wk T.c79 (rf_letter_calls k D O) ?_;rintro _ ad ⟨rfl,Y⟩;have E:=scT Y X;refine ⟨_,r,(av r (nq (mv r (mv r ?_))))⟩;obtain ⟨C,hF⟩|⟨C,hF⟩:=io hF
 ·refine wof r C r (wp (gpt (kb r C) r) r (mv r (wo0 r r r r (wo0 r r r r (wp (gpt r r) r (av r (nw (wrt ?_))))))));cases hF;refine wr1 r r ?_;exact ⟨r,sk E⟩
 ·refine won r (bf C) (mv r (wp (gpf (kb r (bf C)) r) r (mv r ?_)));obtain ⟨q,hF⟩|⟨q,hF⟩:=io hF
  ·refine wof r q r (wof r q r (wp (gpt (kb r q) r) r (av r (nw (wrt ?_)))));cases hF;refine wr1 r r ?_;exact ⟨r,sk E⟩
  ·refine won r (bf q) (mv r (won r (bf q) (wp (geq r r r) r (wp (gpf (kb r (bf q)) r) r (av r (nw (wrt ?_)))))));cases hF;refine wr1 r r ?_;exact ⟨r,sk E⟩
def rf_run.l1:Nat→By→Int→Option Int
  | 0,_,_=>none
  | D+1,C,q=>if q < (C.length:Int) then ((idx C q).bind fun c8=>(rf_within D ((c8).toNat:Int)).bind fun E=>if E=true then (rf_run.l1 D C (w64 (q+1))) else some q) else some q
def rf_run (k:Nat) (q:By) (C:Int):Option Int:=(rf_run.l1 k q C)
theorem rf_run_calls (k:Nat) (q:By) (D:Int) {w:World} {r_:Int} (hF:rf_run k q D=some r_) :
    Calls TP 80 [.string (bs q),I D].toArray w fun e w'=>e = .returned (I r_)∧St w (KS []) w' []:=by
 unfold rf_run at hF;have S:=sff (As:=[]) (St.init0 w);refine enter 20 [(0,.string (bs q)),(1,I D)] Tryz.func80 r r r r ?_;refine q2 (av r (nw (wq (wbl ?_))));change St _ _ _ [] at S;refine wg (l':=[(0,.string (bs q)),(1,I D)]) ⟨r,r,trivial⟩ ?_;refine wl (fun n_ l_ w_=>∃ C:Int,l_=[(0,.string (bs q)),(1,I C)]∧rf_run.l1 n_ q C=some r_∧St w (KS []) w_ []) k ⟨D,r,hF,S⟩ ?_;rintro ab _ af ⟨C,rfl,hF,X⟩;obtain _ | ad:=ab
 · exact nn hF
 rw [rf_run.l1] at hF;refine wq (q2 (mv r (mv r (wp (G.lenb T.str9 r) r (wp (gls r r r) r (nw ?_))))));obtain ⟨O,hF⟩|⟨O,hF⟩:=io hF
 ·refine ct r (dt O) (wsk (we (wbl (q2 (mv r (mv r ?_))))));obtain ⟨c8,Y,hF⟩:=bo hF;refine wp (G.idxb T.str9 r r Y) r ?_;obtain ⟨Z,V,hF⟩:=bo hF;refine wk T.c120 (rf_within_calls ad ((c8).toNat:Int) V) ?_;rintro _ ae ⟨rfl,aa⟩;have J:=scT aa X;refine ⟨_,r,(av r (nw (wq (q2 (mv r (wp (gnt r r) r (nw ?_)))))))⟩;obtain ⟨E,hF⟩|⟨E,hF⟩:=io hF
  ·refine cf r (nf E) (wsk (we (wr (mv r (wp (gad r r (r:=(w64 (C+1))) r) r (av r (wn (win ?_))))))));refine wag _ _ (by omega) ?_ ⟨w64 (C+1),r,hF,J⟩;exact ⟨r,r,trivial⟩
  ·refine ct r (nt (bf E)) (q2 (mv r (av r (nw (wrt (wtr (wir (wtr (wir (wtr ?_))))))))));cases hF;refine wr1 r r ?_;exact ⟨r,sk J⟩
 ·refine cf r (df O) (wxt (wte (wte (wie (we (q2 (mv r (av r (nw (wrt ?_))))))))));cases hF;refine wr1 r r ?_;exact ⟨r,sk X⟩
def rf_sign.l1:Nat→Int→Int→Option Bool
  | 0,_,_=>none
  | D+1,C,q=>if q < 13 then ((idx ([123,125,40,41,91,93,60,62,61,59,58,44,42]:By) q).bind fun c8=>if ((c8).toNat:Int)=C then (some true) else rf_sign.l1 D C (w64 (q+1))) else some false
def rf_sign (k:Nat) (q:Int):Option Bool:=(rf_sign.l1 k q 0)
theorem rf_sign_calls (k:Nat) (q:Int) {w:World} {r_:Bool} (hF:rf_sign k q=some r_) :
    Calls TP 84 [.int .u8 q].toArray w fun e w'=>e = .returned (.bool r_)∧St w (KS []) w' []:=by
 unfold rf_sign at hF;have S:=sff (As:=[]) (St.init0 w);refine enter 12 [(0,.int .u8 q)] Tryz.func84 r r r r ?_;refine q2 (av r (nw (wq (q2 (av r (nw (wbl ?_)))))));change St _ _ _ [] at S;refine wg (l':=[(0,.int .u8 q),(3,I 0)]) ⟨r,r,trivial⟩ ?_;refine wl (fun n_ l_ w_=>∃ C:Int,l_=[(0,.int .u8 q),(3,I C)]∧rf_sign.l1 n_ q C=some r_∧St w (KS []) w_ []) k ⟨0,r,hF,S⟩ ?_;rintro V _ X ⟨C,rfl,hF,E⟩;obtain _ | Y:=V
 · exact nn hF
 rw [rf_sign.l1] at hF;refine wq (q2 (mv r (wp (gls r r r) r (nw ?_))));obtain ⟨J,hF⟩|⟨J,hF⟩:=io hF
 ·refine ct r (dt J) (wsk (we (wq (wbl (q2 (mv r ?_))))));obtain ⟨c8,O,hF⟩:=bo hF;refine wp (G.idxb T.str9 r r O) r (mv r (wp (geq r r r) r (nw ?_)));obtain ⟨D,hF⟩|⟨D,hF⟩:=io hF
  ·refine ct r (dt D) (q2 (av r (nw (wrt (wir (wtr (wtr (wir (wtr ?_)))))))));cases hF;refine wr1 r r ?_;exact ⟨r,sk E⟩
  ·refine cf r (df D) (wsk (win (we (wr (mv r (wp (gad r r (r:=(w64 (C+1))) r) r (av r (wn ?_))))))));refine wag _ _ (by omega) ?_ ⟨w64 (C+1),r,hF,E⟩;exact ⟨r,r,trivial⟩
 ·refine cf r (df J) (wxt (wte (wte (wie (we (q2 (av r (nw (wrt ?_)))))))));cases hF;refine wr1 r r ?_;exact ⟨r,sk E⟩
def rf_comment.l1:Nat→By→Int→Option Int
  | 0,_,_=>none
  | D+1,C,q=>if (w64 (q+1)) < (C.length:Int) then ((idx C q).bind fun c8=>if ((c8).toNat:Int)=42 then ((idx C (w64 (q+1))).bind fun E=>if ((E).toNat:Int)=47 then (some (w64 (q+2))) else rf_comment.l1 D C (w64 (q+1))) else rf_comment.l1 D C (w64 (q+1))) else some 0
def rf_comment (k:Nat) (q:By) (C:Int):Option Int:=(rf_comment.l1 k q (w64 (C+2)))
theorem rf_comment_calls (k:Nat) (D:By) (E:Int) {w:World} {r_:Int} (hF:rf_comment k D E=some r_) :
    Calls TP 40 [.string (bs D),I E].toArray w fun e w'=>e = .returned (I r_)∧St w (KS []) w' []:=by
 unfold rf_comment at hF;have S:=sff (As:=[]) (St.init0 w);refine enter 28 [(0,.string (bs D)),(1,I E)] Tryz.func40 r r r r ?_;refine q2 (av r (nw (wq (q2 (mv r (wp (gad r r (r:=(w64 (E+2))) r) r (av r (nw (wbl ?_)))))))));change St _ _ _ [] at S;refine wg (l':=[(0,.string (bs D)),(5,I (w64 (E+2)))]) ⟨r,r,trivial⟩ ?_;refine wl (fun n_ l_ w_=>∃ C:Int,l_=[(0,.string (bs D)),(5,I C)]∧rf_comment.l1 n_ D C=some r_∧St w (KS []) w_ []) k ⟨w64 (E+2),r,hF,S⟩ ?_;rintro aa _ ab ⟨C,rfl,hF,V⟩;obtain _ | ad:=aa
 · exact nn hF
 rw [rf_comment.l1] at hF;refine wq (q2 (mv r (wp (gad r r (r:=(w64 (C+1))) r) r (mv r (wp (G.lenb T.str9 r) r (wp (gls r r r) r (nw ?_)))))));obtain ⟨X,hF⟩|⟨X,hF⟩:=io hF
 ·refine ct r (dt X) (wsk (we (wq (wbl (q2 (mv r (mv r ?_)))))));obtain ⟨c8,Z,hF⟩:=bo hF;refine wp (G.idxb T.str9 r r Z) r (wp (geq r r r) r (mv r ?_));obtain ⟨q,hF⟩|⟨q,hF⟩:=io hF
  ·refine won r (dt q) (mv r (won r (dt q) (mv r (won r (dt q) (wp (gad r r (r:=(w64 (C+1))) r) r (won r (dt q) ?_))))));obtain ⟨J,Y,hF⟩:=bo hF;refine wp (G.idxb T.str9 r r Y) r (won r (dt q) (wp (geq r r r) r (wp (gpt (kb r (dt q)) r) r (nw ?_))));obtain ⟨O,hF⟩|⟨O,hF⟩:=io hF
   ·refine ct r (dt O) (q2 (mv r (wp (gad r r (r:=(w64 (C+2))) r) r (av r (nw (wrt (wir (wtr (wtr (wir (wtr ?_)))))))))));cases hF;refine wr1 r r ?_;exact ⟨r,sk V⟩
   ·refine cf r (df O) (wsk (win (we (wr (mv r (wp (gad r r (r:=(w64 (C+1))) r) r (av r (wn ?_))))))));refine wag _ _ (by omega) ?_ ⟨w64 (C+1),r,hF,V⟩;exact ⟨r,r,trivial⟩
  ·refine wof r (df q) r (wof r (df q) r (wof r (df q) r (wof r (df q) r (wof r (df q) r (wp (gpf (kb r (df q)) r) r (nw (WCode.cond_f r (wsk (win (we (wr (mv r (wp (gad r r (r:=(w64 (C+1))) r) r (av r (wn ?_)))))))))))))));refine wag _ _ (by omega) ?_ ⟨w64 (C+1),r,hF,V⟩;exact ⟨r,r,trivial⟩
 ·refine cf r (df X) (wxt (wte (wte (wie (we (q2 (av r (nw (wrt ?_)))))))));cases hF;refine wr1 r r ?_;exact ⟨r,sk V⟩
def rf_value.j2 (E:Nat) (q:Int) (C:Int) (D:Bool):Option Int:=(if D=true then (if C≤(w64 ((w64 (IntKind.u8.wrap (q - 97)))+10)) then (some (-1)) else (some (w64 ((w64 (IntKind.u8.wrap (q - 97)))+10)))) else (if 65≤q then (if q≤70 then (if C≤(w64 ((w64 (IntKind.u8.wrap (q - 65)))+10)) then (some (-1)) else (some (w64 ((w64 (IntKind.u8.wrap (q - 65)))+10)))) else (if C≤(-1) then (some (-1)) else (some (-1)))) else (if C≤(-1) then (some (-1)) else (some (-1)))))
def rf_value.j1 (q4:Nat) (q:Int) (C:Int) (D:Bool):Option Int:=(if D=true then (if C≤(w64 (IntKind.u8.wrap (q - 48))) then (some (-1)) else (some (w64 (IntKind.u8.wrap (q - 48))))) else (if 97≤q then (rf_value.j2 q4 q C (decide (q≤102))) else (rf_value.j2 q4 q C false)))
def rf_value (k:Nat) (q:Int) (C:Int):Option Int:=(if 48≤q then (rf_value.j1 k q C (decide (q≤57))) else (rf_value.j1 k q C false))
theorem rf_value_calls (k:Nat) (q:Int) (C:Int) {w:World} {r_:Int} (hF:rf_value k q C=some r_) :
    Calls TP 143 [.int .u8 q,I C].toArray w fun e w'=>e = .returned (I r_)∧St w (KS []) w' []:=by
 unfold rf_value at hF;have S:=sff (As:=[]) (St.init0 w);refine enter 42 [(0,.int .u8 q),(1,I C)] Tryz.func143 r r r r ?_;refine q2 (av r (nq (av r (nw (wq (wbl ?_))))));refine wqs (fun l_ w_=>∃ q4:Nat,∃ af:Bool,l_=[(0,.int .u8 q),(1,I C),(5,I (-1)),(6,.bool af)]∧rf_value.j1 q4 q C af=some r_∧St w (KS []) w_ []) ?_ ?_
 ·refine wr (mv r (wp (G.geq r r r) r (mv r ?_)));obtain ⟨O,hF⟩|⟨O,hF⟩:=io hF
  ·refine won r (dt O) (mv r (won r (dt O) (wp (glq r r r) r (wp (gpt (kb r (dt O)) r) r (av r (wn ?_))))));change St _ _ _ [] at S;refine wx _ ?_ ⟨k,decide (q≤57),r,hF,S⟩;exact ⟨r,r,r,r,trivial⟩
  ·refine wof r (df O) r (wof r (df O) r (wp (gpf (kb r (df O)) r) r (av r (wn ?_))));refine wx _ ?_ ⟨k,false,r,hF,S⟩;exact ⟨r,r,r,r,trivial⟩
 ·rintro _ ak ⟨q4,af,rfl,hF,ad⟩;unfold rf_value.j1 at hF;obtain ⟨ag,hF⟩|⟨ag,hF⟩:=io hF
  ·refine ct r ag (wr (mv r (wp (gsb r r (r:=(IntKind.u8.wrap (q - 48))) r) r (wp (G.convi (by kernel_rfl) Tryz.underlying3 r (r:=(w64 (IntKind.u8.wrap (q - 48)))) r) r (av r (wn (win (we (wq (q2 (mv r (mv r (wp (G.geq r r r) r (nw ?_))))))))))))));obtain ⟨ah,hF⟩|⟨ah,hF⟩:=io hF
   ·refine WCode.cond_t (kb (b:=decide (C≤(w64 (IntKind.u8.wrap (q - 48))))) r (dt ah)) (q2 (av r (nw (wrt (wtr ?_)))));cases hF;refine wr1 r r ?_;exact ⟨r,sk ad⟩
   ·refine WCode.cond_f (kb (b:=decide (C≤(w64 (IntKind.u8.wrap (q - 48))))) r (df ah)) (wsk (we (q2 (mv r (av r (nw (wrt ?_)))))));cases hF;refine wr1 r r ?_;exact ⟨r,sk ad⟩
  ·refine cf r (bf ag) ?_;refine wqs (fun l_ w_=>∃ ae:Nat,∃ ai:Bool,l_=[(0,.int .u8 q),(1,I C),(5,I (-1)),(16,.bool ai)]∧rf_value.j2 ae q C ai=some r_∧St w (KS []) w_ []) ?_ ?_
   ·refine wr (mv r (wp (G.geq r r r) r (mv r ?_)));obtain ⟨E,hF⟩|⟨E,hF⟩:=io hF
    ·refine won r (dt E) (mv r (won r (dt E) (wp (glq r r r) r (wp (gpt (kb r (dt E)) r) r (av r (wn ?_))))));refine wx _ ?_ ⟨q4,decide (q≤102),r,hF,ad⟩;exact ⟨r,r,r,r,trivial⟩
    ·refine wof r (df E) r (wof r (df E) r (wp (gpf (kb r (df E)) r) r (av r (wn ?_))));refine wx _ ?_ ⟨q4,false,r,hF,ad⟩;exact ⟨r,r,r,r,trivial⟩
   ·rintro _ aj ⟨ae,ai,rfl,hF,D⟩;unfold rf_value.j2 at hF;obtain ⟨V,hF⟩|⟨V,hF⟩:=io hF
    ·refine ct r V (wr (mv r (wp (gsb r r (r:=(IntKind.u8.wrap (q - 97))) r) r (wp (G.convi (by kernel_rfl) Tryz.underlying3 r (r:=(w64 (IntKind.u8.wrap (q - 97)))) r) r (wp (gad r r (r:=(w64 ((w64 (IntKind.u8.wrap (q - 97)))+10))) r) r (av r (wn (win (we (wq (q2 (mv r (mv r (wp (G.geq r r r) r (nw ?_)))))))))))))));obtain ⟨X,hF⟩|⟨X,hF⟩:=io hF
     ·refine WCode.cond_t (kb (b:=decide (C≤(w64 ((w64 (IntKind.u8.wrap (q - 97)))+10)))) r (dt X)) (q2 (av r (nw (wrt (wtr ?_)))));cases hF;refine wr1 r r ?_;exact ⟨r,sk D⟩
     ·refine WCode.cond_f (kb (b:=decide (C≤(w64 ((w64 (IntKind.u8.wrap (q - 97)))+10)))) r (df X)) (wsk (we (q2 (mv r (av r (nw (wrt ?_)))))));cases hF;refine wr1 r r ?_;exact ⟨r,sk D⟩
    ·refine cf r (bf V) (q2 (mv r (wp (G.geq r r r) r (mv r ?_))));obtain ⟨J,hF⟩|⟨J,hF⟩:=io hF
     ·refine won r (dt J) (mv r (won r (dt J) (wp (glq r r r) r (wp (gpt (kb r (dt J)) r) r (av r (nw ?_))))));obtain ⟨Y,hF⟩|⟨Y,hF⟩:=io hF
      ·refine ct r (dt Y) (wr (mv r (wp (gsb r r (r:=(IntKind.u8.wrap (q - 65))) r) r (wp (G.convi (by kernel_rfl) Tryz.underlying3 r (r:=(w64 (IntKind.u8.wrap (q - 65)))) r) r (wp (gad r r (r:=(w64 ((w64 (IntKind.u8.wrap (q - 65)))+10))) r) r (av r (wn (win (we (wq (q2 (mv r (mv r (wp (G.geq r r r) r (nw ?_)))))))))))))));obtain ⟨Z,hF⟩|⟨Z,hF⟩:=io hF
       ·refine WCode.cond_t (kb (b:=decide (C≤(w64 ((w64 (IntKind.u8.wrap (q - 65)))+10)))) r (dt Z)) (q2 (av r (nw (wrt (wtr ?_)))));cases hF;refine wr1 r r ?_;exact ⟨r,sk D⟩
       ·refine WCode.cond_f (kb (b:=decide (C≤(w64 ((w64 (IntKind.u8.wrap (q - 65)))+10)))) r (df Z)) (wsk (we (q2 (mv r (av r (nw (wrt ?_)))))));cases hF;refine wr1 r r ?_;exact ⟨r,sk D⟩
      ·refine cf r (df Y) (wsk (win (we (wq (q2 (mv r (mv r (wp (G.geq r r r) r (nw ?_)))))))));obtain ⟨aa,hF⟩|⟨aa,hF⟩:=io hF
       ·refine ct r (dt aa) (q2 (av r (nw (wrt (wtr ?_)))));cases hF;refine wr1 r r ?_;exact ⟨r,sk D⟩
       ·refine cf r (df aa) (wsk (we (q2 (mv r (av r (nw (wrt ?_)))))));cases hF;refine wr1 r r ?_;exact ⟨r,sk D⟩
     ·refine wof r (df J) r (wof r (df J) r (wp (gpf (kb r (df J)) r) r (av r (nw (WCode.cond_f r (wsk (win (we (wq (q2 (mv r (mv r (wp (G.geq r r r) r (nw ?_))))))))))))));obtain ⟨ab,hF⟩|⟨ab,hF⟩:=io hF
      ·refine ct r (dt ab) (q2 (av r (nw (wrt (wtr ?_)))));cases hF;refine wr1 r r ?_;exact ⟨r,sk D⟩
      ·refine cf r (df ab) (wsk (we (q2 (mv r (av r (nw (wrt ?_)))))));cases hF;refine wr1 r r ?_;exact ⟨r,sk D⟩
def rf_digits.l1:Nat→By→Int→Int→Int→Option (Int×Bool)
  | 0,_,_,_,_=>none
  | O+1,C,D,E,J=>if J < (C.length:Int) then ((idx C J).bind fun c9=>(rf_value O ((c9).toNat:Int) D).bind fun q=>if q < 0 then (some (0,false)) else if 4294967295 < (w64 ((w64 (E * D))+q)) then (some (0,false)) else rf_digits.l1 O C D (w64 ((w64 (E * D))+q)) (w64 (J+1))) else some (E,!(decide (C=[])))
def rf_digits (k:Nat) (q:By) (C:Int):Option (Int×Bool):=(rf_digits.l1 k q C 0 0)
theorem rf_digits_calls (k:Nat) (E:By) (q:Int) {w:World} {r_:Int×Bool} (hF:rf_digits k E q=some r_) :
    Calls TP 121 [.string (bs E),I q].toArray w fun e w'=>e = .returned (.tuple #[I r_.1,.bool r_.2])∧St w (KS []) w' []:=by
 unfold rf_digits at hF;have S:=sff (As:=[]) (St.init0 w);refine enter 32 [(0,.string (bs E)),(1,I q)] Tryz.func121 r r r r ?_;refine q2 (av r (av r (nq (av r (nw (wq (q2 (av r (nw (wbl ?_))))))))));change St _ _ _ [] at S;refine wg (l':=[(0,.string (bs E)),(1,I q),(6,I 0),(7,I 0)]) ⟨r,r,r,r,trivial⟩ ?_;refine wl (fun n_ l_ w_=>∃ C:Int,∃ J:Int,l_=[(0,.string (bs E)),(1,I q),(6,I C),(7,I J)]∧rf_digits.l1 n_ E q C J=some r_∧St w (KS []) w_ []) k ⟨0,0,r,hF,S⟩ ?_;rintro ae _ ah ⟨C,J,rfl,hF,ab⟩;obtain _ | af:=ae
 · exact nn hF
 rw [rf_digits.l1] at hF;refine wq (q2 (mv r (mv r (wp (G.lenb T.str9 r) r (wp (gls r r r) r (nw ?_))))));obtain ⟨Y,hF⟩|⟨Y,hF⟩:=io hF
 ·refine ct r (dt Y) (wsk (we (wq (wbl (q2 (mv r (mv r ?_)))))));obtain ⟨c9,Z,hF⟩:=bo hF;refine wp (G.idxb T.str9 r r Z) r (mv r ?_);obtain ⟨D,aa,hF⟩:=bo hF;refine wk T.c143 (rf_value_calls af ((c9).toNat:Int) q aa) ?_;rintro _ ag ⟨rfl,ad⟩;have O:=scT ad ab;refine ⟨_,r,(av r (nw (wq (q2 (mv r (wp (gls r r r) r (nw ?_)))))))⟩;obtain ⟨V,hF⟩|⟨V,hF⟩:=io hF
  ·refine ct r (dt V) (q2 (av r (av r (nw (wrt (wtr (wir (wtr (wtr (wir (wtr ?_)))))))))));cases hF;refine WEx.ret2 r r r ?_;exact ⟨r,sk O⟩
  ·refine cf r (df V) (wsk (we (q2 (mv r (mv r (wp (G.mul r r (r:=(w64 (C * q))) r) r (mv r (wp (gad r r (r:=(w64 ((w64 (C * q))+D))) r) r (av r (nq (mv r (wp (G.gtr r r r) r (nw ?_)))))))))))));obtain ⟨X,hF⟩|⟨X,hF⟩:=io hF
   ·refine WCode.cond_t (kb (b:=decide (4294967295 < (w64 ((w64 (C * q))+D)))) r (dt X)) (q2 (av r (av r (nw (wrt (wir (wtr (wtr (wir (wtr ?_))))))))));cases hF;refine WEx.ret2 r r r ?_;exact ⟨r,sk O⟩
   ·refine WCode.cond_f (kb (b:=decide (4294967295 < (w64 ((w64 (C * q))+D)))) r (df X)) (wsk (win (we (wr (mv r (wp (gad r r (r:=(w64 (J+1))) r) r (av r (wn ?_))))))));refine wag _ _ (by omega) ?_ ⟨w64 ((w64 (C * q))+D),w64 (J+1),r,hF,O⟩;exact ⟨r,r,r,r,trivial⟩
 ·refine cf r (df Y) (wxt (wte (wte (wie (we (q2 (mv r (mv r (wp (G.neqlb' r r r) r (av r (av r (nw (wrt ?_)))))))))))));cases hF;refine WEx.ret2 r r r ?_;exact ⟨r,sk ab⟩
def rf_number.j1 (C:Nat) (q:By) (O:Bool):Option (Int×Bool):=(if O=true then ((cut q 2 (q.length:Int)).bind fun V=>(rf_digits C V 16).bind fun D=>some (D.1,D.2)) else (idx q 0).bind fun c28=>if ((c28).toNat:Int)=48 then ((cut q 1 (q.length:Int)).bind fun X=>(rf_digits C X 8).bind fun E=>some (E.1,E.2)) else (rf_digits C q 10).bind fun J=>some (J.1,J.2))
def rf_number (k:Nat) (q:By) (E:Bool):Option (Int×Bool):=(if E=true then ((rf_digits k q 10).bind fun C=>if C.2=true then ((idx q 0).bind fun c8=>if ((c8).toNat:Int)=48 then (some (w64 (-C.1),false)) else some (w64 (-C.1),decide (C.1≤2147483648))) else some (w64 (-C.1),false)) else if q=[48] then (some (0,true)) else if 2 < (q.length:Int) then ((cut q 0 2).bind fun D=>rf_number.j1 k q (decide (D=[48,120]))) else rf_number.j1 k q false)
theorem rf_number_calls (k:Nat) (E:By) (ae:Bool) {w:World} {r_:Int×Bool} (hF:rf_number k E ae=some r_) :
    Calls TP 83 [.string (bs E),.bool ae].toArray w fun e w'=>e = .returned (.tuple #[I r_.1,.bool r_.2])∧St w (KS []) w' []:=by
 unfold rf_number at hF;have S:=sff (As:=[]) (St.init0 w);refine enter 57 [(0,.string (bs E)),(1,.bool ae)] Tryz.func83 r r r r ?_;refine q2 (av r (av r (nw (wq (wbl (q2 (mv r (av r (nw ?_)))))))));obtain ⟨af,hF⟩|⟨af,hF⟩:=io hF
 ·refine ct r af (q2 (mv r ?_));obtain ⟨O,ao,hF⟩:=bo hF;refine wk T.c121 (rf_digits_calls k E 10 ao) ?_;rintro _ aJ ⟨rfl,aD⟩;have ag:=sc (As:=[]) S aD;refine ⟨_,r,(mv r (wp (gx r r) r (wp (gx r r) r (av r (av r (nw (q2 (mv r (wp (G.neg r (r:=(w64 (-O.1))) r) r (mv r (mv r ?_)))))))))))⟩;obtain ⟨D,hF⟩|⟨D,hF⟩:=io hF
  ·refine won r D (mv r (won r D ?_));obtain ⟨c8,ap,hF⟩:=bo hF;refine wp (G.idxb T.str9 r r ap) r (won r D (wp (gnq r r r) r (wp (gpt (kb r D) r) r (mv r ?_))));obtain ⟨C,hF⟩|⟨C,hF⟩:=io hF
   ·refine wo0 r (kbl (b:=!(decide (((c8).toNat:Int)=48))) r (nf (dt C))) r r (wo0 r (kbl (b:=!(decide (((c8).toNat:Int)=48))) r (nf (dt C))) r r (wp (gpf (kb (b:=!(decide (((c8).toNat:Int)=48))) r (nf (dt C))) r) r (av r (av r (nw (wrt (wir (wtr ?_))))))));cases hF;refine WEx.ret2 r r r ?_;exact ⟨r,sk ag⟩
   ·refine wo1 r (kbl (b:=!(decide (((c8).toNat:Int)=48))) r (nt (df C))) (mv r (wo1 r (kbl (b:=!(decide (((c8).toNat:Int)=48))) r (nt (df C))) (wp (glq r r r) r (wp (gpt (kb (b:=!(decide (((c8).toNat:Int)=48))) r (nt (df C))) r) r (av r (av r (nw (wrt (wir (wtr ?_))))))))));cases hF;refine WEx.ret2 r r r ?_;exact ⟨r,sk ag⟩
  ·refine wof r (bf D) r (wof r (bf D) r (wof r (bf D) r (wp (gpf (kb r (bf D)) r) r (mv r (wo0 r r r r (wo0 r r r r (wp (gpf r r) r (av r (av r (nw (wrt (wir (wtr ?_)))))))))))));cases hF;refine WEx.ret2 r r r ?_;exact ⟨r,sk ag⟩
 ·refine cf r (bf af) (q2 (mv r (wp (G.eqlb' r r r) r (av r (nw ?_)))));obtain ⟨V,hF⟩|⟨V,hF⟩:=io hF
  ·refine ct r (dt V) (q2 (av r (av r (nw (wrt (wir (wtr ?_)))))));cases hF;refine WEx.ret2 r r r ?_;exact ⟨r,sk (As:=[]) S⟩
  ·refine cf r (df V) ?_;refine wqs (fun l_ w_=>∃ J:Nat,∃ X:Bool,l_=[(0,.string (bs E)),(30,.bool X)]∧rf_number.j1 J E X=some r_∧St w (KS []) w_ []) ?_ ?_
   ·refine wr (mv r (wp (G.lenb T.str9 r) r (wp (G.gtr r r r) r (mv r ?_))));obtain ⟨q,hF⟩|⟨q,hF⟩:=io hF
    ·refine won r (dt q) (mv r (won r (dt q) ?_));obtain ⟨aq,ah,hF⟩:=bo hF;refine wp (G.cutb_h T.str9 r r ah) r (won r (dt q) (wp (G.eqlb' r r r) r (wp (gpt (kb r (dt q)) r) r (av r (wn ?_)))));change St _ _ _ [] at S;refine wx _ ?_ ⟨k,decide (aq=[48,120]),r,hF,S⟩;exact ⟨r,r,trivial⟩
    ·refine wof r (df q) r (wof r (df q) r (wof r (df q) r (wp (gpf (kb r (df q)) r) r (av r (wn ?_)))));refine wx _ ?_ ⟨k,false,r,hF,S⟩;exact ⟨r,r,trivial⟩
   ·rintro _ aE ⟨J,X,rfl,hF,Y⟩;unfold rf_number.j1 at hF;obtain ⟨Z,hF⟩|⟨Z,hF⟩:=io hF
    ·refine ct r Z (q2 (mv r ?_));obtain ⟨ar,ai,hF⟩:=bo hF;refine wp (G.cutb_l T.str9 r r ai) r ?_;obtain ⟨aF,aj,hF⟩:=bo hF;refine wk T.c121 (rf_digits_calls J ar 16 aj) ?_;rintro _ aG ⟨rfl,au⟩;have ax:=scT au Y;refine ⟨_,r,(wp (gx r r) r (wp (gx r r) r (av r (av r (nw (wrt (wir (wtr ?_))))))))⟩;cases hF;refine WEx.ret2 r r r ?_;exact ⟨r,sk ax⟩
    ·refine cf r (bf Z) (q2 (mv r ?_));obtain ⟨c28,ak,hF⟩:=bo hF;refine wp (G.idxb T.str9 r r ak) r (wp (geq r r r) r (av r (nw ?_)));obtain ⟨aa,hF⟩|⟨aa,hF⟩:=io hF
     ·refine ct r (dt aa) (q2 (mv r ?_));obtain ⟨ay,al,hF⟩:=bo hF;refine wp (G.cutb_l T.str9 r r al) r ?_;obtain ⟨ab,am,hF⟩:=bo hF;refine wk T.c121 (rf_digits_calls J ay 8 am) ?_;rintro _ aH ⟨rfl,az⟩;have aA:=scT az Y;refine ⟨_,r,(wp (gx r r) r (wp (gx r r) r (av r (av r (nw (wrt (wir (wtr ?_))))))))⟩;cases hF;refine WEx.ret2 r r r ?_;exact ⟨r,sk aA⟩
     ·refine cf r (df aa) (wsk (win (we (q2 (mv r ?_)))));obtain ⟨ad,an,hF⟩:=bo hF;refine wk T.c121 (rf_digits_calls J E 10 an) ?_;rintro _ aI ⟨rfl,aB⟩;have aC:=scT aB Y;refine ⟨_,r,(wp (gx r r) r (wp (gx r r) r (av r (av r (nw (wrt ?_))))))⟩;cases hF;refine WEx.ret2 r r r ?_;exact ⟨r,sk aC⟩
mutual
def rf_IsWord.j1:Nat→By→Int→Int→Bool→Option Bool
  | 0,_,_,_,_=>none
  | J+1,q,D,C,O=>if O=true then ((cut [32,98,111,111,108,32,99,97,115,101,32,99,111,110,115,116,32,100,101,102,97,117,108,116,32,100,111,117,98,108,101,32,101,110,117,109,32,102,108,111,97,116,32,104,121,112,101,114,32,105,110,116,32,111,112,97,113,117,101,32,112,114,111,103,114,97,109,32,113,117,97,100,114,117,112,108,101,32,115,116,114,105,110,103,32,115,116,114,117,99,116,32,115,119,105,116,99,104,32,116,121,112,101,100,101,102,32,117,110,105,111,110,32,117,110,115,105,103,110,101,100,32,118,101,114,115,105,111,110,32,118,111,105,100,32] C (w64 (C+(w64 ((q.length:Int)+2))))).bind fun V=>(cat ([32]:By) q).bind fun X=>(cat X [32]).bind fun Y=>if V=Y then (some true) else rf_IsWord.l1 J q D (w64 (C+1))) else some false
def rf_IsWord.l1:Nat→By→Int→Int→Option Bool
  | 0,_,_,_=>none
  | E+1,q,D,C=>(if (w64 (C+(w64 ((q.length:Int)+2))))≤135 then (if q=[] then (rf_IsWord.j1 E q D C false) else (rf_IsWord.j1 E q D C (decide (D=(q.length:Int))))) else (rf_IsWord.j1 E q D C false))
end
def rf_IsWord (k:Nat) (q:By):Option Bool:=((rf_run k q 0).bind fun C=>rf_IsWord.l1 k q C 0)
theorem rf_IsWord_calls (k:Nat) (q:By) {w:World} {r_:Bool} (hF:rf_IsWord k q=some r_) :
    Calls TP 81 [.string (bs q)].toArray w fun e w'=>e = .returned (.bool r_)∧St w (KS []) w' []:=by
 unfold rf_IsWord at hF;have S:=sff (As:=[]) (St.init0 w);refine enter 36 [(0,.string (bs q))] Tryz.func81 r r r r ?_;refine q2 (av r (nq (mv r (wp (G.lenb T.str9 r) r (wp (gad r r (r:=(w64 ((q.length:Int)+2))) r) r (av r (nq (mv r ?_))))))));obtain ⟨J,ag,hF⟩:=bo hF;refine wk T.c80 (rf_run_calls k q 0 ag) ?_;rintro _ aq ⟨rfl,ai⟩;have aj:=sc (As:=[]) S ai;refine ⟨_,r,(mv r (wp (G.lenb T.str9 r) r (wp (geq r r r) r (av r (nw (wq (q2 (av r (nw (wbl (wg (l':=[(0,.string (bs q)),(3,I (w64 ((q.length:Int)+2))),(4,.bool (decide (J=(q.length:Int)))),(5,I 0)]) ⟨r,r,r,r,trivial⟩ ?_)))))))))))⟩;refine wl (fun n_ l_ w_=>∃ C:Int,l_=[(0,.string (bs q)),(3,I (w64 ((q.length:Int)+2))),(4,.bool (decide (J=(q.length:Int)))),(5,I C)]∧rf_IsWord.l1 n_ q J C=some r_∧St w (KS []) w_ []) k ⟨0,r,hF,aj⟩ ?_;rintro ah _ ar ⟨C,rfl,hF,ab⟩;obtain _ | aa:=ah
 · exact nn hF
 rw [rf_IsWord.l1] at hF;refine wq ?_;refine wqs (fun l_ w_=>∃ O:Nat,∃ V:Bool,l_=[(0,.string (bs q)),(3,I (w64 ((q.length:Int)+2))),(4,.bool (decide (J=(q.length:Int)))),(5,I C),(24,.bool V)]∧rf_IsWord.j1 O q J C V=some r_∧O≤aa∧St w (KS []) w_ []) ?_ ?_
 ·refine wr (mv r (mv r (wp (gad r r (r:=(w64 (C+(w64 ((q.length:Int)+2))))) r) r (wp (glq r r r) r (mv r ?_)))));obtain ⟨D,hF⟩|⟨D,hF⟩:=io hF
  ·refine wo1 r (kbl (b:=decide ((w64 (C+(w64 ((q.length:Int)+2))))≤135)) r (dt D)) (mv r (wo1 r (kbl (b:=decide ((w64 (C+(w64 ((q.length:Int)+2))))≤135)) r (dt D)) (wp (G.neqlb' r r r) r (wp (gpt (kb (b:=decide ((w64 (C+(w64 ((q.length:Int)+2))))≤135)) r (dt D)) r) r (mv r ?_)))));obtain ⟨E,hF⟩|⟨E,hF⟩:=io hF
   ·refine wo0 r (kbl r (nf (dt E))) r r (wp (gpf (kb r (nf (dt E))) r) r (wn ?_));refine wx _ ?_ ⟨aa,false,r,hF,(by omega),ab⟩;exact ⟨r,r,r,r,r,trivial⟩
   ·refine wo1 r (kbl r (nt (df E))) (mv r (wp (gpt (kb r (nt (df E))) r) r (wn ?_)));refine wx _ ?_ ⟨aa,decide (J=(q.length:Int)),r,hF,(by omega),ab⟩;exact ⟨r,r,r,r,r,trivial⟩
  ·refine wo0 r (kbl (b:=decide ((w64 (C+(w64 ((q.length:Int)+2))))≤135)) r (df D)) r r (wo0 r (kbl (b:=decide ((w64 (C+(w64 ((q.length:Int)+2))))≤135)) r (df D)) r r (wp (gpf (kb (b:=decide ((w64 (C+(w64 ((q.length:Int)+2))))≤135)) r (df D)) r) r (mv r (wo0 r r r r (wp (gpf r r) r (wn ?_))))));refine wx _ ?_ ⟨aa,false,r,hF,(by omega),ab⟩;exact ⟨r,r,r,r,r,trivial⟩
 ·rintro _ al ⟨O,V,rfl,hF,ak,X⟩;obtain _ | am:=O
  · exact nn hF
  rw [rf_IsWord.j1] at hF;obtain ⟨Y,hF⟩|⟨Y,hF⟩:=io hF
  ·refine ct r Y (wsk (we (wq (wbl (q2 (mv r (mv r (mv r (wp (gad r r (r:=(w64 (C+(w64 ((q.length:Int)+2))))) r) r ?_)))))))));obtain ⟨an,ad,hF⟩:=bo hF;refine wp (G.cutb_lh T.str9 r r r ad) r (mv r ?_);obtain ⟨ao,ae,hF⟩:=bo hF;refine wp (G.catb r r ae) r ?_;obtain ⟨ap,af,hF⟩:=bo hF;refine wp (G.catb r r af) r (wp (G.eqlb' r r r) r (nw ?_));obtain ⟨Z,hF⟩|⟨Z,hF⟩:=io hF
   ·refine ct r (dt Z) (q2 (av r (nw (wrt (wir (wtr (wtr (wir (wtr ?_)))))))));cases hF;refine wr1 r r ?_;exact ⟨r,sk X⟩
   ·refine cf r (df Z) (wsk (win (we (wr (mv r (wp (gad r r (r:=(w64 (C+1))) r) r (av r (wn ?_))))))));refine wag _ _ (by omega) ?_ ⟨w64 (C+1),r,hF,X⟩;exact ⟨r,r,r,r,trivial⟩
  ·refine cf r (bf Y) (wxt (wte (wte (wie (we (q2 (av r (nw (wrt ?_)))))))));cases hF;refine wr1 r r ?_;exact ⟨r,sk X⟩
def rf_one.j1 (J:Nat) (E:Int) (C:Int) (q:By) (D:Int):Option (Token×Int×Int):=(if 32 < (q.length:Int) then (some ((⟨0,[],0,0⟩:Token),0,32)) else (some ((⟨D,q,0,E⟩:Token),C,0)))
def rf_one.j3 (q:Nat) (O:By) (C:Int) (c7:UInt8) (D:Int) (V:Bool):Option (Token×Int×Int):=(if V=true then ((rf_run q O D).bind fun E=>(cut O D E).bind fun X=>(rf_number q X (decide (((c7).toNat:Int)=45))).bind fun J=>if J.2=true then (some ((⟨3,[],J.1,C⟩:Token),E,0)) else some ((⟨0,[],0,0⟩:Token),0,31)) else (rf_sign q ((c7).toNat:Int)).bind fun Y=>if Y=true then ((cut O C (w64 (C+1))).bind fun Z=>some ((⟨4,Z,0,C⟩:Token),w64 (C+1),0)) else some ((⟨0,[],0,0⟩:Token),0,30))
def rf_one.j2 (C:Nat) (D:By) (E:Int) (c7:UInt8) (q:Int):Option (Token×Int×Int):=(if q < (D.length:Int) then ((idx D q).bind fun c64=>(rf_digit C ((c64).toNat:Int)).bind fun J=>rf_one.j3 C D E c7 q J) else rf_one.j3 C D E c7 q false)
def rf_one (k:Nat) (C:By) (q:Int):Option (Token×Int×Int):=((idx C q).bind fun c7=>(rf_letter k ((c7).toNat:Int)).bind fun O=>if O=true then ((rf_run k C q).bind fun D=>(cut C q D).bind fun E=>(rf_IsWord k E).bind fun J=>if J=true then (rf_one.j1 k q D E 2) else rf_one.j1 k q D E 1) else if ((c7).toNat:Int)=45 then (rf_one.j2 k C q c7 (w64 (q+1))) else rf_one.j2 k C q c7 q)
theorem rf_one_calls (k:Nat) (E:By) (q:Int) {w:World} {r_:Token×Int×Int} (hF:rf_one k E q=some r_) :
    Calls TP 41 [.string (bs E),I q].toArray w fun e w'=>e = .returned (.tuple #[.agg (ka r_.1),I r_.2.1,I r_.2.2])∧St w (KS []) w' []:=by
 unfold rf_one at hF;have S:=sff (As:=[]) (St.init0 w);refine enter 94 [(0,.string (bs E)),(1,I q)] Tryz.func41 r r r r ?_;refine q2 ?_;obtain ⟨C,bH,be,bg,bI,bJ⟩:=sv S (z:=.agg #[I 0,.string (bs []),I 0,I 0]) T.z41;refine wee be r (av r (av r (nq (mv r (mv r ?_)))));obtain ⟨c7,aT,hF⟩:=bo hF;refine wp (G.idxb T.str9 r r aT) r (av r (nq (mv r ?_)));obtain ⟨bK,aG,hF⟩:=bo hF;refine wk T.c79 (rf_letter_calls k ((c7).toNat:Int) aG) ?_;rintro _ bi ⟨rfl,aU⟩;have ab:=scT aU bg;refine ⟨_,r,(av r (nw (wq (q2 (mv r (nw ?_))))))⟩;obtain ⟨ad,hF⟩|⟨ad,hF⟩:=io hF
 ·refine ct r ad (q2 (mv r (mv r ?_)));obtain ⟨Z,aH,hF⟩:=bo hF;refine wk T.c80 (rf_run_calls k E q aH) ?_;rintro _ bj ⟨rfl,aV⟩;have aW:=scT aV ab;refine ⟨_,r,(av r (nw (q2 (mv r (mv r (mv r ?_))))))⟩;obtain ⟨D,aI,hF⟩:=bo hF;refine wp (G.cutb_lh T.str9 r r r aI) r (mv r (wp (gb (cells:=#[I 1,.string (bs D),I 0,I q]) (fs_ (fc r (fc r (fc r fn_)))) (by kernel_rfl)) r ?_));obtain ⟨ae,bk,aX,aY,bl,bm⟩:=sv aW (z:=.agg #[I 0,.string (bs []),I 0,I 0]) T.z41;refine wee aX r ?_;obtain ⟨bn,aZ,aq⟩:=sw aY 0 #[I 1,.string (bs D),I 0,I q] T.s41_4 r r r r;refine wuu (aZ r r) (nq (wp (gf T.f41_1 r r) r (wrr (gl T.o9 r (cbk (aq.blk 0 r) r)) r ?_)));obtain ⟨a0,aJ,hF⟩:=bo hF;refine wk T.c81 (rf_IsWord_calls k D aJ) ?_;rintro _ bp ⟨rfl,a1⟩;have ar:=scT a1 aq;refine ⟨_,r,(av r (nw (wg (l':=[(4,(Pt C)),(9,I Z),(10,(Pt ae)),(11,.bool a0)]) ⟨r,r,r,r,trivial⟩ ?_)))⟩;refine wqs (fun l_ w_=>∃ au:Nat,∃ J:Int,l_=[(4,(Pt C)),(9,I Z),(10,(Pt ae))]∧rf_one.j1 au q Z D J=some r_∧St w (KS []) w_ [(B ae #[I J,.string (bs D),I 0,I q] 41),(B C #[I 0,.string (bs []),I 0,I 0] 41)]) ?_ ?_
  ·refine q2 (mv r (nw ?_));obtain ⟨af,hF⟩|⟨af,hF⟩:=io hF
   ·refine ct r af (wr (wp (gf T.f41_0 r r) r ?_));obtain ⟨bq,a2,a3⟩:=so (P:=TP) ar 0 3 (I 2) (off:=0) (cur':=#[I 2,.string (bs D),I 0,I q]) r T.s3_1 r r r;refine wuu (a2 r r) (wn ?_);refine wx _ ?_ ⟨k,2,r,hF,a3⟩;exact ⟨r,r,r,trivial⟩
   ·refine cf r (bf af) (wsk ?_);refine wx _ ?_ ⟨k,1,r,hF,ar⟩;exact ⟨r,r,r,trivial⟩
  ·rintro _ br ⟨au,J,rfl,hF,aa⟩;unfold rf_one.j1 at hF;refine wq (q2 (wp (gf T.f41_1 r r) r (wrr (gl T.o9 r (cbk (aa.blk 0 r) r)) r (wp (G.lenb T.str9 r) r (wp (G.gtr r r r) r (nw ?_))))));obtain ⟨ag,hF⟩|⟨ag,hF⟩:=io hF
   ·refine ct r (dt ag) (q2 (wp (gb (cells:=#[I 0,.string (bs []),I 0,I 0]) (fs_ (fn_)) (by kernel_rfl)) r ?_));obtain ⟨bt,a4,ax⟩:=sw aa 1 #[I 0,.string (bs []),I 0,I 0] T.s41_4 r r r r;refine wuu (a4 r r) (av r (av r (nw (wrt (wtr (wtr ?_))))));cases hF;refine WEx.retc2 r r (cs:=[I 0,.string (bs []),I 0,I 0]) T.g41_4 (cb (ax.blk 1 r) r) r r ?_;exact ⟨r,sk ax⟩
   ·refine cf r (df ag) (wsk (we (q2 (wrr (gla T.g41_4 r (cs:=[I J,.string (bs D),I 0,I q]) (cb (aa.blk 0 r) r)) r (mv r ?_)))));obtain ⟨bu,a5,ay⟩:=sw aa 1 #[I J,.string (bs D),I 0,I q] T.s41_4 r r r r;refine wuu (a5 r r) (av r (av r (nw (wrt (wtr ?_)))));cases hF;refine WEx.retc2 r r (cs:=[I J,.string (bs D),I 0,I q]) T.g41_4 (cb (ay.blk 1 r) r) r r ?_;exact ⟨r,sk ay⟩
 ·refine cf r (bf ad) (wsk (we (q2 (mv r (wp (geq r r r) r (av r (nw (q2 (mv r (av r (nw ?_)))))))))));refine wqs (fun l_ w_=>∃ V:Nat,∃ O:Int,l_=[(0,.string (bs E)),(1,I q),(4,(Pt C)),(7,.int .u8 ((c7).toNat:Int)),(12,.bool (decide (((c7).toNat:Int)=45))),(13,I O)]∧rf_one.j2 V E q c7 O=some r_∧St w (KS []) w_ [(B C #[I 0,.string (bs []),I 0,I 0] 41)]) ?_ ?_
  ·refine q2 (mv r (nw ?_));obtain ⟨ah,hF⟩|⟨ah,hF⟩:=io hF
   ·refine ct r (dt ah) (wr (mv r (wp (gad r r (r:=(w64 (q+1))) r) r (av r (wn ?_)))));refine wx _ ?_ ⟨k,w64 (q+1),r,hF,ab⟩;exact ⟨r,r,r,r,r,r,trivial⟩
   ·refine cf r (df ah) (wsk ?_);refine wx _ ?_ ⟨k,q,r,hF,ab⟩;exact ⟨r,r,r,r,r,r,trivial⟩
  ·rintro _ bv ⟨V,O,rfl,hF,az⟩;unfold rf_one.j2 at hF;refine q2 (av r (nw ?_));refine wqs (fun l_ w_=>∃ X:Nat,∃ ai:Bool,l_=[(0,.string (bs E)),(1,I q),(4,(Pt C)),(7,.int .u8 ((c7).toNat:Int)),(12,.bool (decide (((c7).toNat:Int)=45))),(13,I O),(14,.bool ai)]∧rf_one.j3 X E q c7 O ai=some r_∧St w (KS []) w_ [(B C #[I 0,.string (bs []),I 0,I 0] 41)]) ?_ ?_
   ·refine q2 (mv r (mv r (wp (G.lenb T.str9 r) r (wp (gls r r r) r (nw ?_)))));obtain ⟨aj,hF⟩|⟨aj,hF⟩:=io hF
    ·refine ct r (dt aj) (wr (mv r (mv r ?_)));obtain ⟨c64,aK,hF⟩:=bo hF;refine wp (G.idxb T.str9 r r aK) r ?_;obtain ⟨a6,aL,hF⟩:=bo hF;refine wk T.c82 (rf_digit_calls V ((c64).toNat:Int) aL) ?_;rintro _ bx ⟨rfl,a7⟩;have a8:=scT a7 az;refine ⟨_,r,(av r (wn ?_))⟩;refine wx _ ?_ ⟨V,a6,r,hF,a8⟩;exact ⟨r,r,r,r,r,r,r,trivial⟩
    ·refine cf r (df aj) (wsk ?_);refine wx _ ?_ ⟨V,false,r,hF,az⟩;exact ⟨r,r,r,r,r,r,r,trivial⟩
   ·rintro _ bz ⟨X,ai,rfl,hF,aA⟩;unfold rf_one.j3 at hF;refine wq (q2 (mv r (nw ?_)));obtain ⟨ak,hF⟩|⟨ak,hF⟩:=io hF
    ·refine ct r ak (q2 (mv r (mv r ?_)));obtain ⟨aB,aM,hF⟩:=bo hF;refine wk T.c80 (rf_run_calls X E O aM) ?_;rintro _ bA ⟨rfl,a9⟩;have aw:=scT a9 aA;refine ⟨_,r,(av r (nq (mv r (mv r (mv r ?_)))))⟩;obtain ⟨a',aN,hF⟩:=bo hF;refine wp (G.cutb_lh T.str9 r r r aN) r (mv r ?_);obtain ⟨Y,aO,hF⟩:=bo hF;refine wk T.c83 (rf_number_calls X a' (decide (((c7).toNat:Int)=45)) aO) ?_;rintro _ bB ⟨rfl,ba⟩;have aC:=scT ba aw;refine ⟨_,r,(mv r (wp (gx r r) r (wp (gx r r) r (av r (av r (nw (wq (q2 (mv r (wp (gnt r r) r (nw ?_)))))))))))⟩;obtain ⟨al,hF⟩|⟨al,hF⟩:=io hF
     ·refine cf r (nf al) (wsk (we (q2 (mv r (mv r (wp (gb (cells:=#[I 3,.string (bs []),I Y.1,I q]) (fs_ (fc r (fc r (fc r fn_)))) (by kernel_rfl)) r (mv r ?_)))))));obtain ⟨bC,bb,aD⟩:=sw aC 0 #[I 3,.string (bs []),I Y.1,I q] T.s41_4 r r r r;refine wuu (bb r r) (av r (av r (nw (wrt (wtr ?_)))));cases hF;refine WEx.retc2 r r (cs:=[I 3,.string (bs []),I Y.1,I q]) T.g41_4 (cb (aD.blk 0 r) r) r r ?_;exact ⟨r,sk aD⟩
     ·refine ct r (nt (bf al)) (q2 (wp (gb (cells:=#[I 0,.string (bs []),I 0,I 0]) (fs_ (fn_)) (by kernel_rfl)) r ?_));obtain ⟨bD,bc,aE⟩:=sw aC 0 #[I 0,.string (bs []),I 0,I 0] T.s41_4 r r r r;refine wuu (bc r r) (av r (av r (nw (wrt (wtr (wtr ?_))))));cases hF;refine WEx.retc2 r r (cs:=[I 0,.string (bs []),I 0,I 0]) T.g41_4 (cb (aE.blk 0 r) r) r r ?_;exact ⟨r,sk aE⟩
    ·refine cf r (bf ak) (wsk (we (q2 (mv r ?_))));obtain ⟨bE,aP,hF⟩:=bo hF;refine wk T.c84 (rf_sign_calls X ((c7).toNat:Int) aP) ?_;rintro _ bF ⟨rfl,bd⟩;have aF:=scT bd aA;refine ⟨_,r,(av r (nw (wq (q2 (mv r (wp (gnt r r) r (nw ?_)))))))⟩;obtain ⟨am,hF⟩|⟨am,hF⟩:=io hF
     ·refine cf r (nf am) (wsk (we (q2 (mv r (mv r (mv r (wp (gad r r (r:=(w64 (q+1))) r) r ?_)))))));obtain ⟨an,aQ,hF⟩:=bo hF;refine wp (G.cutb_lh T.str9 r r r aQ) r (mv r (wp (gb (cells:=#[I 4,.string (bs an),I 0,I q]) (fs_ (fc r (fc r (fc r fn_)))) (by kernel_rfl)) r (mv r (wp (gad r r (r:=(w64 (q+1))) r) r ?_))));obtain ⟨bG,aR,ao⟩:=sw aF 0 #[I 4,.string (bs an),I 0,I q] T.s41_4 r r r r;refine wuu (aR r r) (av r (av r (nw (wrt ?_))));cases hF;refine WEx.retc2 r r (cs:=[I 4,.string (bs an),I 0,I q]) T.g41_4 (cb (ao.blk 0 r) r) r r ?_;exact ⟨r,sk ao⟩
     ·refine ct r (nt (bf am)) (q2 (wp (gb (cells:=#[I 0,.string (bs []),I 0,I 0]) (fs_ (fn_)) (by kernel_rfl)) r ?_));obtain ⟨bh,aS,ap⟩:=sw aF 0 #[I 0,.string (bs []),I 0,I 0] T.s41_4 r r r r;refine wuu (aS r r) (av r (av r (nw (wrt (wtr ?_)))));cases hF;refine WEx.retc2 r r (cs:=[I 0,.string (bs []),I 0,I 0]) T.g41_4 (cb (ap.blk 0 r) r) r r ?_;exact ⟨r,sk ap⟩
mutual
def rf_Scan.j2:Nat→By→List Token→Int→Option ((List Token)×Int×Int)
  | 0,_,_,_=>none
  | V+1,q,D,C=>(rf_one V q C).bind fun J=>if J.2.2=0 then ((cat D ([J.1]:List Token)).bind fun Y=>rf_Scan.l1 V q Y J.2.1) else some ([],J.2.2,C)
def rf_Scan.j1:Nat→By→List Token→Int→UInt8→Bool→Option ((List Token)×Int×Int)
  | 0,_,_,_,_,_=>none
  | E+1,q,D,C,c18,Z=>if Z=true then (rf_Scan.l1 E q D (w64 (C+1))) else if ((c18).toNat:Int)=47 then (if (w64 (C+1)) < (q.length:Int) then ((idx q (w64 (C+1))).bind fun c36=>if ((c36).toNat:Int)=42 then ((rf_comment E q C).bind fun X=>if X=0 then (some ([],33,C)) else rf_Scan.l1 E q D X) else rf_Scan.j2 E q D C) else rf_Scan.j2 E q D C) else rf_Scan.j2 E q D C
def rf_Scan.l1:Nat→By→List Token→Int→Option ((List Token)×Int×Int)
  | 0,_,_,_=>none
  | O+1,q,D,C=>if C < (q.length:Int) then ((idx q C).bind fun c18=>if ((c18).toNat:Int)=32 then (rf_Scan.j1 O q D C c18 true) else if ((c18).toNat:Int)=9 then (rf_Scan.j1 O q D C c18 true) else if ((c18).toNat:Int)=10 then (rf_Scan.j1 O q D C c18 true) else rf_Scan.j1 O q D C c18 (decide (((c18).toNat:Int)=13))) else (cat D ([(⟨5,[],0,(q.length:Int)⟩:Token)]:List Token)).bind fun aa=>some (aa,0,0)
end
def rf_Scan (k:Nat) (q:By):Option ((List Token)×Int×Int):=(if 16000 < (q.length:Int) then (some ([],34,16000)) else (rf_Scan.l1 k q [] 0))
theorem rf_Scan_calls (k:Nat) (q:By) {w:World} {r_:(List Token)×Int×Int} (hF:rf_Scan k q=some r_) :
    Calls TP 25 [.string (bs q)].toArray w fun e w'=>∃ ar:OA,∃ au:Nat,∃ ax:Grp,e = .returned (.tuple #[.slice ar (r_.1).length au,I r_.2.1,I r_.2.2])∧SlO 41 Token.rp (.slice ar (r_.1).length au) (r_.1) ax∧St w (KS []) w' [ax]:=by
 unfold rf_Scan at hF;have S:=sff (As:=[]) (St.init0 w);refine enter 83 [(0,.string (bs q))] Tryz.func25 r r r r ?_;refine q2 (av r (av r (av r (nw (wq (q2 (mv r (wp (G.lenb T.str9 r) r (wp (G.gtr r r r) r (nw ?_))))))))));obtain ⟨aD,hF⟩|⟨aD,hF⟩:=io hF
 ·refine ct r (dt aD) (q2 (av r (av r (av r (nw (wrt (wtr ?_)))))));cases hF;refine WEx.ret3 r r r r ?_;have bb:=S.emp;exact ⟨none,0,[],r,(sn 41 Token.rp),sk bb⟩
 ·refine cf r (df aD) (wsk (we (q2 (av r (nq (av r (nw (wq (wbl ?_)))))))));have aM:=S.emp;refine wg (l':=[(0,.string (bs q)),(5,.slice none 0 0),(6,I 0)]) ⟨r,r,r,trivial⟩ ?_;refine wl (fun n_ l_ w_=>∃ Z:OA,∃ aa:Nat,∃ J:List Token,∃ ag:Grp,∃ C:Int,l_=[(0,.string (bs q)),(5,.slice Z J.length aa),(6,I C)]∧rf_Scan.l1 n_ q J C=some r_∧(SlO 41 Token.rp (.slice Z J.length aa) J ag)∧St w (KS []) w_ [ag]) k ⟨none,0,[],[],0,r,hF,(sn 41 Token.rp),aM⟩ ?_;rintro aN _ bg ⟨Z,aa,J,ag,C,rfl,hF,ah,ab⟩;obtain _ | ad:=aN
  · exact nn hF
  rw [rf_Scan.l1] at hF;refine wq (q2 (mv r (mv r (wp (G.lenb T.str9 r) r (wp (gls r r r) r (nw ?_))))));obtain ⟨ak,hF⟩|⟨ak,hF⟩:=io hF
  ·refine ct r (dt ak) (wsk (we (wbl (q2 (mv r (mv r ?_))))));obtain ⟨c18,aE,hF⟩:=bo hF;refine wp (G.idxb T.str9 r r aE) r (av r (nw (wq ?_)));refine wqs (fun l_ w_=>∃ ai:Nat,∃ al:Bool,l_=[(0,.string (bs q)),(5,.slice Z J.length aa),(6,I C),(7,.int .u8 ((c18).toNat:Int)),(35,.bool al)]∧rf_Scan.j1 ai q J C c18 al=some r_∧ai≤ad∧St w (KS []) w_ [ag]) ?_ ?_
   ·refine wr (mv r (wp (geq r r r) r (mv r ?_)));obtain ⟨V,hF⟩|⟨V,hF⟩:=io hF
    ·refine wof r (dt V) r (wof r (dt V) r (wp (gpt (kb r (dt V)) r) r (mv r (wo0 r r r r (wo0 r r r r (wp (gpt r r) r (mv r (wo0 r r r r (wo0 r r r r (wp (gpt r r) r (wn ?_)))))))))));refine wx _ ?_ ⟨ad,true,r,hF,(by omega),ab⟩;exact ⟨r,r,r,r,r,trivial⟩
    ·refine won r (df V) (mv r (won r (df V) (wp (geq r r r) r (wp (gpf (kb r (df V)) r) r (mv r ?_)))));obtain ⟨X,hF⟩|⟨X,hF⟩:=io hF
     ·refine wof r (dt X) r (wof r (dt X) r (wp (gpt (kb r (dt X)) r) r (mv r (wo0 r r r r (wo0 r r r r (wp (gpt r r) r (wn ?_)))))));refine wx _ ?_ ⟨ad,true,r,hF,(by omega),ab⟩;exact ⟨r,r,r,r,r,trivial⟩
     ·refine won r (df X) (mv r (won r (df X) (wp (geq r r r) r (wp (gpf (kb r (df X)) r) r (mv r ?_)))));obtain ⟨Y,hF⟩|⟨Y,hF⟩:=io hF
      ·refine wof r (dt Y) r (wof r (dt Y) r (wp (gpt (kb r (dt Y)) r) r (wn ?_)));refine wx _ ?_ ⟨ad,true,r,hF,(by omega),ab⟩;exact ⟨r,r,r,r,r,trivial⟩
      ·refine won r (df Y) (mv r (won r (df Y) (wp (geq r r r) r (wp (gpf (kb r (df Y)) r) r (wn ?_)))));refine wx _ ?_ ⟨ad,decide (((c18).toNat:Int)=13),r,hF,(by omega),ab⟩;exact ⟨r,r,r,r,r,trivial⟩
   ·rintro _ bh ⟨ai,al,rfl,hF,bc,ae⟩;obtain _ | af:=ai
    · exact nn hF
    rw [rf_Scan.j1] at hF;obtain ⟨am,hF⟩|⟨am,hF⟩:=io hF
    ·refine ct r am (q2 (mv r (wp (gad r r (r:=(w64 (C+1))) r) r (av r (nw (wxt (wte (wie ?_))))))));refine wag _ _ (by omega) ?_ ⟨Z,aa,J,ag,w64 (C+1),r,hF,ah,ae⟩;exact ⟨r,r,r,trivial⟩
    ·refine cf r (bf am) (wsk (we ?_));refine wqs (fun l_ w_=>∃ aj:Nat,l_=[(0,.string (bs q)),(5,.slice Z J.length aa),(6,I C)]∧rf_Scan.j2 aj q J C=some r_∧aj≤af∧St w (KS []) w_ [ag]) ?_ ?_
     ·refine q2 (mv r (wp (geq r r r) r (mv r ?_)));obtain ⟨D,hF⟩|⟨D,hF⟩:=io hF
      ·refine won r (dt D) (mv r (won r (dt D) (wp (gad r r (r:=(w64 (C+1))) r) r (won r (dt D) (mv r (won r (dt D) (wp (G.lenb T.str9 r) r (won r (dt D) (wp (gls r r r) r (wp (gpt (kb r (dt D)) r) r (mv r ?_)))))))))));obtain ⟨E,hF⟩|⟨E,hF⟩:=io hF
       ·refine won r (dt E) (mv r (won r (dt E) (mv r (won r (dt E) (wp (gad r r (r:=(w64 (C+1))) r) r (won r (dt E) ?_))))));obtain ⟨c36,aF,hF⟩:=bo hF;refine wp (G.idxb T.str9 r r aF) r (won r (dt E) (wp (geq r r r) r (wp (gpt (kb r (dt E)) r) r (nw ?_))));obtain ⟨an,hF⟩|⟨an,hF⟩:=io hF
        ·refine ct r (dt an) (q2 (mv r (mv r ?_)));obtain ⟨ay,aG,hF⟩:=bo hF;refine wk T.c40 (rf_comment_calls af q C aG) ?_;rintro _ bi ⟨rfl,aO⟩;have az:=scT aO ae;refine ⟨_,r,(av r (nw (wq (q2 (mv r (wp (geq r r r) r (nw ?_)))))))⟩;obtain ⟨ao,hF⟩|⟨ao,hF⟩:=io hF
         ·refine ct r (dt ao) (q2 (mv r (av r (av r (av r (nw (wrt (wtr (wtr (wir (wtr (wir (wtr ?_)))))))))))));cases hF;refine WEx.ret3 r r r r ?_;have aP:=az.emp;exact ⟨none,0,[],r,(sn 41 Token.rp),sk aP⟩
         ·refine cf r (df ao) (wsk (we (q2 (mv r (av r (nw (wxt (wte (wie ?_)))))))));refine wag _ _ (by omega) ?_ ⟨Z,aa,J,ag,ay,r,hF,ah,az⟩;exact ⟨r,r,r,trivial⟩
        ·refine cf r (df an) (wsk ?_);refine wx _ ?_ ⟨af,r,hF,(by omega),ae⟩;exact ⟨r,r,r,trivial⟩
       ·refine wof r (df E) r (wof r (df E) r (wof r (df E) r (wof r (df E) r (wof r (df E) r (wp (gpf (kb r (df E)) r) r (nw (WCode.cond_f r (wsk ?_))))))));refine wx _ ?_ ⟨af,r,hF,(by omega),ae⟩;exact ⟨r,r,r,trivial⟩
      ·refine wof r (df D) r (wof r (df D) r (wof r (df D) r (wof r (df D) r (wof r (df D) r (wp (gpf (kb r (df D)) r) r (mv r (wo0 r r r r (wo0 r r r r (wo0 r r r r (wo0 r r r r (wo0 r r r r (wp (gpf r r) r (nw (WCode.cond_f r (wsk ?_)))))))))))))));refine wx _ ?_ ⟨af,r,hF,(by omega),ae⟩;exact ⟨r,r,r,trivial⟩
     ·rintro _ bj ⟨aj,rfl,hF,bd,aQ⟩;obtain _ | aR:=aj
      · exact nn hF
      rw [rf_Scan.j2] at hF;refine q2 (mv r (mv r ?_));obtain ⟨O,aH,hF⟩:=bo hF;refine wk T.c41 (rf_one_calls aR q C aH) ?_;rintro _ bk ⟨rfl,aS⟩;have aT:=scT aS aQ;refine ⟨_,r,(mv r (wp (gx r r) r (wp (gx r r) r (wp (gx r r) r ?_))))⟩;obtain ⟨aU,bl,aV,aW,bm,bn⟩:=sv aT (z:=.agg #[I 0,.string (bs []),I 0,I 0]) T.z41;refine wee aV r ?_;obtain ⟨bp,aX,ap⟩:=sw aW 0 (ka O.1) T.s41_4 r r r r;refine wuu (aX r r) (av r (av r (nw (wq (q2 (mv r (wp (gnq r r r) r (nw ?_))))))));obtain ⟨aq,hF⟩|⟨aq,hF⟩:=io hF
      ·refine WCode.cond_f (kb r (nf (dt aq))) (wsk (we (q2 (mv r (wrr (gla T.g41_4 r (cs:=(kl O.1)) (cb (ap.blk 0 r) r)) r ?_)))));obtain ⟨bq,br,aY,aZ,bt,bu⟩:=sl ap (P:=TP) (t:=37) (e:=41) (n:=1) (vs:=[(0,.agg (ka O.1))]) (cs:=(ka O.1)) (by kernel_rfl);refine wee (aY (fc r fn_)) r ?_;obtain ⟨a0,aI,hF⟩:=bo hF;have aA:=aZ.front 2 r;obtain ⟨a1,c74,a2,bv,a3,aJ,a4,be⟩:=St.appP (P:=TP) (r:=Token.rp) (M:=([O.1]:List Token)) aA T.e37 r ah (Rd.of_blk (aA.blk 1 r) (n:=1) (sz:=4) r) ⟨_,_,[],[],r,r,⟨r,r⟩,⟨r,r⟩⟩ r aI;refine wee (a3 r r) r (av r (nw (wr (mv r (av r (wn (win ?_)))))));refine wag _ _ (by omega) ?_ ⟨a1,c74,a0,a2,O.2.1,r,hF,aJ,(sk a4)⟩;exact ⟨r,r,r,trivial⟩
      ·refine WCode.cond_t (kb r (nt (df aq))) (q2 (mv r (mv r (av r (av r (av r (nw (wrt (wtr (wir (wtr (wir (wtr ?_)))))))))))));cases hF;refine WEx.ret3 r r r r ?_;have a5:=ap.emp;exact ⟨none,0,[],r,(sn 41 Token.rp),sk a5⟩
  ·refine cf r (df ak) (wxt (wte (wte (wie ?_))));refine we (q2 (mv r (mv r (wp (G.lenb T.str9 r) r (wp (gb (cells:=#[I 5,.string (bs []),I 0,I (q.length:Int)]) (fs_ (fc r (fc r fn_))) (by kernel_rfl)) r ?_)))));obtain ⟨bx,bz,a6,a7,bA,bB⟩:=sl ab (P:=TP) (t:=37) (e:=41) (n:=1) (vs:=[(0,.agg #[I 5,.string (bs []),I 0,I (q.length:Int)])]) (cs:=#[I 5,.string (bs []),I 0,I (q.length:Int)]) (by kernel_rfl);refine wee (a6 (fc r fn_)) r ?_;obtain ⟨a8,aK,hF⟩:=bo hF;have aB:=a7.front 1 r;obtain ⟨aC,c94,a9,bC,aw,aL,a',ba⟩:=St.appP (P:=TP) (r:=Token.rp) (M:=([(⟨5,[],0,(q.length:Int)⟩:Token)]:List Token)) aB T.e37 r ah (Rd.of_blk (aB.blk 1 r) (n:=1) (sz:=4) r) ⟨_,_,[],[],r,r,⟨r,r⟩,⟨r,r⟩⟩ r aK;refine wee (aw r r) r (av r (av r (av r (nw (wrt ?_)))));cases hF;refine WEx.ret3 r r r r ?_;exact ⟨aC,c94,a9,r,aL,sk a'⟩
end Go.Proofs.YtnhifhlbelogcaaGreatDoor
set_option maxRecDepth 100000
set_option maxHeartbeats 1000000
namespace Go.Proofs.YtnhifhlbelogcaaGreatDoor
open Go Go.Eng
set_option linter.unusedSimpArgs false
set_option linter.unusedVariables false
theorem T.c100:Callable TP 100:=cm Tryz.func100
theorem T.c128:Callable TP 128:=cm Tryz.func128
theorem T.c135:Callable TP 135:=cm Tryz.func135
theorem T.c31:Callable TP 31:=cm Tryz.func31
theorem T.c51:Callable TP 51:=cm Tryz.func51
theorem T.c52:Callable TP 52:=cm Tryz.func52
theorem T.c53:Callable TP 53:=cm Tryz.func53
theorem T.c54:Callable TP 54:=cm Tryz.func54
theorem T.c55:Callable TP 55:=cm Tryz.func55
theorem T.c91:Callable TP 91:=cm Tryz.func91
theorem T.c92:Callable TP 92:=cm Tryz.func92
theorem T.c95:Callable TP 95:=cm Tryz.func95
theorem T.c98:Callable TP 98:=cm Tryz.func98
theorem T.c99:Callable TP 99:=cm Tryz.func99
theorem T.l64:slEl TP 64=some 1:=by kernel_rfl
theorem T.o5:isOneT TP 5=true:=by kernel_rfl
def st_HasPrefix (k:Nat) (C:By) (q:By):Option Bool:=(if (q.length:Int)≤(C.length:Int) then ((cut C 0 (q.length:Int)).bind fun D=>some (decide (D=q))) else some false)
theorem st_HasPrefix_calls (k:Nat) (D:By) (C:By) {w:World} {r_:Bool} (hF:st_HasPrefix k D C=some r_) :
    Calls TP 128 [.string (bs D),.string (bs C)].toArray w fun e w'=>e = .returned (.bool r_)∧St w (KS []) w' []:=by
 unfold st_HasPrefix at hF;have S:=sff (As:=[]) (St.init0 w);refine enter 18 [(0,.string (bs D)),(1,.string (bs C))] Tryz.func128 r r r r ?_;refine q2 (av r (nq (mv r (wp (G.lenb T.str9 r) r (mv r (wp (G.lenb T.str9 r) r (wp (G.geq r r r) r (mv r ?_))))))));obtain ⟨q,hF⟩|⟨q,hF⟩:=io hF
 ·refine won r (dt q) (mv r (won r (dt q) (mv r (won r (dt q) (wp (G.lenb T.str9 r) r (won r (dt q) ?_))))));obtain ⟨J,E,hF⟩:=bo hF;refine wp (G.cutb_h T.str9 r r E) r (won r (dt q) (mv r (won r (dt q) (wp (G.eqlb' r r r) r (wp (gpt (kb r (dt q)) r) r (av r (nw (wrt ?_))))))));cases hF;refine wr1 r r ?_;exact ⟨r,sk (As:=[]) S⟩
 ·refine wof r (df q) r (wof r (df q) r (wof r (df q) r (wof r (df q) r (wof r (df q) r (wof r (df q) r (wp (gpf (kb r (df q)) r) r (av r (nw (wrt ?_)))))))));cases hF;refine wr1 r r ?_;exact ⟨r,sk (As:=[]) S⟩
def HasPrefix (k:Nat) (q:By) (C:By):Option Bool:=((st_HasPrefix k q C).bind fun D=>some D)
theorem HasPrefix_calls (k:Nat) (q:By) (C:By) {w:World} {r_:Bool} (hF:HasPrefix k q C=some r_) :
    Calls TP 92 [.string (bs q),.string (bs C)].toArray w fun e w'=>e = .returned (.bool r_)∧St w (KS []) w' []:=by
 unfold HasPrefix at hF;have S:=sff (As:=[]) (St.init0 w);refine enter 8 [(0,.string (bs q)),(1,.string (bs C))] Tryz.func92 r r r r ?_;refine q2 (av r (nq (mv r (mv r ?_))));obtain ⟨O,D,hF⟩:=bo hF;refine wk T.c128 (st_HasPrefix_calls k q C D) ?_;rintro _ V ⟨rfl,E⟩;have J:=sc (As:=[]) S E;refine ⟨_,r,(av r (nw (wrt ?_)))⟩;cases hF;refine wr1 r r ?_;exact ⟨r,sk J⟩
def st_CutPrefix (k:Nat) (q:By) (C:By):Option (By×Bool):=((st_HasPrefix k q C).bind fun D=>if D=true then ((cut q (C.length:Int) (q.length:Int)).bind fun m7=>some (m7,true)) else some (q,false))
theorem st_CutPrefix_calls (k:Nat) (q:By) (C:By) {w:World} {r_:By×Bool} (hF:st_CutPrefix k q C=some r_) :
    Calls TP 135 [.string (bs q),.string (bs C)].toArray w fun e w'=>e = .returned (.tuple #[.string (bs r_.1),.bool r_.2])∧St w (KS []) w' []:=by
 unfold st_CutPrefix at hF;have S:=sff (As:=[]) (St.init0 w);refine enter 15 [(0,.string (bs q)),(1,.string (bs C))] Tryz.func135 r r r r ?_;refine q2 (av r (av r (nw (wq (q2 (mv r (mv r ?_)))))));obtain ⟨X,E,hF⟩:=bo hF;refine wk T.c128 (st_HasPrefix_calls k q C E) ?_;rintro _ Y ⟨rfl,V⟩;have J:=sc (As:=[]) S V;refine ⟨_,r,(wp (gnt r r) r (nw ?_))⟩;obtain ⟨D,hF⟩|⟨D,hF⟩:=io hF
 ·refine cf r (nf D) (wsk (we (q2 (mv r (mv r (wp (G.lenb T.str9 r) r ?_))))));obtain ⟨m7,O,hF⟩:=bo hF;refine wp (G.cutb_l T.str9 r r O) r (av r (av r (nw (wrt ?_))));cases hF;refine WEx.ret2 r r r ?_;exact ⟨r,sk J⟩
 ·refine ct r (nt (bf D)) (q2 (mv r (av r (av r (nw (wrt (wtr ?_)))))));cases hF;refine WEx.ret2 r r r ?_;exact ⟨r,sk J⟩
def CutPrefix (k:Nat) (C:By) (D:By):Option (By×Bool):=((st_CutPrefix k C D).bind fun q=>some (q.1,q.2))
theorem CutPrefix_calls (k:Nat) (q:By) (C:By) {w:World} {r_:By×Bool} (hF:CutPrefix k q C=some r_) :
    Calls TP 99 [.string (bs q),.string (bs C)].toArray w fun e w'=>e = .returned (.tuple #[.string (bs r_.1),.bool r_.2])∧St w (KS []) w' []:=by
 unfold CutPrefix at hF;have S:=sff (As:=[]) (St.init0 w);refine enter 11 [(0,.string (bs q)),(1,.string (bs C))] Tryz.func99 r r r r ?_;refine q2 (av r (av r (nq (mv r (mv r ?_)))));obtain ⟨O,D,hF⟩:=bo hF;refine wk T.c135 (st_CutPrefix_calls k q C D) ?_;rintro _ V ⟨rfl,E⟩;have J:=sc (As:=[]) S E;refine ⟨_,r,(wp (gx r r) r (wp (gx r r) r (av r (av r (nw (wrt ?_))))))⟩;cases hF;refine WEx.ret2 r r r ?_;exact ⟨r,sk J⟩
def lx_begins (k:Nat) (q:By):Option Int:=((idx q 0).bind fun c1=>(lx_isBlank k ((c1).toNat:Int)).bind fun Y=>if Y=true then (some 1) else (HasPrefix k q [47,42]).bind fun Z=>if Z=true then (some 2) else (lx_letter k ((c1).toNat:Int)).bind fun C=>if C=true then (some 3) else (lx_digit k ((c1).toNat:Int)).bind fun D=>if D=true then (some 4) else if ((c1).toNat:Int)=45 then (if 1 < (q.length:Int) then ((idx q 1).bind fun E=>(lx_digit k ((E).toNat:Int)).bind fun J=>if J=true then (some 4) else (gv_IndexByte k [123,125,40,41,91,93,60,62,61,59,58,44,42] ((c1).toNat:Int)).bind fun O=>if 0≤O then (some 5) else some 0) else (gv_IndexByte k [123,125,40,41,91,93,60,62,61,59,58,44,42] ((c1).toNat:Int)).bind fun V=>if 0≤V then (some 5) else some 0) else (gv_IndexByte k [123,125,40,41,91,93,60,62,61,59,58,44,42] ((c1).toNat:Int)).bind fun X=>if 0≤X then (some 5) else some 0)
theorem lx_begins_calls (k:Nat) (J:By) {w:World} {r_:Int} (hF:lx_begins k J=some r_) :
    Calls TP 51 [.string (bs J)].toArray w fun e w'=>e = .returned (I r_)∧St w (KS []) w' []:=by
 unfold lx_begins at hF;have S:=sff (As:=[]) (St.init0 w);refine enter 34 [(0,.string (bs J))] Tryz.func51 r r r r ?_;refine q2 (av r (nq (mv r ?_)));obtain ⟨c1,ar,hF⟩:=bo hF;refine wp (G.idxb T.str9 r r ar) r (av r (nw (wq (wbl (q2 (mv r ?_))))));obtain ⟨aU,au,hF⟩:=bo hF;refine wk T.c91 (lx_isBlank_calls k ((c1).toNat:Int) au) ?_;rintro _ aV ⟨rfl,aI⟩;have ax:=sc (As:=[]) S aI;refine ⟨_,r,(av r (nw ?_))⟩;obtain ⟨ai,hF⟩|⟨ai,hF⟩:=io hF
 ·refine ct r ai (q2 (av r (nw (wrt (wir (wtr ?_))))));cases hF;refine wr1 r r ?_;exact ⟨r,sk ax⟩
 ·refine cf r (bf ai) (q2 (mv r ?_));obtain ⟨aW,aj,hF⟩:=bo hF;refine wk T.c92 (HasPrefix_calls k J [47,42] aj) ?_;rintro _ aJ ⟨rfl,ay⟩;have ab:=scT ay ax;refine ⟨_,r,(av r (nw ?_))⟩;obtain ⟨O,hF⟩|⟨O,hF⟩:=io hF
  ·refine ct r O (q2 (av r (nw (wrt (wir (wtr ?_))))));cases hF;refine wr1 r r ?_;exact ⟨r,sk ab⟩
  ·refine cf r (bf O) (q2 (mv r ?_));obtain ⟨az,ak,hF⟩:=bo hF;refine wk T.c93 (lx_letter_calls k ((c1).toNat:Int) ak) ?_;rintro _ aK ⟨rfl,aA⟩;have ad:=scT aA ab;refine ⟨_,r,(av r (nw ?_))⟩;obtain ⟨V,hF⟩|⟨V,hF⟩:=io hF
   ·refine ct r V (q2 (av r (nw (wrt (wir (wtr ?_))))));cases hF;refine wr1 r r ?_;exact ⟨r,sk ad⟩
   ·refine cf r (bf V) (wq (q2 (mv r ?_)));obtain ⟨aL,al,hF⟩:=bo hF;refine wk T.c94 (lx_digit_calls k ((c1).toNat:Int) al) ?_;rintro _ aM ⟨rfl,aB⟩;have D:=scT aB ad;refine ⟨_,r,(av r (nw ?_))⟩;obtain ⟨E,hF⟩|⟨E,hF⟩:=io hF
    ·refine ct r E (wsk (we (ct r E (q2 (av r (nw (wrt (wir (wtr ?_)))))))));cases hF;refine wr1 r r ?_;exact ⟨r,sk D⟩
    ·refine cf r (bf E) (wr (mv r (wp (geq r r r) r (mv r ?_))));obtain ⟨q,hF⟩|⟨q,hF⟩:=io hF
     ·refine won r (dt q) (mv r (won r (dt q) (wp (G.lenb T.str9 r) r (won r (dt q) (wp (G.gtr r r r) r (wp (gpt (kb r (dt q)) r) r (mv r ?_)))))));obtain ⟨C,hF⟩|⟨C,hF⟩:=io hF
      ·refine won r (dt C) (mv r (won r (dt C) ?_));obtain ⟨aC,am,hF⟩:=bo hF;refine wp (G.idxb T.str9 r r am) r (won r (dt C) ?_);obtain ⟨aD,an,hF⟩:=bo hF;refine wk T.c94 (lx_digit_calls k ((aC).toNat:Int) an) ?_;rintro _ aN ⟨rfl,aE⟩;have ae:=scT aE D;refine ⟨_,r,(wp (gpt (kb r (dt C)) r) r (av r (nw ?_)))⟩;obtain ⟨X,hF⟩|⟨X,hF⟩:=io hF
       ·refine ct r X (q2 (av r (nw (wrt (wir (wtr ?_))))));cases hF;refine wr1 r r ?_;exact ⟨r,sk ae⟩
       ·refine cf r (bf X) (q2 (mv r ?_));obtain ⟨aO,ao,hF⟩:=bo hF;refine wk T.c95 (gv_IndexByte_calls k [123,125,40,41,91,93,60,62,61,59,58,44,42] ((c1).toNat:Int) ao) ?_;rintro _ aP ⟨rfl,aF⟩;have af:=scT aF ae;refine ⟨_,r,(wp (G.geq r r r) r (av r (nw ?_)))⟩;obtain ⟨Y,hF⟩|⟨Y,hF⟩:=io hF
        ·refine ct r (dt Y) (q2 (av r (nw (wrt (wir (wtr ?_))))));cases hF;refine wr1 r r ?_;exact ⟨r,sk af⟩
        ·refine cf r (df Y) (wsk (win (we (q2 (av r (nw (wrt ?_)))))));cases hF;refine wr1 r r ?_;exact ⟨r,sk af⟩
      ·refine wof r (df C) r (wof r (df C) r (wof r (df C) r (wp (gpf (kb r (df C)) r) r (av r (nw (WCode.cond_f r (q2 (mv r ?_))))))));obtain ⟨aQ,ap,hF⟩:=bo hF;refine wk T.c95 (gv_IndexByte_calls k [123,125,40,41,91,93,60,62,61,59,58,44,42] ((c1).toNat:Int) ap) ?_;rintro _ aR ⟨rfl,aG⟩;have ag:=scT aG D;refine ⟨_,r,(wp (G.geq r r r) r (av r (nw ?_)))⟩;obtain ⟨Z,hF⟩|⟨Z,hF⟩:=io hF
       ·refine ct r (dt Z) (q2 (av r (nw (wrt (wir (wtr ?_))))));cases hF;refine wr1 r r ?_;exact ⟨r,sk ag⟩
       ·refine cf r (df Z) (wsk (win (we (q2 (av r (nw (wrt ?_)))))));cases hF;refine wr1 r r ?_;exact ⟨r,sk ag⟩
     ·refine wof r (df q) r (wof r (df q) r (wof r (df q) r (wp (gpf (kb r (df q)) r) r (mv r (wo0 r r r r (wo0 r r r r (wo0 r r r r (wp (gpf r r) r (av r (nw (WCode.cond_f r (q2 (mv r ?_)))))))))))));obtain ⟨aS,aq,hF⟩:=bo hF;refine wk T.c95 (gv_IndexByte_calls k [123,125,40,41,91,93,60,62,61,59,58,44,42] ((c1).toNat:Int) aq) ?_;rintro _ aT ⟨rfl,aH⟩;have ah:=scT aH D;refine ⟨_,r,(wp (G.geq r r r) r (av r (nw ?_)))⟩;obtain ⟨aa,hF⟩|⟨aa,hF⟩:=io hF
      ·refine ct r (dt aa) (q2 (av r (nw (wrt (wir (wtr ?_))))));cases hF;refine wr1 r r ?_;exact ⟨r,sk ah⟩
      ·refine cf r (df aa) (wsk (win (we (q2 (av r (nw (wrt ?_)))))));cases hF;refine wr1 r r ?_;exact ⟨r,sk ah⟩
mutual
def lx_digits.j1:Nat→By→Int→Int→Int→Int→Option (Int×Bool)
  | 0,_,_,_,_,_=>none
  | Y+1,J,E,q,C,X=>(if E≤X then (some (0,false)) else (if 4294967295 < (w64 ((w64 (q * E))+X)) then (some (0,false)) else (lx_digits.l1 Y J E (w64 ((w64 (q * E))+X)) (w64 (C+1)))))
def lx_digits.j2:Nat→By→Int→Int→Int→UInt8→Bool→Option (Int×Bool)
  | 0,_,_,_,_,_,_=>none
  | O+1,J,E,q,C,D,Z=>(if Z=true then (lx_digits.j1 O J E q C (w64 ((w64 (IntKind.u8.wrap (((D).toNat:Int) - 97)))+10))) else (if 65≤((D).toNat:Int) then (if ((D).toNat:Int)≤70 then (lx_digits.j1 O J E q C (w64 ((w64 (IntKind.u8.wrap (((D).toNat:Int) - 65)))+10))) else (lx_digits.j1 O J E q C E)) else (lx_digits.j1 O J E q C E)))
def lx_digits.l1:Nat→By→Int→Int→Int→Option (Int×Bool)
  | 0,_,_,_,_=>none
  | V+1,J,E,q,C=>if C < (J.length:Int) then ((idx J C).bind fun D=>(lx_digit V ((D).toNat:Int)).bind fun aa=>if aa=true then (lx_digits.j1 V J E q C (w64 (IntKind.u8.wrap (((D).toNat:Int) - 48)))) else if 97≤((D).toNat:Int) then (lx_digits.j2 V J E q C D (decide (((D).toNat:Int)≤102))) else lx_digits.j2 V J E q C D false) else some (q,!(decide (J=[])))
end
def lx_digits (k:Nat) (q:By) (C:Int):Option (Int×Bool):=(if q.length≤68719476736 then (lx_digits.l1 k q C 0 0) else none)
theorem lx_digits_calls (k:Nat) (C:By) (E:Int) {w:World} {r_:Int×Bool} (hF:lx_digits k C E=some r_) :
    Calls TP 100 [.string (bs C),I E].toArray w fun e w'=>e = .returned (.tuple #[I r_.1,.bool r_.2])∧St w (KS []) w' []:=by
 unfold lx_digits at hF;have S:=sff (As:=[]) (St.init0 w);refine enter 62 [(0,.string (bs C)),(1,I E)] Tryz.func100 r r r r ?_;refine q2 (av r (av r (nq (av r (nw (wq (q2 (mv r ?_))))))));obtain ⟨aK,hF⟩:=guard_some hF;obtain ⟨af,c3,aq,aW,aL,aE,aF,aX⟩:=St.bytes (P:=TP) (t:=9) (u:=64) S Tryz.underlying9 Tryz.underlying64 Tryz.underlying5 C aK;refine wee (aL r) r (wp (gln T.l64 r) r (mv r (nw (wbl (wg (l':=[(0,.string (bs C)),(1,I E),(6,I 0),(11,.slice af C.length c3),(12,I (C.length:Int)),(13,I 0)]) ⟨r,r,r,r,r,r,trivial⟩ ?_)))));refine wl (fun n_ l_ w_=>∃ q:Int,∃ O:Int,l_=[(0,.string (bs C)),(1,I E),(6,I q),(11,.slice af C.length c3),(12,I (C.length:Int)),(13,I O)]∧lx_digits.l1 n_ C E q O=some r_∧St w (KS []) w_ [aq]) k ⟨0,0,r,hF,aF⟩ ?_;rintro aG _ aP ⟨q,O,rfl,hF,ag⟩;obtain _ | Z:=aG
 · exact nn hF
 rw [lx_digits.l1] at hF;refine q2 (wp (gls r r r) r (nw (wq ?_)));obtain ⟨ah,hF⟩|⟨ah,hF⟩:=io hF
 ·refine ct r (dt ah) (wsk (we (wq (wbl (q2 ?_)))));obtain ⟨D,ar,hF⟩:=bo hF;obtain ⟨aH,au,ax,ay⟩:=isp ar;obtain ⟨aQ,aI,az,aA,aM,ai,aB⟩:=sat ((SlG.toV (u:=w) aE (aF.nd 0 r)).ext (ag.vw 0 r)) ax;have aC:az=[.int .u8 ((D).toNat:Int)]:=aB;subst aC;change cellsAt _ _ (aI+aH * 1) [.int .u8 ((D).toNat:Int)] at ai;refine wp (gi T.l64 r aA r au ay) r (wrr (gl T.o5 r (ca0 ai)) r (av r (nq (mv r (av r (nw ?_))))));refine wqs (fun l_ w_=>∃ aa:Nat,∃ J:Int,l_=[(0,.string (bs C)),(1,I E),(6,I q),(9,I J),(11,.slice af C.length c3),(12,I (C.length:Int)),(13,I O)]∧lx_digits.j1 aa C E q O J=some r_∧aa≤Z∧St w (KS []) w_ [aq]) ?_ ?_
  ·refine wbl (q2 (mv r ?_));obtain ⟨aR,aD,hF⟩:=bo hF;refine wk T.c94 (lx_digit_calls Z ((D).toNat:Int) aD) ?_;rintro _ aS ⟨rfl,aJ⟩;have aj:=scT aJ ag;refine ⟨_,r,(av r (nw ?_))⟩;obtain ⟨ak,hF⟩|⟨ak,hF⟩:=io hF
   ·refine ct r ak (wr (mv r (wp (gsb r r (r:=(IntKind.u8.wrap (((D).toNat:Int) - 48))) r) r (wp (G.convi (by kernel_rfl) Tryz.underlying3 r (r:=(w64 (IntKind.u8.wrap (((D).toNat:Int) - 48)))) r) r (av r (wn (win ?_)))))));refine wx _ ?_ ⟨Z,w64 (IntKind.u8.wrap (((D).toNat:Int) - 48)),r,hF,(by omega),aj⟩;exact ⟨r,r,r,r,r,r,r,trivial⟩
   ·refine cf r (bf ak) ?_;refine wqs (fun l_ w_=>∃ ab:Nat,∃ al:Bool,l_=[(0,.string (bs C)),(1,I E),(6,I q),(8,.int .u8 ((D).toNat:Int)),(9,I E),(11,.slice af C.length c3),(12,I (C.length:Int)),(13,I O),(24,.bool al)]∧lx_digits.j2 ab C E q O D al=some r_∧ab≤Z∧St w (KS []) w_ [aq]) ?_ ?_
    ·refine wr (mv r (wp (G.geq r r r) r (mv r ?_)));obtain ⟨V,hF⟩|⟨V,hF⟩:=io hF
     ·refine won r (dt V) (mv r (won r (dt V) (wp (glq r r r) r (wp (gpt (kb r (dt V)) r) r (av r (wn ?_))))));refine wx _ ?_ ⟨Z,decide (((D).toNat:Int)≤102),r,hF,(by omega),aj⟩;exact ⟨r,r,r,r,r,r,r,r,r,trivial⟩
     ·refine wof r (df V) r (wof r (df V) r (wp (gpf (kb r (df V)) r) r (av r (wn ?_))));refine wx _ ?_ ⟨Z,false,r,hF,(by omega),aj⟩;exact ⟨r,r,r,r,r,r,r,r,r,trivial⟩
    ·rintro _ aT ⟨ab,al,rfl,hF,aN,ad⟩;obtain _ | ae:=ab
     · exact nn hF
     rw [lx_digits.j2] at hF;obtain ⟨am,hF⟩|⟨am,hF⟩:=io hF
     ·refine ct r am (wr (mv r (wp (gsb r r (r:=(IntKind.u8.wrap (((D).toNat:Int) - 97))) r) r (wp (G.convi (by kernel_rfl) Tryz.underlying3 r (r:=(w64 (IntKind.u8.wrap (((D).toNat:Int) - 97)))) r) r (wp (gad r r (r:=(w64 ((w64 (IntKind.u8.wrap (((D).toNat:Int) - 97)))+10))) r) r (av r (wn (win ?_))))))));refine wx _ ?_ ⟨ae,w64 ((w64 (IntKind.u8.wrap (((D).toNat:Int) - 97)))+10),r,hF,(by omega),ad⟩;exact ⟨r,r,r,r,r,r,r,trivial⟩
     ·refine cf r (bf am) (q2 (mv r (wp (G.geq r r r) r (mv r ?_))));obtain ⟨X,hF⟩|⟨X,hF⟩:=io hF
      ·refine won r (dt X) (mv r (won r (dt X) (wp (glq r r r) r (wp (gpt (kb r (dt X)) r) r (av r (nw ?_))))));obtain ⟨an,hF⟩|⟨an,hF⟩:=io hF
       ·refine ct r (dt an) (wr (mv r (wp (gsb r r (r:=(IntKind.u8.wrap (((D).toNat:Int) - 65))) r) r (wp (G.convi (by kernel_rfl) Tryz.underlying3 r (r:=(w64 (IntKind.u8.wrap (((D).toNat:Int) - 65)))) r) r (wp (gad r r (r:=(w64 ((w64 (IntKind.u8.wrap (((D).toNat:Int) - 65)))+10))) r) r (av r (wn (win ?_))))))));refine wx _ ?_ ⟨ae,w64 ((w64 (IntKind.u8.wrap (((D).toNat:Int) - 65)))+10),r,hF,(by omega),ad⟩;exact ⟨r,r,r,r,r,r,r,trivial⟩
       ·refine cf r (df an) (wsk (win ?_));refine wx _ ?_ ⟨ae,E,r,hF,(by omega),ad⟩;exact ⟨r,r,r,r,r,r,r,trivial⟩
      ·refine wof r (df X) r (wof r (df X) r (wp (gpf (kb r (df X)) r) r (av r (nw (WCode.cond_f r (wsk (win ?_)))))));refine wx _ ?_ ⟨ae,E,r,hF,(by omega),ad⟩;exact ⟨r,r,r,r,r,r,r,trivial⟩
  ·rintro _ aU ⟨aa,J,rfl,hF,aO,ao⟩;obtain _ | aV:=aa
   · exact nn hF
   rw [lx_digits.j1] at hF;refine q2 (mv r (mv r (wp (G.mul r r (r:=(w64 (q * E))) r) r (mv r (wp (gad r r (r:=(w64 ((w64 (q * E))+J))) r) r (av r (nq (mv r (mv r (wp (G.geq r r r) r (mv r ?_)))))))))));obtain ⟨Y,hF⟩|⟨Y,hF⟩:=io hF
   ·refine wof r (dt Y) r (wof r (dt Y) r (wp (gpt (kb r (dt Y)) r) r (nw (WCode.cond_t r (q2 (av r (av r (nw (wrt (wir (wtr (wtr (wir (wtr ?_))))))))))))));cases hF;refine WEx.ret2 r r r ?_;exact ⟨r,sk ao⟩
   ·refine won r (df Y) (mv r (won r (df Y) (wp (G.gtr r r r) r (wp (gpf (kb r (df Y)) r) r (nw ?_)))));obtain ⟨ap,hF⟩|⟨ap,hF⟩:=io hF
    ·refine WCode.cond_t (kb (b:=decide (4294967295 < (w64 ((w64 (q * E))+J)))) r (dt ap)) (q2 (av r (av r (nw (wrt (wir (wtr (wtr (wir (wtr ?_))))))))));cases hF;refine WEx.ret2 r r r ?_;exact ⟨r,sk ao⟩
    ·refine WCode.cond_f (kb (b:=decide (4294967295 < (w64 ((w64 (q * E))+J)))) r (df ap)) (wsk (win (we (wr (wp (gad r r (r:=(w64 (O+1))) r) r (mv r (wn ?_)))))));refine wag _ _ (by omega) ?_ ⟨w64 ((w64 (q * E))+J),w64 (O+1),r,hF,ao⟩;exact ⟨r,r,r,r,r,r,trivial⟩
 ·refine cf r (df ah) (wxt (wte (wte (wie (we (q2 (mv r (mv r (wp (G.neqlb' r r r) r (av r (av r (nw (wrt ?_)))))))))))));cases hF;refine WEx.ret2 r r r ?_;exact ⟨r,sk ag⟩
def lx_numbered.j1 (q:Nat) (E:By×Bool) (J:Bool):Option (Int×Bool):=(if J=true then ((cut E.1 1 (E.1.length:Int)).bind fun O=>(lx_digits q O 8).bind fun C=>some (C.1,C.2)) else (lx_digits q E.1 10).bind fun D=>some (D.1,D.2))
def lx_numbered (k:Nat) (J:By):Option (Int×Bool):=((CutPrefix k J [45]).bind fun q=>(CutPrefix k q.1 [48,120]).bind fun E=>if q.2=true then ((lx_digits k q.1 10).bind fun C=>if C.2=true then ((idx q.1 0).bind fun c18=>if ((c18).toNat:Int)=48 then (some (w64 (-C.1),false)) else some (w64 (-C.1),decide ((-2147483648)≤(w64 (-C.1))))) else some (w64 (-C.1),false)) else if E.2=true then ((lx_digits k E.1 16).bind fun D=>some (D.1,D.2)) else (idx q.1 0).bind fun c32=>if ((c32).toNat:Int)=48 then (lx_numbered.j1 k q (decide (1 < (q.1.length:Int)))) else lx_numbered.j1 k q false)
theorem lx_numbered_calls (k:Nat) (ad:By) {w:World} {r_:Int×Bool} (hF:lx_numbered k ad=some r_) :
    Calls TP 55 [.string (bs ad)].toArray w fun e w'=>e = .returned (.tuple #[I r_.1,.bool r_.2])∧St w (KS []) w' []:=by
 unfold lx_numbered at hF;have S:=sff (As:=[]) (St.init0 w);refine enter 64 [(0,.string (bs ad))] Tryz.func55 r r r r ?_;refine q2 (av r (av r (nq (mv r ?_))));obtain ⟨J,ao,hF⟩:=bo hF;refine wk T.c99 (CutPrefix_calls k ad [45] ao) ?_;rintro _ aM ⟨rfl,aC⟩;have aD:=sc (As:=[]) S aC;refine ⟨_,r,(mv r (wp (gx r r) r (wp (gx r r) r (av r (av r (nq (mv r ?_)))))))⟩;obtain ⟨ag,ap,hF⟩:=bo hF;refine wk T.c99 (CutPrefix_calls k J.1 [48,120] ap) ?_;rintro _ aN ⟨rfl,aE⟩;have O:=scT aE aD;refine ⟨_,r,(mv r (wp (gx r r) r (wp (gx r r) r (av r (av r (nw (wq (wbl (q2 (mv r (av r (nw ?_))))))))))))⟩;obtain ⟨X,hF⟩|⟨X,hF⟩:=io hF
 ·refine ct r X (q2 (mv r ?_));obtain ⟨E,ah,hF⟩:=bo hF;refine wk T.c100 (lx_digits_calls k J.1 10 ah) ?_;rintro _ aF ⟨rfl,aq⟩;have Y:=scT aq O;refine ⟨_,r,(mv r (wp (gx r r) r (wp (gx r r) r (av r (av r (nw (q2 (mv r (wp (G.neg r (r:=(w64 (-E.1))) r) r (mv r (mv r ?_)))))))))))⟩;obtain ⟨q,hF⟩|⟨q,hF⟩:=io hF
  ·refine won r q (mv r (won r q ?_));obtain ⟨c18,ai,hF⟩:=bo hF;refine wp (G.idxb T.str9 r r ai) r (won r q (wp (gnq r r r) r (wp (gpt (kb r q) r) r (mv r ?_))));obtain ⟨C,hF⟩|⟨C,hF⟩:=io hF
   ·refine wo0 r (kbl (b:=!(decide (((c18).toNat:Int)=48))) r (nf (dt C))) r r (wo0 r (kbl (b:=!(decide (((c18).toNat:Int)=48))) r (nf (dt C))) r r (wo0 r (kbl (b:=!(decide (((c18).toNat:Int)=48))) r (nf (dt C))) r r (wp (gpf (kb (b:=!(decide (((c18).toNat:Int)=48))) r (nf (dt C))) r) r (av r (av r (nw (wrt (wir (wtr ?_)))))))));cases hF;refine WEx.ret2 r r r ?_;exact ⟨r,sk Y⟩
   ·refine wo1 r (kbl (b:=!(decide (((c18).toNat:Int)=48))) r (nt (df C))) (mv r (wo1 r (kbl (b:=!(decide (((c18).toNat:Int)=48))) r (nt (df C))) (wp (G.neg r (r:=(w64 (-E.1))) r) r (wo1 r (kbl (b:=!(decide (((c18).toNat:Int)=48))) r (nt (df C))) (wp (G.geq r r r) r (wp (gpt (kb (b:=!(decide (((c18).toNat:Int)=48))) r (nt (df C))) r) r (av r (av r (nw (wrt (wir (wtr ?_))))))))))));cases hF;refine WEx.ret2 r r r ?_;exact ⟨r,sk Y⟩
  ·refine wof r (bf q) r (wof r (bf q) r (wof r (bf q) r (wp (gpf (kb r (bf q)) r) r (mv r (wo0 r r r r (wo0 r r r r (wo0 r r r r (wp (gpf r r) r (av r (av r (nw (wrt (wir (wtr ?_))))))))))))));cases hF;refine WEx.ret2 r r r ?_;exact ⟨r,sk Y⟩
 ·refine cf r (bf X) (q2 (mv r (av r (nw ?_))));obtain ⟨Z,hF⟩|⟨Z,hF⟩:=io hF
  ·refine ct r Z (q2 (mv r ?_));obtain ⟨ae,aj,hF⟩:=bo hF;refine wk T.c100 (lx_digits_calls k ag.1 16 aj) ?_;rintro _ aG ⟨rfl,ar⟩;have au:=scT ar O;refine ⟨_,r,(wp (gx r r) r (wp (gx r r) r (av r (av r (nw (wrt (wir (wtr ?_))))))))⟩;cases hF;refine WEx.ret2 r r r ?_;exact ⟨r,sk au⟩
  ·refine cf r (bf Z) ?_;refine wqs (fun l_ w_=>∃ V:Nat,∃ aa:Bool,l_=[(4,.string (bs J.1)),(46,.bool aa)]∧lx_numbered.j1 V J aa=some r_∧St w (KS []) w_ []) ?_ ?_
   ·refine wr (mv r ?_);obtain ⟨c32,ak,hF⟩:=bo hF;refine wp (G.idxb T.str9 r r ak) r (wp (geq r r r) r (mv r ?_));obtain ⟨D,hF⟩|⟨D,hF⟩:=io hF
    ·refine won r (dt D) (mv r (won r (dt D) (wp (G.lenb T.str9 r) r (won r (dt D) (wp (G.gtr r r r) r (wp (gpt (kb r (dt D)) r) r (av r (wn ?_))))))));refine wx _ ?_ ⟨k,decide (1 < (J.1.length:Int)),r,hF,O⟩;exact ⟨r,r,trivial⟩
    ·refine wof r (df D) r (wof r (df D) r (wof r (df D) r (wp (gpf (kb r (df D)) r) r (av r (wn ?_)))));refine wx _ ?_ ⟨k,false,r,hF,O⟩;exact ⟨r,r,trivial⟩
   ·rintro _ aH ⟨V,aa,rfl,hF,af⟩;unfold lx_numbered.j1 at hF;obtain ⟨ab,hF⟩|⟨ab,hF⟩:=io hF
    ·refine ct r ab (q2 (mv r ?_));obtain ⟨ax,al,hF⟩:=bo hF;refine wp (G.cutb_l T.str9 r r al) r ?_;obtain ⟨aI,am,hF⟩:=bo hF;refine wk T.c100 (lx_digits_calls V ax 8 am) ?_;rintro _ aJ ⟨rfl,ay⟩;have az:=scT ay af;refine ⟨_,r,(wp (gx r r) r (wp (gx r r) r (av r (av r (nw (wrt (wir (wtr ?_))))))))⟩;cases hF;refine WEx.ret2 r r r ?_;exact ⟨r,sk az⟩
    ·refine cf r (bf ab) (wsk (win (we (q2 (mv r ?_)))));obtain ⟨aK,an,hF⟩:=bo hF;refine wk T.c100 (lx_digits_calls V J.1 10 an) ?_;rintro _ aL ⟨rfl,aA⟩;have aB:=scT aA af;refine ⟨_,r,(wp (gx r r) r (wp (gx r r) r (av r (av r (nw (wrt ?_))))))⟩;cases hF;refine WEx.ret2 r r r ?_;exact ⟨r,sk aB⟩
def lx_IsWord (k:Nat) (C:By):Option Bool:=((gv_Fields k [98,111,111,108,32,99,97,115,101,32,99,111,110,115,116,32,100,101,102,97,117,108,116,32,100,111,117,98,108,101,32,101,110,117,109,32,102,108,111,97,116,32,104,121,112,101,114,32,105,110,116,32,111,112,97,113,117,101,32,112,114,111,103,114,97,109,32,113,117,97,100,114,117,112,108,101,32,115,116,114,105,110,103,32,115,116,114,117,99,116,32,115,119,105,116,99,104,32,116,121,112,101,100,101,102,32,117,110,105,111,110,32,117,110,115,105,103,110,101,100,32,118,101,114,115,105,111,110,32,118,111,105,100]).bind fun D=>(slContains k (D) C).bind fun q=>some q)
theorem lx_IsWord_calls (k:Nat) (q:By) {FG:Nat→Prop} {w:World} (hGl:Glob FG w) (hFG:∀ b,FG b→NK w [] b) {r_:Bool} (hF:lx_IsWord k q=some r_) :
    Calls TP 54 [.string (bs q)].toArray w fun e w'=>e = .returned (.bool r_)∧St w (KS []) w' []:=by
 unfold lx_IsWord at hF;have S:=sff (As:=[]) (St.init0 w);refine enter 6 [(0,.string (bs q))] Tryz.func54 r r r r ?_;refine q2 (av r (nq ?_));obtain ⟨X,E,hF⟩:=bo hF;refine wk T.c98 (gv_Fields_calls k [98,111,111,108,32,99,97,115,101,32,99,111,110,115,116,32,100,101,102,97,117,108,116,32,100,111,117,98,108,101,32,101,110,117,109,32,102,108,111,97,116,32,104,121,112,101,114,32,105,110,116,32,111,112,97,113,117,101,32,112,114,111,103,114,97,109,32,113,117,97,100,114,117,112,108,101,32,115,116,114,105,110,103,32,115,116,114,117,99,116,32,115,119,105,116,99,104,32,116,121,112,101,100,101,102,32,117,110,105,111,110,32,117,110,115,105,103,110,101,100,32,118,101,114,115,105,111,110,32,118,111,105,100] (hGl.ext (S.keepF hFG)) (sof (Bs:=[]) S hFG) E) ?_;rintro _ ab ⟨ad,c7,ae,rfl,J,Y⟩;have C:=sc (As:=[]) S Y;refine ⟨_,r,(mv r ?_)⟩;obtain ⟨Z,D,hF⟩:=bo hF;refine wk T.c71 (slContains_calls k (X) q (rds J C 0 r) (og C 0 r) D) ?_;rintro _ aa ⟨rfl,O⟩;have V:=scT O C;refine ⟨_,r,(av r (nw (wrt ?_)))⟩;cases hF;refine wr1 r r ?_;exact ⟨r,sk V⟩
def lx_next.j1 (D:Nat) (q:By) (C:Int):Option (Token×Int×Int):=(some ((⟨C,q,0,0⟩:Token),(q.length:Int),0))
def lx_next (k:Nat) (q:By):Option (Token×Int×Int):=((lx_begins k q).bind fun D=>if D=1 then (some ((⟨0,[],0,0⟩:Token),1,0)) else if D=2 then ((cut q 2 (q.length:Int)).bind fun V=>(gv_Index k V [42,47]).bind fun E=>if E < 0 then (some ((⟨0,[],0,0⟩:Token),0,33)) else some ((⟨0,[],0,0⟩:Token),w64 (E+4),0)) else if D=3 then ((lx_run k q).bind fun X=>(cut q 0 X).bind fun C=>(lx_IsWord k C).bind fun Y=>if Y=true then (lx_next.j1 k C 2) else if 32 < (C.length:Int) then (some ((⟨0,[],0,0⟩:Token),0,32)) else lx_next.j1 k C 1) else if D=4 then ((cut q 1 (q.length:Int)).bind fun Z=>(lx_run k Z).bind fun J=>(cut q 0 (w64 (1+J))).bind fun aa=>(lx_numbered k aa).bind fun O=>if O.2=true then (some ((⟨3,[],O.1,0⟩:Token),w64 (1+J),0)) else some ((⟨0,[],0,0⟩:Token),0,31)) else if D=5 then ((cut q 0 1).bind fun ab=>some ((⟨4,ab,0,0⟩:Token),1,0)) else some ((⟨0,[],0,0⟩:Token),0,30))
theorem lx_next_calls (k:Nat) (Y:By) {FG:Nat→Prop} {w:World} (hGl:Glob FG w) (hFG:∀ b,FG b→NK w [] b) {r_:Token×Int×Int} (hF:lx_next k Y=some r_) :
    Calls TP 31 [.string (bs Y)].toArray w fun e w'=>e = .returned (.tuple #[.agg (ka r_.1),I r_.2.1,I r_.2.2])∧St w (KS []) w' []:=by
 unfold lx_next at hF;have S:=sff (As:=[]) (St.init0 w);refine enter 73 [(0,.string (bs Y))] Tryz.func31 r r r r ?_;refine q2 ?_;obtain ⟨J,bH,be,bg,bI,bJ⟩:=sv S (z:=.agg #[I 0,.string (bs []),I 0,I 0]) T.z41;refine wee be r (av r (av r (nw (wq (q2 (mv r ?_))))));obtain ⟨aO,aP,hF⟩:=bo hF;refine wk T.c51 (lx_begins_calls k Y aP) ?_;rintro _ bK ⟨rfl,aQ⟩;have C:=scT aQ bg;refine ⟨_,r,(nw (wbl (q2 (wp (geq r r r) r (av r (nw ?_))))))⟩;obtain ⟨Z,hF⟩|⟨Z,hF⟩:=io hF
 ·refine ct r (dt Z) (q2 (wp (gb (cells:=#[I 0,.string (bs []),I 0,I 0]) (fs_ (fn_)) (by kernel_rfl)) r ?_));obtain ⟨bh,aR,am⟩:=sw C 0 #[I 0,.string (bs []),I 0,I 0] T.s41_4 r r r r;refine wuu (aR r r) (av r (av r (nw (wrt (wir (wtr ?_))))));cases hF;refine WEx.retc2 r r (cs:=[I 0,.string (bs []),I 0,I 0]) T.g41_4 (cb (am.blk 0 r) r) r r ?_;exact ⟨r,sk am⟩
 ·refine cf r (df Z) (q2 (wp (geq r r r) r (av r (nw ?_))));obtain ⟨aa,hF⟩|⟨aa,hF⟩:=io hF
  ·refine ct r (dt aa) (q2 (mv r ?_));obtain ⟨aS,aD,hF⟩:=bo hF;refine wp (G.cutb_l T.str9 r r aD) r ?_;obtain ⟨an,aE,hF⟩:=bo hF;refine wk T.c52 (gv_Index_calls k aS [42,47] (hGl.ext (C.keepF hFG)) (sof (Bs:=[]) C hFG) aE) ?_;rintro _ bi ⟨rfl,aT⟩;have ao:=scT aT C;refine ⟨_,r,(av r (nw (wq (q2 (mv r (wp (gls r r r) r (nw ?_)))))))⟩;obtain ⟨ab,hF⟩|⟨ab,hF⟩:=io hF
   ·refine ct r (dt ab) (q2 (wp (gb (cells:=#[I 0,.string (bs []),I 0,I 0]) (fs_ (fn_)) (by kernel_rfl)) r ?_));obtain ⟨bj,aU,ap⟩:=sw ao 0 #[I 0,.string (bs []),I 0,I 0] T.s41_4 r r r r;refine wuu (aU r r) (av r (av r (nw (wrt (wtr (wir (wtr ?_)))))));cases hF;refine WEx.retc2 r r (cs:=[I 0,.string (bs []),I 0,I 0]) T.g41_4 (cb (ap.blk 0 r) r) r r ?_;exact ⟨r,sk ap⟩
   ·refine cf r (df ab) (wsk (we (q2 (wp (gb (cells:=#[I 0,.string (bs []),I 0,I 0]) (fs_ (fn_)) (by kernel_rfl)) r (mv r (wp (gad r r (r:=(w64 (an+4))) r) r ?_))))));obtain ⟨bk,aV,aq⟩:=sw ao 0 #[I 0,.string (bs []),I 0,I 0] T.s41_4 r r r r;refine wuu (aV r r) (av r (av r (nw (wrt (wir (wtr ?_))))));cases hF;refine WEx.retc2 r r (cs:=[I 0,.string (bs []),I 0,I 0]) T.g41_4 (cb (aq.blk 0 r) r) r r ?_;exact ⟨r,sk aq⟩
  ·refine cf r (df aa) (q2 (wp (geq r r r) r (av r (nw ?_))));obtain ⟨ad,hF⟩|⟨ad,hF⟩:=io hF
   ·refine ct r (dt ad) (q2 (mv r (mv r ?_)));obtain ⟨bl,aF,hF⟩:=bo hF;refine wk T.c53 (lx_run_calls k Y aF) ?_;rintro _ bm ⟨rfl,aW⟩;have aX:=scT aW C;refine ⟨_,r,?_⟩;obtain ⟨q,aG,hF⟩:=bo hF;refine wp (G.cutb_h T.str9 r r aG) r (wp (gb (cells:=#[I 1,.string (bs q),I 0,I 0]) (fs_ (fc r (fc r fn_))) (by kernel_rfl)) r ?_);obtain ⟨O,bn,aY,aZ,bp,bq⟩:=sv aX (z:=.agg #[I 0,.string (bs []),I 0,I 0]) T.z41;refine wee aY r ?_;obtain ⟨br,a0,V⟩:=sw aZ 0 #[I 1,.string (bs q),I 0,I 0] T.s41_4 r r r r;refine wuu (a0 r r) (nw (wg (l':=[(2,(Pt J)),(6,(Pt O))]) ⟨r,r,trivial⟩ ?_));refine wqs (fun l_ w_=>∃ ar:Nat,∃ D:Int,l_=[(2,(Pt J)),(6,(Pt O))]∧lx_next.j1 ar q D=some r_∧St w (KS []) w_ [(B O #[I D,.string (bs q),I 0,I 0] 41),(B J #[I 0,.string (bs []),I 0,I 0] 41)]) ?_ ?_
    ·refine wbl (q2 (wp (gf T.f41_1 r r) r (wrr (gl T.o9 r (cbk (V.blk 0 r) r)) r ?_)));obtain ⟨bt,aH,hF⟩:=bo hF;refine wk T.c54 (lx_IsWord_calls k q (hGl.ext (V.keepF hFG)) (sof (Bs:=[]) V hFG) aH) ?_;rintro _ bu ⟨rfl,a1⟩;have X:=scT a1 V;refine ⟨_,r,(av r (nw ?_))⟩;obtain ⟨ae,hF⟩|⟨ae,hF⟩:=io hF
     ·refine ct r ae (wr (wp (gf T.f41_0 r r) r ?_));obtain ⟨bv,a2,a3⟩:=so (P:=TP) X 0 3 (I 2) (off:=0) (cur':=#[I 2,.string (bs q),I 0,I 0]) r T.s3_1 r r r;refine wuu (a2 r r) (wn (win ?_));refine wx _ ?_ ⟨k,2,r,hF,a3⟩;exact ⟨r,r,trivial⟩
     ·refine cf r (bf ae) (q2 (wp (gf T.f41_1 r r) r (wrr (gl T.o9 r (cbk (X.blk 0 r) r)) r (wp (G.lenb T.str9 r) r (wp (G.gtr r r r) r (av r (nw ?_)))))));obtain ⟨af,hF⟩|⟨af,hF⟩:=io hF
      ·refine ct r (dt af) (q2 (wp (gb (cells:=#[I 0,.string (bs []),I 0,I 0]) (fs_ (fn_)) (by kernel_rfl)) r ?_));obtain ⟨bx,a4,au⟩:=sw X 1 #[I 0,.string (bs []),I 0,I 0] T.s41_4 r r r r;refine wuu (a4 r r) (av r (av r (nw (wrt (wir (wtr (wir (wtr ?_))))))));cases hF;refine WEx.retc2 r r (cs:=[I 0,.string (bs []),I 0,I 0]) T.g41_4 (cb (au.blk 1 r) r) r r ?_;exact ⟨r,sk au⟩
      ·refine cf r (df af) (wsk (win ?_));refine wx _ ?_ ⟨k,1,r,hF,X⟩;exact ⟨r,r,trivial⟩
    ·rintro _ a5 ⟨ar,D,rfl,hF,a6⟩;unfold lx_next.j1 at hF;refine wq ?_;refine wdh (.one 1 0 (.one 0 1 (.one 2 1 (.one 3 0 (.one 4 2 (.one 5 0 (.one 6 0 .nil))))))) (fun W_=>cellsAt W_ O 0 [I D,.string (bs q),I 0,I 0]∧True) T.mixed (by kernel_rfl) (by intro _ _ d _ _ h;cases d <;> exact h) r r (by kernel_rfl) ?_ ?_
     all_goals have ax:=a6.drew
     all_goals generalize a5.drew=bz at *
     · exact ⟨cb (ax.blk 0 r) r,trivial⟩
     refine hp r wants (gf T.f41_1 r r) r ?_;refine WH.r r wants (fun _ h_=>gla T.g41_4 r (cs:=[I D,.string (bs q),I 0,I 0]) (cellsAt.part h_.1 0 r)) r ?_;refine WH.r r wants (fun _ h_=>gl T.o9 r (cat_ h_.1 1 r)) r ?_;refine hp r wants (G.lenb T.str9 r) r ?_;obtain ⟨bA,a7,ag⟩:=sw ax 1 #[I D,.string (bs q),I 0,I 0] T.s41_4 r r r r;refine WH.u r wants (a7 r r) ⟨cb (ag.blk 0 r) r,trivial⟩ (hp r wants (ga r) r (hp r wants (ga r) r (WH.nil (we (wrt (wir (wtr ?_)))))));cases hF;refine WEx.retc2 r r (cs:=[I D,.string (bs q),I 0,I 0]) T.g41_4 (cb (ag.blk 1 r) r) r r ?_;exact ⟨r,sk ag⟩
   ·refine cf r (df ad) (q2 (wp (geq r r r) r (av r (nw ?_))));obtain ⟨ah,hF⟩|⟨ah,hF⟩:=io hF
    ·refine ct r (dt ah) (q2 (mv r ?_));obtain ⟨a8,aI,hF⟩:=bo hF;refine wp (G.cutb_l T.str9 r r aI) r ?_;obtain ⟨ay,aJ,hF⟩:=bo hF;refine wk T.c53 (lx_run_calls k a8 aJ) ?_;rintro _ bB ⟨rfl,a9⟩;have aw:=scT a9 C;refine ⟨_,r,(wp (gad r r (r:=(w64 (1+ay))) r) r (av r (nq (mv r (mv r ?_)))))⟩;obtain ⟨a',aK,hF⟩:=bo hF;refine wp (G.cutb_h T.str9 r r aK) r ?_;obtain ⟨E,aL,hF⟩:=bo hF;refine wk T.c55 (lx_numbered_calls k a' aL) ?_;rintro _ bC ⟨rfl,ba⟩;have az:=scT ba aw;refine ⟨_,r,(mv r (wp (gx r r) r (wp (gx r r) r (av r (av r (nw (wq (q2 (mv r (wp (gnt r r) r (nw ?_)))))))))))⟩;obtain ⟨ai,hF⟩|⟨ai,hF⟩:=io hF
     ·refine cf r (nf ai) (wsk (we (q2 (mv r (wp (gb (cells:=#[I 3,.string (bs []),I E.1,I 0]) (fs_ (fc r (fc r fn_))) (by kernel_rfl)) r (mv r ?_))))));obtain ⟨bD,bb,aA⟩:=sw az 0 #[I 3,.string (bs []),I E.1,I 0] T.s41_4 r r r r;refine wuu (bb r r) (av r (av r (nw (wrt (wir (wtr ?_))))));cases hF;refine WEx.retc2 r r (cs:=[I 3,.string (bs []),I E.1,I 0]) T.g41_4 (cb (aA.blk 0 r) r) r r ?_;exact ⟨r,sk aA⟩
     ·refine ct r (nt (bf ai)) (q2 (wp (gb (cells:=#[I 0,.string (bs []),I 0,I 0]) (fs_ (fn_)) (by kernel_rfl)) r ?_));obtain ⟨bE,bc,aB⟩:=sw az 0 #[I 0,.string (bs []),I 0,I 0] T.s41_4 r r r r;refine wuu (bc r r) (av r (av r (nw (wrt (wtr (wir (wtr ?_)))))));cases hF;refine WEx.retc2 r r (cs:=[I 0,.string (bs []),I 0,I 0]) T.g41_4 (cb (aB.blk 0 r) r) r r ?_;exact ⟨r,sk aB⟩
    ·refine cf r (df ah) (q2 (wp (geq r r r) r (av r (nw ?_))));obtain ⟨aj,hF⟩|⟨aj,hF⟩:=io hF
     ·refine ct r (dt aj) (q2 (mv r ?_));obtain ⟨ak,aM,hF⟩:=bo hF;refine wp (G.cutb_h T.str9 r r aM) r (wp (gb (cells:=#[I 4,.string (bs ak),I 0,I 0]) (fs_ (fc r (fc r fn_))) (by kernel_rfl)) r ?_);obtain ⟨bF,bd,aC⟩:=sw C 0 #[I 4,.string (bs ak),I 0,I 0] T.s41_4 r r r r;refine wuu (bd r r) (av r (av r (nw (wrt (wir (wtr ?_))))));cases hF;refine WEx.retc2 r r (cs:=[I 4,.string (bs ak),I 0,I 0]) T.g41_4 (cb (aC.blk 0 r) r) r r ?_;exact ⟨r,sk aC⟩
     ·refine cf r (df aj) (wsk (win (we (q2 (wp (gb (cells:=#[I 0,.string (bs []),I 0,I 0]) (fs_ (fn_)) (by kernel_rfl)) r ?_)))));obtain ⟨bG,aN,al⟩:=sw C 0 #[I 0,.string (bs []),I 0,I 0] T.s41_4 r r r r;refine wuu (aN r r) (av r (av r (nw (wrt ?_))));cases hF;refine WEx.retc2 r r (cs:=[I 0,.string (bs []),I 0,I 0]) T.g41_4 (cb (al.blk 0 r) r) r r ?_;exact ⟨r,sk al⟩
def lx_Scan.l1:Nat→By→List Token→Int→Option ((List Token)×Int×Int)
  | 0,_,_,_=>none
  | E+1,C,J,D=>if D < (C.length:Int) then ((cut C D (C.length:Int)).bind fun O=>(lx_next E O).bind fun q=>if q.2.2=0 then (if q.1.Kind=0 then (lx_Scan.l1 E C J (w64 (D+q.2.1))) else (cat J ([(⟨q.1.Kind,q.1.Text,q.1.Number,D⟩:Token)]:List Token)).bind fun V=>lx_Scan.l1 E C V (w64 (D+q.2.1))) else some ([],q.2.2,D)) else (cat J ([(⟨5,[],0,(C.length:Int)⟩:Token)]:List Token)).bind fun X=>some (X,0,0)
def lx_Scan (k:Nat) (q:By):Option ((List Token)×Int×Int):=(if 16000 < (q.length:Int) then (some ([],34,16000)) else (lx_Scan.l1 k q [] 0))
theorem lx_Scan_calls (k:Nat) (D:By) {FG:Nat→Prop} {w:World} (hGl:Glob FG w) (hFG:∀ b,FG b→NK w [] b) {r_:(List Token)×Int×Int} (hF:lx_Scan k D=some r_) :
    Calls TP 14 [.string (bs D)].toArray w fun e w'=>∃ ae:OA,∃ af:Nat,∃ ag:Grp,e = .returned (.tuple #[.slice ae (r_.1).length af,I r_.2.1,I r_.2.2])∧SlO 41 Token.rp (.slice ae (r_.1).length af) (r_.1) ag∧St w (KS []) w' [ag]:=by
 unfold lx_Scan at hF;have S:=sff (As:=[]) (St.init0 w);refine enter 47 [(0,.string (bs D))] Tryz.func14 r r r r ?_;refine q2 (av r (av r (av r (nw (wq (q2 (mv r (wp (G.lenb T.str9 r) r (wp (G.gtr r r r) r (nw ?_))))))))));obtain ⟨an,hF⟩|⟨an,hF⟩:=io hF
 ·refine ct r (dt an) (q2 (av r (av r (av r (nw (wrt (wtr ?_)))))));cases hF;refine WEx.ret3 r r r r ?_;have aW:=S.emp;exact ⟨none,0,[],r,(sn 41 Token.rp),sk aW⟩
 ·refine cf r (df an) (wsk (we (q2 (av r (nw (wq (q2 (av r (nw (wbl ?_))))))))));have ay:=S.emp;refine wg (l':=[(0,.string (bs D)),(5,.slice none 0 0),(6,I 0)]) ⟨r,r,r,trivial⟩ ?_;refine wl (fun n_ l_ w_=>∃ V:OA,∃ X:Nat,∃ E:List Token,∃ ad:Grp,∃ C:Int,l_=[(0,.string (bs D)),(5,.slice V E.length X),(6,I C)]∧lx_Scan.l1 n_ D E C=some r_∧(SlO 41 Token.rp (.slice V E.length X) E ad)∧St w (KS []) w_ [ad]) k ⟨none,0,[],[],0,r,hF,(sn 41 Token.rp),ay⟩ ?_;rintro az _ aZ ⟨V,X,E,ad,C,rfl,hF,Y,J⟩;obtain _ | aA:=az
  · exact nn hF
  rw [lx_Scan.l1] at hF;refine wq (q2 (mv r (mv r (wp (G.lenb T.str9 r) r (wp (gls r r r) r (nw ?_))))));obtain ⟨Z,hF⟩|⟨Z,hF⟩:=io hF
  ·refine ct r (dt Z) (wsk (we (wbl (q2 (mv r (mv r ?_))))));obtain ⟨aB,ao,hF⟩:=bo hF;refine wp (G.cutb_l T.str9 r r ao) r ?_;obtain ⟨q,ap,hF⟩:=bo hF;refine wk T.c31 (lx_next_calls aA aB (hGl.ext (J.keepF hFG)) (sof (Bs:=[]) J hFG) ap) ?_;rintro _ a0 ⟨rfl,aC⟩;have aD:=scT aC J;refine ⟨_,r,(mv r (wp (gx r r) r (wp (gx r r) r (wp (gx r r) r ?_))))⟩;obtain ⟨aE,a1,aF,aG,a2,a3⟩:=sv aD (z:=.agg #[I 0,.string (bs []),I 0,I 0]) T.z41;refine wee aF r ?_;obtain ⟨a4,aH,O⟩:=sw aG 0 (ka q.1) T.s41_4 r r r r;refine wuu (aH r r) (av r (av r (nw (wq (q2 (mv r (wp (gnq r r r) r (nw ?_))))))));obtain ⟨aa,hF⟩|⟨aa,hF⟩:=io hF
   ·refine WCode.cond_f (kb r (nf (dt aa))) (wsk (we (wq (q2 (wp (gf T.f41_0 r r) r (wrr (gl T.o3 r (cbk (O.blk 0 r) r)) r (wp (gnq r r r) r (nw ?_))))))));obtain ⟨ab,hF⟩|⟨ab,hF⟩:=io hF
    ·refine WCode.cond_f (kb r (nf (dt ab))) (wsk (we (wr (mv r (mv r (wp (gad r r (r:=(w64 (C+q.2.1))) r) r (av r (wn (win ?_)))))))));have aI:=O.front 1 r;refine wag _ _ (by omega) ?_ ⟨V,X,E,ad,w64 (C+q.2.1),r,hF,Y,(sk aI)⟩;exact ⟨r,r,r,trivial⟩
    ·refine WCode.cond_t (kb r (nt (df ab))) (q2 (mv r (wp (gf T.f41_3 r r) r ?_)));obtain ⟨a5,aJ,ah⟩:=so (P:=TP) O 0 3 (I C) (off:=3) (cur':=#[I q.1.Kind,.string (bs q.1.Text),I q.1.Number,I C]) r T.s3_1 r r r;refine wuu (aJ r r) (nw (wr (mv r (wrr (gla T.g41_4 r (cs:=[I q.1.Kind,.string (bs q.1.Text),I q.1.Number,I C]) (cb (ah.blk 0 r) r)) r ?_))));obtain ⟨a6,a7,aK,aL,a8,a9⟩:=sl ah (P:=TP) (t:=37) (e:=41) (n:=1) (vs:=[(0,.agg #[I q.1.Kind,.string (bs q.1.Text),I q.1.Number,I C])]) (cs:=#[I q.1.Kind,.string (bs q.1.Text),I q.1.Number,I C]) (by kernel_rfl);refine wee (aK (fc r fn_)) r ?_;obtain ⟨ai,aq,hF⟩:=bo hF;have aj:=aL.front 2 r;obtain ⟨ak,c51,aM,aw,aN,ar,aO,aX⟩:=St.appP (P:=TP) (r:=Token.rp) (M:=([(⟨q.1.Kind,q.1.Text,q.1.Number,C⟩:Token)]:List Token)) aj T.e37 r Y (Rd.of_blk (aj.blk 1 r) (n:=1) (sz:=4) r) ⟨_,_,[],[],r,r,⟨r,r⟩,⟨r,r⟩⟩ r aq;refine wee (aN r r) r (av r (nw (wr (mv r (mv r (wp (gad r r (r:=(w64 (C+q.2.1))) r) r (av r (wn (win ?_)))))))));refine wag _ _ (by omega) ?_ ⟨ak,c51,ai,aM,w64 (C+q.2.1),r,hF,ar,(sk aO)⟩;exact ⟨r,r,r,trivial⟩
   ·refine WCode.cond_t (kb r (nt (df aa))) (q2 (mv r (mv r (av r (av r (av r (nw (wrt (wtr (wir (wtr (wir (wtr ?_)))))))))))));cases hF;refine WEx.ret3 r r r r ?_;have aP:=O.emp;exact ⟨none,0,[],r,(sn 41 Token.rp),sk aP⟩
  ·refine cf r (df Z) (wxt (wte (wte (wie ?_))));refine we (q2 (mv r (mv r (wp (G.lenb T.str9 r) r (wp (gb (cells:=#[I 5,.string (bs []),I 0,I (D.length:Int)]) (fs_ (fc r (fc r fn_))) (by kernel_rfl)) r ?_)))));obtain ⟨a',ba,aQ,aR,bb,bc⟩:=sl J (P:=TP) (t:=37) (e:=41) (n:=1) (vs:=[(0,.agg #[I 5,.string (bs []),I 0,I (D.length:Int)])]) (cs:=#[I 5,.string (bs []),I 0,I (D.length:Int)]) (by kernel_rfl);refine wee (aQ (fc r fn_)) r ?_;obtain ⟨aS,au,hF⟩:=bo hF;have al:=aR.front 1 r;obtain ⟨am,c71,aT,bd,aU,ax,aV,aY⟩:=St.appP (P:=TP) (r:=Token.rp) (M:=([(⟨5,[],0,(D.length:Int)⟩:Token)]:List Token)) al T.e37 r Y (Rd.of_blk (al.blk 1 r) (n:=1) (sz:=4) r) ⟨_,_,[],[],r,r,⟨r,r⟩,⟨r,r⟩⟩ r au;refine wee (aU r r) r (av r (av r (av r (nw (wrt ?_)))));cases hF;refine WEx.ret3 r r r r ?_;exact ⟨am,c71,aT,r,ax,sk aV⟩
end Go.Proofs.YtnhifhlbelogcaaGreatDoor
