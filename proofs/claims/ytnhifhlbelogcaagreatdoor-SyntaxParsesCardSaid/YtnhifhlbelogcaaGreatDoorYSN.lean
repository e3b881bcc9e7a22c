/- SyntaxNear's plain law: true for all. -/
import Derived.Test.YtnhifhlbelogcaaGreatDoorYSM
import Derived.Test.YtnhifhlbelogcaaGreatDoorYPQ
set_option linter.unusedVariables false
set_option linter.unusedSimpArgs false
namespace Go.Proofs.YtnhifhlbelogcaaGreatDoor
open Go Go.Eng
theorem alike_ {t:Tree} (h:Sm t):Ev (fun k=>sy_alike k t t) true:=by
 induction h with
 | @mk K nm x a l hl hs ih =>
  refine Ev.unf ?_;simp only [sy_alike];refine Ev.pos (by simp) (Ev.pos (by simp) (Ev.pos (by simp) (Ev.pos (by simp) (Ev.unf ?_))));simp only [sy_alike.j1];refine Ev.neg (by simp) ?_;have loop:∀ (d i:Nat),l.length - i=d→i≤l.length→Ev (fun k=>sy_alike.l1 k ⟨K,nm,x,a,l⟩ ⟨K,nm,x,a,l⟩ (i:Int)) true:=by
   intro d
   induction d with
   | zero =>
    intro i q h2;refine Ev.unf ?_;simp only [sy_alike.l1];exact Ev.neg (by omega) Ev.ret
   | succ d ihd =>
    intro i q h2;have hi:i < l.length:=by omega
    have hx:idx l (i:Int)=some l[i]:=idx_at rfl hi;refine Ev.unf ?_;simp only [sy_alike.l1];refine Ev.pos (by omega) (Ev.bindc hx (Ev.bindc hx (Ev.bind (ih l[i] (List.getElem_mem hi)) (Ev.pos rfl ?_))));rw [w64_succ (by omega)];exact ihd (i+1) (by omega) (by omega)
  exact loop l.length 0 rfl (Nat.zero_le _)
theorem add_ (k:Nat) {a b:Int} (ha:0≤a) (ha':a≤1125899906842624) (hb:0≤b) (hb':b≤1125899906842624):∃ r,(∀ k,sy_add k a b=some r)∧0≤r∧r≤2147483648∧(r≤2147483647→r=a+b):=by
 unfold sy_add;rw [w64_of (n:=2147483647 - a) (by omega) (by omega),w64_of (n:=a+b) (by omega) (by omega)];by_cases h:2147483647 - a < b
 · exact ⟨2147483648,fun k=>by rw [if_pos h],by omega,by omega,by omega⟩
 · exact ⟨a+b,fun k=>by rw [if_neg h],by omega,by omega,fun _=>rfl⟩
theorem thrice_ {a:Int} (ha:0≤a) (ha':a≤1125899906842624):∃ r,(∀ k,sy_thrice k a=some r)∧0≤r∧r≤2147483648∧(r≤2147483647→r=3 * a):=by
 obtain ⟨V,q,C,X,e1⟩:=add_ 0 ha ha' ha ha';obtain ⟨D,h2,E,J,O⟩:=add_ 0 ha ha' C (by omega);refine ⟨D,fun k=>?_,E,J,fun h=>?_⟩
 · unfold sy_thrice
   rw [q,Option.bind_some,h2]
   rfl
 · have:=O h
   have:=e1 (by omega)
   omega
end Go.Proofs.YtnhifhlbelogcaaGreatDoor
