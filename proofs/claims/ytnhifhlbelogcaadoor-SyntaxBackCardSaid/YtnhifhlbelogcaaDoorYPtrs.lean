/- Lists that are kept: as a field of a thing; given in rows; with those that their owner goes through. -/
import Derived.MapKept
import Derived.Laws.IdiomRangeMap
import Derived.LaidEql
import Derived.ChangeKeysEq
import Derived.Test.YtnhifhlbelogcaaDoorYEng3
set_option linter.unusedVariables false
set_option linter.unusedSimpArgs false
namespace Go.Eng
open Go
section
variable {α:Type} {e e':TypeId} {r:Rp α} {A AD:Option Addr} {c cD n:Nat} {LL LD:List (List α)} {G M GD:Grp}
variable {P:Program} {w w0:World} {K:Nat→Prop} {Gs:List Grp}
theorem St.appO {α:Type} {r:Rp α} {L MM LM:List α} {GB:Grp} {B:Option Addr} {d bytes n:Nat} (S:St w0 K w (G::GB::Gs)) {t:TypeId} (hT:Elt P t e r.sz bytes) (hb:(Nat.ble (n * bytes) 140737488355328 && Nat.ble n 140737488355328)=true)
 (h:SlO e r (.slice A L.length c) L G) (hB:SlO e r (.slice B MM.length d) MM GB) (hc:catN n L MM=some LM) :
 ∃ A' c' G' w1,(∀ {N:FN} {l:Fr} {x y:Operand} {dst:Option Tmp} {ty:TypeId} {pos:String} {aft:Array Edge} {g:Option (Nat×Bool)},ev l x=some (.slice A L.length c)→ev l y=some (.slice B MM.length d) →
  GE P N l w ⟨dst,.call { callee:=.builtin .append,args:=#[x,y],argTypes:=#[t,t] },ty,pos,aft,g⟩ (.slice A' LM.length c') w1) ∧
  SlO e r (.slice A' LM.length c') LM G'∧St w0 K w1 (G'::Gs):=by
 obtain ⟨xs,q,C,E,J,rfl⟩:=hB;have D:St w0 K w (G::C::q::Gs):=S.perm (by
  simp only [List.flatten_cons];have e1:G++(q++C++Gs.flatten)=G++(q++(C++Gs.flatten)):=by simp
  rw [e1];exact (List.perm_append_comm_assoc _ _ _).append_left _)
 obtain ⟨hmn,hrd⟩:=E.rd (w:=w) (fun b o hb=>D.grp 2 rfl hb);obtain ⟨A',c',G',w1,hE,hO,O,_⟩:=St.app (P:=P) D hT hb h hrd J rfl hc;exact ⟨A',c',G',w1,hE,hO,(O.perm (Gs':=q::G'::Gs) (by simp only [List.flatten_cons];exact List.perm_append_comm_assoc _ _ _)).drop⟩
end
end Go.Eng
namespace Go.Eng
theorem St.reord {w0 w:World} {K:Nat→Prop} {Gs Gs':List Grp} (S:St w0 K w Gs) (is:List Nat) (n:Nat) (hn:Gs.length=n) (hp:is.isPerm (List.range n)=true) (he:is.map (fun i=>Gs.getD i [])=Gs'):St w0 K w Gs':=by
 subst he;have q:(is.map (fun i=>Gs.getD i [])).Perm ((List.range n).map (fun i=>Gs.getD i [])):=(List.isPerm_iff.1 hp).map _;have C:(List.range n).map (fun i=>Gs.getD i [])=Gs:=by
  subst hn
  apply List.ext_getElem
  · simp
  · intro i q C
    simp [List.getD_eq_getElem?_getD,C]
 rw [C] at q;exact S.perm q.symm.flatten
end Go.Eng
