/- How a row of the syntax begins: what its list of variables gives, a world for the witness. -/
import Derived.Test.YtnhifhlbelogcaaGreatDoorCards
import Derived.Test.YtnhifhlbelogcaaGreatDoorTie
import Derived.Test.YtnhifhlbelogcaaGreatDoorYLG
import Derived.Test.YtnhifhlbelogcaaGreatDoorYOpen3
import Derived.WalkKit
import Derived.ProofKit
import Derived.OpenShut
import Derived.ChangeMaps5
import Derived.Deep.DeepHandedRow
import Derived.Deep.DeepWitnessRowRef
import Derived.Lib.LaidTab
import Derived.Lib.LaidU8
namespace Go.Proofs.YtnhifhlbelogcaaGreatDoor
open Go Go.Eng Go.ChangeShapes Go.WideShapes Go.ChangeAt Go.RowKit
theorem open_i64 {H:Type} {enc:TypeId×Value→H} {w:World} {P:Program} {t:TypeId} (ht:P.underlying t=some (.int .i64)) {q:Go.Reach} {C:Nat} {v:Value} {d:DataW H} {ps:List MemPlace} (hval:Value.okWide P w q C t v) (hd:DataW.Trod enc P w 0 (fun _=>true) true t v d ps):∃ x:Int,v = .int .i64 x∧In64 x∧d = .lit (.int .i64 x)∧ps=[]:=by
 obtain ⟨a,rfl,D,h2,wf⟩:=ChangeShapes.open_int ht hval hd;exact ⟨a,rfl,wf_In64 wf,D,h2⟩
theorem own:ownKnob Tryz.prog.godebug=none:=by kernel_rfl
theorem laidOut:laidOutB Tryz.prog=true:=by kernel_rfl
theorem gAType:(Tryz.prog.globals[1]?).map (·.type)=some 110:=by kernel_rfl
theorem cells5:Tryz.prog.cellsOf 5=1:=by kernel_rfl
theorem cells110:Tryz.prog.cellsOf 110=256:=by kernel_rfl
theorem tabData_eq:(Rows.laid_strings_asciiSpace:DataW Unit)=Lib.tabData .u8 Lib.asciiSpaceTab:=by kernel_rfl
theorem int_of_shape {P:Program} {w:World} {g:Nat} {t:TypeId} {zero:Array Value} (h:w.ShapedOpen P) (hg:g < P.globals.size)
 (C:((begin P (fun _ _=>0) default).world.heap[g]?).bind Obj.row? = some (zero,t)) (hz:zero.size=1)
 (hb:P.buildable t=true) (hc:P.cellTypes P.depth t=some [t]) (hu:P.underlying t=some (.int .i64)):∃ m,w.cell? ⟨g,0,none⟩=some (.int .i64 m):=by
 obtain ⟨cs,hh,hs,hr⟩:=h.1 g zero t hg C;obtain ⟨ts,hts,_,hall⟩:=hr hb;rw [hc] at hts;cases hts;have q:0 < cs.size:=by omega
 obtain ⟨u,hu',hok⟩:=hall 0 cs[0] (by simp [q]);have:u=t:=by simpa using hu'.symm
 subst this;have hcell:w.cell? ⟨g,0,none⟩=some cs[0]:=by simp [World.cell?,hh,q]
 rw [hcell];unfold Cell.ok at hok;rw [hu] at hok;cases hv:cs[0] <;> rw [hv] at hok <;> first | (simp at hok;done) | skip
 rename_i k m
 have hk:k = .i64:=by cases k <;> simp at hok <;> first | rfl | exact absurd hok (by simp)
 subst hk;exact ⟨m,rfl⟩
theorem max_cell {w:World} (h:w.ShapedOpen Tryz.prog):∃ m,w.cell? ⟨0,0,none⟩=some (.int .i64 m) :=
 int_of_shape (t:=3) (zero:=#[.int .i64 0]) h (of_decide_eq_true (by kernel_rfl)) (by kernel_rfl) rfl (by kernel_rfl) (by kernel_rfl) Tryz.underlying3
def FGl:Nat→Prop:=fun b=>b=1∨b=0
theorem globs {W:World} (hL:laidMet Tryz.prog Rows.syntaxNearRow.laid W) (hsh:W.ShapedOpen Tryz.prog):Glob FGl W∧∀ b,FGl b→NK W [] b:=by
 have q : Lib.TabIs Tryz.prog W "strings.asciiSpace" .u8 Lib.asciiSpaceTab := by
  obtain ⟨g,t,cs,fuel,p,D,h2,E,C⟩:=Lib.laidMet.reads hL (.tail _ (.tail _ (.tail _ (.tail _ (.head _)))));obtain rfl:=Option.some.inj (gA.symm.trans D);obtain rfl:=Option.some.inj (gAType.symm.trans h2);rw [tabData_eq] at C;unfold Lib.TabIs;rw [E,← Lib.cells_of_tab Tryz.underlying110 Tryz.underlying5 cells5 cells110 C]
 have h2:∃ m,W.cell? ⟨0,0,none⟩=some (.int .i64 m):=max_cell hsh;refine ⟨⟨.inl rfl,.inr rfl,h2,q⟩,?_⟩;have c0:=q.cell gA 0 (by rw [Lib.asciiSpaceTab_length];decide);have lt:∀ {b o:Nat} {v:Value},W.cell? ⟨b,o,none⟩=some v→b < W.heap.size:=by
  intro b o v h;rcases Nat.lt_or_ge b W.heap.size with hl | hl
  · exact hl
  · unfold World.cell? at h
    simp [Array.getElem?_eq_none hl] at h
 obtain ⟨m,hm⟩:=h2;rintro b (rfl | rfl)
 · exact ⟨by simp [keys],lt c0⟩
 · exact ⟨by simp [keys],lt hm⟩
noncomputable def laidWorld (os:Os):World :=
 let N:=(World.settled Tryz.prog os).heap.size
 let w0:=World.holding Tryz.prog os ⟨#[
  .cells #[.int .u16 9,.int .u16 13,.int .u16 1,.int .u16 32,.int .u16 133,.int .u16 101,.int .u16 160,.int .u16 5760,.int .u16 5600,.int .u16 8192,.int .u16 8202,.int .u16 1,.int .u16 8232,.int .u16 8233,.int .u16 1,.int .u16 8239,.int .u16 8287,.int .u16 48,.int .u16 12288,.int .u16 12288,.int .u16 1] 129,
  .cells #[.slice (some ⟨N,0,none⟩) 7 7,.slice none 0 0,.int .i64 2] 126],#[],[]⟩
 let put (h:Array Obj) (g:Nat) (cs:Array Value):Array Obj:=h.modify g fun
  | .cells _ t frozen=>.cells cs t frozen
  | o=>o
 let q:=put w0.heap 1 (Lib.asciiSpaceTab.map fun z=>Value.int .u8 z).toArray
 let h2:=put q 2 #[.pointer (some ⟨N+1,0,none⟩)]
 let C:=put h2 3 #[.int .u64 1,.int .u64 10,.int .u64 100,.int .u64 1000,.int .u64 10000,.int .u64 100000,.int .u64 1000000,.int .u64 10000000,.int .u64 100000000,.int .u64 1000000000,.int .u64 10000000000,.int .u64 100000000000,.int .u64 1000000000000,.int .u64 10000000000000,.int .u64 100000000000000,.int .u64 1000000000000000,.int .u64 10000000000000000,.int .u64 100000000000000000,.int .u64 1000000000000000000,.int .u64 10000000000000000000]
 let D:=put C 4 #[.int .u8 0,.int .u8 1,.int .u8 28,.int .u8 2,.int .u8 29,.int .u8 14,.int .u8 24,.int .u8 3,.int .u8 30,.int .u8 22,.int .u8 20,.int .u8 15,.int .u8 25,.int .u8 17,.int .u8 4,.int .u8 8,.int .u8 31,.int .u8 27,.int .u8 13,.int .u8 23,.int .u8 21,.int .u8 19,.int .u8 16,.int .u8 7,.int .u8 26,.int .u8 12,.int .u8 18,.int .u8 6,.int .u8 11,.int .u8 5,.int .u8 10,.int .u8 9]
 let E:=put D 5 #[.int .u8 0,.int .u8 1,.int .u8 56,.int .u8 2,.int .u8 57,.int .u8 49,.int .u8 28,.int .u8 3,.int .u8 61,.int .u8 58,.int .u8 42,.int .u8 50,.int .u8 38,.int .u8 29,.int .u8 17,.int .u8 4,.int .u8 62,.int .u8 47,.int .u8 59,.int .u8 36,.int .u8 45,.int .u8 43,.int .u8 51,.int .u8 22,.int .u8 53,.int .u8 39,.int .u8 33,.int .u8 30,.int .u8 24,.int .u8 18,.int .u8 12,.int .u8 5,.int .u8 63,.int .u8 55,.int .u8 48,.int .u8 27,.int .u8 60,.int .u8 41,.int .u8 37,.int .u8 16,.int .u8 46,.int .u8 35,.int .u8 44,.int .u8 21,.int .u8 52,.int .u8 32,.int .u8 23,.int .u8 11,.int .u8 54,.int .u8 26,.int .u8 40,.int .u8 15,.int .u8 34,.int .u8 20,.int .u8 31,.int .u8 10,.int .u8 25,.int .u8 14,.int .u8 19,.int .u8 9,.int .u8 13,.int .u8 8,.int .u8 7,.int .u8 6]
 { w0 with heap:=E }
end Go.Proofs.YtnhifhlbelogcaaGreatDoor
