/- Scripts of ServicePlays that are handed in. -/
import Derived.Test.YtpdpfiaediadgaaSY
import Derived.Test.YtpdpfiaediadgaaSO
import Derived.Test.YtpdpfiaediadgaaLight
set_option linter.unusedVariables false
namespace Go.Proofs.Ytpdpfiaediadgaa
open Go Go.Eng Go.RowKit Go.WideShapes Go.ChangeShapes Go.Deep
section
variable {H : Type} {enc : TypeId × Value → H} {w : World}
theorem len9 {α : Type} : ∀ {l : List α}, l.length = 9 → ∃ a b c d e f g h i, l = [a, b, c, d, e, f, g, h, i]
  | [a, b, c, d, e, f, g, h, i], _ => ⟨a, b, c, d, e, f, g, h, i, rfl⟩
theorem k74 : Try.prog.cellsOf 74 = 9 := by kernel_rfl
theorem b3 : Try.prog.bytesOf 3 = 8 := by kernel_rfl
theorem ints_of_trod {n : Nat} {cs : List Value} {y : DataW H × List MemPlace} (h : DataW.trod enc Try.prog w 0 (fun _ => true) true n 49 cs = some y) (hL : Light Try.prog 49 y.1) :
    ∃ (A : Option Addr) (cap : Nat) (L : List Int), cs = [.slice A L.length cap] ∧ SlR (Rp.int .i64) w (Old w) A cap L ∧ L.length * 8 ≤ reachBytes := by
  obtain ⟨A, cap, L, h1, h2, _, h3⟩ := slr_light Try.underlying49 (Rp.int .i64) (by kernel_rfl) (by decide) (fun _ => True) (fun n cs y h _ => by obtain ⟨z, _, e⟩ := int_trod Try.underlying3 h; exact ⟨z, trivial, e⟩) h hL
  rw [b3] at h3
  exact ⟨A, cap, L, h1, h2, h3⟩
set_option maxRecDepth 100000 in
theorem op_of_trod {n : Nat} {cs : List Value} {y : DataW H × List MemPlace} (h : DataW.trod enc Try.prog w 0 (fun _ => true) true n 74 cs = some y) (hL : Light Try.prog 74 y.1) :
    ∃ x : Op, okOp x ∧ Op.rp.rd w (Old w) x cs := by
  obtain ⟨xs, n', _, hy, hl, hxl, hg⟩ := DataW.trod_struct Try.underlying74 h
  rw [hy] at hL
  have hL' : Light Try.prog 74 (.agg (xs.map (·.1))) := hL
  rw [k74] at hl
  obtain ⟨c0, c1, c2, c3, c4, c5, c6, c7, c8, rfl⟩ := len9 hl
  obtain ⟨y0, y1, y2, y3, y4, y5, y6, y7, y8, rfl⟩ := len9 hxl
  have f0 := fld hg 0 4 0 1 rfl (by kernel_rfl) rfl
  have f1 := fld hg 1 4 1 1 rfl (by kernel_rfl) rfl
  have f2 := fld hg 2 4 2 1 rfl (by kernel_rfl) rfl
  have f3 := fld hg 3 3 3 1 rfl (by kernel_rfl) rfl
  have f4 := fld hg 4 3 4 1 rfl (by kernel_rfl) rfl
  have f5 := fld hg 5 3 5 1 rfl (by kernel_rfl) rfl
  have f6 := fld hg 6 3 6 1 rfl (by kernel_rfl) rfl
  have f7 := fld hg 7 49 7 1 rfl (by kernel_rfl) rfl
  have f8 := fld hg 8 9 8 1 rfl (by kernel_rfl) rfl
  have l7 := fldL Try.underlying74 hL' 7 49 7 rfl rfl
  have l8 := fldL Try.underlying74 hL' 8 9 8 rfl rfl
  obtain ⟨a0, e0⟩ := bool_trod Try.underlying4 f0
  obtain ⟨a1, e1⟩ := bool_trod Try.underlying4 f1
  obtain ⟨a2, e2⟩ := bool_trod Try.underlying4 f2
  obtain ⟨a3, _, e3⟩ := int_trod Try.underlying3 f3
  obtain ⟨a4, _, e4⟩ := int_trod Try.underlying3 f4
  obtain ⟨a5, _, e5⟩ := int_trod Try.underlying3 f5
  obtain ⟨a6, _, e6⟩ := int_trod Try.underlying3 f6
  obtain ⟨A, cap, L, e7, hR, h7⟩ := ints_of_trod f7 l7
  obtain ⟨s, e8, h8⟩ := str_trod Try.underlying9 f8 l8
  cases e0; cases e1; cases e2; cases e3; cases e4; cases e5; cases e6; cases e7; cases e8
  have hr : reachBytes = 140737488351232 := rfl
  exact ⟨⟨a0, a1, a2, a3, a4, a5, a6, L, s⟩, ⟨by show L.length + 4 ≤ NI; unfold NI; omega, by show s.length + 2040 ≤ NB; unfold NB; omega⟩, A, cap, rfl, hR⟩
theorem b74 : Try.prog.bytesOf 74 = 80 := by kernel_rfl
set_option maxRecDepth 100000 in
theorem open_ops {q : Go.Reach} {b0 : Nat} {v : Value} {d : DataW H} {ps : List MemPlace} (hval : Value.okWide Try.prog w q b0 64 v) (hd : DataW.Trod enc Try.prog w 0 (fun _ => true) true 64 v d ps) (hL : Light Try.prog 64 d) :
    ∃ (A : Option Addr) (cap : Nat) (L : List Op), v = .slice A L.length cap ∧ SlR Op.rp w (Old w) A cap L ∧ (∀ x ∈ L, okOp x) ∧ L.length ≤ 9000000000000000000 := by
  obtain ⟨A, cap, L, h1, h2, h3, h4⟩ := slr_Light Try.underlying64 Op.rp (by kernel_rfl) (by decide) okOp (fun n cs y h hL => op_of_trod h hL) hval hd hL
  rw [b74] at h4
  have hr : reachBytes = 140737488351232 := rfl
  exact ⟨A, cap, L, h1, h2, h3, by omega⟩
end
theorem law_plays {w : World} {L : List Op} {A : Option Addr} {c : Nat} (hR : SlR Op.rp w (Old w) A c L) (h1 : ∀ x ∈ L, okOp x) (h2 : L.length ≤ 9000000000000000000) :
    Calls Try.prog 7 [.slice A L.length c].toArray w fun e w' => e = .returned (.bool true) ∧ St w (fun _ => False) w' [] := by
  obtain ⟨k, hk⟩ := plays_true L h1 h2
  exact (law_Plays_calls k L hR Old.nk hk).mono (fun _ _ h => ⟨h.1, h.2.toFalse⟩)
end Go.Proofs.Ytpdpfiaediadgaa
