/- Pieces that are handed in. -/
import Derived.Test.YtpdpfiaediadgaaDoorLexX
import Derived.Test.YtpdpfiaediadgaaDoorOpen
set_option linter.unusedVariables false
namespace Go.Proofs.YtpdpfiaediadgaaDoor
open Go Go.Eng Go.RowKit Go.WideShapes Go.ChangeShapes Go.Deep
section
variable {H : Type} {enc : TypeId × Value → H} {w : World}
theorem gap_of_trod {n : Nat} {cs : List Value} {y : DataW H × List MemPlace} (h : DataW.trod enc Tryd.prog w 0 (fun _ => true) true n 34 cs = some y) :
    ∃ (A : Option Addr) (cap : Nat) (L : List Int), cs = [.slice A L.length cap] ∧ SlR (Rp.int .i64) w (Old w) A cap L ∧ ∀ x ∈ L, In64 x :=
  slr_trod Tryd.underlying34 (Rp.int .i64) (by kernel_rfl) (by decide) In64 (fun n cs y h => by obtain ⟨z, hz, e⟩ := int_trod Tryd.underlying3 h; exact ⟨z, hz, e⟩) h
theorem len4 {α : Type} : ∀ {l : List α}, l.length = 4 → ∃ a b c d, l = [a, b, c, d]
  | [a, b, c, d], _ => ⟨a, b, c, d, rfl⟩
theorem k41 : Tryd.prog.cellsOf 41 = 4 := by kernel_rfl
set_option maxRecDepth 100000 in
theorem piece_of_trod {n : Nat} {cs : List Value} {y : DataW H × List MemPlace} (h : DataW.trod enc Tryd.prog w 0 (fun _ => true) true n 41 cs = some y) :
    ∃ x : Piece, In64 x.N ∧ Piece.rp.rd w (Old w) x cs := by
  obtain ⟨xs, n', _, _, hl, hxl, hg⟩ := DataW.trod_struct Tryd.underlying41 h
  rw [k41] at hl
  obtain ⟨c0, c1, c2, c3, rfl⟩ := len4 hl
  obtain ⟨y0, y1, y2, y3, rfl⟩ := len4 hxl
  have f0 := fld hg 0 3 0 1 rfl (by kernel_rfl) rfl
  have f1 := fld hg 1 3 1 1 rfl (by kernel_rfl) rfl
  have f2 := fld hg 2 9 2 1 rfl (by kernel_rfl) rfl
  have f3 := fld hg 3 34 3 1 rfl (by kernel_rfl) rfl
  obtain ⟨a0, _, e0⟩ := int_trod Tryd.underlying3 f0
  obtain ⟨a1, h1, e1⟩ := int_trod Tryd.underlying3 f1
  obtain ⟨b, e2, _, _⟩ := DataW.trod_string Tryd.underlying9 f2
  obtain ⟨A, cap, L, e3, hR, _⟩ := gap_of_trod f3
  obtain ⟨s, rfl⟩ := bs_ex b
  cases e0; cases e1; cases e2; cases e3
  exact ⟨⟨a0, a1, s, L⟩, h1, A, cap, rfl, hR⟩
theorem open_pieces {q : Go.Reach} {b0 : Nat} {v : Value} {d : DataW H} {ps : List MemPlace} (hval : Value.okWide Tryd.prog w q b0 33 v) (hd : DataW.Trod enc Tryd.prog w 0 (fun _ => true) true 33 v d ps) :
    ∃ (A : Option Addr) (cap : Nat) (L : List Piece), v = .slice A L.length cap ∧ SlR Piece.rp w (Old w) A cap L ∧ ∀ x ∈ L, In64 x.N :=
  slr_Trod Tryd.underlying33 Piece.rp (by kernel_rfl) (by decide) (fun x => In64 x.N) (fun n cs y h => piece_of_trod h) hval hd
theorem open_gap {q : Go.Reach} {b0 : Nat} {v : Value} {d : DataW H} {ps : List MemPlace} (hval : Value.okWide Tryd.prog w q b0 34 v) (hd : DataW.Trod enc Tryd.prog w 0 (fun _ => true) true 34 v d ps) :
    ∃ (A : Option Addr) (cap : Nat) (L : List Int), v = .slice A L.length cap ∧ SlR (Rp.int .i64) w (Old w) A cap L ∧ ∀ x ∈ L, In64 x :=
  slr_Trod Tryd.underlying34 (Rp.int .i64) (by kernel_rfl) (by decide) In64 (fun n cs y h => by obtain ⟨z, hz, e⟩ := int_trod Tryd.underlying3 h; exact ⟨z, hz, e⟩) hval hd
end
end Go.Proofs.YtpdpfiaediadgaaDoor
