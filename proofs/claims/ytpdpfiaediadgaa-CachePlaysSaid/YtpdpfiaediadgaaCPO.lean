/- What CachePlays is handed. -/
import Derived.Test.YtpdpfiaediadgaaCZ
import Derived.Test.YtpdpfiaediadgaaOpen3
import Derived.Test.YtpdpfiaediadgaaLight
set_option linter.unusedVariables false
namespace Go.Proofs.Ytpdpfiaediadgaa
open Go Go.Eng Go.RowKit Go.WideShapes Go.ChangeShapes Go.Deep
section
variable {H : Type} {enc : TypeId × Value → H} {w : World}
theorem len9' {α : Type} : ∀ {l : List α}, l.length = 9 → ∃ a b c d e f g h i, l = [a, b, c, d, e, f, g, h, i]
  | [a, b, c, d, e, f, g, h, i], _ => ⟨a, b, c, d, e, f, g, h, i, rfl⟩
theorem len8' {α : Type} : ∀ {l : List α}, l.length = 8 → ∃ a b c d e f g h, l = [a, b, c, d, e, f, g, h]
  | [a, b, c, d, e, f, g, h], _ => ⟨a, b, c, d, e, f, g, h, rfl⟩
theorem len4' {α : Type} : ∀ {l : List α}, l.length = 4 → ∃ a b c d, l = [a, b, c, d]
  | [a, b, c, d], _ => ⟨a, b, c, d, rfl⟩
theorem len2' {α : Type} : ∀ {l : List α}, l.length = 2 → ∃ a b, l = [a, b]
  | [a, b], _ => ⟨a, b, rfl⟩
theorem k36 : Try.prog.cellsOf 36 = 9 := by kernel_rfl
theorem k34 : Try.prog.cellsOf 34 = 2 := by kernel_rfl
theorem k26 : Try.prog.cellsOf 26 = 4 := by kernel_rfl
theorem b36 : Try.prog.bytesOf 36 = 72 := by kernel_rfl
theorem k3' : Try.prog.cellsOf 3 = 1 := by kernel_rfl
set_option maxRecDepth 100000 in
theorem who_of_trod {n : Nat} {cs : List Value} {y : DataW H × List MemPlace} (h : DataW.trod enc Try.prog w 0 (fun _ => true) true n 34 cs = some y) : ∃ a b : Int, cs = [.int .i64 a, .int .i64 b] := by
  obtain ⟨xs, n', _, hy, hl, hxl, hg⟩ := DataW.trod_struct Try.underlying34 h
  rw [k34] at hl
  obtain ⟨c0, c1, rfl⟩ := len2' hl
  obtain ⟨y0, y1, rfl⟩ := len2' hxl
  have f0 := fld hg 0 3 0 1 rfl (by kernel_rfl) rfl
  have f1 := fld hg 1 3 1 1 rfl (by kernel_rfl) rfl
  obtain ⟨a, _, e0⟩ := int_trod Try.underlying3 f0
  obtain ⟨b, _, e1⟩ := int_trod Try.underlying3 f1
  cases e0; cases e1
  exact ⟨a, b, rfl⟩
set_option maxRecDepth 100000 in
theorem opc_of_trod {n : Nat} {cs : List Value} {y : DataW H × List MemPlace} (h : DataW.trod enc Try.prog w 0 (fun _ => true) true n 36 cs = some y) (hL : Light Try.prog 36 y.1) :
    ∃ x : OpC, True ∧ OpC.rp.rd w (Old w) x cs := by
  obtain ⟨xs, n', _, hy, hl, hxl, hg⟩ := DataW.trod_struct Try.underlying36 h
  rw [hy] at hL
  have hL' : Light Try.prog 36 (.agg (xs.map (·.1))) := hL
  rw [k36] at hl
  obtain ⟨c0, c1, c2, c3, c4, c5, c6, c7, c8, rfl⟩ := len9' hl
  obtain ⟨y0, y1, y2, y3, y4, y5, y6, y7, rfl⟩ := len8' hxl
  have f0 := fld hg 0 4 0 1 rfl (by kernel_rfl) rfl
  have f1 := fld hg 1 4 1 1 rfl (by kernel_rfl) rfl
  have f2 := fld hg 2 3 2 1 rfl (by kernel_rfl) rfl
  have f3 := fld hg 3 3 3 1 rfl (by kernel_rfl) rfl
  have f4 := fld hg 4 3 4 1 rfl (by kernel_rfl) rfl
  have f5 := fld hg 5 3 5 1 rfl (by kernel_rfl) rfl
  have f6 := fld hg 6 34 6 2 rfl (by kernel_rfl) rfl
  have f7 := fld hg 7 9 8 1 rfl (by kernel_rfl) rfl
  have l7 := fldL Try.underlying36 hL' 7 9 8 rfl rfl
  obtain ⟨a0, e0⟩ := bool_trod Try.underlying4 f0
  obtain ⟨a1, e1⟩ := bool_trod Try.underlying4 f1
  obtain ⟨a2, _, e2⟩ := int_trod Try.underlying3 f2
  obtain ⟨a3, _, e3⟩ := int_trod Try.underlying3 f3
  obtain ⟨a4, _, e4⟩ := int_trod Try.underlying3 f4
  obtain ⟨a5, _, e5⟩ := int_trod Try.underlying3 f5
  obtain ⟨a6, a7, e6⟩ := who_of_trod f6
  obtain ⟨s, e7, h7⟩ := str_trod Try.underlying9 f7 l7
  cases e0; cases e1; cases e2; cases e3; cases e4; cases e5; cases e6; cases e7
  exact ⟨⟨a0, a1, a2, a3, a4, a5, ⟨a6, a7⟩, s⟩, trivial, rfl⟩
set_option maxRecDepth 100000 in
theorem open_opcs {q : Go.Reach} {b0 : Nat} {v : Value} {d : DataW H} {ps : List MemPlace} (hval : Value.okWide Try.prog w q b0 24 v) (hd : DataW.Trod enc Try.prog w 0 (fun _ => true) true 24 v d ps) (hL : Light Try.prog 24 d) :
    ∃ (A : Option Addr) (cap : Nat) (L : List OpC), v = .slice A L.length cap ∧ SlR OpC.rp w (Old w) A cap L ∧ L.length ≤ lim := by
  obtain ⟨A, cap, L, h1, h2, h3, h4⟩ := slr_Light Try.underlying24 OpC.rp (by kernel_rfl) (by decide) (fun _ => True) (fun n cs y h hL => opc_of_trod h hL) hval hd hL
  rw [b36] at h4
  have hr : reachBytes = 140737488351232 := rfl
  exact ⟨A, cap, L, h1, h2, by unfold lim; omega⟩
set_option maxRecDepth 100000 in
theorem open_config {q : Go.Reach} {b0 : Nat} {v : Value} {d : DataW H} {ps : List MemPlace} (hval : Value.okWide Try.prog w q b0 26 v) (hd : DataW.Trod enc Try.prog w 0 (fun _ => true) true 26 v d ps) :
    ∃ x : CacheConfig, v = .agg #[.int .i64 x.Clients, .int .i64 x.Entries, .int .i64 x.Bytes, .int .i64 x.Reserve] := by
  obtain ⟨cs, rfl, hsz⟩ := okWide_struct Try.underlying26 hval
  obtain ⟨fuel, hf⟩ := hd
  obtain ⟨xs, n', _, _, hl, hxl, hg⟩ := DataW.trod_struct Try.underlying26 hf
  rw [k26] at hl
  obtain ⟨c0, c1, c2, c3, e⟩ := len4' hl
  obtain ⟨y0, y1, y2, y3, rfl⟩ := len4' hxl
  rw [e] at hg
  have f0 := fld hg 0 3 0 1 rfl k3' rfl
  have f1 := fld hg 1 3 1 1 rfl k3' rfl
  have f2 := fld hg 2 3 2 1 rfl k3' rfl
  have f3 := fld hg 3 3 3 1 rfl k3' rfl
  obtain ⟨a0, _, e0⟩ := int_trod Try.underlying3 f0
  obtain ⟨a1, _, e1⟩ := int_trod Try.underlying3 f1
  obtain ⟨a2, _, e2⟩ := int_trod Try.underlying3 f2
  obtain ⟨a3, _, e3⟩ := int_trod Try.underlying3 f3
  cases e0; cases e1; cases e2; cases e3
  refine ⟨⟨a0, a1, a2, a3⟩, ?_⟩
  simp only [Value.cells] at e
  rw [← Array.toArray_toList (xs := cs), e]
end
theorem law_cplays {w : World} {x y : CacheConfig} {L : List OpC} {A : Option Addr} {c : Nat} (hR : SlR OpC.rp w (Old w) A c L) (hL : L.length ≤ lim) :
    Calls Try.prog 6 [.agg #[.int .i64 x.Clients, .int .i64 x.Entries, .int .i64 x.Bytes, .int .i64 x.Reserve], .agg #[.int .i64 y.Clients, .int .i64 y.Entries, .int .i64 y.Bytes, .int .i64 y.Reserve], .slice A L.length c].toArray w fun e w' => e = .returned (.bool true) ∧ St w (fun _ => False) w' [] := by
  obtain ⟨k, hk⟩ := cplays_true x y L hL
  exact (law_CPlays_calls k x y L hR Old.nk hk).mono (fun _ _ h => ⟨h.1, h.2.toFalse⟩)
theorem own : ownKnob Try.prog.godebug = none := by kernel_rfl
theorem laid : laidOutB Try.prog = true := by kernel_rfl
end Go.Proofs.Ytpdpfiaediadgaa
