/- What ShelfPlays is handed. -/
import Derived.Test.YtoahkjehjmbojaaQC
import Derived.Test.YtoahkjehjmbojaaOpen3
set_option linter.unusedVariables false
namespace Go.Proofs.Ytoahkjehjmbojaa
open Go Go.Eng Go.RowKit Go.WideShapes Go.ChangeShapes Go.Deep
section
variable {H : Type} {enc : TypeId × Value → H} {w : World}
theorem open_i64 {P : Program} {t : TypeId} (ht : P.underlying t = some (.int .i64)) {q : Go.Reach} {b0 : Nat} {v : Value} {d : DataW H} {ps : List MemPlace} (hval : Value.okWide P w q b0 t v) (hd : DataW.Trod enc P w 0 (fun _ => true) true t v d ps) : ∃ x : Int, v = .int .i64 x ∧ In64 x := by
  obtain ⟨a, rfl, _, _, wf⟩ := open_int ht hval hd
  exact ⟨a, rfl, wf_In64 wf⟩
theorem len7' {α : Type} : ∀ {l : List α}, l.length = 7 → ∃ a b c d e f g, l = [a, b, c, d, e, f, g]
  | [a, b, c, d, e, f, g], _ => ⟨a, b, c, d, e, f, g, rfl⟩
theorem len6' {α : Type} : ∀ {l : List α}, l.length = 6 → ∃ a b c d e f, l = [a, b, c, d, e, f]
  | [a, b, c, d, e, f], _ => ⟨a, b, c, d, e, f, rfl⟩
theorem len2' {α : Type} : ∀ {l : List α}, l.length = 2 → ∃ a b, l = [a, b]
  | [a, b], _ => ⟨a, b, rfl⟩
theorem k116 : Try.prog.cellsOf 116 = 7 := by kernel_rfl
theorem k103 : Try.prog.cellsOf 103 = 2 := by kernel_rfl
set_option maxRecDepth 100000 in
theorem keyS_of_trod {n : Nat} {cs : List Value} {y : DataW H × List MemPlace} (h : DataW.trod enc Try.prog w 0 (fun _ => true) true n 103 cs = some y) : ∃ (s : List UInt8) (a : Int), cs = [.string (bs s), .int .i64 a] := by
  obtain ⟨xs, n', _, hy, hl, hxl, hg⟩ := DataW.trod_struct Try.underlying103 h
  rw [k103] at hl
  obtain ⟨c0, c1, rfl⟩ := len2' hl
  obtain ⟨y0, y1, rfl⟩ := len2' hxl
  have f0 := fld hg 0 9 0 1 rfl (by kernel_rfl) rfl
  have f1 := fld hg 1 3 1 1 rfl (by kernel_rfl) rfl
  obtain ⟨s, e0, _⟩ := DataW.trod_string Try.underlying9 f0
  obtain ⟨l, rfl⟩ := bs_ex s
  obtain ⟨a1, _, e1⟩ := int_trod Try.underlying3 f1
  cases e0; cases e1
  exact ⟨l, a1, rfl⟩
set_option maxRecDepth 100000 in
theorem opS_of_trod {n : Nat} {cs : List Value} {y : DataW H × List MemPlace} (h : DataW.trod enc Try.prog w 0 (fun _ => true) true n 116 cs = some y) :
    ∃ x : OpS, OpSOk x ∧ OpS.rp.rd w (Old w) x cs := by
  obtain ⟨xs, n', _, hy, hl, hxl, hg⟩ := DataW.trod_struct Try.underlying116 h
  rw [k116] at hl
  obtain ⟨c0, c1, c2, c3, c4, c5, c6, rfl⟩ := len7' hl
  obtain ⟨y0, y1, y2, y3, y4, y5, rfl⟩ := len6' hxl
  have f0 := fld hg 0 3 0 1 rfl (by kernel_rfl) rfl
  have f1 := fld hg 1 3 1 1 rfl (by kernel_rfl) rfl
  have f2 := fld hg 2 103 2 2 rfl (by kernel_rfl) rfl
  have f3 := fld hg 3 3 4 1 rfl (by kernel_rfl) rfl
  have f4 := fld hg 4 3 5 1 rfl (by kernel_rfl) rfl
  have f5 := fld hg 5 3 6 1 rfl (by kernel_rfl) rfl
  obtain ⟨a0, w0, e0⟩ := int_trod Try.underlying3 f0
  obtain ⟨a1, w1, e1⟩ := int_trod Try.underlying3 f1
  obtain ⟨s, a2, e2⟩ := keyS_of_trod f2
  obtain ⟨a3, w3, e3⟩ := int_trod Try.underlying3 f3
  obtain ⟨a4, w4, e4⟩ := int_trod Try.underlying3 f4
  obtain ⟨a5, w5, e5⟩ := int_trod Try.underlying3 f5
  cases e0; cases e1; cases e2; cases e3; cases e4; cases e5
  exact ⟨⟨a0, a1, ⟨s, a2⟩, a3, a4, a5⟩, w1, rfl⟩
set_option maxRecDepth 100000 in
theorem open_shelf {q : Go.Reach} {b0 : Nat} {v : Value} {d : DataW H} {ps : List MemPlace} (hval : Value.okWide Try.prog w q b0 96 v) (hd : DataW.Trod enc Try.prog w 0 (fun _ => true) true 96 v d ps) :
    ∃ (A : Option Addr) (cap : Nat) (L : List OpS), v = .slice A L.length cap ∧ SlR OpS.rp w (Old w) A cap L ∧ ∀ o ∈ L, OpSOk o :=
  slr_Trod Try.underlying96 OpS.rp (by kernel_rfl) (by decide) OpSOk (fun n cs y h => opS_of_trod h) hval hd
end
theorem law_shelf {w : World} {x0 x1 : Int} {L : List OpS} {A : Option Addr} {c : Nat} (hR : SlR OpS.rp w (Old w) A c L) (hok : ∀ o ∈ L, OpSOk o) :
    Calls Try.prog 10 [.int .i64 x0, .int .i64 x1, .slice A L.length c].toArray w fun e w' => e = .returned (.bool true) ∧ St w (fun _ => False) w' [] := by
  obtain ⟨k, hk⟩ := (plays_all (a0 := x0) (a1 := x1) hok awakeS_ev).get
  exact (law_SPlays_calls k x0 x1 L hR Old.nk hk).mono (fun _ _ h => ⟨h.1, h.2.toFalse⟩)
theorem own : ownKnob Try.prog.godebug = none := by kernel_rfl
theorem laid : laidOutB Try.prog = true := by kernel_rfl
end Go.Proofs.Ytoahkjehjmbojaa
