/- What AirPlays is handed. -/
import Derived.Test.YtoahkjehjmbojaaAF
import Derived.Test.YtoahkjehjmbojaaLight
set_option linter.unusedVariables false
namespace Go.Proofs.Ytoahkjehjmbojaa
open Go Go.Eng Go.RowKit Go.WideShapes Go.ChangeShapes Go.Deep
section
variable {H : Type} {enc : TypeId × Value → H} {w : World}
theorem len7' {α : Type} : ∀ {l : List α}, l.length = 7 → ∃ a b c d e f g, l = [a, b, c, d, e, f, g]
  | [a, b, c, d, e, f, g], _ => ⟨a, b, c, d, e, f, g, rfl⟩
theorem len5' {α : Type} : ∀ {l : List α}, l.length = 5 → ∃ a b c d e, l = [a, b, c, d, e]
  | [a, b, c, d, e], _ => ⟨a, b, c, d, e, rfl⟩
theorem len3' {α : Type} : ∀ {l : List α}, l.length = 3 → ∃ a b c, l = [a, b, c]
  | [a, b, c], _ => ⟨a, b, c, rfl⟩
theorem k39 : Try.prog.cellsOf 39 = 7 := by kernel_rfl
theorem k37 : Try.prog.cellsOf 37 = 3 := by kernel_rfl
theorem b39 : Try.prog.bytesOf 39 = 64 := by kernel_rfl
set_option maxRecDepth 100000 in
theorem packet_of_trod {n : Nat} {cs : List Value} {y : DataW H × List MemPlace} (h : DataW.trod enc Try.prog w 0 (fun _ => true) true n 37 cs = some y) (hL : Light Try.prog 37 y.1) : ∃ (a b : Int) (s : List UInt8), cs = [.int .i64 a, .int .i64 b, .string (bs s)] ∧ s.length ≤ reachBytes := by
  obtain ⟨xs, n', _, hy, hl, hxl, hg⟩ := DataW.trod_struct Try.underlying37 h
  rw [hy] at hL
  have hL' : Light Try.prog 37 (.agg (xs.map (·.1))) := hL
  rw [k37] at hl
  obtain ⟨c0, c1, c2, rfl⟩ := len3' hl
  obtain ⟨y0, y1, y2, rfl⟩ := len3' hxl
  have f0 := fld hg 0 3 0 1 rfl (by kernel_rfl) rfl
  have f1 := fld hg 1 3 1 1 rfl (by kernel_rfl) rfl
  have f2 := fld hg 2 9 2 1 rfl (by kernel_rfl) rfl
  have l2 := fldL Try.underlying37 hL' 2 9 2 rfl rfl
  obtain ⟨a0, _, e0⟩ := int_trod Try.underlying3 f0
  obtain ⟨a1, _, e1⟩ := int_trod Try.underlying3 f1
  obtain ⟨s, e2, h2⟩ := str_trod Try.underlying9 f2 l2
  cases e0; cases e1; cases e2
  exact ⟨a0, a1, s, rfl, h2⟩
set_option maxRecDepth 100000 in
theorem op_of_trod {n : Nat} {cs : List Value} {y : DataW H × List MemPlace} (h : DataW.trod enc Try.prog w 0 (fun _ => true) true n 39 cs = some y) (hL : Light Try.prog 39 y.1) :
    ∃ x : Op, OpOk x ∧ Op.rp.rd w (Old w) x cs := by
  obtain ⟨xs, n', _, hy, hl, hxl, hg⟩ := DataW.trod_struct Try.underlying39 h
  rw [hy] at hL
  have hL' : Light Try.prog 39 (.agg (xs.map (·.1))) := hL
  rw [k39] at hl
  obtain ⟨c0, c1, c2, c3, c4, c5, c6, rfl⟩ := len7' hl
  obtain ⟨y0, y1, y2, y3, y4, rfl⟩ := len5' hxl
  have f0 := fld hg 0 3 0 1 rfl (by kernel_rfl) rfl
  have f1 := fld hg 1 3 1 1 rfl (by kernel_rfl) rfl
  have f2 := fld hg 2 3 2 1 rfl (by kernel_rfl) rfl
  have f3 := fld hg 3 3 3 1 rfl (by kernel_rfl) rfl
  have f4 := fld hg 4 37 4 3 rfl (by kernel_rfl) rfl
  have l4 := fldL Try.underlying39 hL' 4 37 4 rfl rfl
  obtain ⟨a0, w0, e0⟩ := int_trod Try.underlying3 f0
  obtain ⟨a1, w1, e1⟩ := int_trod Try.underlying3 f1
  obtain ⟨a2, w2, e2⟩ := int_trod Try.underlying3 f2
  obtain ⟨a3, w3, e3⟩ := int_trod Try.underlying3 f3
  obtain ⟨a4, a5, s, e4, h4⟩ := packet_of_trod f4 l4
  cases e0; cases e1; cases e2; cases e3; cases e4
  exact ⟨⟨a0, a1, a2, a3, ⟨a4, a5, s⟩⟩, ⟨w1, w2, w3, h4⟩, rfl⟩
set_option maxRecDepth 100000 in
theorem open_air {q : Go.Reach} {b0 : Nat} {v : Value} {d : DataW H} {ps : List MemPlace} (hval : Value.okWide Try.prog w q b0 22 v) (hd : DataW.Trod enc Try.prog w 0 (fun _ => true) true 22 v d ps) (hL : Light Try.prog 22 d) :
    ∃ (A : Option Addr) (cap : Nat) (L : List Op), v = .slice A L.length cap ∧ SlR Op.rp w (Old w) A cap L ∧ (∀ o ∈ L, OpOk o) ∧ L.length ≤ 140737488355328 := by
  obtain ⟨A, cap, L, h1, h2, h3, h4⟩ := slr_Light Try.underlying22 Op.rp (by kernel_rfl) (by decide) OpOk (fun n cs y h hL => op_of_trod h hL) hval hd hL
  rw [b39] at h4
  have hr : reachBytes = 140737488351232 := rfl
  exact ⟨A, cap, L, h1, h2, h3, by omega⟩
end
theorem awake_k (k : Nat) : yawake (k + 9) = some true := by kernel_rfl
theorem awake_ev : Ev yawake true := ⟨9, fun k hk => by
  obtain ⟨m, rfl⟩ : ∃ m, k = m + 9 := ⟨k - 9, by omega⟩
  exact awake_k m⟩
theorem law_air {w : World} {L : List Op} {A : Option Addr} {c : Nat} (hR : SlR Op.rp w (Old w) A c L) (hok : ∀ o ∈ L, OpOk o) (hL : L.length ≤ 140737488355328) :
    Calls Try.prog 3 [.slice A L.length c].toArray w fun e w' => e = .returned (.bool true) ∧ St w (fun _ => False) w' [] := by
  obtain ⟨k, hk⟩ := plays_true hL hok awake_ev
  exact (law_Plays3_calls k L hR Old.nk hk).mono (fun _ _ h => ⟨h.1, h.2.toFalse⟩)
theorem own : ownKnob Try.prog.godebug = none := by kernel_rfl
theorem laid : laidOutB Try.prog = true := by kernel_rfl
end Go.Proofs.Ytoahkjehjmbojaa
