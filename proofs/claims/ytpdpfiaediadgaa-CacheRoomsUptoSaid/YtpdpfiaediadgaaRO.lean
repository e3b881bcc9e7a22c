/- What CacheRooms is handed. -/
import Derived.Test.YtpdpfiaediadgaaRQ
import Derived.Test.YtpdpfiaediadgaaBulk
set_option linter.unusedVariables false
namespace Go.Proofs.Ytpdpfiaediadgaa
open Go Go.Eng Go.RowKit Go.WideShapes Go.ChangeShapes Go.Deep
section
variable {H : Type} {enc : TypeId × Value → H} {w : World}
theorem len5' {α : Type} : ∀ {l : List α}, l.length = 5 → ∃ a b c d e, l = [a, b, c, d, e]
  | [a, b, c, d, e], _ => ⟨a, b, c, d, e, rfl⟩
theorem k53 : Try.prog.cellsOf 53 = 5 := by kernel_rfl
set_option maxRecDepth 100000 in
theorem sent_of_trod {n : Nat} {cs : List Value} {y : DataW H × List MemPlace} (h : DataW.trod enc Try.prog w 0 (fun _ => true) true n 53 cs = some y) :
    ∃ x : Sent, (In64 x.Who ∧ In64 x.N) ∧ Sent.rp.rd w (Old w) x cs := by
  obtain ⟨xs, n', _, hy, hl, hxl, hg⟩ := DataW.trod_struct Try.underlying53 h
  rw [k53] at hl
  obtain ⟨c0, c1, c2, c3, c4, rfl⟩ := len5' hl
  obtain ⟨y0, y1, y2, y3, y4, rfl⟩ := len5' hxl
  have f0 := fld hg 0 3 0 1 rfl (by kernel_rfl) rfl
  have f1 := fld hg 1 3 1 1 rfl (by kernel_rfl) rfl
  have f2 := fld hg 2 4 2 1 rfl (by kernel_rfl) rfl
  have f3 := fld hg 3 4 3 1 rfl (by kernel_rfl) rfl
  have f4 := fld hg 4 4 4 1 rfl (by kernel_rfl) rfl
  obtain ⟨a0, w0, e0⟩ := int_trod Try.underlying3 f0
  obtain ⟨a1, w1, e1⟩ := int_trod Try.underlying3 f1
  obtain ⟨a2, e2⟩ := bool_trodD Try.underlying4 f2
  obtain ⟨a3, e3⟩ := bool_trodD Try.underlying4 f3
  obtain ⟨a4, e4⟩ := bool_trodD Try.underlying4 f4
  cases e0; cases e1; cases e2; cases e3; cases e4
  exact ⟨⟨a0, a1, a2, a3, a4⟩, ⟨w0, w1⟩, rfl⟩
set_option maxRecDepth 100000 in
theorem open_sents {q : Go.Reach} {b0 : Nat} {v : Value} {d : DataW H} {ps : List MemPlace} (hval : Value.okWide Try.prog w q b0 47 v) (hd : DataW.Trod enc Try.prog w 0 (fun _ => true) true 47 v d ps) (hb : Rows.uptoBulk d ≤ 1048576) :
    ∃ (A : Option Addr) (cap : Nat) (L : List Sent), v = .slice A L.length cap ∧ SlR Sent.rp w (Old w) A cap L ∧ (∀ o ∈ L, In64 o.Who ∧ In64 o.N) ∧ L.length ≤ 1048576 := by
  obtain ⟨A, cap, L, h1, h2, h3⟩ := slr_TrodD Try.underlying47 Sent.rp (by kernel_rfl) (by decide) (fun x _ => In64 x.Who ∧ In64 x.N) (fun n cs y h => sent_of_trod h) hval hd
  refine ⟨A, cap, L, h1, h2, fun o ho => ?_, ?_⟩
  · obtain ⟨_, h⟩ := h3.all o ho; exact h
  · have := (listD_bulk h3 (f := fun _ => 0) (fun _ _ _ => Nat.zero_le _)).2
    omega
theorem open_i64 {P : Program} {t : TypeId} (ht : P.underlying t = some (.int .i64)) {q : Go.Reach} {b0 : Nat} {v : Value} {d : DataW H} {ps : List MemPlace} (hval : Value.okWide P w q b0 t v) (hd : DataW.Trod enc P w 0 (fun _ => true) true t v d ps) : ∃ x : Int, v = .int .i64 x ∧ In64 x := by
  obtain ⟨a, rfl, _, _, wf⟩ := open_int ht hval hd
  exact ⟨a, rfl, wf_In64 wf⟩
end
theorem law_rooms {w : World} {x0 x1 : Int} {L : List Sent} {A : Option Addr} {c : Nat} (hR : SlR Sent.rp w (Old w) A c L) (h0 : In64 x0) (h1 : In64 x1) (hok : ∀ o ∈ L, In64 o.Who ∧ In64 o.N) (hL : L.length ≤ 1048576) :
    Calls Try.prog 5 [.int .i64 x0, .int .i64 x1, .slice A L.length c].toArray w fun e w' => e = .returned (.bool true) ∧ St w (fun _ => False) w' [] := by
  obtain ⟨k, hk⟩ := rooms_true x0 x1 L h0 h1 hL hok
  exact (law_Rooms_calls k x0 x1 L hR Old.nk hk).mono (fun _ _ h => ⟨h.1, h.2.toFalse⟩)
theorem own : ownKnob Try.prog.godebug = none := by kernel_rfl
theorem laid : laidOutB Try.prog = true := by kernel_rfl
end Go.Proofs.Ytpdpfiaediadgaa
