/- Walks (printed by gen.py over the engine). -/
import Derived.Test.YtoahkjehjmbojaaPaceC
namespace Go.Proofs.Ytoahkjehjmbojaa
open Go Go.Eng
set_option linter.unusedSimpArgs false
set_option linter.unusedVariables false
theorem T.call26 : Callable Try.prog 26 := Callable.mk Try.func26 (by kernel_rfl) (by kernel_rfl)
theorem T.call30 : Callable Try.prog 30 := Callable.mk Try.func30 (by kernel_rfl) (by kernel_rfl)
theorem T.el33 : slEl Try.prog 33 = some 1 := by kernel_rfl

theorem sumW_lo {b c t : Int} (h : RightP b c t) (k : Nat) : 0 ≤ (k : Int) * b ∧ (k : Int) * c ≤ k * 1048576 := by
  obtain ⟨h1, h2, h3, _, _⟩ := h
  exact ⟨Int.mul_nonneg (by omega) (by omega), Int.mul_le_mul_of_nonneg_left h3 (by omega)⟩
def Num.cs (z : Int) : List Value := [.int .i64 z]
theorem Num.len (z : Int) : (Num.cs z).length = 1 := rfl

set_option maxRecDepth 100000 in
set_option maxHeartbeats 1000000 in
theorem law_doubles {w : World} (b c t : Int) (hb : i64 b) (hc : i64 c) (ht : i64 t) :
    Calls Try.prog 7 [.agg #[.int .i64 b, .int .i64 c, .int .i64 t]].toArray w fun e w' => e = .returned (.bool true) ∧ St w (fun _ => False) w' [] := by
  have cs : (b < 1) ∨ (1 ≤ b ∧ c < b) ∨ (1 ≤ b ∧ b ≤ c ∧ 1048576 < c) ∨ (1 ≤ b ∧ b ≤ c ∧ c ≤ 1048576 ∧ t < 1) ∨ (1 ≤ b ∧ b ≤ c ∧ c ≤ 1048576 ∧ 32 < t) ∨ (1 ≤ b ∧ b ≤ c ∧ c ≤ 1048576 ∧ 1 ≤ t ∧ t ≤ 32) := by omega
  rcases cs with h | h | h | h | h | h
  · have hR : ¬ RightP b c t := by unfold RightP; omega
    have S := St.init0 w
    refine enter 120 [(0, .agg #[.int .i64 b, .int .i64 c, .int .i64 t])] Try.func7 rfl rfl rfl rfl ?_
    refine WCode.seq ?_
    refine WCode.region ?_
    obtain ⟨b1, w2, E3, S4, X5, L6⟩ := St.box S Try.prog 53 (.agg #[.int .i64 b, .int .i64 c, .int .i64 t])
    change St _ _ _ [[(b1, .cells #[.int .i64 b, .int .i64 c, .int .i64 t] 53 (0, 0))]] at S4
    refine WOps.e (E3 rfl) rfl ?_
    refine WOps.p (G.assign rfl) rfl ?_
    refine WOps.nil ?_
    refine WEx.forget (l' := [(1, .pointer (some ⟨b1, 0, none⟩)), (2, .bool false)]) ⟨rfl, rfl, trivial⟩ ?_
    refine WEx.then_ ?_
    refine WCode.seq ?_
    refine WCode.region ?_
    refine WOps.call T.call26 evs_nil rfl ?_
    refine (law_awake).mono ?_
    rintro _ w8 ⟨rfl, T7⟩
    have S9 := S4.call0 T7
    have X10 := T7.ext0
    change St _ _ _ [[(b1, .cells #[.int .i64 b, .int .i64 c, .int .i64 t] 53 (0, 0))]] at S9
    refine ⟨_, rfl, ?_⟩
    refine WOps.p (G.assign rfl) rfl ?_
    refine WOps.nil ?_
    refine WEx.forget (l' := [(1, .pointer (some ⟨b1, 0, none⟩)), (2, .bool false), (3, .bool true)]) ⟨rfl, rfl, rfl, trivial⟩ ?_
    refine WEx.then_ ?_
    refine WCode.seq ?_
    refine WCode.region ?_
    refine WOps.p (G.field T.fld53_0 rfl (show 0 + 0 = 0 from rfl)) rfl ?_
    refine WOps.r (G.load1 T.one3 rfl (cell_blk (S9.blk 0 rfl) rfl)) rfl ?_
    refine WOps.p (G.geq rfl rfl (b := false) (decide_eq_false (by omega))) rfl ?_
    refine WOps.p (G.move rfl) rfl ?_
    refine WOps.off rfl rfl rfl rfl ?_
    refine WOps.off rfl rfl rfl rfl ?_
    refine WOps.off rfl rfl rfl rfl ?_
    refine WOps.off rfl rfl rfl rfl ?_
    refine WOps.off rfl rfl rfl rfl ?_
    refine WOps.p (G.pick_f rfl rfl) rfl ?_
    refine WOps.p (G.move rfl) rfl ?_
    refine WOps.off rfl rfl rfl rfl ?_
    refine WOps.off rfl rfl rfl rfl ?_
    refine WOps.off rfl rfl rfl rfl ?_
    refine WOps.p (G.pick_f rfl rfl) rfl ?_
    refine WOps.p (G.move rfl) rfl ?_
    refine WOps.off rfl rfl rfl rfl ?_
    refine WOps.off rfl rfl rfl rfl ?_
    refine WOps.off rfl rfl rfl rfl ?_
    refine WOps.p (G.pick_f rfl rfl) rfl ?_
    refine WOps.p (G.move rfl) rfl ?_
    refine WOps.off rfl rfl rfl rfl ?_
    refine WOps.off rfl rfl rfl rfl ?_
    refine WOps.off rfl rfl rfl rfl ?_
    refine WOps.p (G.pick_f rfl rfl) rfl ?_
    refine WOps.p (G.assign rfl) rfl ?_
    refine WOps.nil ?_
    refine WEx.forget (l' := [(1, .pointer (some ⟨b1, 0, none⟩)), (2, .bool false), (3, .bool true), (4, .bool false)]) ⟨rfl, rfl, rfl, rfl, trivial⟩ ?_
    refine WEx.then_ ?_
    refine WCode.seq ?_
    refine WCode.seq ?_
    refine WCode.region ?_
    refine WOps.p (G.move rfl) rfl ?_
    refine WOps.p (G.not rfl rfl) rfl ?_
    refine WOps.p (G.move rfl) rfl ?_
    refine WOps.on rfl rfl ?_
    refine WOps.r (G.loada T.agg53_3 rfl (cs := [.int .i64 b, .int .i64 c, .int .i64 t]) (cellsAt.of_blk (S9.blk 0 rfl) rfl)) rfl ?_
    refine WOps.on rfl rfl ?_
    refine WOps.call T.call27 (evs_cons rfl evs_nil) rfl ?_
    refine (pace_Right b c t hb hc ht).mono ?_
    rintro _ w12 ⟨rfl, T11⟩
    have S13 := S9.call0 T11
    have X14 := T11.ext0
    change St _ _ _ [[(b1, .cells #[.int .i64 b, .int .i64 c, .int .i64 t] 53 (0, 0))]] at S13
    rw [decide_eq_false hR]
    refine ⟨_, rfl, ?_⟩
    refine WOps.on rfl rfl ?_
    refine WOps.p (G.move rfl) rfl ?_
    refine WOps.on rfl rfl ?_
    refine WOps.p (G.neqb Try.underlying4 rfl rfl (b := false) (by simp)) rfl ?_
    refine WOps.p (G.pick_f rfl rfl) rfl ?_
    refine WOps.nil ?_
    refine WEx.forget (l' := [(1, .pointer (some ⟨b1, 0, none⟩)), (2, .bool false), (4, .bool false), (43, .bool false)]) ⟨rfl, rfl, rfl, rfl, trivial⟩ ?_
    refine WEx.then_ ?_
    refine WCode.cond_f rfl ?_
    refine WCode.skip ?_
    refine WEx.then_ ?_
    refine WCode.forget (l' := [(1, .pointer (some ⟨b1, 0, none⟩)), (2, .bool false), (4, .bool false)]) ⟨rfl, rfl, rfl, trivial⟩ ?_
    refine WCode.seq ?_
    refine WCode.seq ?_
    refine WCode.region ?_
    refine WOps.p (G.move rfl) rfl ?_
    refine WOps.p (G.not rfl rfl) rfl ?_
    refine WOps.nil ?_
    refine WEx.forget (l' := [(1, .pointer (some ⟨b1, 0, none⟩)), (2, .bool false), (45, .bool true)]) ⟨rfl, rfl, rfl, trivial⟩ ?_
    refine WEx.then_ ?_
    refine WCode.cond_t rfl ?_
    refine WCode.seq ?_
    refine WCode.region ?_
    refine WOps.r (G.loada T.agg53_3 rfl (cs := [.int .i64 b, .int .i64 c, .int .i64 t]) (cellsAt.of_blk (S13.blk 0 rfl) rfl)) rfl ?_
    refine WOps.call T.call29 (evs_cons rfl evs_nil) rfl ?_
    refine (pace_Total b c t hb hc ht).mono ?_
    rintro _ w16 ⟨rfl, T15⟩
    have S17 := S13.call0 T15
    have X18 := T15.ext0
    change St _ _ _ [[(b1, .cells #[.int .i64 b, .int .i64 c, .int .i64 t] 53 (0, 0))]] at S17
    rw [if_neg hR]
    refine ⟨_, rfl, ?_⟩
    refine WOps.p (G.eql rfl rfl (b := true) rfl) rfl ?_
    refine WOps.p (G.move rfl) rfl ?_
    refine WOps.on rfl rfl ?_
    refine WOps.r (G.loada T.agg53_3 rfl (cs := [.int .i64 b, .int .i64 c, .int .i64 t]) (cellsAt.of_blk (S17.blk 0 rfl) rfl)) rfl ?_
    refine WOps.on rfl rfl ?_
    refine WOps.call T.call31 (evs_cons rfl (evs_cons rfl evs_nil)) rfl ?_
    refine (pace_Wait b c t hb hc ht 0 (by unfold i64 at *; omega)).mono ?_
    rintro _ w20 ⟨rfl, T19⟩
    have S21 := S17.call0 T19
    have X22 := T19.ext0
    change St _ _ _ [[(b1, .cells #[.int .i64 b, .int .i64 c, .int .i64 t] 53 (0, 0))]] at S21
    rw [if_neg hR]
    refine ⟨_, rfl, ?_⟩
    refine WOps.on rfl rfl ?_
    refine WOps.p (G.eql rfl rfl (b := true) rfl) rfl ?_
    refine WOps.p (G.pick_t rfl rfl) rfl ?_
    refine WOps.p (G.move rfl) rfl ?_
    refine WOps.on rfl rfl ?_
    refine WOps.r (G.loada T.agg53_3 rfl (cs := [.int .i64 b, .int .i64 c, .int .i64 t]) (cellsAt.of_blk (S21.blk 0 rfl) rfl)) rfl ?_
    refine WOps.on rfl rfl ?_
    refine WOps.call T.call31 (evs_cons rfl (evs_cons rfl evs_nil)) rfl ?_
    refine (pace_Wait b c t hb hc ht 5 (by unfold i64 at *; omega)).mono ?_
    rintro _ w24 ⟨rfl, T23⟩
    have S25 := S21.call0 T23
    have X26 := T23.ext0
    change St _ _ _ [[(b1, .cells #[.int .i64 b, .int .i64 c, .int .i64 t] 53 (0, 0))]] at S25
    rw [if_neg hR]
    refine ⟨_, rfl, ?_⟩
    refine WOps.on rfl rfl ?_
    refine WOps.p (G.eql rfl rfl (b := true) rfl) rfl ?_
    refine WOps.p (G.pick_t rfl rfl) rfl ?_
    refine WOps.p (G.assign rfl) rfl ?_
    refine WOps.nil ?_
    refine WEx.forget (l' := [(1, .pointer (some ⟨b1, 0, none⟩)), (2, .bool true)]) ⟨rfl, rfl, trivial⟩ ?_
    refine WEx.then_ ?_
    refine WCode.ret ?_
    refine WEx.then_ret ?_
    refine WEx.ret1 rfl rfl ?_
    exact ⟨rfl, St.keep (As := []) S25⟩
  · have hR : ¬ RightP b c t := by unfold RightP; omega
    have S := St.init0 w
    refine enter 120 [(0, .agg #[.int .i64 b, .int .i64 c, .int .i64 t])] Try.func7 rfl rfl rfl rfl ?_
    refine WCode.seq ?_
    refine WCode.region ?_
    obtain ⟨b1, w2, E3, S4, X5, L6⟩ := St.box S Try.prog 53 (.agg #[.int .i64 b, .int .i64 c, .int .i64 t])
    change St _ _ _ [[(b1, .cells #[.int .i64 b, .int .i64 c, .int .i64 t] 53 (0, 0))]] at S4
    refine WOps.e (E3 rfl) rfl ?_
    refine WOps.p (G.assign rfl) rfl ?_
    refine WOps.nil ?_
    refine WEx.forget (l' := [(1, .pointer (some ⟨b1, 0, none⟩)), (2, .bool false)]) ⟨rfl, rfl, trivial⟩ ?_
    refine WEx.then_ ?_
    refine WCode.seq ?_
    refine WCode.region ?_
    refine WOps.call T.call26 evs_nil rfl ?_
    refine (law_awake).mono ?_
    rintro _ w8 ⟨rfl, T7⟩
    have S9 := S4.call0 T7
    have X10 := T7.ext0
    change St _ _ _ [[(b1, .cells #[.int .i64 b, .int .i64 c, .int .i64 t] 53 (0, 0))]] at S9
    refine ⟨_, rfl, ?_⟩
    refine WOps.p (G.assign rfl) rfl ?_
    refine WOps.nil ?_
    refine WEx.forget (l' := [(1, .pointer (some ⟨b1, 0, none⟩)), (2, .bool false), (3, .bool true)]) ⟨rfl, rfl, rfl, trivial⟩ ?_
    refine WEx.then_ ?_
    refine WCode.seq ?_
    refine WCode.region ?_
    refine WOps.p (G.field T.fld53_0 rfl (show 0 + 0 = 0 from rfl)) rfl ?_
    refine WOps.r (G.load1 T.one3 rfl (cell_blk (S9.blk 0 rfl) rfl)) rfl ?_
    refine WOps.p (G.geq rfl rfl (b := true) (decide_eq_true (by omega))) rfl ?_
    refine WOps.p (G.move rfl) rfl ?_
    refine WOps.on rfl rfl ?_
    refine WOps.p (G.field T.fld53_1 rfl (show 0 + 1 = 1 from rfl)) rfl ?_
    refine WOps.on rfl rfl ?_
    refine WOps.r (G.load1 T.one3 rfl (cell_blk (S9.blk 0 rfl) rfl)) rfl ?_
    refine WOps.on rfl rfl ?_
    refine WOps.p (G.field T.fld53_0 rfl (show 0 + 0 = 0 from rfl)) rfl ?_
    refine WOps.on rfl rfl ?_
    refine WOps.r (G.load1 T.one3 rfl (cell_blk (S9.blk 0 rfl) rfl)) rfl ?_
    refine WOps.on rfl rfl ?_
    refine WOps.p (G.geq rfl rfl (b := false) (decide_eq_false (by omega))) rfl ?_
    refine WOps.p (G.pick_t rfl rfl) rfl ?_
    refine WOps.p (G.move rfl) rfl ?_
    refine WOps.off rfl rfl rfl rfl ?_
    refine WOps.off rfl rfl rfl rfl ?_
    refine WOps.off rfl rfl rfl rfl ?_
    refine WOps.p (G.pick_f rfl rfl) rfl ?_
    refine WOps.p (G.move rfl) rfl ?_
    refine WOps.off rfl rfl rfl rfl ?_
    refine WOps.off rfl rfl rfl rfl ?_
    refine WOps.off rfl rfl rfl rfl ?_
    refine WOps.p (G.pick_f rfl rfl) rfl ?_
    refine WOps.p (G.move rfl) rfl ?_
    refine WOps.off rfl rfl rfl rfl ?_
    refine WOps.off rfl rfl rfl rfl ?_
    refine WOps.off rfl rfl rfl rfl ?_
    refine WOps.p (G.pick_f rfl rfl) rfl ?_
    refine WOps.p (G.assign rfl) rfl ?_
    refine WOps.nil ?_
    refine WEx.forget (l' := [(1, .pointer (some ⟨b1, 0, none⟩)), (2, .bool false), (3, .bool true), (4, .bool false)]) ⟨rfl, rfl, rfl, rfl, trivial⟩ ?_
    refine WEx.then_ ?_
    refine WCode.seq ?_
    refine WCode.seq ?_
    refine WCode.region ?_
    refine WOps.p (G.move rfl) rfl ?_
    refine WOps.p (G.not rfl rfl) rfl ?_
    refine WOps.p (G.move rfl) rfl ?_
    refine WOps.on rfl rfl ?_
    refine WOps.r (G.loada T.agg53_3 rfl (cs := [.int .i64 b, .int .i64 c, .int .i64 t]) (cellsAt.of_blk (S9.blk 0 rfl) rfl)) rfl ?_
    refine WOps.on rfl rfl ?_
    refine WOps.call T.call27 (evs_cons rfl evs_nil) rfl ?_
    refine (pace_Right b c t hb hc ht).mono ?_
    rintro _ w12 ⟨rfl, T11⟩
    have S13 := S9.call0 T11
    have X14 := T11.ext0
    change St _ _ _ [[(b1, .cells #[.int .i64 b, .int .i64 c, .int .i64 t] 53 (0, 0))]] at S13
    rw [decide_eq_false hR]
    refine ⟨_, rfl, ?_⟩
    refine WOps.on rfl rfl ?_
    refine WOps.p (G.move rfl) rfl ?_
    refine WOps.on rfl rfl ?_
    refine WOps.p (G.neqb Try.underlying4 rfl rfl (b := false) (by simp)) rfl ?_
    refine WOps.p (G.pick_f rfl rfl) rfl ?_
    refine WOps.nil ?_
    refine WEx.forget (l' := [(1, .pointer (some ⟨b1, 0, none⟩)), (2, .bool false), (4, .bool false), (43, .bool false)]) ⟨rfl, rfl, rfl, rfl, trivial⟩ ?_
    refine WEx.then_ ?_
    refine WCode.cond_f rfl ?_
    refine WCode.skip ?_
    refine WEx.then_ ?_
    refine WCode.forget (l' := [(1, .pointer (some ⟨b1, 0, none⟩)), (2, .bool false), (4, .bool false)]) ⟨rfl, rfl, rfl, trivial⟩ ?_
    refine WCode.seq ?_
    refine WCode.seq ?_
    refine WCode.region ?_
    refine WOps.p (G.move rfl) rfl ?_
    refine WOps.p (G.not rfl rfl) rfl ?_
    refine WOps.nil ?_
    refine WEx.forget (l' := [(1, .pointer (some ⟨b1, 0, none⟩)), (2, .bool false), (45, .bool true)]) ⟨rfl, rfl, rfl, trivial⟩ ?_
    refine WEx.then_ ?_
    refine WCode.cond_t rfl ?_
    refine WCode.seq ?_
    refine WCode.region ?_
    refine WOps.r (G.loada T.agg53_3 rfl (cs := [.int .i64 b, .int .i64 c, .int .i64 t]) (cellsAt.of_blk (S13.blk 0 rfl) rfl)) rfl ?_
    refine WOps.call T.call29 (evs_cons rfl evs_nil) rfl ?_
    refine (pace_Total b c t hb hc ht).mono ?_
    rintro _ w16 ⟨rfl, T15⟩
    have S17 := S13.call0 T15
    have X18 := T15.ext0
    change St _ _ _ [[(b1, .cells #[.int .i64 b, .int .i64 c, .int .i64 t] 53 (0, 0))]] at S17
    rw [if_neg hR]
    refine ⟨_, rfl, ?_⟩
    refine WOps.p (G.eql rfl rfl (b := true) rfl) rfl ?_
    refine WOps.p (G.move rfl) rfl ?_
    refine WOps.on rfl rfl ?_
    refine WOps.r (G.loada T.agg53_3 rfl (cs := [.int .i64 b, .int .i64 c, .int .i64 t]) (cellsAt.of_blk (S17.blk 0 rfl) rfl)) rfl ?_
    refine WOps.on rfl rfl ?_
    refine WOps.call T.call31 (evs_cons rfl (evs_cons rfl evs_nil)) rfl ?_
    refine (pace_Wait b c t hb hc ht 0 (by unfold i64 at *; omega)).mono ?_
    rintro _ w20 ⟨rfl, T19⟩
    have S21 := S17.call0 T19
    have X22 := T19.ext0
    change St _ _ _ [[(b1, .cells #[.int .i64 b, .int .i64 c, .int .i64 t] 53 (0, 0))]] at S21
    rw [if_neg hR]
    refine ⟨_, rfl, ?_⟩
    refine WOps.on rfl rfl ?_
    refine WOps.p (G.eql rfl rfl (b := true) rfl) rfl ?_
    refine WOps.p (G.pick_t rfl rfl) rfl ?_
    refine WOps.p (G.move rfl) rfl ?_
    refine WOps.on rfl rfl ?_
    refine WOps.r (G.loada T.agg53_3 rfl (cs := [.int .i64 b, .int .i64 c, .int .i64 t]) (cellsAt.of_blk (S21.blk 0 rfl) rfl)) rfl ?_
    refine WOps.on rfl rfl ?_
    refine WOps.call T.call31 (evs_cons rfl (evs_cons rfl evs_nil)) rfl ?_
    refine (pace_Wait b c t hb hc ht 5 (by unfold i64 at *; omega)).mono ?_
    rintro _ w24 ⟨rfl, T23⟩
    have S25 := S21.call0 T23
    have X26 := T23.ext0
    change St _ _ _ [[(b1, .cells #[.int .i64 b, .int .i64 c, .int .i64 t] 53 (0, 0))]] at S25
    rw [if_neg hR]
    refine ⟨_, rfl, ?_⟩
    refine WOps.on rfl rfl ?_
    refine WOps.p (G.eql rfl rfl (b := true) rfl) rfl ?_
    refine WOps.p (G.pick_t rfl rfl) rfl ?_
    refine WOps.p (G.assign rfl) rfl ?_
    refine WOps.nil ?_
    refine WEx.forget (l' := [(1, .pointer (some ⟨b1, 0, none⟩)), (2, .bool true)]) ⟨rfl, rfl, trivial⟩ ?_
    refine WEx.then_ ?_
    refine WCode.ret ?_
    refine WEx.then_ret ?_
    refine WEx.ret1 rfl rfl ?_
    exact ⟨rfl, St.keep (As := []) S25⟩
  · have hR : ¬ RightP b c t := by unfold RightP; omega
    have S := St.init0 w
    refine enter 120 [(0, .agg #[.int .i64 b, .int .i64 c, .int .i64 t])] Try.func7 rfl rfl rfl rfl ?_
    refine WCode.seq ?_
    refine WCode.region ?_
    obtain ⟨b1, w2, E3, S4, X5, L6⟩ := St.box S Try.prog 53 (.agg #[.int .i64 b, .int .i64 c, .int .i64 t])
    change St _ _ _ [[(b1, .cells #[.int .i64 b, .int .i64 c, .int .i64 t] 53 (0, 0))]] at S4
    refine WOps.e (E3 rfl) rfl ?_
    refine WOps.p (G.assign rfl) rfl ?_
    refine WOps.nil ?_
    refine WEx.forget (l' := [(1, .pointer (some ⟨b1, 0, none⟩)), (2, .bool false)]) ⟨rfl, rfl, trivial⟩ ?_
    refine WEx.then_ ?_
    refine WCode.seq ?_
    refine WCode.region ?_
    refine WOps.call T.call26 evs_nil rfl ?_
    refine (law_awake).mono ?_
    rintro _ w8 ⟨rfl, T7⟩
    have S9 := S4.call0 T7
    have X10 := T7.ext0
    change St _ _ _ [[(b1, .cells #[.int .i64 b, .int .i64 c, .int .i64 t] 53 (0, 0))]] at S9
    refine ⟨_, rfl, ?_⟩
    refine WOps.p (G.assign rfl) rfl ?_
    refine WOps.nil ?_
    refine WEx.forget (l' := [(1, .pointer (some ⟨b1, 0, none⟩)), (2, .bool false), (3, .bool true)]) ⟨rfl, rfl, rfl, trivial⟩ ?_
    refine WEx.then_ ?_
    refine WCode.seq ?_
    refine WCode.region ?_
    refine WOps.p (G.field T.fld53_0 rfl (show 0 + 0 = 0 from rfl)) rfl ?_
    refine WOps.r (G.load1 T.one3 rfl (cell_blk (S9.blk 0 rfl) rfl)) rfl ?_
    refine WOps.p (G.geq rfl rfl (b := true) (decide_eq_true (by omega))) rfl ?_
    refine WOps.p (G.move rfl) rfl ?_
    refine WOps.on rfl rfl ?_
    refine WOps.p (G.field T.fld53_1 rfl (show 0 + 1 = 1 from rfl)) rfl ?_
    refine WOps.on rfl rfl ?_
    refine WOps.r (G.load1 T.one3 rfl (cell_blk (S9.blk 0 rfl) rfl)) rfl ?_
    refine WOps.on rfl rfl ?_
    refine WOps.p (G.field T.fld53_0 rfl (show 0 + 0 = 0 from rfl)) rfl ?_
    refine WOps.on rfl rfl ?_
    refine WOps.r (G.load1 T.one3 rfl (cell_blk (S9.blk 0 rfl) rfl)) rfl ?_
    refine WOps.on rfl rfl ?_
    refine WOps.p (G.geq rfl rfl (b := true) (decide_eq_true (by omega))) rfl ?_
    refine WOps.p (G.pick_t rfl rfl) rfl ?_
    refine WOps.p (G.move rfl) rfl ?_
    refine WOps.on rfl rfl ?_
    refine WOps.p (G.field T.fld53_1 rfl (show 0 + 1 = 1 from rfl)) rfl ?_
    refine WOps.on rfl rfl ?_
    refine WOps.r (G.load1 T.one3 rfl (cell_blk (S9.blk 0 rfl) rfl)) rfl ?_
    refine WOps.on rfl rfl ?_
    refine WOps.p (G.leq rfl rfl (b := false) (decide_eq_false (by omega))) rfl ?_
    refine WOps.p (G.pick_t rfl rfl) rfl ?_
    refine WOps.p (G.move rfl) rfl ?_
    refine WOps.off rfl rfl rfl rfl ?_
    refine WOps.off rfl rfl rfl rfl ?_
    refine WOps.off rfl rfl rfl rfl ?_
    refine WOps.p (G.pick_f rfl rfl) rfl ?_
    refine WOps.p (G.move rfl) rfl ?_
    refine WOps.off rfl rfl rfl rfl ?_
    refine WOps.off rfl rfl rfl rfl ?_
    refine WOps.off rfl rfl rfl rfl ?_
    refine WOps.p (G.pick_f rfl rfl) rfl ?_
    refine WOps.p (G.assign rfl) rfl ?_
    refine WOps.nil ?_
    refine WEx.forget (l' := [(1, .pointer (some ⟨b1, 0, none⟩)), (2, .bool false), (3, .bool true), (4, .bool false)]) ⟨rfl, rfl, rfl, rfl, trivial⟩ ?_
    refine WEx.then_ ?_
    refine WCode.seq ?_
    refine WCode.seq ?_
    refine WCode.region ?_
    refine WOps.p (G.move rfl) rfl ?_
    refine WOps.p (G.not rfl rfl) rfl ?_
    refine WOps.p (G.move rfl) rfl ?_
    refine WOps.on rfl rfl ?_
    refine WOps.r (G.loada T.agg53_3 rfl (cs := [.int .i64 b, .int .i64 c, .int .i64 t]) (cellsAt.of_blk (S9.blk 0 rfl) rfl)) rfl ?_
    refine WOps.on rfl rfl ?_
    refine WOps.call T.call27 (evs_cons rfl evs_nil) rfl ?_
    refine (pace_Right b c t hb hc ht).mono ?_
    rintro _ w12 ⟨rfl, T11⟩
    have S13 := S9.call0 T11
    have X14 := T11.ext0
    change St _ _ _ [[(b1, .cells #[.int .i64 b, .int .i64 c, .int .i64 t] 53 (0, 0))]] at S13
    rw [decide_eq_false hR]
    refine ⟨_, rfl, ?_⟩
    refine WOps.on rfl rfl ?_
    refine WOps.p (G.move rfl) rfl ?_
    refine WOps.on rfl rfl ?_
    refine WOps.p (G.neqb Try.underlying4 rfl rfl (b := false) (by simp)) rfl ?_
    refine WOps.p (G.pick_f rfl rfl) rfl ?_
    refine WOps.nil ?_
    refine WEx.forget (l' := [(1, .pointer (some ⟨b1, 0, none⟩)), (2, .bool false), (4, .bool false), (43, .bool false)]) ⟨rfl, rfl, rfl, rfl, trivial⟩ ?_
    refine WEx.then_ ?_
    refine WCode.cond_f rfl ?_
    refine WCode.skip ?_
    refine WEx.then_ ?_
    refine WCode.forget (l' := [(1, .pointer (some ⟨b1, 0, none⟩)), (2, .bool false), (4, .bool false)]) ⟨rfl, rfl, rfl, trivial⟩ ?_
    refine WCode.seq ?_
    refine WCode.seq ?_
    refine WCode.region ?_
    refine WOps.p (G.move rfl) rfl ?_
    refine WOps.p (G.not rfl rfl) rfl ?_
    refine WOps.nil ?_
    refine WEx.forget (l' := [(1, .pointer (some ⟨b1, 0, none⟩)), (2, .bool false), (45, .bool true)]) ⟨rfl, rfl, rfl, trivial⟩ ?_
    refine WEx.then_ ?_
    refine WCode.cond_t rfl ?_
    refine WCode.seq ?_
    refine WCode.region ?_
    refine WOps.r (G.loada T.agg53_3 rfl (cs := [.int .i64 b, .int .i64 c, .int .i64 t]) (cellsAt.of_blk (S13.blk 0 rfl) rfl)) rfl ?_
    refine WOps.call T.call29 (evs_cons rfl evs_nil) rfl ?_
    refine (pace_Total b c t hb hc ht).mono ?_
    rintro _ w16 ⟨rfl, T15⟩
    have S17 := S13.call0 T15
    have X18 := T15.ext0
    change St _ _ _ [[(b1, .cells #[.int .i64 b, .int .i64 c, .int .i64 t] 53 (0, 0))]] at S17
    rw [if_neg hR]
    refine ⟨_, rfl, ?_⟩
    refine WOps.p (G.eql rfl rfl (b := true) rfl) rfl ?_
    refine WOps.p (G.move rfl) rfl ?_
    refine WOps.on rfl rfl ?_
    refine WOps.r (G.loada T.agg53_3 rfl (cs := [.int .i64 b, .int .i64 c, .int .i64 t]) (cellsAt.of_blk (S17.blk 0 rfl) rfl)) rfl ?_
    refine WOps.on rfl rfl ?_
    refine WOps.call T.call31 (evs_cons rfl (evs_cons rfl evs_nil)) rfl ?_
    refine (pace_Wait b c t hb hc ht 0 (by unfold i64 at *; omega)).mono ?_
    rintro _ w20 ⟨rfl, T19⟩
    have S21 := S17.call0 T19
    have X22 := T19.ext0
    change St _ _ _ [[(b1, .cells #[.int .i64 b, .int .i64 c, .int .i64 t] 53 (0, 0))]] at S21
    rw [if_neg hR]
    refine ⟨_, rfl, ?_⟩
    refine WOps.on rfl rfl ?_
    refine WOps.p (G.eql rfl rfl (b := true) rfl) rfl ?_
    refine WOps.p (G.pick_t rfl rfl) rfl ?_
    refine WOps.p (G.move rfl) rfl ?_
    refine WOps.on rfl rfl ?_
    refine WOps.r (G.loada T.agg53_3 rfl (cs := [.int .i64 b, .int .i64 c, .int .i64 t]) (cellsAt.of_blk (S21.blk 0 rfl) rfl)) rfl ?_
    refine WOps.on rfl rfl ?_
    refine WOps.call T.call31 (evs_cons rfl (evs_cons rfl evs_nil)) rfl ?_
    refine (pace_Wait b c t hb hc ht 5 (by unfold i64 at *; omega)).mono ?_
    rintro _ w24 ⟨rfl, T23⟩
    have S25 := S21.call0 T23
    have X26 := T23.ext0
    change St _ _ _ [[(b1, .cells #[.int .i64 b, .int .i64 c, .int .i64 t] 53 (0, 0))]] at S25
    rw [if_neg hR]
    refine ⟨_, rfl, ?_⟩
    refine WOps.on rfl rfl ?_
    refine WOps.p (G.eql rfl rfl (b := true) rfl) rfl ?_
    refine WOps.p (G.pick_t rfl rfl) rfl ?_
    refine WOps.p (G.assign rfl) rfl ?_
    refine WOps.nil ?_
    refine WEx.forget (l' := [(1, .pointer (some ⟨b1, 0, none⟩)), (2, .bool true)]) ⟨rfl, rfl, trivial⟩ ?_
    refine WEx.then_ ?_
    refine WCode.ret ?_
    refine WEx.then_ret ?_
    refine WEx.ret1 rfl rfl ?_
    exact ⟨rfl, St.keep (As := []) S25⟩
  · have hR : ¬ RightP b c t := by unfold RightP; omega
    have S := St.init0 w
    refine enter 120 [(0, .agg #[.int .i64 b, .int .i64 c, .int .i64 t])] Try.func7 rfl rfl rfl rfl ?_
    refine WCode.seq ?_
    refine WCode.region ?_
    obtain ⟨b1, w2, E3, S4, X5, L6⟩ := St.box S Try.prog 53 (.agg #[.int .i64 b, .int .i64 c, .int .i64 t])
    change St _ _ _ [[(b1, .cells #[.int .i64 b, .int .i64 c, .int .i64 t] 53 (0, 0))]] at S4
    refine WOps.e (E3 rfl) rfl ?_
    refine WOps.p (G.assign rfl) rfl ?_
    refine WOps.nil ?_
    refine WEx.forget (l' := [(1, .pointer (some ⟨b1, 0, none⟩)), (2, .bool false)]) ⟨rfl, rfl, trivial⟩ ?_
    refine WEx.then_ ?_
    refine WCode.seq ?_
    refine WCode.region ?_
    refine WOps.call T.call26 evs_nil rfl ?_
    refine (law_awake).mono ?_
    rintro _ w8 ⟨rfl, T7⟩
    have S9 := S4.call0 T7
    have X10 := T7.ext0
    change St _ _ _ [[(b1, .cells #[.int .i64 b, .int .i64 c, .int .i64 t] 53 (0, 0))]] at S9
    refine ⟨_, rfl, ?_⟩
    refine WOps.p (G.assign rfl) rfl ?_
    refine WOps.nil ?_
    refine WEx.forget (l' := [(1, .pointer (some ⟨b1, 0, none⟩)), (2, .bool false), (3, .bool true)]) ⟨rfl, rfl, rfl, trivial⟩ ?_
    refine WEx.then_ ?_
    refine WCode.seq ?_
    refine WCode.region ?_
    refine WOps.p (G.field T.fld53_0 rfl (show 0 + 0 = 0 from rfl)) rfl ?_
    refine WOps.r (G.load1 T.one3 rfl (cell_blk (S9.blk 0 rfl) rfl)) rfl ?_
    refine WOps.p (G.geq rfl rfl (b := true) (decide_eq_true (by omega))) rfl ?_
    refine WOps.p (G.move rfl) rfl ?_
    refine WOps.on rfl rfl ?_
    refine WOps.p (G.field T.fld53_1 rfl (show 0 + 1 = 1 from rfl)) rfl ?_
    refine WOps.on rfl rfl ?_
    refine WOps.r (G.load1 T.one3 rfl (cell_blk (S9.blk 0 rfl) rfl)) rfl ?_
    refine WOps.on rfl rfl ?_
    refine WOps.p (G.field T.fld53_0 rfl (show 0 + 0 = 0 from rfl)) rfl ?_
    refine WOps.on rfl rfl ?_
    refine WOps.r (G.load1 T.one3 rfl (cell_blk (S9.blk 0 rfl) rfl)) rfl ?_
    refine WOps.on rfl rfl ?_
    refine WOps.p (G.geq rfl rfl (b := true) (decide_eq_true (by omega))) rfl ?_
    refine WOps.p (G.pick_t rfl rfl) rfl ?_
    refine WOps.p (G.move rfl) rfl ?_
    refine WOps.on rfl rfl ?_
    refine WOps.p (G.field T.fld53_1 rfl (show 0 + 1 = 1 from rfl)) rfl ?_
    refine WOps.on rfl rfl ?_
    refine WOps.r (G.load1 T.one3 rfl (cell_blk (S9.blk 0 rfl) rfl)) rfl ?_
    refine WOps.on rfl rfl ?_
    refine WOps.p (G.leq rfl rfl (b := true) (decide_eq_true (by omega))) rfl ?_
    refine WOps.p (G.pick_t rfl rfl) rfl ?_
    refine WOps.p (G.move rfl) rfl ?_
    refine WOps.on rfl rfl ?_
    refine WOps.p (G.field T.fld53_2 rfl (show 0 + 2 = 2 from rfl)) rfl ?_
    refine WOps.on rfl rfl ?_
    refine WOps.r (G.load1 T.one3 rfl (cell_blk (S9.blk 0 rfl) rfl)) rfl ?_
    refine WOps.on rfl rfl ?_
    refine WOps.p (G.geq rfl rfl (b := false) (decide_eq_false (by omega))) rfl ?_
    refine WOps.p (G.pick_t rfl rfl) rfl ?_
    refine WOps.p (G.move rfl) rfl ?_
    refine WOps.off rfl rfl rfl rfl ?_
    refine WOps.off rfl rfl rfl rfl ?_
    refine WOps.off rfl rfl rfl rfl ?_
    refine WOps.p (G.pick_f rfl rfl) rfl ?_
    refine WOps.p (G.assign rfl) rfl ?_
    refine WOps.nil ?_
    refine WEx.forget (l' := [(1, .pointer (some ⟨b1, 0, none⟩)), (2, .bool false), (3, .bool true), (4, .bool false)]) ⟨rfl, rfl, rfl, rfl, trivial⟩ ?_
    refine WEx.then_ ?_
    refine WCode.seq ?_
    refine WCode.seq ?_
    refine WCode.region ?_
    refine WOps.p (G.move rfl) rfl ?_
    refine WOps.p (G.not rfl rfl) rfl ?_
    refine WOps.p (G.move rfl) rfl ?_
    refine WOps.on rfl rfl ?_
    refine WOps.r (G.loada T.agg53_3 rfl (cs := [.int .i64 b, .int .i64 c, .int .i64 t]) (cellsAt.of_blk (S9.blk 0 rfl) rfl)) rfl ?_
    refine WOps.on rfl rfl ?_
    refine WOps.call T.call27 (evs_cons rfl evs_nil) rfl ?_
    refine (pace_Right b c t hb hc ht).mono ?_
    rintro _ w12 ⟨rfl, T11⟩
    have S13 := S9.call0 T11
    have X14 := T11.ext0
    change St _ _ _ [[(b1, .cells #[.int .i64 b, .int .i64 c, .int .i64 t] 53 (0, 0))]] at S13
    rw [decide_eq_false hR]
    refine ⟨_, rfl, ?_⟩
    refine WOps.on rfl rfl ?_
    refine WOps.p (G.move rfl) rfl ?_
    refine WOps.on rfl rfl ?_
    refine WOps.p (G.neqb Try.underlying4 rfl rfl (b := false) (by simp)) rfl ?_
    refine WOps.p (G.pick_f rfl rfl) rfl ?_
    refine WOps.nil ?_
    refine WEx.forget (l' := [(1, .pointer (some ⟨b1, 0, none⟩)), (2, .bool false), (4, .bool false), (43, .bool false)]) ⟨rfl, rfl, rfl, rfl, trivial⟩ ?_
    refine WEx.then_ ?_
    refine WCode.cond_f rfl ?_
    refine WCode.skip ?_
    refine WEx.then_ ?_
    refine WCode.forget (l' := [(1, .pointer (some ⟨b1, 0, none⟩)), (2, .bool false), (4, .bool false)]) ⟨rfl, rfl, rfl, trivial⟩ ?_
    refine WCode.seq ?_
    refine WCode.seq ?_
    refine WCode.region ?_
    refine WOps.p (G.move rfl) rfl ?_
    refine WOps.p (G.not rfl rfl) rfl ?_
    refine WOps.nil ?_
    refine WEx.forget (l' := [(1, .pointer (some ⟨b1, 0, none⟩)), (2, .bool false), (45, .bool true)]) ⟨rfl, rfl, rfl, trivial⟩ ?_
    refine WEx.then_ ?_
    refine WCode.cond_t rfl ?_
    refine WCode.seq ?_
    refine WCode.region ?_
    refine WOps.r (G.loada T.agg53_3 rfl (cs := [.int .i64 b, .int .i64 c, .int .i64 t]) (cellsAt.of_blk (S13.blk 0 rfl) rfl)) rfl ?_
    refine WOps.call T.call29 (evs_cons rfl evs_nil) rfl ?_
    refine (pace_Total b c t hb hc ht).mono ?_
    rintro _ w16 ⟨rfl, T15⟩
    have S17 := S13.call0 T15
    have X18 := T15.ext0
    change St _ _ _ [[(b1, .cells #[.int .i64 b, .int .i64 c, .int .i64 t] 53 (0, 0))]] at S17
    rw [if_neg hR]
    refine ⟨_, rfl, ?_⟩
    refine WOps.p (G.eql rfl rfl (b := true) rfl) rfl ?_
    refine WOps.p (G.move rfl) rfl ?_
    refine WOps.on rfl rfl ?_
    refine WOps.r (G.loada T.agg53_3 rfl (cs := [.int .i64 b, .int .i64 c, .int .i64 t]) (cellsAt.of_blk (S17.blk 0 rfl) rfl)) rfl ?_
    refine WOps.on rfl rfl ?_
    refine WOps.call T.call31 (evs_cons rfl (evs_cons rfl evs_nil)) rfl ?_
    refine (pace_Wait b c t hb hc ht 0 (by unfold i64 at *; omega)).mono ?_
    rintro _ w20 ⟨rfl, T19⟩
    have S21 := S17.call0 T19
    have X22 := T19.ext0
    change St _ _ _ [[(b1, .cells #[.int .i64 b, .int .i64 c, .int .i64 t] 53 (0, 0))]] at S21
    rw [if_neg hR]
    refine ⟨_, rfl, ?_⟩
    refine WOps.on rfl rfl ?_
    refine WOps.p (G.eql rfl rfl (b := true) rfl) rfl ?_
    refine WOps.p (G.pick_t rfl rfl) rfl ?_
    refine WOps.p (G.move rfl) rfl ?_
    refine WOps.on rfl rfl ?_
    refine WOps.r (G.loada T.agg53_3 rfl (cs := [.int .i64 b, .int .i64 c, .int .i64 t]) (cellsAt.of_blk (S21.blk 0 rfl) rfl)) rfl ?_
    refine WOps.on rfl rfl ?_
    refine WOps.call T.call31 (evs_cons rfl (evs_cons rfl evs_nil)) rfl ?_
    refine (pace_Wait b c t hb hc ht 5 (by unfold i64 at *; omega)).mono ?_
    rintro _ w24 ⟨rfl, T23⟩
    have S25 := S21.call0 T23
    have X26 := T23.ext0
    change St _ _ _ [[(b1, .cells #[.int .i64 b, .int .i64 c, .int .i64 t] 53 (0, 0))]] at S25
    rw [if_neg hR]
    refine ⟨_, rfl, ?_⟩
    refine WOps.on rfl rfl ?_
    refine WOps.p (G.eql rfl rfl (b := true) rfl) rfl ?_
    refine WOps.p (G.pick_t rfl rfl) rfl ?_
    refine WOps.p (G.assign rfl) rfl ?_
    refine WOps.nil ?_
    refine WEx.forget (l' := [(1, .pointer (some ⟨b1, 0, none⟩)), (2, .bool true)]) ⟨rfl, rfl, trivial⟩ ?_
    refine WEx.then_ ?_
    refine WCode.ret ?_
    refine WEx.then_ret ?_
    refine WEx.ret1 rfl rfl ?_
    exact ⟨rfl, St.keep (As := []) S25⟩
  · have hR : ¬ RightP b c t := by unfold RightP; omega
    have S := St.init0 w
    refine enter 120 [(0, .agg #[.int .i64 b, .int .i64 c, .int .i64 t])] Try.func7 rfl rfl rfl rfl ?_
    refine WCode.seq ?_
    refine WCode.region ?_
    obtain ⟨b1, w2, E3, S4, X5, L6⟩ := St.box S Try.prog 53 (.agg #[.int .i64 b, .int .i64 c, .int .i64 t])
    change St _ _ _ [[(b1, .cells #[.int .i64 b, .int .i64 c, .int .i64 t] 53 (0, 0))]] at S4
    refine WOps.e (E3 rfl) rfl ?_
    refine WOps.p (G.assign rfl) rfl ?_
    refine WOps.nil ?_
    refine WEx.forget (l' := [(1, .pointer (some ⟨b1, 0, none⟩)), (2, .bool false)]) ⟨rfl, rfl, trivial⟩ ?_
    refine WEx.then_ ?_
    refine WCode.seq ?_
    refine WCode.region ?_
    refine WOps.call T.call26 evs_nil rfl ?_
    refine (law_awake).mono ?_
    rintro _ w8 ⟨rfl, T7⟩
    have S9 := S4.call0 T7
    have X10 := T7.ext0
    change St _ _ _ [[(b1, .cells #[.int .i64 b, .int .i64 c, .int .i64 t] 53 (0, 0))]] at S9
    refine ⟨_, rfl, ?_⟩
    refine WOps.p (G.assign rfl) rfl ?_
    refine WOps.nil ?_
    refine WEx.forget (l' := [(1, .pointer (some ⟨b1, 0, none⟩)), (2, .bool false), (3, .bool true)]) ⟨rfl, rfl, rfl, trivial⟩ ?_
    refine WEx.then_ ?_
    refine WCode.seq ?_
    refine WCode.region ?_
    refine WOps.p (G.field T.fld53_0 rfl (show 0 + 0 = 0 from rfl)) rfl ?_
    refine WOps.r (G.load1 T.one3 rfl (cell_blk (S9.blk 0 rfl) rfl)) rfl ?_
    refine WOps.p (G.geq rfl rfl (b := true) (decide_eq_true (by omega))) rfl ?_
    refine WOps.p (G.move rfl) rfl ?_
    refine WOps.on rfl rfl ?_
    refine WOps.p (G.field T.fld53_1 rfl (show 0 + 1 = 1 from rfl)) rfl ?_
    refine WOps.on rfl rfl ?_
    refine WOps.r (G.load1 T.one3 rfl (cell_blk (S9.blk 0 rfl) rfl)) rfl ?_
    refine WOps.on rfl rfl ?_
    refine WOps.p (G.field T.fld53_0 rfl (show 0 + 0 = 0 from rfl)) rfl ?_
    refine WOps.on rfl rfl ?_
    refine WOps.r (G.load1 T.one3 rfl (cell_blk (S9.blk 0 rfl) rfl)) rfl ?_
    refine WOps.on rfl rfl ?_
    refine WOps.p (G.geq rfl rfl (b := true) (decide_eq_true (by omega))) rfl ?_
    refine WOps.p (G.pick_t rfl rfl) rfl ?_
    refine WOps.p (G.move rfl) rfl ?_
    refine WOps.on rfl rfl ?_
    refine WOps.p (G.field T.fld53_1 rfl (show 0 + 1 = 1 from rfl)) rfl ?_
    refine WOps.on rfl rfl ?_
    refine WOps.r (G.load1 T.one3 rfl (cell_blk (S9.blk 0 rfl) rfl)) rfl ?_
    refine WOps.on rfl rfl ?_
    refine WOps.p (G.leq rfl rfl (b := true) (decide_eq_true (by omega))) rfl ?_
    refine WOps.p (G.pick_t rfl rfl) rfl ?_
    refine WOps.p (G.move rfl) rfl ?_
    refine WOps.on rfl rfl ?_
    refine WOps.p (G.field T.fld53_2 rfl (show 0 + 2 = 2 from rfl)) rfl ?_
    refine WOps.on rfl rfl ?_
    refine WOps.r (G.load1 T.one3 rfl (cell_blk (S9.blk 0 rfl) rfl)) rfl ?_
    refine WOps.on rfl rfl ?_
    refine WOps.p (G.geq rfl rfl (b := true) (decide_eq_true (by omega))) rfl ?_
    refine WOps.p (G.pick_t rfl rfl) rfl ?_
    refine WOps.p (G.move rfl) rfl ?_
    refine WOps.on rfl rfl ?_
    refine WOps.p (G.field T.fld53_2 rfl (show 0 + 2 = 2 from rfl)) rfl ?_
    refine WOps.on rfl rfl ?_
    refine WOps.r (G.load1 T.one3 rfl (cell_blk (S9.blk 0 rfl) rfl)) rfl ?_
    refine WOps.on rfl rfl ?_
    refine WOps.p (G.leq rfl rfl (b := false) (decide_eq_false (by omega))) rfl ?_
    refine WOps.p (G.pick_t rfl rfl) rfl ?_
    refine WOps.p (G.assign rfl) rfl ?_
    refine WOps.nil ?_
    refine WEx.forget (l' := [(1, .pointer (some ⟨b1, 0, none⟩)), (2, .bool false), (3, .bool true), (4, .bool false)]) ⟨rfl, rfl, rfl, rfl, trivial⟩ ?_
    refine WEx.then_ ?_
    refine WCode.seq ?_
    refine WCode.seq ?_
    refine WCode.region ?_
    refine WOps.p (G.move rfl) rfl ?_
    refine WOps.p (G.not rfl rfl) rfl ?_
    refine WOps.p (G.move rfl) rfl ?_
    refine WOps.on rfl rfl ?_
    refine WOps.r (G.loada T.agg53_3 rfl (cs := [.int .i64 b, .int .i64 c, .int .i64 t]) (cellsAt.of_blk (S9.blk 0 rfl) rfl)) rfl ?_
    refine WOps.on rfl rfl ?_
    refine WOps.call T.call27 (evs_cons rfl evs_nil) rfl ?_
    refine (pace_Right b c t hb hc ht).mono ?_
    rintro _ w12 ⟨rfl, T11⟩
    have S13 := S9.call0 T11
    have X14 := T11.ext0
    change St _ _ _ [[(b1, .cells #[.int .i64 b, .int .i64 c, .int .i64 t] 53 (0, 0))]] at S13
    rw [decide_eq_false hR]
    refine ⟨_, rfl, ?_⟩
    refine WOps.on rfl rfl ?_
    refine WOps.p (G.move rfl) rfl ?_
    refine WOps.on rfl rfl ?_
    refine WOps.p (G.neqb Try.underlying4 rfl rfl (b := false) (by simp)) rfl ?_
    refine WOps.p (G.pick_f rfl rfl) rfl ?_
    refine WOps.nil ?_
    refine WEx.forget (l' := [(1, .pointer (some ⟨b1, 0, none⟩)), (2, .bool false), (4, .bool false), (43, .bool false)]) ⟨rfl, rfl, rfl, rfl, trivial⟩ ?_
    refine WEx.then_ ?_
    refine WCode.cond_f rfl ?_
    refine WCode.skip ?_
    refine WEx.then_ ?_
    refine WCode.forget (l' := [(1, .pointer (some ⟨b1, 0, none⟩)), (2, .bool false), (4, .bool false)]) ⟨rfl, rfl, rfl, trivial⟩ ?_
    refine WCode.seq ?_
    refine WCode.seq ?_
    refine WCode.region ?_
    refine WOps.p (G.move rfl) rfl ?_
    refine WOps.p (G.not rfl rfl) rfl ?_
    refine WOps.nil ?_
    refine WEx.forget (l' := [(1, .pointer (some ⟨b1, 0, none⟩)), (2, .bool false), (45, .bool true)]) ⟨rfl, rfl, rfl, trivial⟩ ?_
    refine WEx.then_ ?_
    refine WCode.cond_t rfl ?_
    refine WCode.seq ?_
    refine WCode.region ?_
    refine WOps.r (G.loada T.agg53_3 rfl (cs := [.int .i64 b, .int .i64 c, .int .i64 t]) (cellsAt.of_blk (S13.blk 0 rfl) rfl)) rfl ?_
    refine WOps.call T.call29 (evs_cons rfl evs_nil) rfl ?_
    refine (pace_Total b c t hb hc ht).mono ?_
    rintro _ w16 ⟨rfl, T15⟩
    have S17 := S13.call0 T15
    have X18 := T15.ext0
    change St _ _ _ [[(b1, .cells #[.int .i64 b, .int .i64 c, .int .i64 t] 53 (0, 0))]] at S17
    rw [if_neg hR]
    refine ⟨_, rfl, ?_⟩
    refine WOps.p (G.eql rfl rfl (b := true) rfl) rfl ?_
    refine WOps.p (G.move rfl) rfl ?_
    refine WOps.on rfl rfl ?_
    refine WOps.r (G.loada T.agg53_3 rfl (cs := [.int .i64 b, .int .i64 c, .int .i64 t]) (cellsAt.of_blk (S17.blk 0 rfl) rfl)) rfl ?_
    refine WOps.on rfl rfl ?_
    refine WOps.call T.call31 (evs_cons rfl (evs_cons rfl evs_nil)) rfl ?_
    refine (pace_Wait b c t hb hc ht 0 (by unfold i64 at *; omega)).mono ?_
    rintro _ w20 ⟨rfl, T19⟩
    have S21 := S17.call0 T19
    have X22 := T19.ext0
    change St _ _ _ [[(b1, .cells #[.int .i64 b, .int .i64 c, .int .i64 t] 53 (0, 0))]] at S21
    rw [if_neg hR]
    refine ⟨_, rfl, ?_⟩
    refine WOps.on rfl rfl ?_
    refine WOps.p (G.eql rfl rfl (b := true) rfl) rfl ?_
    refine WOps.p (G.pick_t rfl rfl) rfl ?_
    refine WOps.p (G.move rfl) rfl ?_
    refine WOps.on rfl rfl ?_
    refine WOps.r (G.loada T.agg53_3 rfl (cs := [.int .i64 b, .int .i64 c, .int .i64 t]) (cellsAt.of_blk (S21.blk 0 rfl) rfl)) rfl ?_
    refine WOps.on rfl rfl ?_
    refine WOps.call T.call31 (evs_cons rfl (evs_cons rfl evs_nil)) rfl ?_
    refine (pace_Wait b c t hb hc ht 5 (by unfold i64 at *; omega)).mono ?_
    rintro _ w24 ⟨rfl, T23⟩
    have S25 := S21.call0 T23
    have X26 := T23.ext0
    change St _ _ _ [[(b1, .cells #[.int .i64 b, .int .i64 c, .int .i64 t] 53 (0, 0))]] at S25
    rw [if_neg hR]
    refine ⟨_, rfl, ?_⟩
    refine WOps.on rfl rfl ?_
    refine WOps.p (G.eql rfl rfl (b := true) rfl) rfl ?_
    refine WOps.p (G.pick_t rfl rfl) rfl ?_
    refine WOps.p (G.assign rfl) rfl ?_
    refine WOps.nil ?_
    refine WEx.forget (l' := [(1, .pointer (some ⟨b1, 0, none⟩)), (2, .bool true)]) ⟨rfl, rfl, trivial⟩ ?_
    refine WEx.then_ ?_
    refine WCode.ret ?_
    refine WEx.then_ret ?_
    refine WEx.ret1 rfl rfl ?_
    exact ⟨rfl, St.keep (As := []) S25⟩
  · have hR : RightP b c t := by unfold RightP; omega
    have S := St.init0 w
    refine enter 120 [(0, .agg #[.int .i64 b, .int .i64 c, .int .i64 t])] Try.func7 rfl rfl rfl rfl ?_
    refine WCode.seq ?_
    refine WCode.region ?_
    obtain ⟨b1, w2, E3, S4, X5, L6⟩ := St.box S Try.prog 53 (.agg #[.int .i64 b, .int .i64 c, .int .i64 t])
    change St _ _ _ [[(b1, .cells #[.int .i64 b, .int .i64 c, .int .i64 t] 53 (0, 0))]] at S4
    refine WOps.e (E3 rfl) rfl ?_
    refine WOps.p (G.assign rfl) rfl ?_
    refine WOps.nil ?_
    refine WEx.forget (l' := [(1, .pointer (some ⟨b1, 0, none⟩)), (2, .bool false)]) ⟨rfl, rfl, trivial⟩ ?_
    refine WEx.then_ ?_
    refine WCode.seq ?_
    refine WCode.region ?_
    refine WOps.call T.call26 evs_nil rfl ?_
    refine (law_awake).mono ?_
    rintro _ w8 ⟨rfl, T7⟩
    have S9 := S4.call0 T7
    have X10 := T7.ext0
    change St _ _ _ [[(b1, .cells #[.int .i64 b, .int .i64 c, .int .i64 t] 53 (0, 0))]] at S9
    refine ⟨_, rfl, ?_⟩
    refine WOps.p (G.assign rfl) rfl ?_
    refine WOps.nil ?_
    refine WEx.forget (l' := [(1, .pointer (some ⟨b1, 0, none⟩)), (2, .bool false), (3, .bool true)]) ⟨rfl, rfl, rfl, trivial⟩ ?_
    refine WEx.then_ ?_
    refine WCode.seq ?_
    refine WCode.region ?_
    refine WOps.p (G.field T.fld53_0 rfl (show 0 + 0 = 0 from rfl)) rfl ?_
    refine WOps.r (G.load1 T.one3 rfl (cell_blk (S9.blk 0 rfl) rfl)) rfl ?_
    refine WOps.p (G.geq rfl rfl (b := true) (decide_eq_true (by omega))) rfl ?_
    refine WOps.p (G.move rfl) rfl ?_
    refine WOps.on rfl rfl ?_
    refine WOps.p (G.field T.fld53_1 rfl (show 0 + 1 = 1 from rfl)) rfl ?_
    refine WOps.on rfl rfl ?_
    refine WOps.r (G.load1 T.one3 rfl (cell_blk (S9.blk 0 rfl) rfl)) rfl ?_
    refine WOps.on rfl rfl ?_
    refine WOps.p (G.field T.fld53_0 rfl (show 0 + 0 = 0 from rfl)) rfl ?_
    refine WOps.on rfl rfl ?_
    refine WOps.r (G.load1 T.one3 rfl (cell_blk (S9.blk 0 rfl) rfl)) rfl ?_
    refine WOps.on rfl rfl ?_
    refine WOps.p (G.geq rfl rfl (b := true) (decide_eq_true (by omega))) rfl ?_
    refine WOps.p (G.pick_t rfl rfl) rfl ?_
    refine WOps.p (G.move rfl) rfl ?_
    refine WOps.on rfl rfl ?_
    refine WOps.p (G.field T.fld53_1 rfl (show 0 + 1 = 1 from rfl)) rfl ?_
    refine WOps.on rfl rfl ?_
    refine WOps.r (G.load1 T.one3 rfl (cell_blk (S9.blk 0 rfl) rfl)) rfl ?_
    refine WOps.on rfl rfl ?_
    refine WOps.p (G.leq rfl rfl (b := true) (decide_eq_true (by omega))) rfl ?_
    refine WOps.p (G.pick_t rfl rfl) rfl ?_
    refine WOps.p (G.move rfl) rfl ?_
    refine WOps.on rfl rfl ?_
    refine WOps.p (G.field T.fld53_2 rfl (show 0 + 2 = 2 from rfl)) rfl ?_
    refine WOps.on rfl rfl ?_
    refine WOps.r (G.load1 T.one3 rfl (cell_blk (S9.blk 0 rfl) rfl)) rfl ?_
    refine WOps.on rfl rfl ?_
    refine WOps.p (G.geq rfl rfl (b := true) (decide_eq_true (by omega))) rfl ?_
    refine WOps.p (G.pick_t rfl rfl) rfl ?_
    refine WOps.p (G.move rfl) rfl ?_
    refine WOps.on rfl rfl ?_
    refine WOps.p (G.field T.fld53_2 rfl (show 0 + 2 = 2 from rfl)) rfl ?_
    refine WOps.on rfl rfl ?_
    refine WOps.r (G.load1 T.one3 rfl (cell_blk (S9.blk 0 rfl) rfl)) rfl ?_
    refine WOps.on rfl rfl ?_
    refine WOps.p (G.leq rfl rfl (b := true) (decide_eq_true (by omega))) rfl ?_
    refine WOps.p (G.pick_t rfl rfl) rfl ?_
    refine WOps.p (G.assign rfl) rfl ?_
    refine WOps.nil ?_
    refine WEx.forget (l' := [(1, .pointer (some ⟨b1, 0, none⟩)), (2, .bool false), (3, .bool true), (4, .bool true)]) ⟨rfl, rfl, rfl, rfl, trivial⟩ ?_
    refine WEx.then_ ?_
    refine WCode.seq ?_
    refine WCode.seq ?_
    refine WCode.region ?_
    refine WOps.p (G.move rfl) rfl ?_
    refine WOps.p (G.not rfl rfl) rfl ?_
    refine WOps.p (G.move rfl) rfl ?_
    refine WOps.on rfl rfl ?_
    refine WOps.r (G.loada T.agg53_3 rfl (cs := [.int .i64 b, .int .i64 c, .int .i64 t]) (cellsAt.of_blk (S9.blk 0 rfl) rfl)) rfl ?_
    refine WOps.on rfl rfl ?_
    refine WOps.call T.call27 (evs_cons rfl evs_nil) rfl ?_
    refine (pace_Right b c t hb hc ht).mono ?_
    rintro _ w12 ⟨rfl, T11⟩
    have S13 := S9.call0 T11
    have X14 := T11.ext0
    change St _ _ _ [[(b1, .cells #[.int .i64 b, .int .i64 c, .int .i64 t] 53 (0, 0))]] at S13
    rw [decide_eq_true hR]
    refine ⟨_, rfl, ?_⟩
    refine WOps.on rfl rfl ?_
    refine WOps.p (G.move rfl) rfl ?_
    refine WOps.on rfl rfl ?_
    refine WOps.p (G.neqb Try.underlying4 rfl rfl (b := false) (by simp)) rfl ?_
    refine WOps.p (G.pick_f rfl rfl) rfl ?_
    refine WOps.nil ?_
    refine WEx.forget (l' := [(1, .pointer (some ⟨b1, 0, none⟩)), (2, .bool false), (4, .bool true), (43, .bool false)]) ⟨rfl, rfl, rfl, rfl, trivial⟩ ?_
    refine WEx.then_ ?_
    refine WCode.cond_f rfl ?_
    refine WCode.skip ?_
    refine WEx.then_ ?_
    refine WCode.forget (l' := [(1, .pointer (some ⟨b1, 0, none⟩)), (2, .bool false), (4, .bool true)]) ⟨rfl, rfl, rfl, trivial⟩ ?_
    refine WCode.seq ?_
    refine WCode.seq ?_
    refine WCode.region ?_
    refine WOps.p (G.move rfl) rfl ?_
    refine WOps.p (G.not rfl rfl) rfl ?_
    refine WOps.nil ?_
    refine WEx.forget (l' := [(1, .pointer (some ⟨b1, 0, none⟩)), (2, .bool false), (45, .bool false)]) ⟨rfl, rfl, rfl, trivial⟩ ?_
    refine WEx.then_ ?_
    refine WCode.cond_f rfl ?_
    refine WCode.skip ?_
    refine WEx.then_ ?_
    refine WCode.forget (l' := [(1, .pointer (some ⟨b1, 0, none⟩)), (2, .bool false)]) ⟨rfl, rfl, trivial⟩ ?_
    refine WCode.seq ?_
    refine WCode.region ?_
    refine WOps.p (G.assign rfl) rfl ?_
    refine WOps.nil ?_
    refine WEx.then_ ?_
    refine WCode.seq ?_
    refine WCode.region ?_
    refine WOps.p (G.assign rfl) rfl ?_
    refine WOps.nil ?_
    refine WEx.then_ ?_
    refine WCode.seq ?_
    refine WCode.seq ?_
    refine WCode.region ?_
    refine WOps.p (G.assign rfl) rfl ?_
    refine WOps.nil ?_
    refine WEx.then_ ?_
    refine WCode.block ?_
    refine WCode.forget (l' := [(1, .pointer (some ⟨b1, 0, none⟩)), (2, .bool false), (5, .int .i64 0), (6, .int .i64 0), (7, .int .i64 0)]) ⟨rfl, rfl, rfl, rfl, rfl, trivial⟩ ?_
    refine WCode.loop (fun n_ l_ w' => ∃ i : Nat, ∃ last : Int, l_ = [(1, .pointer (some ⟨b1, 0, none⟩)), (2, .bool false), (5, .int .i64 (sumW b c i)), (6, .int .i64 last), (7, .int .i64 (i : Nat))] ∧ n_ = 32 - i ∧ ((i : Int) ≤ t) ∧ ((i = 0 ∧ last = 0) ∨ ∃ k, i = k + 1 ∧ last = wz b c k) ∧ St w (fun _ => False) w' [[(b1, .cells #[.int .i64 b, .int .i64 c, .int .i64 t] 53 (0, 0))]]) _ ⟨0, 0, rfl, rfl, (by have := hR.2.2.2.1; omega), (.inl ⟨rfl, rfl⟩), S13⟩ ?_
    rintro _ _ w15 ⟨i, last, rfl, rfl, hi, hl, S16⟩
    have cs_ : (t ≤ (i : Int)) ∨ ((i : Int) < t ∧ i = 0) ∨ ((i : Int) < t ∧ 0 < i) := by omega
    rcases cs_ with h | h | h
    ·
      have hti : t = (i : Int) := by omega
      have hs := sumW_in hR i
      have hB : t * b = (i : Int) * b := by rw [hti]
      have hC : t * c = (i : Int) * c := by rw [hti]
      have hq := sumW_lo hR i
      have h32 := hR.2.2.2.2
      refine WCode.seq ?_
      refine WCode.seq ?_
      refine WCode.region ?_
      refine WOps.p (G.move rfl) rfl ?_
      refine WOps.p (G.field T.fld53_2 rfl (show 0 + 2 = 2 from rfl)) rfl ?_
      refine WOps.r (G.load1 T.one3 rfl (cell_blk (S16.blk 0 rfl) rfl)) rfl ?_
      refine WOps.p (G.lss rfl rfl (b := false) (decide_eq_false (by omega))) rfl ?_
      refine WOps.nil ?_
      refine WEx.then_ ?_
      refine WCode.cond_f rfl ?_
      refine WCode.exit ?_
      refine WEx.then_exit ?_
      refine WEx.then_exit ?_
      refine WEx.in_exit ?_
      refine WEx.then_ ?_
      refine WCode.forget (l' := [(1, .pointer (some ⟨b1, 0, none⟩)), (2, .bool false), (5, .int .i64 (sumW b c i))]) ⟨rfl, rfl, rfl, trivial⟩ ?_
      refine WCode.seq ?_
      refine WCode.drawH (.one 2 0 (.one 0 1 (.one 1 2 (.one 3 0 (.one 4 0 (.one 5 0 (.one 6 0 (.one 8 0 (.one 7 1 (.one 9 1 (.one 10 0 (.one 11 0 (.one 12 0 (.one 13 0 (.one 14 0 (.one 15 0 (.one 17 0 (.one 16 1 (.one 18 1 (.one 19 0 (.one 20 0 (.one 21 0 (.one 22 0 (.one 25 0 (.one 23 1 (.one 26 1 (.one 24 2 (.one 27 0 (.one 28 0 (.one 29 0 (.one 32 0 (.one 30 1 (.one 33 1 (.one 31 2 (.one 34 0 (.one 35 0 (.one 36 0 .nil))))))))))))))))))))))))))))))))))))) (fun W => cellsAt W b1 0 [.int .i64 b, .int .i64 c, .int .i64 t] ∧ True) T.mixed (by kernel_rfl) (by intro _ _ d _ _ h; cases d <;> exact h) rfl rfl (by kernel_rfl) ?_ ?_
      all_goals have S17 := S16.drew
      all_goals generalize w15.drew = w18 at *
      · exact ⟨cellsAt.of_blk (S17.blk 0 rfl) rfl, trivial⟩
      refine WH.p rfl wants (G.move rfl) rfl ?_
      refine WH.r rfl wants (fun _ h => G.loada T.agg53_3 rfl (cs := [.int .i64 b, .int .i64 c, .int .i64 t]) (cellsAt.part h.1 0 rfl)) rfl ?_
      refine WH.call rfl wants T.call29 (evs_cons rfl evs_nil) rfl ?_
      refine (pace_Total b c t hb hc ht).mono ?_
      rintro _ w20 ⟨rfl, T19⟩
      have S21 := S17.call0 T19
      have X22 := T19.ext0
      change St _ _ _ [[(b1, .cells #[.int .i64 b, .int .i64 c, .int .i64 t] 53 (0, 0))]] at S21
      rw [if_pos hR, show t.toNat = i by omega]
      refine ⟨_, rfl, ?_⟩
      refine ⟨⟨cellsAt.of_blk (S21.blk 0 rfl) rfl, trivial⟩, ?_⟩
      refine WH.p rfl wants (G.eql rfl rfl (b := true) (decide_eq_true rfl)) rfl ?_
      refine WH.p rfl wants (G.move rfl) rfl ?_
      refine WH.p rfl (wants_on rfl rfl) (G.move rfl) rfl ?_
      refine WH.p rfl (wants_on rfl rfl) (G.field T.fld53_2 rfl (show 0 + 2 = 2 from rfl)) rfl ?_
      refine WH.p rfl (wants_on rfl rfl) (G.field T.fld53_0 rfl (show 0 + 0 = 0 from rfl)) rfl ?_
      refine WH.r rfl (wants_on rfl rfl) (fun _ h => G.load1 T.one3 rfl (cellsAt.at h.1 2 rfl)) rfl ?_
      refine WH.r rfl (wants_on rfl rfl) (fun _ h => G.load1 T.one3 rfl (cellsAt.at h.1 0 rfl)) rfl ?_
      refine WH.p rfl (wants_on rfl rfl) (G.mul rfl rfl (show IntKind.i64.wrap (t * b) = (t * b) from (IntWalk.i64_in _ (by omega)))) rfl ?_
      refine WH.p rfl (wants_on rfl rfl) (G.geq rfl rfl (b := true) (decide_eq_true (by omega))) rfl ?_
      refine WH.p rfl wants (G.pick_t rfl rfl) rfl ?_
      refine WH.p rfl wants (G.move rfl) rfl ?_
      refine WH.p rfl (wants_on rfl rfl) (G.move rfl) rfl ?_
      refine WH.p rfl (wants_on rfl rfl) (G.field T.fld53_2 rfl (show 0 + 2 = 2 from rfl)) rfl ?_
      refine WH.p rfl (wants_on rfl rfl) (G.field T.fld53_1 rfl (show 0 + 1 = 1 from rfl)) rfl ?_
      refine WH.r rfl (wants_on rfl rfl) (fun _ h => G.load1 T.one3 rfl (cellsAt.at h.1 2 rfl)) rfl ?_
      refine WH.r rfl (wants_on rfl rfl) (fun _ h => G.load1 T.one3 rfl (cellsAt.at h.1 1 rfl)) rfl ?_
      refine WH.p rfl (wants_on rfl rfl) (G.mul rfl rfl (show IntKind.i64.wrap (t * c) = (t * c) from (IntWalk.i64_in _ (by omega)))) rfl ?_
      refine WH.p rfl (wants_on rfl rfl) (G.leq rfl rfl (b := true) (decide_eq_true (by omega))) rfl ?_
      refine WH.p rfl wants (G.pick_t rfl rfl) rfl ?_
      refine WH.p rfl wants (G.move rfl) rfl ?_
      refine WH.p rfl (wants_on rfl rfl) (G.field T.fld53_0 rfl (show 0 + 0 = 0 from rfl)) rfl ?_
      refine WH.r rfl (wants_on rfl rfl) (fun _ h => G.loada T.agg53_3 rfl (cs := [.int .i64 b, .int .i64 c, .int .i64 t]) (cellsAt.part h.1 0 rfl)) rfl ?_
      refine WH.r rfl (wants_on rfl rfl) (fun _ h => G.load1 T.one3 rfl (cellsAt.at h.1 0 rfl)) rfl ?_
      refine WH.call rfl (wants_on rfl rfl) T.call31 (evs_cons rfl (evs_cons rfl evs_nil)) rfl ?_
      refine (pace_Wait b c t hb hc ht (-1) (by unfold i64 at *; omega)).mono ?_
      rintro _ w24 ⟨rfl, T23⟩
      have S25 := S21.call0 T23
      have X26 := T23.ext0
      change St _ _ _ [[(b1, .cells #[.int .i64 b, .int .i64 c, .int .i64 t] 53 (0, 0))]] at S25
      rw [if_pos hR, show (-1 : Int).toNat = 0 from rfl, wz_zero hR]
      refine ⟨_, rfl, ?_⟩
      refine ⟨⟨cellsAt.of_blk (S25.blk 0 rfl) rfl, trivial⟩, ?_⟩
      refine WH.p rfl (wants_on rfl rfl) (G.eql rfl rfl (b := true) (decide_eq_true rfl)) rfl ?_
      refine WH.p rfl wants (G.pick_t rfl rfl) rfl ?_
      refine WH.p rfl wants (G.move rfl) rfl ?_
      refine WH.p rfl (wants_on rfl rfl) (G.field T.fld53_1 rfl (show 0 + 1 = 1 from rfl)) rfl ?_
      refine WH.r rfl (wants_on rfl rfl) (fun _ h => G.loada T.agg53_3 rfl (cs := [.int .i64 b, .int .i64 c, .int .i64 t]) (cellsAt.part h.1 0 rfl)) rfl ?_
      refine WH.r rfl (wants_on rfl rfl) (fun _ h => G.load1 T.one3 rfl (cellsAt.at h.1 1 rfl)) rfl ?_
      refine WH.call rfl (wants_on rfl rfl) T.call31 (evs_cons rfl (evs_cons rfl evs_nil)) rfl ?_
      refine (pace_Wait b c t hb hc ht 1099511627776 (by unfold i64 at *; omega)).mono ?_
      rintro _ w28 ⟨rfl, T27⟩
      have S29 := S25.call0 T27
      have X30 := T27.ext0
      change St _ _ _ [[(b1, .cells #[.int .i64 b, .int .i64 c, .int .i64 t] 53 (0, 0))]] at S29
      rw [if_pos hR, wz_big hR (by decide)]
      refine ⟨_, rfl, ?_⟩
      refine ⟨⟨cellsAt.of_blk (S29.blk 0 rfl) rfl, trivial⟩, ?_⟩
      refine WH.p rfl (wants_on rfl rfl) (G.eql rfl rfl (b := true) (decide_eq_true rfl)) rfl ?_
      refine WH.p rfl wants (G.pick_t rfl rfl) rfl ?_
      refine WH.p rfl wants (G.assign rfl) rfl ?_
      refine WH.nil ?_
      refine WEx.forget (l' := [(2, .bool true)]) ⟨rfl, trivial⟩ ?_
      refine WEx.then_ ?_
      refine WCode.ret ?_
      refine WEx.ret1 rfl rfl ?_
      exact ⟨rfl, St.keep (As := []) S29⟩
    ·
      obtain ⟨h, rfl⟩ := h
      have hw0 := wz_in hR 0
      refine WCode.seq ?_
      refine WCode.seq ?_
      refine WCode.region ?_
      refine WOps.p (G.move rfl) rfl ?_
      refine WOps.p (G.field T.fld53_2 rfl (show 0 + 2 = 2 from rfl)) rfl ?_
      refine WOps.r (G.load1 T.one3 rfl (cell_blk (S16.blk 0 rfl) rfl)) rfl ?_
      refine WOps.p (G.lss rfl rfl (b := true) (decide_eq_true (by omega))) rfl ?_
      refine WOps.nil ?_
      refine WEx.then_ ?_
      refine WCode.cond_t rfl ?_
      refine WCode.skip ?_
      refine WEx.then_ ?_
      refine WCode.seq ?_
      refine WCode.block ?_
      refine WCode.seq ?_
      refine WCode.region ?_
      refine WOps.r (G.loada T.agg53_3 rfl (cs := [.int .i64 b, .int .i64 c, .int .i64 t]) (cellsAt.of_blk (S16.blk 0 rfl) rfl)) rfl ?_
      refine WOps.p (G.move rfl) rfl ?_
      refine WOps.call T.call31 (evs_cons rfl (evs_cons rfl evs_nil)) rfl ?_
      refine (pace_Wait b c t hb hc ht ((0 : Nat) : Int) (by unfold i64 at *; omega)).mono ?_
      rintro _ w32 ⟨rfl, T31⟩
      have S33 := S16.call0 T31
      have X34 := T31.ext0
      change St _ _ _ [[(b1, .cells #[.int .i64 b, .int .i64 c, .int .i64 t] 53 (0, 0))]] at S33
      rw [if_pos hR, Int.toNat_natCast]
      refine ⟨_, rfl, ?_⟩
      refine WOps.p (G.assign rfl) rfl ?_
      refine WOps.nil ?_
      refine WEx.then_ ?_
      refine WCode.seq ?_
      refine WCode.region ?_
      refine WOps.p (G.field T.fld53_0 rfl (show 0 + 0 = 0 from rfl)) rfl ?_
      refine WOps.r (G.load1 T.one3 rfl (cell_blk (S33.blk 0 rfl) rfl)) rfl ?_
      refine WOps.p (G.assign rfl) rfl ?_
      refine WOps.nil ?_
      refine WEx.then_ ?_
      refine WCode.seq ?_
      refine WCode.seq ?_
      refine WCode.region ?_
      refine WOps.p (G.move rfl) rfl ?_
      refine WOps.p (G.gtr rfl rfl (b := false) (decide_eq_false (by omega))) rfl ?_
      refine WOps.nil ?_
      refine WEx.then_ ?_
      refine WCode.cond_f rfl ?_
      refine WCode.skip ?_
      refine WEx.then_ ?_
      refine WCode.seq ?_
      refine WCode.seq ?_
      refine WCode.region ?_
      refine WOps.p (G.move rfl) rfl ?_
      refine WOps.p (G.move rfl) rfl ?_
      refine WOps.p (G.neq rfl rfl (b := false) (by rw [decide_eq_true (wz_zero hR)]; rfl)) rfl ?_
      refine WOps.nil ?_
      refine WEx.then_ ?_
      refine WCode.cond_f rfl ?_
      refine WCode.skip ?_
      refine WEx.then_ ?_
      refine WCode.seq ?_
      refine WCode.region ?_
      refine WOps.p (G.move rfl) rfl ?_
      refine WOps.p (G.move rfl) rfl ?_
      refine WOps.p (G.add rfl rfl (show IntKind.i64.wrap ((sumW b c 0) + (wz b c 0)) = (sumW b c 0 + wz b c 0) from (IntWalk.i64_in _ (by simp only [sumW]; omega)))) rfl ?_
      refine WOps.p (G.assign rfl) rfl ?_
      refine WOps.nil ?_
      refine WEx.then_ ?_
      refine WCode.region ?_
      refine WOps.p (G.move rfl) rfl ?_
      refine WOps.p (G.assign rfl) rfl ?_
      refine WOps.nil ?_
      refine WEx.in_normal ?_
      refine WEx.then_ ?_
      refine WCode.region ?_
      refine WOps.p (G.move rfl) rfl ?_
      refine WOps.p (G.add rfl rfl (show IntKind.i64.wrap (((0 : Nat) : Int) + 1) = (((0 : Nat) : Int) + 1) from IntWalk.i64_in _ (by omega))) rfl ?_
      refine WOps.p (G.assign rfl) rfl ?_
      refine WOps.nil ?_
      refine WEx.again _ _ ?_ ?_ ⟨0 + 1, wz b c 0, rfl, rfl, (by omega), (.inr ⟨0, rfl, rfl⟩), S33⟩
      · have := hR.2.2.2.2; omega
      · exact ⟨rfl, rfl, rfl, rfl, rfl, trivial⟩
    ·
      obtain ⟨h, hp⟩ := h
      obtain ⟨k, rfl, rfl⟩ : ∃ k, i = k + 1 ∧ last = wz b c k := by
        rcases hl with hl | hl
        · omega
        · exact hl
      have hwk := wz_in hR k
      have hwk2 := wz_in hR (k + 1)
      have hs := sumW_in hR (k + 1)
      have h32 := hR.2.2.2.2
      refine WCode.seq ?_
      refine WCode.seq ?_
      refine WCode.region ?_
      refine WOps.p (G.move rfl) rfl ?_
      refine WOps.p (G.field T.fld53_2 rfl (show 0 + 2 = 2 from rfl)) rfl ?_
      refine WOps.r (G.load1 T.one3 rfl (cell_blk (S16.blk 0 rfl) rfl)) rfl ?_
      refine WOps.p (G.lss rfl rfl (b := true) (decide_eq_true (by omega))) rfl ?_
      refine WOps.nil ?_
      refine WEx.then_ ?_
      refine WCode.cond_t rfl ?_
      refine WCode.skip ?_
      refine WEx.then_ ?_
      refine WCode.seq ?_
      refine WCode.block ?_
      refine WCode.seq ?_
      refine WCode.region ?_
      refine WOps.r (G.loada T.agg53_3 rfl (cs := [.int .i64 b, .int .i64 c, .int .i64 t]) (cellsAt.of_blk (S16.blk 0 rfl) rfl)) rfl ?_
      refine WOps.p (G.move rfl) rfl ?_
      refine WOps.call T.call31 (evs_cons rfl (evs_cons rfl evs_nil)) rfl ?_
      refine (pace_Wait b c t hb hc ht ((k + 1 : Nat) : Int) (by unfold i64 at *; omega)).mono ?_
      rintro _ w36 ⟨rfl, T35⟩
      have S37 := S16.call0 T35
      have X38 := T35.ext0
      change St _ _ _ [[(b1, .cells #[.int .i64 b, .int .i64 c, .int .i64 t] 53 (0, 0))]] at S37
      rw [if_pos hR, Int.toNat_natCast]
      refine ⟨_, rfl, ?_⟩
      refine WOps.p (G.assign rfl) rfl ?_
      refine WOps.nil ?_
      refine WEx.then_ ?_
      refine WCode.seq ?_
      refine WCode.region ?_
      refine WOps.p (G.field T.fld53_0 rfl (show 0 + 0 = 0 from rfl)) rfl ?_
      refine WOps.r (G.load1 T.one3 rfl (cell_blk (S37.blk 0 rfl) rfl)) rfl ?_
      refine WOps.p (G.assign rfl) rfl ?_
      refine WOps.nil ?_
      refine WEx.then_ ?_
      refine WCode.seq ?_
      refine WCode.seq ?_
      refine WCode.region ?_
      refine WOps.p (G.move rfl) rfl ?_
      refine WOps.p (G.gtr rfl rfl (b := true) (decide_eq_true (by omega))) rfl ?_
      refine WOps.nil ?_
      refine WEx.then_ ?_
      refine WCode.cond_t rfl ?_
      refine WCode.region ?_
      refine WOps.p (G.move rfl) rfl ?_
      refine WOps.p (G.mul rfl rfl (show IntKind.i64.wrap (2 * (wz b c k)) = (2 * wz b c k) from (IntWalk.i64_in _ (by omega)))) rfl ?_
      refine WOps.p (G.field T.fld53_1 rfl (show 0 + 1 = 1 from rfl)) rfl ?_
      refine WOps.r (G.load1 T.one3 rfl (cell_blk (S37.blk 0 rfl) rfl)) rfl ?_
      refine WOps.p (G.min rfl rfl (show _ = (wz b c (k + 1)) from (wz_succ hR))) rfl ?_
      refine WOps.p (G.assign rfl) rfl ?_
      refine WOps.nil ?_
      refine WEx.then_ ?_
      refine WCode.seq ?_
      refine WCode.seq ?_
      refine WCode.region ?_
      refine WOps.p (G.move rfl) rfl ?_
      refine WOps.p (G.move rfl) rfl ?_
      refine WOps.p (G.neq rfl rfl (b := false) (by rw [decide_eq_true rfl]; rfl)) rfl ?_
      refine WOps.nil ?_
      refine WEx.then_ ?_
      refine WCode.cond_f rfl ?_
      refine WCode.skip ?_
      refine WEx.then_ ?_
      refine WCode.seq ?_
      refine WCode.region ?_
      refine WOps.p (G.move rfl) rfl ?_
      refine WOps.p (G.move rfl) rfl ?_
      refine WOps.p (G.add rfl rfl (show IntKind.i64.wrap ((sumW b c (k + 1)) + (wz b c (k + 1))) = (sumW b c (k + 1) + wz b c (k + 1)) from (IntWalk.i64_in _ (by omega)))) rfl ?_
      refine WOps.p (G.assign rfl) rfl ?_
      refine WOps.nil ?_
      refine WEx.then_ ?_
      refine WCode.region ?_
      refine WOps.p (G.move rfl) rfl ?_
      refine WOps.p (G.assign rfl) rfl ?_
      refine WOps.nil ?_
      refine WEx.in_normal ?_
      refine WEx.then_ ?_
      refine WCode.region ?_
      refine WOps.p (G.move rfl) rfl ?_
      refine WOps.p (G.add rfl rfl (show IntKind.i64.wrap (((k + 1 : Nat) : Int) + 1) = (((k + 1 : Nat) : Int) + 1) from IntWalk.i64_in _ (by omega))) rfl ?_
      refine WOps.p (G.assign rfl) rfl ?_
      refine WOps.nil ?_
      refine WEx.again _ _ ?_ ?_ ⟨k + 1 + 1, wz b c (k + 1), rfl, rfl, (by omega), (.inr ⟨k + 1, rfl, rfl⟩), S37⟩
      · have := hR.2.2.2.2; omega
      · exact ⟨rfl, rfl, rfl, rfl, rfl, trivial⟩

set_option maxRecDepth 100000 in
set_option maxHeartbeats 1000000 in
theorem law_waits {w : World} (b c t : Int) (hb : i64 b) (hc : i64 c) (ht : i64 t) {A : Option Addr} {cp : Nat} {L : List Int} (hL : Rd w A L.length 1 (cellsOf Num.cs L)) (hok : ∀ x ∈ L, i64 x) (h63 : L.length ≤ 9223372036854775807) :
    Calls Try.prog 5 [.agg #[.int .i64 b, .int .i64 c, .int .i64 t], .slice A L.length cp].toArray w fun e w' => e = .returned (.bool true) ∧ St w (fun _ => False) w' [] := by
  have S := St.init0 w
  refine enter 43 [(0, .agg #[.int .i64 b, .int .i64 c, .int .i64 t]), (1, .slice A L.length cp)] Try.func5 rfl rfl rfl rfl ?_
  refine WCode.seq ?_
  refine WCode.region ?_
  obtain ⟨b1, w2, E3, S4, X5, L6⟩ := St.box S Try.prog 53 (.agg #[.int .i64 b, .int .i64 c, .int .i64 t])
  change St _ _ _ [[(b1, .cells #[.int .i64 b, .int .i64 c, .int .i64 t] 53 (0, 0))]] at S4
  refine WOps.e (E3 rfl) rfl ?_
  refine WOps.p (G.assign rfl) rfl ?_
  refine WOps.nil ?_
  refine WEx.forget (l' := [(1, .slice A L.length cp), (2, .pointer (some ⟨b1, 0, none⟩)), (4, .bool false)]) ⟨rfl, rfl, rfl, trivial⟩ ?_
  refine WEx.then_ ?_
  refine WCode.seq ?_
  refine WCode.region ?_
  refine WOps.call T.call26 evs_nil rfl ?_
  refine (law_awake).mono ?_
  rintro _ w8 ⟨rfl, T7⟩
  have S9 := S4.call0 T7
  have X10 := T7.ext0
  change St _ _ _ [[(b1, .cells #[.int .i64 b, .int .i64 c, .int .i64 t] 53 (0, 0))]] at S9
  refine ⟨_, rfl, ?_⟩
  refine WOps.p (G.assign rfl) rfl ?_
  refine WOps.nil ?_
  refine WEx.forget (l' := [(1, .slice A L.length cp), (2, .pointer (some ⟨b1, 0, none⟩)), (4, .bool false), (5, .bool true)]) ⟨rfl, rfl, rfl, rfl, trivial⟩ ?_
  refine WEx.then_ ?_
  refine WCode.seq ?_
  refine WCode.seq ?_
  refine WCode.drawH (.one 0 0 (.one 1 0 (.one 2 0 (.one 3 1 (.one 5 1 (.one 4 2 (.one 6 2 (.one 7 0 (.one 8 0 (.one 9 0 (.one 10 1 (.one 12 1 (.one 11 2 (.one 13 2 (.one 14 0 (.one 15 0 .nil)))))))))))))))) (fun W => cellsAt W b1 0 [.int .i64 b, .int .i64 c, .int .i64 t] ∧ True) T.mixed (by kernel_rfl) (by intro _ _ d _ _ h; cases d <;> exact h) rfl rfl (by kernel_rfl) ?_ ?_
  all_goals have S11 := S9.drew
  all_goals generalize w8.drew = w12 at *
  · exact ⟨cellsAt.of_blk (S11.blk 0 rfl) rfl, trivial⟩
  refine WH.p rfl wants (G.move rfl) rfl ?_
  refine WH.p rfl wants (G.not rfl rfl) rfl ?_
  refine WH.p rfl wants (G.move rfl) rfl ?_
  refine WH.r rfl (wants_on rfl rfl) (fun _ h => G.loada T.agg53_3 rfl (cs := [.int .i64 b, .int .i64 c, .int .i64 t]) (cellsAt.part h.1 0 rfl)) rfl ?_
  refine WH.r rfl (wants_on rfl rfl) (fun _ h => G.loada T.agg53_3 rfl (cs := [.int .i64 b, .int .i64 c, .int .i64 t]) (cellsAt.part h.1 0 rfl)) rfl ?_
  refine WH.call rfl (wants_on rfl rfl) T.call27 (evs_cons rfl evs_nil) rfl ?_
  refine (pace_Right b c t hb hc ht).mono ?_
  rintro _ w14 ⟨rfl, T13⟩
  have S15 := S11.call0 T13
  have X16 := T13.ext0
  change St _ _ _ [[(b1, .cells #[.int .i64 b, .int .i64 c, .int .i64 t] 53 (0, 0))]] at S15
  refine ⟨_, rfl, ?_⟩
  refine ⟨⟨cellsAt.of_blk (S15.blk 0 rfl) rfl, trivial⟩, ?_⟩
  refine WH.call rfl (wants_on rfl rfl) T.call28 (evs_cons rfl evs_nil) rfl ?_
  refine (ref_Right b c t hb hc ht).mono ?_
  rintro _ w18 ⟨rfl, T17⟩
  have S19 := S15.call0 T17
  have X20 := T17.ext0
  change St _ _ _ [[(b1, .cells #[.int .i64 b, .int .i64 c, .int .i64 t] 53 (0, 0))]] at S19
  refine ⟨_, rfl, ?_⟩
  refine ⟨⟨cellsAt.of_blk (S19.blk 0 rfl) rfl, trivial⟩, ?_⟩
  refine WH.p rfl (wants_on rfl rfl) (G.neqb Try.underlying4 rfl rfl (b := false) (by simp)) rfl ?_
  refine WH.p rfl wants (G.pick_f rfl rfl) rfl ?_
  refine WH.p rfl wants (G.move rfl) rfl ?_
  refine WH.r rfl (wants_on rfl rfl) (fun _ h => G.loada T.agg53_3 rfl (cs := [.int .i64 b, .int .i64 c, .int .i64 t]) (cellsAt.part h.1 0 rfl)) rfl ?_
  refine WH.r rfl (wants_on rfl rfl) (fun _ h => G.loada T.agg53_3 rfl (cs := [.int .i64 b, .int .i64 c, .int .i64 t]) (cellsAt.part h.1 0 rfl)) rfl ?_
  refine WH.call rfl (wants_on rfl rfl) T.call29 (evs_cons rfl evs_nil) rfl ?_
  refine (pace_Total b c t hb hc ht).mono ?_
  rintro _ w22 ⟨rfl, T21⟩
  have S23 := S19.call0 T21
  have X24 := T21.ext0
  change St _ _ _ [[(b1, .cells #[.int .i64 b, .int .i64 c, .int .i64 t] 53 (0, 0))]] at S23
  refine ⟨_, rfl, ?_⟩
  refine ⟨⟨cellsAt.of_blk (S23.blk 0 rfl) rfl, trivial⟩, ?_⟩
  refine WH.call rfl (wants_on rfl rfl) T.call30 (evs_cons rfl evs_nil) rfl ?_
  refine (ref_Total b c t hb hc ht).mono ?_
  rintro _ w26 ⟨rfl, T25⟩
  have S27 := S23.call0 T25
  have X28 := T25.ext0
  change St _ _ _ [[(b1, .cells #[.int .i64 b, .int .i64 c, .int .i64 t] 53 (0, 0))]] at S27
  refine ⟨_, rfl, ?_⟩
  refine ⟨⟨cellsAt.of_blk (S27.blk 0 rfl) rfl, trivial⟩, ?_⟩
  refine WH.p rfl (wants_on rfl rfl) (G.neq rfl rfl (b := false) (by simp)) rfl ?_
  refine WH.p rfl wants (G.pick_f rfl rfl) rfl ?_
  refine WH.nil ?_
  refine WEx.forget (l' := [(1, .slice A L.length cp), (2, .pointer (some ⟨b1, 0, none⟩)), (4, .bool false), (23, .bool false)]) ⟨rfl, rfl, rfl, rfl, trivial⟩ ?_
  refine WEx.then_ ?_
  refine WCode.cond_f rfl ?_
  refine WCode.skip ?_
  refine WEx.then_ ?_
  refine WCode.forget (l' := [(1, .slice A L.length cp), (2, .pointer (some ⟨b1, 0, none⟩)), (4, .bool false)]) ⟨rfl, rfl, rfl, trivial⟩ ?_
  refine WCode.seq ?_
  refine WCode.seq ?_
  refine WCode.region ?_
  refine WOps.p (G.assign rfl) rfl ?_
  refine WOps.nil ?_
  refine WEx.then_ ?_
  refine WCode.block ?_
  refine WCode.forget (l' := [(1, .slice A L.length cp), (2, .pointer (some ⟨b1, 0, none⟩)), (4, .bool false), (6, .int .i64 0)]) ⟨rfl, rfl, rfl, rfl, trivial⟩ ?_
  refine WCode.loop (fun n_ l_ w' => ∃ i : Nat, l_ = [(1, .slice A L.length cp), (2, .pointer (some ⟨b1, 0, none⟩)), (4, .bool false), (6, .int .i64 (i : Nat))] ∧ n_ = L.length - i ∧ (i ≤ L.length) ∧ St w (fun _ => False) w' [[(b1, .cells #[.int .i64 b, .int .i64 c, .int .i64 t] 53 (0, 0))]]) _ ⟨0, rfl, rfl, (Nat.zero_le _), S27⟩ ?_
  rintro _ _ w29 ⟨i, rfl, rfl, hi, S30⟩
  have cs_ : (i = L.length) ∨ (i < L.length) := by omega
  rcases cs_ with h | h
  ·
    refine WCode.seq ?_
    refine WCode.seq ?_
    refine WCode.region ?_
    refine WOps.p (G.move rfl) rfl ?_
    refine WOps.p (G.move rfl) rfl ?_
    refine WOps.p (G.len T.el33 rfl) rfl ?_
    refine WOps.p (G.lss rfl rfl (b := false) (decide_eq_false (by omega))) rfl ?_
    refine WOps.nil ?_
    refine WEx.then_ ?_
    refine WCode.cond_f rfl ?_
    refine WCode.exit ?_
    refine WEx.then_exit ?_
    refine WEx.then_exit ?_
    refine WEx.in_exit ?_
    refine WEx.then_ ?_
    refine WCode.forget (l' := [(4, .bool false)]) ⟨rfl, trivial⟩ ?_
    refine WCode.seq ?_
    refine WCode.region ?_
    refine WOps.p (G.assign rfl) rfl ?_
    refine WOps.nil ?_
    refine WEx.then_ ?_
    refine WCode.ret ?_
    refine WEx.ret1 rfl rfl ?_
    exact ⟨rfl, St.keep (As := []) S30⟩
  ·
    obtain ⟨x, hx⟩ : ∃ x, L[i]? = some x := ⟨_, List.getElem?_eq_getElem (h)⟩
    have ox := hok x (List.mem_of_getElem? hx)
    refine WCode.seq ?_
    refine WCode.seq ?_
    refine WCode.region ?_
    refine WOps.p (G.move rfl) rfl ?_
    refine WOps.p (G.move rfl) rfl ?_
    refine WOps.p (G.len T.el33 rfl) rfl ?_
    refine WOps.p (G.lss rfl rfl (b := true) (decide_eq_true (by omega))) rfl ?_
    refine WOps.nil ?_
    refine WEx.then_ ?_
    refine WCode.cond_t rfl ?_
    refine WCode.skip ?_
    refine WEx.then_ ?_
    refine WCode.seq ?_
    refine WCode.block ?_
    refine WCode.seq ?_
    refine WCode.drawH (.one 1 0 (.one 2 0 (.one 3 0 (.one 7 0 (.one 8 0 (.one 9 0 (.one 0 1 (.one 4 1 (.one 6 1 (.one 10 1 (.one 5 2 (.one 11 2 (.one 12 0 .nil))))))))))))) (fun W => cellsAt W b1 0 [.int .i64 b, .int .i64 c, .int .i64 t] ∧ Rd W A L.length 1 (cellsOf Num.cs L) ∧ True) T.mixed (by kernel_rfl) (by intro _ _ d _ _ h; cases d <;> exact h) rfl rfl (by kernel_rfl) ?_ ?_
    all_goals have S31 := S30.drew
    all_goals generalize w29.drew = w32 at *
    · exact ⟨cellsAt.of_blk (S31.blk 0 rfl) rfl, (hL.ext S31.ext0), trivial⟩
    refine WH.p rfl wants (G.move rfl) rfl ?_
    refine WH.p rfl wants (G.move rfl) rfl ?_
    obtain ⟨b33, o34, ea35, ca36⟩ := Rd.at_ Num.len (hL.ext S31.ext0) hx rfl
    cases ea35
    refine WH.p rfl wants (G.index T.el33 rfl rfl (j := i) h rfl) rfl ?_
    refine WH.p rfl wants (G.move rfl) rfl ?_
    refine WH.p rfl wants (G.move rfl) rfl ?_
    obtain ⟨b37, o38, ea39, ca40⟩ := Rd.at_ Num.len (hL.ext S31.ext0) hx rfl
    cases ea39
    refine WH.p rfl wants (G.index T.el33 rfl rfl (j := i) h rfl) rfl ?_
    refine WH.r rfl wants (fun _ h => G.loada T.agg53_3 rfl (cs := [.int .i64 b, .int .i64 c, .int .i64 t]) (cellsAt.part h.1 0 rfl)) rfl ?_
    refine WH.r rfl wants (fun _ h => G.load1 T.one3 rfl (cellsAt.at (Rd.cells Num.len h.2.1 hx rfl) 0 rfl)) rfl ?_
    refine WH.r rfl wants (fun _ h => G.loada T.agg53_3 rfl (cs := [.int .i64 b, .int .i64 c, .int .i64 t]) (cellsAt.part h.1 0 rfl)) rfl ?_
    refine WH.r rfl wants (fun _ h => G.load1 T.one3 rfl (cellsAt.at (Rd.cells Num.len h.2.1 hx rfl) 0 rfl)) rfl ?_
    refine WH.call rfl wants T.call31 (evs_cons rfl (evs_cons rfl evs_nil)) rfl ?_
    refine (pace_Wait b c t hb hc ht x ox).mono ?_
    rintro _ w42 ⟨rfl, T41⟩
    have S43 := S31.call0 T41
    have X44 := T41.ext0
    have c45 := ca40.ext X44
    change St _ _ _ [[(b1, .cells #[.int .i64 b, .int .i64 c, .int .i64 t] 53 (0, 0))]] at S43
    refine ⟨_, rfl, ?_⟩
    refine ⟨⟨cellsAt.of_blk (S43.blk 0 rfl) rfl, (hL.ext S43.ext0), trivial⟩, ?_⟩
    refine WH.call rfl wants T.call32 (evs_cons rfl (evs_cons rfl evs_nil)) rfl ?_
    refine (ref_Wait b c t hb hc ht x ox).mono ?_
    rintro _ w47 ⟨rfl, T46⟩
    have S48 := S43.call0 T46
    have X49 := T46.ext0
    have c50 := c45.ext X49
    change St _ _ _ [[(b1, .cells #[.int .i64 b, .int .i64 c, .int .i64 t] 53 (0, 0))]] at S48
    refine ⟨_, rfl, ?_⟩
    refine ⟨⟨cellsAt.of_blk (S48.blk 0 rfl) rfl, (hL.ext S48.ext0), trivial⟩, ?_⟩
    refine WH.p rfl wants (G.neq rfl rfl (b := false) (by simp)) rfl ?_
    refine WH.nil ?_
    refine WEx.then_ ?_
    refine WCode.cond_f rfl ?_
    refine WCode.skip ?_
    refine WEx.in_normal ?_
    refine WEx.then_ ?_
    refine WCode.region ?_
    refine WOps.p (G.move rfl) rfl ?_
    refine WOps.p (G.add rfl rfl (show IntKind.i64.wrap ((i : Nat) + 1) = ((i : Nat) + 1) from IntWalk.i64_in _ (by omega))) rfl ?_
    refine WOps.p (G.assign rfl) rfl ?_
    refine WOps.nil ?_
    refine WEx.again _ _ ?_ ?_ ⟨i + 1, rfl, rfl, h, S48⟩
    · omega
    · exact ⟨rfl, rfl, rfl, rfl, trivial⟩

end Go.Proofs.Ytoahkjehjmbojaa
