/- Walks (printed by gen.py over the engine). -/
import Derived.Test.YtoahkjehjmbojaaPaceB
namespace Go.Proofs.Ytoahkjehjmbojaa
open Go Go.Eng
set_option linter.unusedSimpArgs false
set_option linter.unusedVariables false
theorem T.call29 : Callable Try.prog 29 := Callable.mk Try.func29 (by kernel_rfl) (by kernel_rfl)
theorem T.call33 : Callable Try.prog 33 := Callable.mk Try.func33 (by kernel_rfl) (by kernel_rfl)
theorem T.call34 : Callable Try.prog 34 := Callable.mk Try.func34 (by kernel_rfl) (by kernel_rfl)
theorem T.call35 : Callable Try.prog 35 := Callable.mk Try.func35 (by kernel_rfl) (by kernel_rfl)
theorem T.call36 : Callable Try.prog 36 := Callable.mk Try.func36 (by kernel_rfl) (by kernel_rfl)
theorem T.call38 : Callable Try.prog 38 := Callable.mk Try.func38 (by kernel_rfl) (by kernel_rfl)
theorem T.size53_3 : sizeT Try.prog 53 = some 3 := by kernel_rfl
theorem T.zero53 : zeroOf Try.prog 53 = some (.agg #[.int .i64 0, .int .i64 0, .int .i64 0]) := by kernel_rfl

theorem hear_ex : HearS 1090519040 1082130432 1098907648 1091567616 1084227584 := ⟨1090519040, 1065353216, 1090519040, 1082130432, 1065353216, by kernel_rfl, by kernel_rfl, by kernel_rfl, by rw [if_neg (by decide +kernel)], by kernel_rfl, by kernel_rfl, by kernel_rfl⟩
theorem guess_ex : GuessS 1091567616 1084227584 29 := ⟨1101004800, 1105723392, by kernel_rfl, by kernel_rfl, by
  rw [if_neg (by decide +kernel)]
  exact ⟨29, by kernel_rfl, by omega, by rw [if_neg (by decide +kernel)]⟩⟩

set_option maxRecDepth 100000 in
set_option maxHeartbeats 1000000 in
theorem law_awake {w : World} :
    Calls Try.prog 26 [].toArray w fun e w' => e = .returned (.bool true) ∧ St w (fun _ => False) w' [] := by
  have S := St.init0 w
  refine enter 43 [] Try.func26 rfl rfl rfl rfl ?_
  refine WCode.seq ?_
  refine WCode.region ?_
  refine WOps.p (G.assign rfl) rfl ?_
  refine WOps.nil ?_
  refine WEx.then_ ?_
  refine WCode.seq ?_
  refine WCode.region ?_
  refine WOps.p (G.build (cells := #[.int .i64 2, .int .i64 8, .int .i64 4]) (evp_spec (evp_cons rfl (evp_cons rfl (evp_cons rfl evp_nil)))) (by kernel_rfl)) rfl ?_
  obtain ⟨b1, w2, E3, S4, X5, L6⟩ := St.var S T.zero53
  change St _ _ _ [[(b1, .cells #[.int .i64 0, .int .i64 0, .int .i64 0] 53 (0, 0))]] at S4
  refine WOps.e E3 rfl ?_
  obtain ⟨w7, E8, S9⟩ := St.store (P := Try.prog) S4 0 53 (.agg #[.int .i64 2, .int .i64 8, .int .i64 4]) (off := 0) (cur' := #[.int .i64 2, .int .i64 8, .int .i64 4]) rfl T.size53_3 rfl rfl rfl
  change St _ _ _ [[(b1, .cells #[.int .i64 2, .int .i64 8, .int .i64 4] 53 (0, 0))]] at S9
  refine WOps.u (E8 rfl rfl) ?_
  refine WOps.nil ?_
  refine WEx.forget (l' := [(0, .bool false), (1, .pointer (some ⟨b1, 0, none⟩))]) ⟨rfl, rfl, trivial⟩ ?_
  refine WEx.then_ ?_
  refine WCode.seq ?_
  refine WCode.region ?_
  refine WOps.call T.call33 evs_nil rfl ?_
  refine pace_New.mono ?_
  rintro _ w11 ⟨p14, rfl, T12⟩
  have S13 := S9.call0 T12
  change St _ _ _ [[(p14, .cells #[.bool false, .float .f32 0, .float .f32 0] 140 (0, 0))], [(b1, .cells #[.int .i64 2, .int .i64 8, .int .i64 4] 53 (0, 0))]] at S13
  refine ⟨_, rfl, ?_⟩
  refine WOps.p (G.assign rfl) rfl ?_
  refine WOps.nil ?_
  refine WEx.forget (l' := [(0, .bool false), (1, .pointer (some ⟨b1, 0, none⟩)), (2, .pointer (some ⟨p14, 0, none⟩))]) ⟨rfl, rfl, rfl, trivial⟩ ?_
  refine WEx.then_ ?_
  refine WCode.seq ?_
  refine WCode.seq ?_
  refine WCode.region ?_
  refine WOps.p (G.move rfl) rfl ?_
  refine WOps.p (G.eqp_nil Try.underlying59 rfl rfl (b := false) rfl) rfl ?_
  refine WOps.nil ?_
  refine WEx.forget (l' := [(0, .bool false), (1, .pointer (some ⟨b1, 0, none⟩)), (2, .pointer (some ⟨p14, 0, none⟩)), (6, .bool false)]) ⟨rfl, rfl, rfl, rfl, trivial⟩ ?_
  refine WEx.then_ ?_
  refine WCode.cond_f rfl ?_
  refine WCode.skip ?_
  refine WEx.then_ ?_
  refine WCode.forget (l' := [(0, .bool false), (1, .pointer (some ⟨b1, 0, none⟩)), (2, .pointer (some ⟨p14, 0, none⟩))]) ⟨rfl, rfl, rfl, trivial⟩ ?_
  refine WCode.seq ?_
  refine WCode.region ?_
  refine WOps.p (G.move rfl) rfl ?_
  refine WOps.call T.call38 (evs_cons rfl (evs_cons rfl evs_nil)) rfl ?_
  refine (pace_Hear0 S13.hp1 8 (by unfold i64; omega) (x := 1090519040) (q := 1082130432) (by kernel_rfl) (by kernel_rfl)).mono ?_
  rintro _ w15 ⟨rfl, T16⟩
  have S17 := S13.call1 T16
  change St _ _ _ [[(p14, .cells #[.bool true, .float .f32 1090519040, .float .f32 1082130432] 140 (0, 0))], [(b1, .cells #[.int .i64 2, .int .i64 8, .int .i64 4] 53 (0, 0))]] at S17
  refine ⟨_, rfl, ?_⟩
  refine WOps.nil ?_
  refine WEx.forget (l' := [(0, .bool false), (1, .pointer (some ⟨b1, 0, none⟩)), (2, .pointer (some ⟨p14, 0, none⟩))]) ⟨rfl, rfl, rfl, trivial⟩ ?_
  refine WEx.then_ ?_
  refine WCode.seq ?_
  refine WCode.region ?_
  refine WOps.p (G.move rfl) rfl ?_
  refine WOps.call T.call38 (evs_cons rfl (evs_cons rfl evs_nil)) rfl ?_
  refine (pace_Hear1 S17.hp1 16 (by unfold i64; omega) (x := 1098907648) (m' := 1091567616) (s' := 1084227584) (by kernel_rfl) hear_ex).mono ?_
  rintro _ w18 ⟨rfl, T19⟩
  have S20 := S17.call1 T19
  change St _ _ _ [[(p14, .cells #[.bool true, .float .f32 1091567616, .float .f32 1084227584] 140 (0, 0))], [(b1, .cells #[.int .i64 2, .int .i64 8, .int .i64 4] 53 (0, 0))]] at S20
  refine ⟨_, rfl, ?_⟩
  refine WOps.nil ?_
  refine WEx.forget (l' := [(0, .bool false), (1, .pointer (some ⟨b1, 0, none⟩)), (2, .pointer (some ⟨p14, 0, none⟩))]) ⟨rfl, rfl, rfl, trivial⟩ ?_
  refine WEx.then_ ?_
  refine WCode.seq ?_
  refine WCode.region ?_
  refine WOps.r (G.loada T.agg53_3 rfl (cs := [.int .i64 2, .int .i64 8, .int .i64 4]) (cellsAt.of_blk (S20.blk 1 rfl) rfl)) rfl ?_
  refine WOps.call T.call27 (evs_cons rfl evs_nil) rfl ?_
  refine (pace_Right 2 8 4 (by unfold i64; omega) (by unfold i64; omega) (by unfold i64; omega)).mono ?_
  rintro _ w22 ⟨rfl, T21⟩
  have S23 := S20.call0 T21
  have X24 := T21.ext0
  change St _ _ _ [[(p14, .cells #[.bool true, .float .f32 1091567616, .float .f32 1084227584] 140 (0, 0))], [(b1, .cells #[.int .i64 2, .int .i64 8, .int .i64 4] 53 (0, 0))]] at S23
  rw [decide_eq_true (show RightP 2 8 4 by unfold RightP; omega)]
  refine ⟨_, rfl, ?_⟩
  refine WOps.p (G.move rfl) rfl ?_
  refine WOps.on rfl rfl ?_
  refine WOps.r (G.loada T.agg53_3 rfl (cs := [.int .i64 2, .int .i64 8, .int .i64 4]) (cellsAt.of_blk (S23.blk 1 rfl) rfl)) rfl ?_
  refine WOps.on rfl rfl ?_
  refine WOps.call T.call31 (evs_cons rfl (evs_cons rfl evs_nil)) rfl ?_
  refine (pace_Wait 2 8 4 (by unfold i64; omega) (by unfold i64; omega) (by unfold i64; omega) 1 (by unfold i64; omega)).mono ?_
  rintro _ w26 ⟨rfl, T25⟩
  have S27 := S23.call0 T25
  have X28 := T25.ext0
  change St _ _ _ [[(p14, .cells #[.bool true, .float .f32 1091567616, .float .f32 1084227584] 140 (0, 0))], [(b1, .cells #[.int .i64 2, .int .i64 8, .int .i64 4] 53 (0, 0))]] at S27
  rw [show (if RightP 2 8 4 then wz 2 8 (1 : Int).toNat else 0) = 4 from by decide]
  refine ⟨_, rfl, ?_⟩
  refine WOps.on rfl rfl ?_
  refine WOps.p (G.eql rfl rfl (b := true) rfl) rfl ?_
  refine WOps.p (G.pick_t rfl rfl) rfl ?_
  refine WOps.p (G.move rfl) rfl ?_
  refine WOps.on rfl rfl ?_
  refine WOps.r (G.loada T.agg53_3 rfl (cs := [.int .i64 2, .int .i64 8, .int .i64 4]) (cellsAt.of_blk (S27.blk 1 rfl) rfl)) rfl ?_
  refine WOps.on rfl rfl ?_
  refine WOps.call T.call31 (evs_cons rfl (evs_cons rfl evs_nil)) rfl ?_
  refine (pace_Wait 2 8 4 (by unfold i64; omega) (by unfold i64; omega) (by unfold i64; omega) 9 (by unfold i64; omega)).mono ?_
  rintro _ w30 ⟨rfl, T29⟩
  have S31 := S27.call0 T29
  have X32 := T29.ext0
  change St _ _ _ [[(p14, .cells #[.bool true, .float .f32 1091567616, .float .f32 1084227584] 140 (0, 0))], [(b1, .cells #[.int .i64 2, .int .i64 8, .int .i64 4] 53 (0, 0))]] at S31
  rw [show (if RightP 2 8 4 then wz 2 8 (9 : Int).toNat else 0) = 8 from by decide]
  refine ⟨_, rfl, ?_⟩
  refine WOps.on rfl rfl ?_
  refine WOps.p (G.eql rfl rfl (b := true) rfl) rfl ?_
  refine WOps.p (G.pick_t rfl rfl) rfl ?_
  refine WOps.p (G.move rfl) rfl ?_
  refine WOps.on rfl rfl ?_
  refine WOps.r (G.loada T.agg53_3 rfl (cs := [.int .i64 2, .int .i64 8, .int .i64 4]) (cellsAt.of_blk (S31.blk 1 rfl) rfl)) rfl ?_
  refine WOps.on rfl rfl ?_
  refine WOps.call T.call29 (evs_cons rfl evs_nil) rfl ?_
  refine (pace_Total 2 8 4 (by unfold i64; omega) (by unfold i64; omega) (by unfold i64; omega)).mono ?_
  rintro _ w34 ⟨rfl, T33⟩
  have S35 := S31.call0 T33
  have X36 := T33.ext0
  change St _ _ _ [[(p14, .cells #[.bool true, .float .f32 1091567616, .float .f32 1084227584] 140 (0, 0))], [(b1, .cells #[.int .i64 2, .int .i64 8, .int .i64 4] 53 (0, 0))]] at S35
  rw [show (if RightP 2 8 4 then sumW 2 8 (4 : Int).toNat else 0) = 22 from by decide]
  refine ⟨_, rfl, ?_⟩
  refine WOps.on rfl rfl ?_
  refine WOps.p (G.eql rfl rfl (b := true) rfl) rfl ?_
  refine WOps.p (G.pick_t rfl rfl) rfl ?_
  refine WOps.p (G.move rfl) rfl ?_
  refine WOps.on rfl rfl ?_
  refine WOps.p (G.move rfl) rfl ?_
  refine WOps.on rfl rfl ?_
  refine WOps.call T.call34 (evs_cons rfl evs_nil) rfl ?_
  refine (pace_Mean S35.hp1 ).mono ?_
  rintro _ w37 ⟨rfl, T38⟩
  have S39 := S35.call1 T38
  change St _ _ _ [[(p14, .cells #[.bool true, .float .f32 1091567616, .float .f32 1084227584] 140 (0, 0))], [(b1, .cells #[.int .i64 2, .int .i64 8, .int .i64 4] 53 (0, 0))]] at S39
  refine ⟨_, rfl, ?_⟩
  refine WOps.on rfl rfl ?_
  refine WOps.p (G.feql rfl rfl (v := true) (by kernel_rfl)) rfl ?_
  refine WOps.p (G.pick_t rfl rfl) rfl ?_
  refine WOps.p (G.move rfl) rfl ?_
  refine WOps.on rfl rfl ?_
  refine WOps.p (G.move rfl) rfl ?_
  refine WOps.on rfl rfl ?_
  refine WOps.call T.call35 (evs_cons rfl evs_nil) rfl ?_
  refine (pace_Spread S39.hp1 ).mono ?_
  rintro _ w40 ⟨rfl, T41⟩
  have S42 := S39.call1 T41
  change St _ _ _ [[(p14, .cells #[.bool true, .float .f32 1091567616, .float .f32 1084227584] 140 (0, 0))], [(b1, .cells #[.int .i64 2, .int .i64 8, .int .i64 4] 53 (0, 0))]] at S42
  refine ⟨_, rfl, ?_⟩
  refine WOps.on rfl rfl ?_
  refine WOps.p (G.feql rfl rfl (v := true) (by kernel_rfl)) rfl ?_
  refine WOps.p (G.pick_t rfl rfl) rfl ?_
  refine WOps.p (G.move rfl) rfl ?_
  refine WOps.on rfl rfl ?_
  refine WOps.p (G.move rfl) rfl ?_
  refine WOps.on rfl rfl ?_
  refine WOps.call T.call36 (evs_cons rfl evs_nil) rfl ?_
  refine (pace_Guess1 S42.hp1 (n := 29) guess_ex).mono ?_
  rintro _ w43 ⟨rfl, T44⟩
  have S45 := S42.call1 T44
  change St _ _ _ [[(p14, .cells #[.bool true, .float .f32 1091567616, .float .f32 1084227584] 140 (0, 0))], [(b1, .cells #[.int .i64 2, .int .i64 8, .int .i64 4] 53 (0, 0))]] at S45
  refine ⟨_, rfl, ?_⟩
  refine WOps.on rfl rfl ?_
  refine WOps.p (G.eql rfl rfl (b := true) rfl) rfl ?_
  refine WOps.p (G.pick_t rfl rfl) rfl ?_
  refine WOps.p (G.assign rfl) rfl ?_
  refine WOps.nil ?_
  refine WEx.forget (l' := [(0, .bool true)]) ⟨rfl, trivial⟩ ?_
  refine WEx.then_ ?_
  refine WCode.ret ?_
  refine WEx.ret1 rfl rfl ?_
  exact ⟨rfl, St.keep (As := []) S45⟩

end Go.Proofs.Ytoahkjehjmbojaa
