/- Walks (printed by gen.py over the engine). -/
import Derived.Test.YtoahkjehjmbojaaAirD
namespace Go.Proofs.Ytoahkjehjmbojaa
open Go Go.Eng
set_option linter.unusedSimpArgs false
set_option linter.unusedVariables false
theorem T.call14 : Callable Try.prog 14 := Callable.mk Try.func14 (by kernel_rfl) (by kernel_rfl)
theorem T.call20 : Callable Try.prog 20 := Callable.mk Try.func20 (by kernel_rfl) (by kernel_rfl)
theorem T.call21 : Callable Try.prog 21 := Callable.mk Try.func21 (by kernel_rfl) (by kernel_rfl)
theorem T.call22 : Callable Try.prog 22 := Callable.mk Try.func22 (by kernel_rfl) (by kernel_rfl)
theorem T.call23 : Callable Try.prog 23 := Callable.mk Try.func23 (by kernel_rfl) (by kernel_rfl)
theorem T.call24 : Callable Try.prog 24 := Callable.mk Try.func24 (by kernel_rfl) (by kernel_rfl)
theorem T.call25 : Callable Try.prog 25 := Callable.mk Try.func25 (by kernel_rfl) (by kernel_rfl)
theorem T.call67 : Callable Try.prog 67 := Callable.mk Try.func67 (by kernel_rfl) (by kernel_rfl)

def aX : Pk := ⟨1, 2, ⟨#[120]⟩⟩
def aY : Pk := ⟨3, 4, ⟨#[121]⟩⟩

set_option maxRecDepth 100000 in
set_option maxHeartbeats 1000000 in
theorem law_awake {w : World} :
    Calls Try.prog 13 [].toArray w fun e w' => e = .returned (.bool true) ∧ St w (fun _ => False) w' [] := by
  have S := St.init0 w
  refine enter 84 [] Try.func13 rfl rfl rfl rfl ?_
  refine WCode.seq ?_
  refine WCode.region ?_
  refine WOps.p (G.assign rfl) rfl ?_
  refine WOps.nil ?_
  refine WEx.then_ ?_
  refine WCode.seq ?_
  refine WCode.region ?_
  refine WOps.call T.call14 evs_nil rfl ?_
  refine air_New.mono ?_
  rintro _ w1 ⟨pA, GA, rfl, hA, T2⟩
  have S3 := S.call0 T2
  change St _ _ _ [GA] at S3
  refine ⟨_, rfl, ?_⟩
  refine WOps.p (G.assign rfl) rfl ?_
  refine WOps.nil ?_
  refine WEx.forget (l' := [(0, .bool false), (1, .pointer (some ⟨pA, 0, none⟩))]) ⟨rfl, rfl, trivial⟩ ?_
  refine WEx.then_ ?_
  refine WCode.seq ?_
  refine WCode.seq ?_
  refine WCode.region ?_
  refine WOps.p (G.move rfl) rfl ?_
  refine WOps.p (G.eqp_nil Try.underlying25 rfl rfl (b := false) rfl) rfl ?_
  refine WOps.nil ?_
  refine WEx.forget (l' := [(0, .bool false), (1, .pointer (some ⟨pA, 0, none⟩)), (15, .bool false)]) ⟨rfl, rfl, rfl, trivial⟩ ?_
  refine WEx.then_ ?_
  refine WCode.cond_f rfl ?_
  refine WCode.skip ?_
  refine WEx.then_ ?_
  refine WCode.forget (l' := [(0, .bool false), (1, .pointer (some ⟨pA, 0, none⟩))]) ⟨rfl, rfl, trivial⟩ ?_
  refine WCode.seq ?_
  refine WCode.region ?_
  refine WOps.p (G.build (cells := #[.int .i64 1, .int .i64 2, .string ⟨#[120]⟩]) (evp_spec (evp_cons rfl (evp_cons rfl (evp_cons rfl evp_nil)))) (by kernel_rfl)) rfl ?_
  obtain ⟨b4, w5, E6, S7, X8, L9⟩ := St.var S3 T.zero37
  change St _ _ _ [[(b4, .cells #[.int .i64 0, .int .i64 0, .string ⟨#[]⟩] 37 (0, 0))], GA] at S7
  refine WOps.e E6 rfl ?_
  obtain ⟨w10, E11, S12⟩ := St.store (P := Try.prog) S7 0 37 (.agg #[.int .i64 1, .int .i64 2, .string ⟨#[120]⟩]) (off := 0) (cur' := #[.int .i64 1, .int .i64 2, .string ⟨#[120]⟩]) rfl T.size37_3 rfl rfl rfl
  change St _ _ _ [[(b4, .cells #[.int .i64 1, .int .i64 2, .string ⟨#[120]⟩] 37 (0, 0))], GA] at S12
  refine WOps.u (E11 rfl rfl) ?_
  refine WOps.nil ?_
  refine WEx.forget (l' := [(0, .bool false), (1, .pointer (some ⟨pA, 0, none⟩)), (2, .pointer (some ⟨b4, 0, none⟩))]) ⟨rfl, rfl, rfl, trivial⟩ ?_
  refine WEx.then_ ?_
  refine WCode.seq ?_
  refine WCode.region ?_
  refine WOps.p (G.build (cells := #[.int .i64 3, .int .i64 4, .string ⟨#[121]⟩]) (evp_spec (evp_cons rfl (evp_cons rfl (evp_cons rfl evp_nil)))) (by kernel_rfl)) rfl ?_
  obtain ⟨b14, w15, E16, S17, X18, L19⟩ := St.var S12 T.zero37
  change St _ _ _ [[(b14, .cells #[.int .i64 0, .int .i64 0, .string ⟨#[]⟩] 37 (0, 0))], [(b4, .cells #[.int .i64 1, .int .i64 2, .string ⟨#[120]⟩] 37 (0, 0))], GA] at S17
  refine WOps.e E16 rfl ?_
  obtain ⟨w20, E21, S22⟩ := St.store (P := Try.prog) S17 0 37 (.agg #[.int .i64 3, .int .i64 4, .string ⟨#[121]⟩]) (off := 0) (cur' := #[.int .i64 3, .int .i64 4, .string ⟨#[121]⟩]) rfl T.size37_3 rfl rfl rfl
  change St _ _ _ [[(b14, .cells #[.int .i64 3, .int .i64 4, .string ⟨#[121]⟩] 37 (0, 0))], [(b4, .cells #[.int .i64 1, .int .i64 2, .string ⟨#[120]⟩] 37 (0, 0))], GA] at S22
  refine WOps.u (E21 rfl rfl) ?_
  refine WOps.nil ?_
  refine WEx.forget (l' := [(0, .bool false), (1, .pointer (some ⟨pA, 0, none⟩)), (2, .pointer (some ⟨b4, 0, none⟩)), (3, .pointer (some ⟨b14, 0, none⟩))]) ⟨rfl, rfl, rfl, rfl, trivial⟩ ?_
  refine WEx.then_ ?_
  refine WCode.seq ?_
  refine WCode.region ?_
  refine WOps.p (G.move rfl) rfl ?_
  refine WOps.r (G.loada T.agg37_3 rfl (cs := [.int .i64 1, .int .i64 2, .string ⟨#[120]⟩]) (cellsAt.of_blk (S22.blk 1 rfl) rfl)) rfl ?_
  refine WOps.call T.call22 (evs_cons rfl (evs_cons rfl evs_nil)) rfl ?_
  have S24 := S22.front 2 rfl
  change St _ _ _ [GA, [(b14, .cells #[.int .i64 3, .int .i64 4, .string ⟨#[121]⟩] 37 (0, 0))], [(b4, .cells #[.int .i64 1, .int .i64 2, .string ⟨#[120]⟩] 37 (0, 0))]] at S24
  refine (air_Send hA S24.hp1 aX (by decide)).mono ?_
  rintro _ w25 ⟨rfl, G26, hA27, T28⟩
  have S29 := S24.call1 T28
  have hA27 : AirG 133 pA [aX] 0 G26 := hA27
  change St _ _ _ [G26, [(b14, .cells #[.int .i64 3, .int .i64 4, .string ⟨#[121]⟩] 37 (0, 0))], [(b4, .cells #[.int .i64 1, .int .i64 2, .string ⟨#[120]⟩] 37 (0, 0))]] at S29
  refine ⟨_, rfl, ?_⟩
  refine WOps.p (G.assign rfl) rfl ?_
  refine WOps.nil ?_
  refine WEx.forget (l' := [(0, .bool false), (1, .pointer (some ⟨pA, 0, none⟩)), (2, .pointer (some ⟨b4, 0, none⟩)), (3, .pointer (some ⟨b14, 0, none⟩)), (4, .int .i64 0)]) ⟨rfl, rfl, rfl, rfl, rfl, trivial⟩ ?_
  refine WEx.then_ ?_
  refine WCode.seq ?_
  refine WCode.region ?_
  refine WOps.p (G.move rfl) rfl ?_
  refine WOps.r (G.loada T.agg37_3 rfl (cs := [.int .i64 3, .int .i64 4, .string ⟨#[121]⟩]) (cellsAt.of_blk (S29.blk 1 rfl) rfl)) rfl ?_
  refine WOps.call T.call22 (evs_cons rfl (evs_cons rfl evs_nil)) rfl ?_
  refine (air_Send hA27 S29.hp1 aY (by decide)).mono ?_
  rintro _ w30 ⟨rfl, G31, hA32, T33⟩
  have S34 := S29.call1 T33
  have hA32 : AirG 133 pA [aX, aY] 0 G31 := hA32
  change St _ _ _ [G31, [(b14, .cells #[.int .i64 3, .int .i64 4, .string ⟨#[121]⟩] 37 (0, 0))], [(b4, .cells #[.int .i64 1, .int .i64 2, .string ⟨#[120]⟩] 37 (0, 0))]] at S34
  refine ⟨_, rfl, ?_⟩
  refine WOps.p (G.assign rfl) rfl ?_
  refine WOps.nil ?_
  refine WEx.forget (l' := [(0, .bool false), (1, .pointer (some ⟨pA, 0, none⟩)), (2, .pointer (some ⟨b4, 0, none⟩)), (3, .pointer (some ⟨b14, 0, none⟩)), (4, .int .i64 0), (5, .int .i64 0)]) ⟨rfl, rfl, rfl, rfl, rfl, rfl, trivial⟩ ?_
  refine WEx.then_ ?_
  refine WCode.seq ?_
  refine WCode.region ?_
  refine WOps.p (G.move rfl) rfl ?_
  refine WOps.call T.call21 (evs_cons rfl (evs_cons rfl evs_nil)) rfl ?_
  refine (air_Double hA32 S34.hp1 (by decide) 0).mono ?_
  rintro _ w35 ⟨rfl, G36, hA37, T38⟩
  have S39 := S34.call1 T38
  have hA37 : AirG 133 pA [aX, aY, aX] 0 G36 := hA37
  change St _ _ _ [G36, [(b14, .cells #[.int .i64 3, .int .i64 4, .string ⟨#[121]⟩] 37 (0, 0))], [(b4, .cells #[.int .i64 1, .int .i64 2, .string ⟨#[120]⟩] 37 (0, 0))]] at S39
  refine ⟨_, rfl, ?_⟩
  refine WOps.p (G.assign rfl) rfl ?_
  refine WOps.nil ?_
  refine WEx.forget (l' := [(0, .bool false), (1, .pointer (some ⟨pA, 0, none⟩)), (2, .pointer (some ⟨b4, 0, none⟩)), (3, .pointer (some ⟨b14, 0, none⟩)), (4, .int .i64 0), (5, .int .i64 0), (6, .int .i64 0)]) ⟨rfl, rfl, rfl, rfl, rfl, rfl, rfl, trivial⟩ ?_
  refine WEx.then_ ?_
  refine WCode.seq ?_
  refine WCode.region ?_
  refine WOps.p (G.move rfl) rfl ?_
  refine WOps.call T.call19 (evs_cons rfl (evs_cons rfl evs_nil)) rfl ?_
  refine (air_Deliver hA37 S39.hp1 (by decide) 1).mono ?_
  rintro _ w40 ⟨rfl, G41, hA42, T43⟩
  have S44 := S39.call1 T43
  have hA42 : AirG 133 pA [aX, aX] 0 G41 := hA42
  change St _ _ _ [G41, [(b14, .cells #[.int .i64 3, .int .i64 4, .string ⟨#[121]⟩] 37 (0, 0))], [(b4, .cells #[.int .i64 1, .int .i64 2, .string ⟨#[120]⟩] 37 (0, 0))]] at S44
  refine ⟨_, rfl, ?_⟩
  refine WOps.p (G.move rfl) rfl ?_
  refine WOps.p (G.extract rfl rfl) rfl ?_
  refine WOps.p (G.extract rfl rfl) rfl ?_
  obtain ⟨b45, w46, E47, S48, X49, L50⟩ := St.var S44 T.zero37
  change St _ _ _ [[(b45, .cells #[.int .i64 0, .int .i64 0, .string ⟨#[]⟩] 37 (0, 0))], G41, [(b14, .cells #[.int .i64 3, .int .i64 4, .string ⟨#[121]⟩] 37 (0, 0))], [(b4, .cells #[.int .i64 1, .int .i64 2, .string ⟨#[120]⟩] 37 (0, 0))]] at S48
  refine WOps.e E47 rfl ?_
  obtain ⟨w51, E52, S53⟩ := St.store (P := Try.prog) S48 0 37 (.agg #[.int .i64 3, .int .i64 4, .string ⟨#[121]⟩]) (off := 0) (cur' := #[.int .i64 3, .int .i64 4, .string ⟨#[121]⟩]) rfl T.size37_3 rfl rfl rfl
  change St _ _ _ [[(b45, .cells #[.int .i64 3, .int .i64 4, .string ⟨#[121]⟩] 37 (0, 0))], G41, [(b14, .cells #[.int .i64 3, .int .i64 4, .string ⟨#[121]⟩] 37 (0, 0))], [(b4, .cells #[.int .i64 1, .int .i64 2, .string ⟨#[120]⟩] 37 (0, 0))]] at S53
  refine WOps.u (E52 rfl rfl) ?_
  refine WOps.p (G.assign rfl) rfl ?_
  refine WOps.nil ?_
  refine WEx.forget (l' := [(0, .bool false), (1, .pointer (some ⟨pA, 0, none⟩)), (2, .pointer (some ⟨b4, 0, none⟩)), (3, .pointer (some ⟨b14, 0, none⟩)), (4, .int .i64 0), (5, .int .i64 0), (6, .int .i64 0), (7, .pointer (some ⟨b45, 0, none⟩)), (8, .int .i64 0)]) ⟨rfl, rfl, rfl, rfl, rfl, rfl, rfl, rfl, rfl, trivial⟩ ?_
  refine WEx.then_ ?_
  refine WCode.seq ?_
  refine WCode.region ?_
  refine WOps.p (G.move rfl) rfl ?_
  refine WOps.call T.call19 (evs_cons rfl (evs_cons rfl evs_nil)) rfl ?_
  have S55 := S53.front 1 rfl
  change St _ _ _ [G41, [(b45, .cells #[.int .i64 3, .int .i64 4, .string ⟨#[121]⟩] 37 (0, 0))], [(b14, .cells #[.int .i64 3, .int .i64 4, .string ⟨#[121]⟩] 37 (0, 0))], [(b4, .cells #[.int .i64 1, .int .i64 2, .string ⟨#[120]⟩] 37 (0, 0))]] at S55
  refine (air_Deliver hA42 S55.hp1 (by decide) 2).mono ?_
  rintro _ w56 ⟨rfl, G57, hA58, T59⟩
  have S60 := S55.call1 T59
  have hA58 : AirG 133 pA [aX, aX] 0 G57 := hA58
  change St _ _ _ [G57, [(b45, .cells #[.int .i64 3, .int .i64 4, .string ⟨#[121]⟩] 37 (0, 0))], [(b14, .cells #[.int .i64 3, .int .i64 4, .string ⟨#[121]⟩] 37 (0, 0))], [(b4, .cells #[.int .i64 1, .int .i64 2, .string ⟨#[120]⟩] 37 (0, 0))]] at S60
  refine ⟨_, rfl, ?_⟩
  refine WOps.p (G.move rfl) rfl ?_
  refine WOps.p (G.extract rfl rfl) rfl ?_
  refine WOps.p (G.extract rfl rfl) rfl ?_
  obtain ⟨b61, w62, E63, S64, X65, L66⟩ := St.var S60 T.zero37
  change St _ _ _ [[(b61, .cells #[.int .i64 0, .int .i64 0, .string ⟨#[]⟩] 37 (0, 0))], G57, [(b45, .cells #[.int .i64 3, .int .i64 4, .string ⟨#[121]⟩] 37 (0, 0))], [(b14, .cells #[.int .i64 3, .int .i64 4, .string ⟨#[121]⟩] 37 (0, 0))], [(b4, .cells #[.int .i64 1, .int .i64 2, .string ⟨#[120]⟩] 37 (0, 0))]] at S64
  refine WOps.e E63 rfl ?_
  obtain ⟨w67, E68, S69⟩ := St.store (P := Try.prog) S64 0 37 (.agg #[.int .i64 0, .int .i64 0, .string ⟨#[]⟩]) (off := 0) (cur' := #[.int .i64 0, .int .i64 0, .string ⟨#[]⟩]) rfl T.size37_3 rfl rfl rfl
  change St _ _ _ [[(b61, .cells #[.int .i64 0, .int .i64 0, .string ⟨#[]⟩] 37 (0, 0))], G57, [(b45, .cells #[.int .i64 3, .int .i64 4, .string ⟨#[121]⟩] 37 (0, 0))], [(b14, .cells #[.int .i64 3, .int .i64 4, .string ⟨#[121]⟩] 37 (0, 0))], [(b4, .cells #[.int .i64 1, .int .i64 2, .string ⟨#[120]⟩] 37 (0, 0))]] at S69
  refine WOps.u (E68 rfl rfl) ?_
  refine WOps.p (G.assign rfl) rfl ?_
  refine WOps.nil ?_
  refine WEx.forget (l' := [(0, .bool false), (1, .pointer (some ⟨pA, 0, none⟩)), (2, .pointer (some ⟨b4, 0, none⟩)), (3, .pointer (some ⟨b14, 0, none⟩)), (4, .int .i64 0), (5, .int .i64 0), (6, .int .i64 0), (7, .pointer (some ⟨b45, 0, none⟩)), (8, .int .i64 0), (10, .int .i64 130)]) ⟨rfl, rfl, rfl, rfl, rfl, rfl, rfl, rfl, rfl, rfl, trivial⟩ ?_
  refine WEx.then_ ?_
  refine WCode.seq ?_
  refine WCode.region ?_
  refine WOps.p (G.move rfl) rfl ?_
  refine WOps.call T.call67 (evs_cons rfl evs_nil) rfl ?_
  have S71 := S69.front 1 rfl
  change St _ _ _ [G57, [(b61, .cells #[.int .i64 0, .int .i64 0, .string ⟨#[]⟩] 37 (0, 0))], [(b45, .cells #[.int .i64 3, .int .i64 4, .string ⟨#[121]⟩] 37 (0, 0))], [(b14, .cells #[.int .i64 3, .int .i64 4, .string ⟨#[121]⟩] 37 (0, 0))], [(b4, .cells #[.int .i64 1, .int .i64 2, .string ⟨#[120]⟩] 37 (0, 0))]] at S71
  refine (air_Tick hA58 S71.hp1 (by omega)).mono ?_
  rintro _ w72 ⟨rfl, G73, hA74, T75⟩
  have S76 := S71.call1 T75
  have hA74 : AirG 133 pA [aX, aX] 1 G73 := hA74
  change St _ _ _ [G73, [(b61, .cells #[.int .i64 0, .int .i64 0, .string ⟨#[]⟩] 37 (0, 0))], [(b45, .cells #[.int .i64 3, .int .i64 4, .string ⟨#[121]⟩] 37 (0, 0))], [(b14, .cells #[.int .i64 3, .int .i64 4, .string ⟨#[121]⟩] 37 (0, 0))], [(b4, .cells #[.int .i64 1, .int .i64 2, .string ⟨#[120]⟩] 37 (0, 0))]] at S76
  refine ⟨_, rfl, ?_⟩
  refine WOps.p (G.assign rfl) rfl ?_
  refine WOps.nil ?_
  refine WEx.forget (l' := [(0, .bool false), (1, .pointer (some ⟨pA, 0, none⟩)), (2, .pointer (some ⟨b4, 0, none⟩)), (3, .pointer (some ⟨b14, 0, none⟩)), (4, .int .i64 0), (5, .int .i64 0), (6, .int .i64 0), (7, .pointer (some ⟨b45, 0, none⟩)), (8, .int .i64 0), (10, .int .i64 130), (11, .int .i64 1)]) ⟨rfl, rfl, rfl, rfl, rfl, rfl, rfl, rfl, rfl, rfl, rfl, trivial⟩ ?_
  refine WEx.then_ ?_
  refine WCode.seq ?_
  refine WCode.drawH (.one 0 0 (.one 2 1 (.one 3 1 (.fork 1 (.one 4 2 (.one 5 2 (.one 6 0 .nil))) 4 (.one 1 2 (.one 5 2 (.one 6 0 .nil))))))) (fun W => cellsAt W b4 0 [.int .i64 1, .int .i64 2, .string ⟨#[120]⟩] ∧ True) T.mixed (by kernel_rfl) (by intro _ _ d _ _ h; cases d <;> exact h) rfl rfl (by kernel_rfl) ?_ ?_
  all_goals have S77 := S76.drew
  all_goals generalize w72.drew = w78 at *
  · exact ⟨cellsAt.of_blk (S77.blk 4 rfl) rfl, trivial⟩
  refine WH.p rfl wants (G.move rfl) rfl ?_
  refine WH.r rfl wants (fun _ h => G.loada T.agg37_3 rfl (cs := [.int .i64 1, .int .i64 2, .string ⟨#[120]⟩]) (cellsAt.part h.1 0 rfl)) rfl ?_
  refine WH.r rfl wants (fun _ h => G.loada T.agg37_3 rfl (cs := [.int .i64 1, .int .i64 2, .string ⟨#[120]⟩]) (cellsAt.part h.1 0 rfl)) rfl ?_
  refine WH.fork ?_ ?_
  ·
    refine WH.call rfl wants T.call24 (evs_cons rfl evs_nil) rfl ?_
    refine (air_Flying hA74 S77.hp1 (by decide)).mono ?_
    rintro _ w79 ⟨A1, c1, F1, rfl, hF1, T80⟩
    have S81 := S77.call1 T80
    change St _ _ _ [G73, F1, [(b61, .cells #[.int .i64 0, .int .i64 0, .string ⟨#[]⟩] 37 (0, 0))], [(b45, .cells #[.int .i64 3, .int .i64 4, .string ⟨#[121]⟩] 37 (0, 0))], [(b14, .cells #[.int .i64 3, .int .i64 4, .string ⟨#[121]⟩] 37 (0, 0))], [(b4, .cells #[.int .i64 1, .int .i64 2, .string ⟨#[120]⟩] 37 (0, 0))]] at S81
    refine ⟨_, rfl, ?_⟩
    refine ⟨⟨cellsAt.of_blk (S81.blk 5 rfl) rfl, trivial⟩, ?_⟩
    obtain ⟨b82, w83, E84, S85, X86, L87⟩ := St.lit S81 (P := Try.prog) (t := 43) (e := 37) (n := 2) (vs := [(0, .agg #[.int .i64 1, .int .i64 2, .string ⟨#[120]⟩]), (1, .agg #[.int .i64 1, .int .i64 2, .string ⟨#[120]⟩])]) (cs := #[.int .i64 1, .int .i64 2, .string ⟨#[120]⟩, .int .i64 1, .int .i64 2, .string ⟨#[120]⟩]) (by kernel_rfl)
    change St _ _ _ [[(b82, .cells #[.int .i64 1, .int .i64 2, .string ⟨#[120]⟩, .int .i64 1, .int .i64 2, .string ⟨#[120]⟩] 37 (0, 0))], G73, F1, [(b61, .cells #[.int .i64 0, .int .i64 0, .string ⟨#[]⟩] 37 (0, 0))], [(b45, .cells #[.int .i64 3, .int .i64 4, .string ⟨#[121]⟩] 37 (0, 0))], [(b14, .cells #[.int .i64 3, .int .i64 4, .string ⟨#[121]⟩] 37 (0, 0))], [(b4, .cells #[.int .i64 1, .int .i64 2, .string ⟨#[120]⟩] 37 (0, 0))]] at S85
    refine WH.e rfl wants (E84 (evp_cons rfl (evp_cons rfl evp_nil))) rfl ⟨cellsAt.of_blk (S85.blk 6 rfl) rfl, trivial⟩ ?_
    refine WH.call rfl wants T.call23 (evs_cons rfl (evs_cons rfl evs_nil)) rfl ?_
    refine (law_same (L := [aX, aX]) (M := [aX, aX]) (hF1.rd (fun b o hb => S85.grp 2 rfl hb)).2 (Rd.of_blk (S85.blk 0 rfl) (n := 2) (sz := 3) rfl) (by decide)).mono ?_
    rintro _ w89 ⟨rfl, T88⟩
    have S90 := S85.call0 T88
    have X91 := T88.ext0
    change St _ _ _ [[(b82, .cells #[.int .i64 1, .int .i64 2, .string ⟨#[120]⟩, .int .i64 1, .int .i64 2, .string ⟨#[120]⟩] 37 (0, 0))], G73, F1, [(b61, .cells #[.int .i64 0, .int .i64 0, .string ⟨#[]⟩] 37 (0, 0))], [(b45, .cells #[.int .i64 3, .int .i64 4, .string ⟨#[121]⟩] 37 (0, 0))], [(b14, .cells #[.int .i64 3, .int .i64 4, .string ⟨#[121]⟩] 37 (0, 0))], [(b4, .cells #[.int .i64 1, .int .i64 2, .string ⟨#[120]⟩] 37 (0, 0))]] at S90
    refine ⟨_, rfl, ?_⟩
    refine ⟨⟨cellsAt.of_blk (S90.blk 6 rfl) rfl, trivial⟩, ?_⟩
    refine WH.p rfl wants (G.assign rfl) rfl ?_
    refine WH.nil ?_
    refine WEx.forget (l' := [(0, .bool false), (1, .pointer (some ⟨pA, 0, none⟩)), (3, .pointer (some ⟨b14, 0, none⟩)), (4, .int .i64 0), (5, .int .i64 0), (6, .int .i64 0), (7, .pointer (some ⟨b45, 0, none⟩)), (8, .int .i64 0), (10, .int .i64 130), (11, .int .i64 1), (12, .bool true)]) ⟨rfl, rfl, rfl, rfl, rfl, rfl, rfl, rfl, rfl, rfl, rfl, trivial⟩ ?_
    refine WEx.then_ ?_
    refine WCode.seq ?_
    refine WCode.region ?_
    refine WOps.p (G.move rfl) rfl ?_
    refine WOps.p (G.move rfl) rfl ?_
    refine WOps.on rfl rfl ?_
    refine WOps.p (G.move rfl) rfl ?_
    refine WOps.on rfl rfl ?_
    refine WOps.p (G.eql rfl rfl (b := true) rfl) rfl ?_
    refine WOps.p (G.pick_t rfl rfl) rfl ?_
    refine WOps.p (G.move rfl) rfl ?_
    refine WOps.on rfl rfl ?_
    refine WOps.p (G.move rfl) rfl ?_
    refine WOps.on rfl rfl ?_
    refine WOps.p (G.eql rfl rfl (b := true) rfl) rfl ?_
    refine WOps.p (G.pick_t rfl rfl) rfl ?_
    refine WOps.p (G.move rfl) rfl ?_
    refine WOps.on rfl rfl ?_
    refine WOps.p (G.move rfl) rfl ?_
    refine WOps.on rfl rfl ?_
    refine WOps.p (G.eql rfl rfl (b := true) rfl) rfl ?_
    refine WOps.p (G.pick_t rfl rfl) rfl ?_
    refine WOps.p (G.move rfl) rfl ?_
    refine WOps.on rfl rfl ?_
    refine WOps.r (G.loada T.agg37_3 rfl (cs := [.int .i64 3, .int .i64 4, .string ⟨#[121]⟩]) (cellsAt.of_blk (S90.blk 4 rfl) rfl)) rfl ?_
    refine WOps.on rfl rfl ?_
    refine WOps.r (G.loada T.agg37_3 rfl (cs := [.int .i64 3, .int .i64 4, .string ⟨#[121]⟩]) (cellsAt.of_blk (S90.blk 5 rfl) rfl)) rfl ?_
    refine WOps.on rfl rfl ?_
    refine WOps.p (G.eqa rfl rfl (by kernel_rfl) (pk_eqIn aY aY) (show (decide (aY = aY)) = true from by simp)) rfl ?_
    refine WOps.p (G.pick_t rfl rfl) rfl ?_
    refine WOps.p (G.move rfl) rfl ?_
    refine WOps.on rfl rfl ?_
    refine WOps.p (G.move rfl) rfl ?_
    refine WOps.on rfl rfl ?_
    refine WOps.p (G.eql rfl rfl (b := true) rfl) rfl ?_
    refine WOps.p (G.pick_t rfl rfl) rfl ?_
    refine WOps.p (G.move rfl) rfl ?_
    refine WOps.on rfl rfl ?_
    refine WOps.p (G.move rfl) rfl ?_
    refine WOps.on rfl rfl ?_
    refine WOps.p (G.eql rfl rfl (b := true) rfl) rfl ?_
    refine WOps.p (G.pick_t rfl rfl) rfl ?_
    refine WOps.p (G.move rfl) rfl ?_
    refine WOps.on rfl rfl ?_
    refine WOps.p (G.move rfl) rfl ?_
    refine WOps.on rfl rfl ?_
    refine WOps.p (G.eql rfl rfl (b := true) rfl) rfl ?_
    refine WOps.p (G.pick_t rfl rfl) rfl ?_
    refine WOps.p (G.move rfl) rfl ?_
    refine WOps.on rfl rfl ?_
    refine WOps.p (G.move rfl) rfl ?_
    refine WOps.on rfl rfl ?_
    refine WOps.call T.call25 (evs_cons rfl evs_nil) rfl ?_
    have S92 := S90.front 1 rfl
    change St _ _ _ [G73, [(b82, .cells #[.int .i64 1, .int .i64 2, .string ⟨#[120]⟩, .int .i64 1, .int .i64 2, .string ⟨#[120]⟩] 37 (0, 0))], F1, [(b61, .cells #[.int .i64 0, .int .i64 0, .string ⟨#[]⟩] 37 (0, 0))], [(b45, .cells #[.int .i64 3, .int .i64 4, .string ⟨#[121]⟩] 37 (0, 0))], [(b14, .cells #[.int .i64 3, .int .i64 4, .string ⟨#[121]⟩] 37 (0, 0))], [(b4, .cells #[.int .i64 1, .int .i64 2, .string ⟨#[120]⟩] 37 (0, 0))]] at S92
    refine (air_Now hA74 S92.hp1 ).mono ?_
    rintro _ w93 ⟨rfl, T96⟩
    have S97 := S92.call1 T96
    change St _ _ _ [G73, [(b82, .cells #[.int .i64 1, .int .i64 2, .string ⟨#[120]⟩, .int .i64 1, .int .i64 2, .string ⟨#[120]⟩] 37 (0, 0))], F1, [(b61, .cells #[.int .i64 0, .int .i64 0, .string ⟨#[]⟩] 37 (0, 0))], [(b45, .cells #[.int .i64 3, .int .i64 4, .string ⟨#[121]⟩] 37 (0, 0))], [(b14, .cells #[.int .i64 3, .int .i64 4, .string ⟨#[121]⟩] 37 (0, 0))], [(b4, .cells #[.int .i64 1, .int .i64 2, .string ⟨#[120]⟩] 37 (0, 0))]] at S97
    refine ⟨_, rfl, ?_⟩
    refine WOps.on rfl rfl ?_
    refine WOps.p (G.eql rfl rfl (b := true) rfl) rfl ?_
    refine WOps.p (G.pick_t rfl rfl) rfl ?_
    refine WOps.p (G.move rfl) rfl ?_
    refine WOps.on rfl rfl ?_
    refine WOps.p (G.move rfl) rfl ?_
    refine WOps.on rfl rfl ?_
    refine WOps.call T.call20 (evs_cons rfl (evs_cons rfl evs_nil)) rfl ?_
    refine (air_Drop hA74 S97.hp1 (by decide) 0).mono ?_
    rintro _ w98 ⟨rfl, G99, hA100, T101⟩
    have S102 := S97.call1 T101
    have hA100 : AirG 133 pA [aX] 1 G99 := hA100
    change St _ _ _ [G99, [(b82, .cells #[.int .i64 1, .int .i64 2, .string ⟨#[120]⟩, .int .i64 1, .int .i64 2, .string ⟨#[120]⟩] 37 (0, 0))], F1, [(b61, .cells #[.int .i64 0, .int .i64 0, .string ⟨#[]⟩] 37 (0, 0))], [(b45, .cells #[.int .i64 3, .int .i64 4, .string ⟨#[121]⟩] 37 (0, 0))], [(b14, .cells #[.int .i64 3, .int .i64 4, .string ⟨#[121]⟩] 37 (0, 0))], [(b4, .cells #[.int .i64 1, .int .i64 2, .string ⟨#[120]⟩] 37 (0, 0))]] at S102
    refine ⟨_, rfl, ?_⟩
    refine WOps.on rfl rfl ?_
    refine WOps.p (G.eql rfl rfl (b := true) rfl) rfl ?_
    refine WOps.p (G.pick_t rfl rfl) rfl ?_
    refine WOps.p (G.assign rfl) rfl ?_
    refine WOps.nil ?_
    refine WEx.forget (l' := [(0, .bool true)]) ⟨rfl, trivial⟩ ?_
    refine WEx.then_ ?_
    refine WCode.ret ?_
    refine WEx.ret1 rfl rfl ?_
    exact ⟨rfl, St.keep (As := []) S102⟩
  ·
    obtain ⟨b103, w104, E105, S106, X107, L108⟩ := St.lit S77 (P := Try.prog) (t := 43) (e := 37) (n := 2) (vs := [(0, .agg #[.int .i64 1, .int .i64 2, .string ⟨#[120]⟩]), (1, .agg #[.int .i64 1, .int .i64 2, .string ⟨#[120]⟩])]) (cs := #[.int .i64 1, .int .i64 2, .string ⟨#[120]⟩, .int .i64 1, .int .i64 2, .string ⟨#[120]⟩]) (by kernel_rfl)
    change St _ _ _ [[(b103, .cells #[.int .i64 1, .int .i64 2, .string ⟨#[120]⟩, .int .i64 1, .int .i64 2, .string ⟨#[120]⟩] 37 (0, 0))], G73, [(b61, .cells #[.int .i64 0, .int .i64 0, .string ⟨#[]⟩] 37 (0, 0))], [(b45, .cells #[.int .i64 3, .int .i64 4, .string ⟨#[121]⟩] 37 (0, 0))], [(b14, .cells #[.int .i64 3, .int .i64 4, .string ⟨#[121]⟩] 37 (0, 0))], [(b4, .cells #[.int .i64 1, .int .i64 2, .string ⟨#[120]⟩] 37 (0, 0))]] at S106
    refine WH.e rfl wants (E105 (evp_cons rfl (evp_cons rfl evp_nil))) rfl ⟨cellsAt.of_blk (S106.blk 5 rfl) rfl, trivial⟩ ?_
    refine WH.call rfl wants T.call24 (evs_cons rfl evs_nil) rfl ?_
    have S109 := S106.front 1 rfl
    change St _ _ _ [G73, [(b103, .cells #[.int .i64 1, .int .i64 2, .string ⟨#[120]⟩, .int .i64 1, .int .i64 2, .string ⟨#[120]⟩] 37 (0, 0))], [(b61, .cells #[.int .i64 0, .int .i64 0, .string ⟨#[]⟩] 37 (0, 0))], [(b45, .cells #[.int .i64 3, .int .i64 4, .string ⟨#[121]⟩] 37 (0, 0))], [(b14, .cells #[.int .i64 3, .int .i64 4, .string ⟨#[121]⟩] 37 (0, 0))], [(b4, .cells #[.int .i64 1, .int .i64 2, .string ⟨#[120]⟩] 37 (0, 0))]] at S109
    refine (air_Flying hA74 S109.hp1 (by decide)).mono ?_
    rintro _ w110 ⟨A1, c1, F1, rfl, hF1, T111⟩
    have S112 := S109.call1 T111
    change St _ _ _ [G73, F1, [(b103, .cells #[.int .i64 1, .int .i64 2, .string ⟨#[120]⟩, .int .i64 1, .int .i64 2, .string ⟨#[120]⟩] 37 (0, 0))], [(b61, .cells #[.int .i64 0, .int .i64 0, .string ⟨#[]⟩] 37 (0, 0))], [(b45, .cells #[.int .i64 3, .int .i64 4, .string ⟨#[121]⟩] 37 (0, 0))], [(b14, .cells #[.int .i64 3, .int .i64 4, .string ⟨#[121]⟩] 37 (0, 0))], [(b4, .cells #[.int .i64 1, .int .i64 2, .string ⟨#[120]⟩] 37 (0, 0))]] at S112
    refine ⟨_, rfl, ?_⟩
    refine ⟨⟨cellsAt.of_blk (S112.blk 6 rfl) rfl, trivial⟩, ?_⟩
    refine WH.call rfl wants T.call23 (evs_cons rfl (evs_cons rfl evs_nil)) rfl ?_
    refine (law_same (L := [aX, aX]) (M := [aX, aX]) (hF1.rd (fun b o hb => S112.grp 1 rfl hb)).2 (Rd.of_blk (S112.blk 2 rfl) (n := 2) (sz := 3) rfl) (by decide)).mono ?_
    rintro _ w114 ⟨rfl, T113⟩
    have S115 := S112.call0 T113
    have X116 := T113.ext0
    change St _ _ _ [G73, F1, [(b103, .cells #[.int .i64 1, .int .i64 2, .string ⟨#[120]⟩, .int .i64 1, .int .i64 2, .string ⟨#[120]⟩] 37 (0, 0))], [(b61, .cells #[.int .i64 0, .int .i64 0, .string ⟨#[]⟩] 37 (0, 0))], [(b45, .cells #[.int .i64 3, .int .i64 4, .string ⟨#[121]⟩] 37 (0, 0))], [(b14, .cells #[.int .i64 3, .int .i64 4, .string ⟨#[121]⟩] 37 (0, 0))], [(b4, .cells #[.int .i64 1, .int .i64 2, .string ⟨#[120]⟩] 37 (0, 0))]] at S115
    refine ⟨_, rfl, ?_⟩
    refine ⟨⟨cellsAt.of_blk (S115.blk 6 rfl) rfl, trivial⟩, ?_⟩
    refine WH.p rfl wants (G.assign rfl) rfl ?_
    refine WH.nil ?_
    refine WEx.forget (l' := [(0, .bool false), (1, .pointer (some ⟨pA, 0, none⟩)), (3, .pointer (some ⟨b14, 0, none⟩)), (4, .int .i64 0), (5, .int .i64 0), (6, .int .i64 0), (7, .pointer (some ⟨b45, 0, none⟩)), (8, .int .i64 0), (10, .int .i64 130), (11, .int .i64 1), (12, .bool true)]) ⟨rfl, rfl, rfl, rfl, rfl, rfl, rfl, rfl, rfl, rfl, rfl, trivial⟩ ?_
    refine WEx.then_ ?_
    refine WCode.seq ?_
    refine WCode.region ?_
    refine WOps.p (G.move rfl) rfl ?_
    refine WOps.p (G.move rfl) rfl ?_
    refine WOps.on rfl rfl ?_
    refine WOps.p (G.move rfl) rfl ?_
    refine WOps.on rfl rfl ?_
    refine WOps.p (G.eql rfl rfl (b := true) rfl) rfl ?_
    refine WOps.p (G.pick_t rfl rfl) rfl ?_
    refine WOps.p (G.move rfl) rfl ?_
    refine WOps.on rfl rfl ?_
    refine WOps.p (G.move rfl) rfl ?_
    refine WOps.on rfl rfl ?_
    refine WOps.p (G.eql rfl rfl (b := true) rfl) rfl ?_
    refine WOps.p (G.pick_t rfl rfl) rfl ?_
    refine WOps.p (G.move rfl) rfl ?_
    refine WOps.on rfl rfl ?_
    refine WOps.p (G.move rfl) rfl ?_
    refine WOps.on rfl rfl ?_
    refine WOps.p (G.eql rfl rfl (b := true) rfl) rfl ?_
    refine WOps.p (G.pick_t rfl rfl) rfl ?_
    refine WOps.p (G.move rfl) rfl ?_
    refine WOps.on rfl rfl ?_
    refine WOps.r (G.loada T.agg37_3 rfl (cs := [.int .i64 3, .int .i64 4, .string ⟨#[121]⟩]) (cellsAt.of_blk (S115.blk 4 rfl) rfl)) rfl ?_
    refine WOps.on rfl rfl ?_
    refine WOps.r (G.loada T.agg37_3 rfl (cs := [.int .i64 3, .int .i64 4, .string ⟨#[121]⟩]) (cellsAt.of_blk (S115.blk 5 rfl) rfl)) rfl ?_
    refine WOps.on rfl rfl ?_
    refine WOps.p (G.eqa rfl rfl (by kernel_rfl) (pk_eqIn aY aY) (show (decide (aY = aY)) = true from by simp)) rfl ?_
    refine WOps.p (G.pick_t rfl rfl) rfl ?_
    refine WOps.p (G.move rfl) rfl ?_
    refine WOps.on rfl rfl ?_
    refine WOps.p (G.move rfl) rfl ?_
    refine WOps.on rfl rfl ?_
    refine WOps.p (G.eql rfl rfl (b := true) rfl) rfl ?_
    refine WOps.p (G.pick_t rfl rfl) rfl ?_
    refine WOps.p (G.move rfl) rfl ?_
    refine WOps.on rfl rfl ?_
    refine WOps.p (G.move rfl) rfl ?_
    refine WOps.on rfl rfl ?_
    refine WOps.p (G.eql rfl rfl (b := true) rfl) rfl ?_
    refine WOps.p (G.pick_t rfl rfl) rfl ?_
    refine WOps.p (G.move rfl) rfl ?_
    refine WOps.on rfl rfl ?_
    refine WOps.p (G.move rfl) rfl ?_
    refine WOps.on rfl rfl ?_
    refine WOps.p (G.eql rfl rfl (b := true) rfl) rfl ?_
    refine WOps.p (G.pick_t rfl rfl) rfl ?_
    refine WOps.p (G.move rfl) rfl ?_
    refine WOps.on rfl rfl ?_
    refine WOps.p (G.move rfl) rfl ?_
    refine WOps.on rfl rfl ?_
    refine WOps.call T.call25 (evs_cons rfl evs_nil) rfl ?_
    refine (air_Now hA74 S115.hp1 ).mono ?_
    rintro _ w117 ⟨rfl, T120⟩
    have S121 := S115.call1 T120
    change St _ _ _ [G73, F1, [(b103, .cells #[.int .i64 1, .int .i64 2, .string ⟨#[120]⟩, .int .i64 1, .int .i64 2, .string ⟨#[120]⟩] 37 (0, 0))], [(b61, .cells #[.int .i64 0, .int .i64 0, .string ⟨#[]⟩] 37 (0, 0))], [(b45, .cells #[.int .i64 3, .int .i64 4, .string ⟨#[121]⟩] 37 (0, 0))], [(b14, .cells #[.int .i64 3, .int .i64 4, .string ⟨#[121]⟩] 37 (0, 0))], [(b4, .cells #[.int .i64 1, .int .i64 2, .string ⟨#[120]⟩] 37 (0, 0))]] at S121
    refine ⟨_, rfl, ?_⟩
    refine WOps.on rfl rfl ?_
    refine WOps.p (G.eql rfl rfl (b := true) rfl) rfl ?_
    refine WOps.p (G.pick_t rfl rfl) rfl ?_
    refine WOps.p (G.move rfl) rfl ?_
    refine WOps.on rfl rfl ?_
    refine WOps.p (G.move rfl) rfl ?_
    refine WOps.on rfl rfl ?_
    refine WOps.call T.call20 (evs_cons rfl (evs_cons rfl evs_nil)) rfl ?_
    refine (air_Drop hA74 S121.hp1 (by decide) 0).mono ?_
    rintro _ w122 ⟨rfl, G123, hA124, T125⟩
    have S126 := S121.call1 T125
    have hA124 : AirG 133 pA [aX] 1 G123 := hA124
    change St _ _ _ [G123, F1, [(b103, .cells #[.int .i64 1, .int .i64 2, .string ⟨#[120]⟩, .int .i64 1, .int .i64 2, .string ⟨#[120]⟩] 37 (0, 0))], [(b61, .cells #[.int .i64 0, .int .i64 0, .string ⟨#[]⟩] 37 (0, 0))], [(b45, .cells #[.int .i64 3, .int .i64 4, .string ⟨#[121]⟩] 37 (0, 0))], [(b14, .cells #[.int .i64 3, .int .i64 4, .string ⟨#[121]⟩] 37 (0, 0))], [(b4, .cells #[.int .i64 1, .int .i64 2, .string ⟨#[120]⟩] 37 (0, 0))]] at S126
    refine ⟨_, rfl, ?_⟩
    refine WOps.on rfl rfl ?_
    refine WOps.p (G.eql rfl rfl (b := true) rfl) rfl ?_
    refine WOps.p (G.pick_t rfl rfl) rfl ?_
    refine WOps.p (G.assign rfl) rfl ?_
    refine WOps.nil ?_
    refine WEx.forget (l' := [(0, .bool true)]) ⟨rfl, trivial⟩ ?_
    refine WEx.then_ ?_
    refine WCode.ret ?_
    refine WEx.ret1 rfl rfl ?_
    exact ⟨rfl, St.keep (As := []) S126⟩

end Go.Proofs.Ytoahkjehjmbojaa
