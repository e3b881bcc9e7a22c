/- The calls of the Airs: walks (printed by gen.py over the engine). -/
import Derived.Test.YtoahkjehjmbojaaAirA
namespace Go.Proofs.Ytoahkjehjmbojaa
open Go Go.Eng
set_option linter.unusedSimpArgs false
set_option linter.unusedVariables false
theorem T.mixed : Try.prog.follows .mixedOrders = true := by kernel_rfl
theorem T.agg37_3 : isAggT Try.prog 37 3 = true := by kernel_rfl
theorem T.call19 : Callable Try.prog 19 := Callable.mk Try.func19 (by kernel_rfl) (by kernel_rfl)
theorem T.call76 : Callable Try.prog 76 := Callable.mk Try.func76 (by kernel_rfl) (by kernel_rfl)
theorem T.call77 : Callable Try.prog 77 := Callable.mk Try.func77 (by kernel_rfl) (by kernel_rfl)
theorem T.call78 : Callable Try.prog 78 := Callable.mk Try.func78 (by kernel_rfl) (by kernel_rfl)
theorem T.call79 : Callable Try.prog 79 := Callable.mk Try.func79 (by kernel_rfl) (by kernel_rfl)
theorem T.el43 : slEl Try.prog 43 = some 3 := by kernel_rfl
theorem T.elt43 : Elt Try.prog 43 37 3 32 := elt_mk (z := .agg #[.int .i64 0, .int .i64 0, .string ⟨#[]⟩]) Try.underlying43 (by kernel_rfl) rfl
theorem T.fld133_0 : fldOff Try.prog 133 0 = some 0 := by kernel_rfl
theorem T.fld133_1 : fldOff Try.prog 133 1 = some 1 := by kernel_rfl
theorem T.fld135_0 : fldOff Try.prog 135 0 = some 0 := by kernel_rfl
theorem T.fld135_1 : fldOff Try.prog 135 1 = some 1 := by kernel_rfl
theorem T.fld37_2 : fldOff Try.prog 37 2 = some 2 := by kernel_rfl
theorem T.one3 : isOneT Try.prog 3 = true := by kernel_rfl
theorem T.one43 : isOneT Try.prog 43 = true := by kernel_rfl
theorem T.one9 : isOneT Try.prog 9 = true := by kernel_rfl
theorem T.size3_1 : sizeT Try.prog 3 = some 1 := by kernel_rfl
theorem T.size37_3 : sizeT Try.prog 37 = some 3 := by kernel_rfl
theorem T.size43_1 : sizeT Try.prog 43 = some 1 := by kernel_rfl
theorem T.str9 : isStr Try.prog 9 = true := by kernel_rfl
theorem T.zero37 : zeroOf Try.prog 37 = some (.agg #[.int .i64 0, .int .i64 0, .string ⟨#[]⟩]) := by kernel_rfl

set_option maxRecDepth 100000 in
set_option maxHeartbeats 1000000 in
theorem air_Now {p : Nat} {L : List Pk} {tm : Int} {GA : Grp} {w : World} (hA : AirG 133 p L tm GA) (hp : Hp w GA) :
    Calls Try.prog 25 [.pointer (some ⟨p, 0, none⟩)].toArray w fun e w' => e = .returned (.int .i64 tm) ∧ St w (· ∈ keys GA) w' [GA] := by
  obtain ⟨A, c, R, rfl, hR⟩ := hA
  have S0 := St.init (Gs := [[(p, .cells #[.slice A L.length c, .int .i64 tm] 133 (0, 0))] ++ R]) (by simpa using hp)
  have S := S0.split
  have hle := hR.shape
  obtain ⟨_, _, hv, hle, _⟩ := hle; cases hv
  refine enter 7 [(0, .pointer (some ⟨p, 0, none⟩))] Try.func25 rfl rfl rfl rfl ?_
  refine WCode.seq ?_
  refine WCode.region ?_
  refine WOps.p (G.assign rfl) rfl ?_
  refine WOps.nil ?_
  refine WEx.then_ ?_
  refine WCode.seq ?_
  refine WCode.region ?_
  refine WOps.p (G.move rfl) rfl ?_
  refine WOps.p (G.nilp rfl) rfl ?_
  refine WOps.p (G.field T.fld133_1 rfl (show 0 + 1 = 1 from rfl)) rfl ?_
  refine WOps.r (G.load1 T.one3 rfl (cell_blk (S.blk 0 rfl) rfl)) rfl ?_
  refine WOps.p (G.assign rfl) rfl ?_
  refine WOps.nil ?_
  refine WEx.forget (l' := [(2, .int .i64 tm)]) ⟨rfl, trivial⟩ ?_
  refine WEx.then_ ?_
  refine WCode.ret ?_
  refine WEx.ret1 rfl rfl ?_
  exact ⟨rfl, by simpa using S.join⟩

set_option maxRecDepth 100000 in
set_option maxHeartbeats 1000000 in
theorem ref_Now {p : Nat} {L : List Pk} {tm : Int} {GA : Grp} {w : World} (hA : AirG 135 p L tm GA) (hp : Hp w GA) :
    Calls Try.prog 74 [.pointer (some ⟨p, 0, none⟩)].toArray w fun e w' => e = .returned (.int .i64 tm) ∧ St w (· ∈ keys GA) w' [GA] := by
  obtain ⟨A, c, R, rfl, hR⟩ := hA
  have S0 := St.init (Gs := [[(p, .cells #[.slice A L.length c, .int .i64 tm] 135 (0, 0))] ++ R]) (by simpa using hp)
  have S := S0.split
  have hle := hR.shape
  obtain ⟨_, _, hv, hle, _⟩ := hle; cases hv
  refine enter 7 [(0, .pointer (some ⟨p, 0, none⟩))] Try.func74 rfl rfl rfl rfl ?_
  refine WCode.seq ?_
  refine WCode.region ?_
  refine WOps.p (G.assign rfl) rfl ?_
  refine WOps.nil ?_
  refine WEx.then_ ?_
  refine WCode.seq ?_
  refine WCode.region ?_
  refine WOps.p (G.move rfl) rfl ?_
  refine WOps.p (G.nilp rfl) rfl ?_
  refine WOps.p (G.field T.fld135_1 rfl (show 0 + 1 = 1 from rfl)) rfl ?_
  refine WOps.r (G.load1 T.one3 rfl (cell_blk (S.blk 0 rfl) rfl)) rfl ?_
  refine WOps.p (G.assign rfl) rfl ?_
  refine WOps.nil ?_
  refine WEx.forget (l' := [(2, .int .i64 tm)]) ⟨rfl, trivial⟩ ?_
  refine WEx.then_ ?_
  refine WCode.ret ?_
  refine WEx.ret1 rfl rfl ?_
  exact ⟨rfl, by simpa using S.join⟩

set_option maxRecDepth 100000 in
set_option maxHeartbeats 1000000 in
theorem air_Tick {p : Nat} {L : List Pk} {tm : Int} {GA : Grp} {w : World} (hA : AirG 133 p L tm GA) (hp : Hp w GA) (ht : 0 ≤ tm ∧ tm ≤ 4000000000) :
    Calls Try.prog 67 [.pointer (some ⟨p, 0, none⟩)].toArray w fun e w' => e = .returned (.int .i64 (tm + 1)) ∧ ∃ G', AirG 133 p L (tm + 1) G' ∧ St w (· ∈ keys GA) w' [G'] := by
  obtain ⟨A, c, R, rfl, hR⟩ := hA
  have S0 := St.init (Gs := [[(p, .cells #[.slice A L.length c, .int .i64 tm] 133 (0, 0))] ++ R]) (by simpa using hp)
  have S := S0.split
  have hle := hR.shape
  obtain ⟨_, _, hv, hle, _⟩ := hle; cases hv
  refine enter 14 [(0, .pointer (some ⟨p, 0, none⟩))] Try.func67 rfl rfl rfl rfl ?_
  refine WCode.seq ?_
  refine WCode.region ?_
  refine WOps.p (G.assign rfl) rfl ?_
  refine WOps.nil ?_
  refine WEx.then_ ?_
  refine WCode.seq ?_
  refine WCode.region ?_
  refine WOps.p (G.move rfl) rfl ?_
  refine WOps.p (G.nilp rfl) rfl ?_
  refine WOps.p (G.field T.fld133_1 rfl (show 0 + 1 = 1 from rfl)) rfl ?_
  refine WOps.r (G.load1 T.one3 rfl (cell_blk (S.blk 0 rfl) rfl)) rfl ?_
  refine WOps.p (G.add rfl rfl (show IntKind.i64.wrap (tm + 1) = (tm + 1) from IntWalk.i64_in _ (by omega))) rfl ?_
  refine WOps.p (G.nilp rfl) rfl ?_
  refine WOps.p (G.field T.fld133_1 rfl (show 0 + 1 = 1 from rfl)) rfl ?_
  obtain ⟨w1, E2, S3⟩ := St.store (P := Try.prog) S 0 3 (.int .i64 (tm + 1)) (off := 1) (cur' := #[.slice A L.length c, .int .i64 (tm + 1)]) rfl T.size3_1 rfl rfl rfl
  change St _ _ _ [[(p, .cells #[.slice A L.length c, .int .i64 (tm + 1)] 133 (0, 0))], R] at S3
  refine WOps.u (E2 rfl rfl) ?_
  refine WOps.nil ?_
  refine WEx.forget (l' := [(0, .pointer (some ⟨p, 0, none⟩)), (2, .int .i64 0)]) ⟨rfl, rfl, trivial⟩ ?_
  refine WEx.then_ ?_
  refine WCode.seq ?_
  refine WCode.region ?_
  refine WOps.p (G.move rfl) rfl ?_
  refine WOps.p (G.nilp rfl) rfl ?_
  refine WOps.p (G.field T.fld133_1 rfl (show 0 + 1 = 1 from rfl)) rfl ?_
  refine WOps.r (G.load1 T.one3 rfl (cell_blk (S3.blk 0 rfl) rfl)) rfl ?_
  refine WOps.p (G.assign rfl) rfl ?_
  refine WOps.nil ?_
  refine WEx.forget (l' := [(2, .int .i64 (tm + 1))]) ⟨rfl, trivial⟩ ?_
  refine WEx.then_ ?_
  refine WCode.ret ?_
  refine WEx.ret1 rfl rfl ?_
  exact ⟨rfl, _, ⟨A, c, R, rfl, hR⟩, by simpa using S3.join⟩

set_option maxRecDepth 100000 in
set_option maxHeartbeats 1000000 in
theorem ref_Tick {p : Nat} {L : List Pk} {tm : Int} {GA : Grp} {w : World} (hA : AirG 135 p L tm GA) (hp : Hp w GA) (ht : 0 ≤ tm ∧ tm ≤ 4000000000) :
    Calls Try.prog 73 [.pointer (some ⟨p, 0, none⟩)].toArray w fun e w' => e = .returned (.int .i64 (tm + 1)) ∧ ∃ G', AirG 135 p L (tm + 1) G' ∧ St w (· ∈ keys GA) w' [G'] := by
  obtain ⟨A, c, R, rfl, hR⟩ := hA
  have S0 := St.init (Gs := [[(p, .cells #[.slice A L.length c, .int .i64 tm] 135 (0, 0))] ++ R]) (by simpa using hp)
  have S := S0.split
  have hle := hR.shape
  obtain ⟨_, _, hv, hle, _⟩ := hle; cases hv
  refine enter 14 [(0, .pointer (some ⟨p, 0, none⟩))] Try.func73 rfl rfl rfl rfl ?_
  refine WCode.seq ?_
  refine WCode.region ?_
  refine WOps.p (G.assign rfl) rfl ?_
  refine WOps.nil ?_
  refine WEx.then_ ?_
  refine WCode.seq ?_
  refine WCode.region ?_
  refine WOps.p (G.move rfl) rfl ?_
  refine WOps.p (G.nilp rfl) rfl ?_
  refine WOps.p (G.field T.fld135_1 rfl (show 0 + 1 = 1 from rfl)) rfl ?_
  refine WOps.r (G.load1 T.one3 rfl (cell_blk (S.blk 0 rfl) rfl)) rfl ?_
  refine WOps.p (G.add rfl rfl (show IntKind.i64.wrap (tm + 1) = (tm + 1) from IntWalk.i64_in _ (by omega))) rfl ?_
  refine WOps.p (G.nilp rfl) rfl ?_
  refine WOps.p (G.field T.fld135_1 rfl (show 0 + 1 = 1 from rfl)) rfl ?_
  obtain ⟨w1, E2, S3⟩ := St.store (P := Try.prog) S 0 3 (.int .i64 (tm + 1)) (off := 1) (cur' := #[.slice A L.length c, .int .i64 (tm + 1)]) rfl T.size3_1 rfl rfl rfl
  change St _ _ _ [[(p, .cells #[.slice A L.length c, .int .i64 (tm + 1)] 135 (0, 0))], R] at S3
  refine WOps.u (E2 rfl rfl) ?_
  refine WOps.nil ?_
  refine WEx.forget (l' := [(0, .pointer (some ⟨p, 0, none⟩)), (2, .int .i64 0)]) ⟨rfl, rfl, trivial⟩ ?_
  refine WEx.then_ ?_
  refine WCode.seq ?_
  refine WCode.region ?_
  refine WOps.p (G.move rfl) rfl ?_
  refine WOps.p (G.nilp rfl) rfl ?_
  refine WOps.p (G.field T.fld135_1 rfl (show 0 + 1 = 1 from rfl)) rfl ?_
  refine WOps.r (G.load1 T.one3 rfl (cell_blk (S3.blk 0 rfl) rfl)) rfl ?_
  refine WOps.p (G.assign rfl) rfl ?_
  refine WOps.nil ?_
  refine WEx.forget (l' := [(2, .int .i64 (tm + 1))]) ⟨rfl, trivial⟩ ?_
  refine WEx.then_ ?_
  refine WCode.ret ?_
  refine WEx.ret1 rfl rfl ?_
  exact ⟨rfl, _, ⟨A, c, R, rfl, hR⟩, by simpa using S3.join⟩

set_option maxRecDepth 100000 in
set_option maxHeartbeats 1000000 in
theorem air_New {w : World} :
    Calls Try.prog 14 [].toArray w fun e w' => ∃ p GA, e = .returned (.pointer (some ⟨p, 0, none⟩)) ∧ AirG 133 p [] 0 GA ∧ St w (fun _ => False) w' [GA] := by
  have S := St.init0 w
  refine enter 3 [] Try.func14 rfl rfl rfl rfl ?_
  refine WCode.seq ?_
  refine WCode.region ?_
  refine WOps.p (G.assign rfl) rfl ?_
  refine WOps.nil ?_
  refine WEx.then_ ?_
  refine WCode.seq ?_
  refine WCode.region ?_
  refine WOps.p (G.build (cells := #[.slice none 0 0, .int .i64 0]) (evp_spec (evp_nil)) (by kernel_rfl)) rfl ?_
  obtain ⟨b1, w2, E3, S4, X5, L6⟩ := St.box S Try.prog 133 (.agg #[.slice none 0 0, .int .i64 0])
  change St _ _ _ [[(b1, .cells #[.slice none 0 0, .int .i64 0] 133 (0, 0))]] at S4
  refine WOps.e (E3 rfl) rfl ?_
  refine WOps.p (G.assign rfl) rfl ?_
  refine WOps.nil ?_
  refine WEx.forget (l' := [(0, .pointer (some ⟨b1, 0, none⟩))]) ⟨rfl, trivial⟩ ?_
  refine WEx.then_ ?_
  refine WCode.ret ?_
  refine WEx.ret1 rfl rfl ?_
  exact ⟨_, _, rfl, AirG.mk (L := []) (RowG.nil 37 3) rfl rfl, by simpa using S4⟩

set_option maxRecDepth 100000 in
set_option maxHeartbeats 1000000 in
theorem ref_New {w : World} :
    Calls Try.prog 15 [].toArray w fun e w' => ∃ p GA, e = .returned (.pointer (some ⟨p, 0, none⟩)) ∧ AirG 135 p [] 0 GA ∧ St w (fun _ => False) w' [GA] := by
  have S := St.init0 w
  refine enter 3 [] Try.func15 rfl rfl rfl rfl ?_
  refine WCode.seq ?_
  refine WCode.region ?_
  refine WOps.p (G.assign rfl) rfl ?_
  refine WOps.nil ?_
  refine WEx.then_ ?_
  refine WCode.seq ?_
  refine WCode.region ?_
  refine WOps.p (G.build (cells := #[.slice none 0 0, .int .i64 0]) (evp_spec (evp_nil)) (by kernel_rfl)) rfl ?_
  obtain ⟨b1, w2, E3, S4, X5, L6⟩ := St.box S Try.prog 135 (.agg #[.slice none 0 0, .int .i64 0])
  change St _ _ _ [[(b1, .cells #[.slice none 0 0, .int .i64 0] 135 (0, 0))]] at S4
  refine WOps.e (E3 rfl) rfl ?_
  refine WOps.p (G.assign rfl) rfl ?_
  refine WOps.nil ?_
  refine WEx.forget (l' := [(0, .pointer (some ⟨b1, 0, none⟩))]) ⟨rfl, trivial⟩ ?_
  refine WEx.then_ ?_
  refine WCode.ret ?_
  refine WEx.ret1 rfl rfl ?_
  exact ⟨_, _, rfl, AirG.mk (L := []) (RowG.nil 37 3) rfl rfl, by simpa using S4⟩

set_option maxRecDepth 100000 in
set_option maxHeartbeats 1000000 in
theorem air_has {p : Nat} {L : List Pk} {tm : Int} {GA : Grp} {w : World} (hA : AirG 133 p L tm GA) (hp : Hp w GA) (n : Int) :
    Calls Try.prog 76 [.pointer (some ⟨p, 0, none⟩), .int .i64 n].toArray w fun e w' => e = .returned (.bool (decide (isAt L n))) ∧ St w (· ∈ keys GA) w' [GA] := by
  have cs : (¬ 0 ≤ n) ∨ (0 ≤ n ∧ n < L.length) ∨ (0 ≤ n ∧ ¬ n < L.length) := by omega
  rcases cs with h | h | h
  · obtain ⟨A, c, R, rfl, hR⟩ := hA
    have S0 := St.init (Gs := [[(p, .cells #[.slice A L.length c, .int .i64 tm] 133 (0, 0))] ++ R]) (by simpa using hp)
    have S := S0.split
    have hle := hR.shape
    obtain ⟨_, _, hv, hle, _⟩ := hle; cases hv
    refine enter 16 [(0, .pointer (some ⟨p, 0, none⟩)), (1, .int .i64 n)] Try.func76 rfl rfl rfl rfl ?_
    refine WCode.seq ?_
    refine WCode.region ?_
    refine WOps.p (G.assign rfl) rfl ?_
    refine WOps.nil ?_
    refine WEx.then_ ?_
    refine WCode.seq ?_
    refine WCode.region ?_
    refine WOps.p (G.move rfl) rfl ?_
    refine WOps.p (G.geq rfl rfl (b := false) (decide_eq_false (by omega))) rfl ?_
    refine WOps.p (G.move rfl) rfl ?_
    refine WOps.off rfl rfl rfl rfl ?_
    refine WOps.off rfl rfl rfl rfl ?_
    refine WOps.off rfl rfl rfl rfl ?_
    refine WOps.off rfl rfl rfl rfl ?_
    refine WOps.off rfl rfl rfl rfl ?_
    refine WOps.off rfl rfl rfl rfl ?_
    refine WOps.off rfl rfl rfl rfl ?_
    refine WOps.p (G.pick_f rfl rfl) rfl ?_
    refine WOps.p (G.assign rfl) rfl ?_
    refine WOps.nil ?_
    refine WEx.forget (l' := [(4, .bool false)]) ⟨rfl, trivial⟩ ?_
    refine WEx.then_ ?_
    refine WCode.ret ?_
    refine WEx.ret1 rfl rfl ?_
    exact ⟨by rw [decide_eq_false (fun h2 : isAt L n => by have := h2.1; have := h2.2; omega)], by simpa using S.join⟩
  · obtain ⟨A, c, R, rfl, hR⟩ := hA
    have S0 := St.init (Gs := [[(p, .cells #[.slice A L.length c, .int .i64 tm] 133 (0, 0))] ++ R]) (by simpa using hp)
    have S := S0.split
    have hle := hR.shape
    obtain ⟨_, _, hv, hle, _⟩ := hle; cases hv
    refine enter 16 [(0, .pointer (some ⟨p, 0, none⟩)), (1, .int .i64 n)] Try.func76 rfl rfl rfl rfl ?_
    refine WCode.seq ?_
    refine WCode.region ?_
    refine WOps.p (G.assign rfl) rfl ?_
    refine WOps.nil ?_
    refine WEx.then_ ?_
    refine WCode.seq ?_
    refine WCode.region ?_
    refine WOps.p (G.move rfl) rfl ?_
    refine WOps.p (G.geq rfl rfl (b := true) (decide_eq_true (by omega))) rfl ?_
    refine WOps.p (G.move rfl) rfl ?_
    refine WOps.on rfl rfl ?_
    refine WOps.p (G.move rfl) rfl ?_
    refine WOps.on rfl rfl ?_
    refine WOps.p (G.move rfl) rfl ?_
    refine WOps.on rfl rfl ?_
    refine WOps.p (G.nilp rfl) rfl ?_
    refine WOps.on rfl rfl ?_
    refine WOps.p (G.field T.fld133_0 rfl (show 0 + 0 = 0 from rfl)) rfl ?_
    refine WOps.on rfl rfl ?_
    refine WOps.r (G.load1 T.one43 rfl (cell_blk (S.blk 0 rfl) rfl)) rfl ?_
    refine WOps.on rfl rfl ?_
    refine WOps.p (G.len T.el43 rfl) rfl ?_
    refine WOps.on rfl rfl ?_
    refine WOps.p (G.lss rfl rfl (b := true) (decide_eq_true (by omega))) rfl ?_
    refine WOps.p (G.pick_t rfl rfl) rfl ?_
    refine WOps.p (G.assign rfl) rfl ?_
    refine WOps.nil ?_
    refine WEx.forget (l' := [(4, .bool true)]) ⟨rfl, trivial⟩ ?_
    refine WEx.then_ ?_
    refine WCode.ret ?_
    refine WEx.ret1 rfl rfl ?_
    exact ⟨by rw [decide_eq_true (show isAt L n from ⟨by omega, by omega⟩)], by simpa using S.join⟩
  · obtain ⟨A, c, R, rfl, hR⟩ := hA
    have S0 := St.init (Gs := [[(p, .cells #[.slice A L.length c, .int .i64 tm] 133 (0, 0))] ++ R]) (by simpa using hp)
    have S := S0.split
    have hle := hR.shape
    obtain ⟨_, _, hv, hle, _⟩ := hle; cases hv
    refine enter 16 [(0, .pointer (some ⟨p, 0, none⟩)), (1, .int .i64 n)] Try.func76 rfl rfl rfl rfl ?_
    refine WCode.seq ?_
    refine WCode.region ?_
    refine WOps.p (G.assign rfl) rfl ?_
    refine WOps.nil ?_
    refine WEx.then_ ?_
    refine WCode.seq ?_
    refine WCode.region ?_
    refine WOps.p (G.move rfl) rfl ?_
    refine WOps.p (G.geq rfl rfl (b := true) (decide_eq_true (by omega))) rfl ?_
    refine WOps.p (G.move rfl) rfl ?_
    refine WOps.on rfl rfl ?_
    refine WOps.p (G.move rfl) rfl ?_
    refine WOps.on rfl rfl ?_
    refine WOps.p (G.move rfl) rfl ?_
    refine WOps.on rfl rfl ?_
    refine WOps.p (G.nilp rfl) rfl ?_
    refine WOps.on rfl rfl ?_
    refine WOps.p (G.field T.fld133_0 rfl (show 0 + 0 = 0 from rfl)) rfl ?_
    refine WOps.on rfl rfl ?_
    refine WOps.r (G.load1 T.one43 rfl (cell_blk (S.blk 0 rfl) rfl)) rfl ?_
    refine WOps.on rfl rfl ?_
    refine WOps.p (G.len T.el43 rfl) rfl ?_
    refine WOps.on rfl rfl ?_
    refine WOps.p (G.lss rfl rfl (b := false) (decide_eq_false (by omega))) rfl ?_
    refine WOps.p (G.pick_t rfl rfl) rfl ?_
    refine WOps.p (G.assign rfl) rfl ?_
    refine WOps.nil ?_
    refine WEx.forget (l' := [(4, .bool false)]) ⟨rfl, trivial⟩ ?_
    refine WEx.then_ ?_
    refine WCode.ret ?_
    refine WEx.ret1 rfl rfl ?_
    exact ⟨by rw [decide_eq_false (fun h2 : isAt L n => by have := h2.1; have := h2.2; omega)], by simpa using S.join⟩

set_option maxRecDepth 100000 in
set_option maxHeartbeats 1000000 in
theorem air_put {p : Nat} {L : List Pk} {tm : Int} {GA : Grp} {w : World} (hA : AirG 133 p L tm GA) (hp : Hp w GA) (x : Pk) :
    Calls Try.prog 77 [.pointer (some ⟨p, 0, none⟩), .agg #[.int .i64 x.f, .int .i64 x.t, .string x.d]].toArray w fun e w' => e = .returned (.int .i64 (putE L)) ∧ ∃ G', AirG 133 p (putL L x) tm G' ∧ St w (· ∈ keys GA) w' [G'] := by
  have cs : (1000 ≤ L.length) ∨ (L.length < 1000) := by omega
  rcases cs with h | h
  · obtain ⟨A, c, R, rfl, hR⟩ := hA
    have S0 := St.init (Gs := [[(p, .cells #[.slice A L.length c, .int .i64 tm] 133 (0, 0))] ++ R]) (by simpa using hp)
    have S := S0.split
    have hle := hR.shape
    obtain ⟨_, _, hv, hle, _⟩ := hle; cases hv
    refine enter 21 [(0, .pointer (some ⟨p, 0, none⟩)), (1, .agg #[.int .i64 x.f, .int .i64 x.t, .string x.d])] Try.func77 rfl rfl rfl rfl ?_
    refine WCode.seq ?_
    refine WCode.region ?_
    obtain ⟨b1, w2, E3, S4, X5, L6⟩ := St.box S Try.prog 37 (.agg #[.int .i64 x.f, .int .i64 x.t, .string x.d])
    change St _ _ _ [[(b1, .cells #[.int .i64 x.f, .int .i64 x.t, .string x.d] 37 (0, 0))], [(p, .cells #[.slice A L.length c, .int .i64 tm] 133 (0, 0))], R] at S4
    refine WOps.e (E3 rfl) rfl ?_
    refine WOps.p (G.assign rfl) rfl ?_
    refine WOps.nil ?_
    refine WEx.forget (l' := [(0, .pointer (some ⟨p, 0, none⟩)), (3, .pointer (some ⟨b1, 0, none⟩)), (4, .int .i64 0)]) ⟨rfl, rfl, rfl, trivial⟩ ?_
    refine WEx.then_ ?_
    refine WCode.seq ?_
    refine WCode.seq ?_
    refine WCode.region ?_
    refine WOps.p (G.move rfl) rfl ?_
    refine WOps.p (G.nilp rfl) rfl ?_
    refine WOps.p (G.field T.fld133_0 rfl (show 0 + 0 = 0 from rfl)) rfl ?_
    refine WOps.r (G.load1 T.one43 rfl (cell_blk (S4.blk 1 rfl) rfl)) rfl ?_
    refine WOps.p (G.len T.el43 rfl) rfl ?_
    refine WOps.p (G.geq rfl rfl (b := true) (decide_eq_true (by omega))) rfl ?_
    refine WOps.nil ?_
    refine WEx.forget (l' := [(0, .pointer (some ⟨p, 0, none⟩)), (3, .pointer (some ⟨b1, 0, none⟩)), (4, .int .i64 0), (10, .bool true)]) ⟨rfl, rfl, rfl, rfl, trivial⟩ ?_
    refine WEx.then_ ?_
    refine WCode.cond_t rfl ?_
    refine WCode.seq ?_
    refine WCode.region ?_
    refine WOps.p (G.assign rfl) rfl ?_
    refine WOps.nil ?_
    refine WEx.forget (l' := [(0, .pointer (some ⟨p, 0, none⟩)), (3, .pointer (some ⟨b1, 0, none⟩)), (4, .int .i64 132)]) ⟨rfl, rfl, rfl, trivial⟩ ?_
    refine WEx.then_ ?_
    refine WCode.ret ?_
    refine WEx.then_ret ?_
    refine WEx.ret1 rfl rfl ?_
    have S7 := S4.front 2 rfl
    change St _ _ _ [R, [(b1, .cells #[.int .i64 x.f, .int .i64 x.t, .string x.d] 37 (0, 0))], [(p, .cells #[.slice A L.length c, .int .i64 tm] 133 (0, 0))]] at S7
    have S8 := S7.front 2 rfl
    change St _ _ _ [[(p, .cells #[.slice A L.length c, .int .i64 tm] 133 (0, 0))], R, [(b1, .cells #[.int .i64 x.f, .int .i64 x.t, .string x.d] 37 (0, 0))]] at S8
    have SJ := S8.join
    refine ⟨by rw [putE, if_pos h], _, ⟨A, c, R, by rw [putL, if_pos h], by rw [putL, if_pos h]; exact hR⟩, by simpa using St.keep (As := [_]) SJ⟩
  · obtain ⟨A, c, R, rfl, hR⟩ := hA
    have S0 := St.init (Gs := [[(p, .cells #[.slice A L.length c, .int .i64 tm] 133 (0, 0))] ++ R]) (by simpa using hp)
    have S := S0.split
    have hle := hR.shape
    obtain ⟨_, _, hv, hle, _⟩ := hle; cases hv
    refine enter 21 [(0, .pointer (some ⟨p, 0, none⟩)), (1, .agg #[.int .i64 x.f, .int .i64 x.t, .string x.d])] Try.func77 rfl rfl rfl rfl ?_
    refine WCode.seq ?_
    refine WCode.region ?_
    obtain ⟨b1, w2, E3, S4, X5, L6⟩ := St.box S Try.prog 37 (.agg #[.int .i64 x.f, .int .i64 x.t, .string x.d])
    change St _ _ _ [[(b1, .cells #[.int .i64 x.f, .int .i64 x.t, .string x.d] 37 (0, 0))], [(p, .cells #[.slice A L.length c, .int .i64 tm] 133 (0, 0))], R] at S4
    refine WOps.e (E3 rfl) rfl ?_
    refine WOps.p (G.assign rfl) rfl ?_
    refine WOps.nil ?_
    refine WEx.forget (l' := [(0, .pointer (some ⟨p, 0, none⟩)), (3, .pointer (some ⟨b1, 0, none⟩)), (4, .int .i64 0)]) ⟨rfl, rfl, rfl, trivial⟩ ?_
    refine WEx.then_ ?_
    refine WCode.seq ?_
    refine WCode.seq ?_
    refine WCode.region ?_
    refine WOps.p (G.move rfl) rfl ?_
    refine WOps.p (G.nilp rfl) rfl ?_
    refine WOps.p (G.field T.fld133_0 rfl (show 0 + 0 = 0 from rfl)) rfl ?_
    refine WOps.r (G.load1 T.one43 rfl (cell_blk (S4.blk 1 rfl) rfl)) rfl ?_
    refine WOps.p (G.len T.el43 rfl) rfl ?_
    refine WOps.p (G.geq rfl rfl (b := false) (decide_eq_false (by omega))) rfl ?_
    refine WOps.nil ?_
    refine WEx.forget (l' := [(0, .pointer (some ⟨p, 0, none⟩)), (3, .pointer (some ⟨b1, 0, none⟩)), (4, .int .i64 0), (10, .bool false)]) ⟨rfl, rfl, rfl, rfl, trivial⟩ ?_
    refine WEx.then_ ?_
    refine WCode.cond_f rfl ?_
    refine WCode.skip ?_
    refine WEx.then_ ?_
    refine WCode.forget (l' := [(0, .pointer (some ⟨p, 0, none⟩)), (3, .pointer (some ⟨b1, 0, none⟩)), (4, .int .i64 0)]) ⟨rfl, rfl, rfl, trivial⟩ ?_
    refine WCode.seq ?_
    refine WCode.draw [⟨0, 0, []⟩, ⟨1, 0, []⟩, ⟨2, 0, []⟩, ⟨3, 0, []⟩, ⟨4, 1, [7, 8, 9, 10]⟩, ⟨5, 1, [6, 7, 8, 9, 10]⟩, ⟨6, 2, []⟩, ⟨7, 2, []⟩, ⟨8, 0, []⟩, ⟨9, 0, []⟩, ⟨10, 2, []⟩] T.mixed (by kernel_rfl) (by intro _ _ d _ _ h; cases d <;> exact h) rfl (by kernel_rfl) ?_
    have S7 := S4.drew
    generalize w2.drew = w8 at *
    refine WD.p rfl (G.move rfl) rfl ?_
    refine WD.p rfl (G.move rfl) rfl ?_
    refine WD.p rfl (G.nilp rfl) rfl ?_
    refine WD.p rfl (G.field T.fld133_0 rfl (show 0 + 0 = 0 from rfl)) rfl ?_
    refine WD.r rfl (G.load1 T.one43 rfl (cell_blk (S7.blk 1 rfl) rfl)) rfl ?_
    refine WD.r rfl (G.loada T.agg37_3 rfl (cs := [.int .i64 x.f, .int .i64 x.t, .string x.d]) (cellsAt.of_blk (S7.blk 0 rfl) rfl)) rfl ?_
    obtain ⟨b9, w10, E11, S12, X13, L14⟩ := St.lit S7 (P := Try.prog) (t := 43) (e := 37) (n := 1) (vs := [(0, .agg #[.int .i64 x.f, .int .i64 x.t, .string x.d])]) (cs := #[.int .i64 x.f, .int .i64 x.t, .string x.d]) (by kernel_rfl)
    change St _ _ _ [[(b9, .cells #[.int .i64 x.f, .int .i64 x.t, .string x.d] 37 (0, 0))], [(b1, .cells #[.int .i64 x.f, .int .i64 x.t, .string x.d] 37 (0, 0))], [(p, .cells #[.slice A L.length c, .int .i64 tm] 133 (0, 0))], R] at S12
    refine WD.e rfl (E11 (evp_cons rfl evp_nil)) rfl ?_
    obtain ⟨A15, c16, G17, w18, E19, hR20, S21⟩ := St.append (P := Try.prog) S12 3 rfl T.elt43 hR (Rd.of_blk (S12.blk 0 rfl) (n := 1) (sz := 3) rfl) x.one (by simp only [maxLen]; omega) (by omega)
    change St _ _ _ [[(b9, .cells #[.int .i64 x.f, .int .i64 x.t, .string x.d] 37 (0, 0))], [(b1, .cells #[.int .i64 x.f, .int .i64 x.t, .string x.d] 37 (0, 0))], [(p, .cells #[.slice A L.length c, .int .i64 tm] 133 (0, 0))], G17] at S21
    refine WD.e rfl (E19 rfl rfl) rfl ?_
    refine WD.p rfl (G.nilp rfl) rfl ?_
    refine WD.p rfl (G.field T.fld133_0 rfl (show 0 + 0 = 0 from rfl)) rfl ?_
    obtain ⟨w22, E23, S24⟩ := St.store (P := Try.prog) S21 2 43 (.slice A15 (L.length + 1) c16) (off := 0) (cur' := #[.slice A15 (L.length + 1) c16, .int .i64 tm]) rfl T.size43_1 rfl rfl rfl
    change St _ _ _ [[(b9, .cells #[.int .i64 x.f, .int .i64 x.t, .string x.d] 37 (0, 0))], [(b1, .cells #[.int .i64 x.f, .int .i64 x.t, .string x.d] 37 (0, 0))], [(p, .cells #[.slice A15 (L.length + 1) c16, .int .i64 tm] 133 (0, 0))], G17] at S24
    refine WD.u rfl (E23 rfl rfl) ?_
    refine WD.nil ?_
    refine WEx.forget (l' := [(4, .int .i64 0)]) ⟨rfl, trivial⟩ ?_
    refine WEx.then_ ?_
    refine WCode.seq ?_
    refine WCode.region ?_
    refine WOps.p (G.assign rfl) rfl ?_
    refine WOps.nil ?_
    refine WEx.then_ ?_
    refine WCode.ret ?_
    refine WEx.ret1 rfl rfl ?_
    have S26 := S24.front 3 rfl
    change St _ _ _ [G17, [(b9, .cells #[.int .i64 x.f, .int .i64 x.t, .string x.d] 37 (0, 0))], [(b1, .cells #[.int .i64 x.f, .int .i64 x.t, .string x.d] 37 (0, 0))], [(p, .cells #[.slice A15 (L.length + 1) c16, .int .i64 tm] 133 (0, 0))]] at S26
    have S27 := S26.front 3 rfl
    change St _ _ _ [[(p, .cells #[.slice A15 (L.length + 1) c16, .int .i64 tm] 133 (0, 0))], G17, [(b9, .cells #[.int .i64 x.f, .int .i64 x.t, .string x.d] 37 (0, 0))], [(b1, .cells #[.int .i64 x.f, .int .i64 x.t, .string x.d] 37 (0, 0))]] at S27
    have S28 := S27.join
    have S29 := St.keep (As := [[(p, .cells #[.slice A15 (L.length + 1) c16, .int .i64 tm] 133 (0, 0))] ++ G17]) S28
    refine ⟨by rw [putE, if_neg (by omega)], _, AirG.mk hR20 (by rw [putL, if_neg (by omega)]; simp) (by rw [putL, if_neg (by omega)]; rw [cellsOf_append, cellsOf_one]; rfl), by simpa using S29⟩

set_option maxRecDepth 100000 in
set_option maxHeartbeats 1000000 in
theorem air_Send {p : Nat} {L : List Pk} {tm : Int} {GA : Grp} {w : World} (hA : AirG 133 p L tm GA) (hp : Hp w GA) (x : Pk) (hx : x.d.size ≤ 9223372036854775807) :
    Calls Try.prog 22 [.pointer (some ⟨p, 0, none⟩), .agg #[.int .i64 x.f, .int .i64 x.t, .string x.d]].toArray w fun e w' => e = .returned (.int .i64 (sendE L x)) ∧ ∃ G', AirG 133 p (sendL L x) tm G' ∧ St w (· ∈ keys GA) w' [G'] := by
  have cs : (1500 < x.d.size) ∨ (¬ 1500 < x.d.size) := by omega
  rcases cs with h | h
  · have S := St.init (Gs := [GA]) (by simpa using hp)
    have S := (S : St w (· ∈ keys [GA].flatten) w [GA])
    refine enter 12 [(0, .pointer (some ⟨p, 0, none⟩)), (1, .agg #[.int .i64 x.f, .int .i64 x.t, .string x.d])] Try.func22 rfl rfl rfl rfl ?_
    refine WCode.seq ?_
    refine WCode.region ?_
    obtain ⟨b1, w2, E3, S4, X5, L6⟩ := St.box S Try.prog 37 (.agg #[.int .i64 x.f, .int .i64 x.t, .string x.d])
    change St _ _ _ [[(b1, .cells #[.int .i64 x.f, .int .i64 x.t, .string x.d] 37 (0, 0))], GA] at S4
    refine WOps.e (E3 rfl) rfl ?_
    refine WOps.p (G.assign rfl) rfl ?_
    refine WOps.nil ?_
    refine WEx.forget (l' := [(0, .pointer (some ⟨p, 0, none⟩)), (3, .pointer (some ⟨b1, 0, none⟩)), (4, .int .i64 0)]) ⟨rfl, rfl, rfl, trivial⟩ ?_
    refine WEx.then_ ?_
    refine WCode.seq ?_
    refine WCode.seq ?_
    refine WCode.region ?_
    refine WOps.p (G.field T.fld37_2 rfl (show 0 + 2 = 2 from rfl)) rfl ?_
    refine WOps.r (G.load1 T.one9 rfl (cell_blk (S4.blk 0 rfl) rfl)) rfl ?_
    refine WOps.p (G.lens T.str9 rfl) rfl ?_
    refine WOps.p (G.gtr rfl rfl (b := true) (decide_eq_true (by omega))) rfl ?_
    refine WOps.nil ?_
    refine WEx.forget (l' := [(0, .pointer (some ⟨p, 0, none⟩)), (3, .pointer (some ⟨b1, 0, none⟩)), (4, .int .i64 0), (8, .bool true)]) ⟨rfl, rfl, rfl, rfl, trivial⟩ ?_
    refine WEx.then_ ?_
    refine WCode.cond_t rfl ?_
    refine WCode.seq ?_
    refine WCode.region ?_
    refine WOps.p (G.assign rfl) rfl ?_
    refine WOps.nil ?_
    refine WEx.forget (l' := [(0, .pointer (some ⟨p, 0, none⟩)), (3, .pointer (some ⟨b1, 0, none⟩)), (4, .int .i64 131)]) ⟨rfl, rfl, rfl, trivial⟩ ?_
    refine WEx.then_ ?_
    refine WCode.ret ?_
    refine WEx.then_ret ?_
    refine WEx.ret1 rfl rfl ?_
    have S7 := S4.front 1 rfl
    change St _ _ _ [GA, [(b1, .cells #[.int .i64 x.f, .int .i64 x.t, .string x.d] 37 (0, 0))]] at S7
    exact ⟨by rw [sendE, if_pos h], GA, by rw [sendL, if_pos h]; exact hA, by simpa using St.keep (As := [GA]) S7⟩
  · have S := St.init (Gs := [GA]) (by simpa using hp)
    have S := (S : St w (· ∈ keys [GA].flatten) w [GA])
    refine enter 12 [(0, .pointer (some ⟨p, 0, none⟩)), (1, .agg #[.int .i64 x.f, .int .i64 x.t, .string x.d])] Try.func22 rfl rfl rfl rfl ?_
    refine WCode.seq ?_
    refine WCode.region ?_
    obtain ⟨b1, w2, E3, S4, X5, L6⟩ := St.box S Try.prog 37 (.agg #[.int .i64 x.f, .int .i64 x.t, .string x.d])
    change St _ _ _ [[(b1, .cells #[.int .i64 x.f, .int .i64 x.t, .string x.d] 37 (0, 0))], GA] at S4
    refine WOps.e (E3 rfl) rfl ?_
    refine WOps.p (G.assign rfl) rfl ?_
    refine WOps.nil ?_
    refine WEx.forget (l' := [(0, .pointer (some ⟨p, 0, none⟩)), (3, .pointer (some ⟨b1, 0, none⟩)), (4, .int .i64 0)]) ⟨rfl, rfl, rfl, trivial⟩ ?_
    refine WEx.then_ ?_
    refine WCode.seq ?_
    refine WCode.seq ?_
    refine WCode.region ?_
    refine WOps.p (G.field T.fld37_2 rfl (show 0 + 2 = 2 from rfl)) rfl ?_
    refine WOps.r (G.load1 T.one9 rfl (cell_blk (S4.blk 0 rfl) rfl)) rfl ?_
    refine WOps.p (G.lens T.str9 rfl) rfl ?_
    refine WOps.p (G.gtr rfl rfl (b := false) (decide_eq_false (by omega))) rfl ?_
    refine WOps.nil ?_
    refine WEx.forget (l' := [(0, .pointer (some ⟨p, 0, none⟩)), (3, .pointer (some ⟨b1, 0, none⟩)), (4, .int .i64 0), (8, .bool false)]) ⟨rfl, rfl, rfl, rfl, trivial⟩ ?_
    refine WEx.then_ ?_
    refine WCode.cond_f rfl ?_
    refine WCode.skip ?_
    refine WEx.then_ ?_
    refine WCode.forget (l' := [(0, .pointer (some ⟨p, 0, none⟩)), (3, .pointer (some ⟨b1, 0, none⟩)), (4, .int .i64 0)]) ⟨rfl, rfl, rfl, trivial⟩ ?_
    refine WCode.seq ?_
    refine WCode.region ?_
    refine WOps.p (G.move rfl) rfl ?_
    refine WOps.r (G.loada T.agg37_3 rfl (cs := [.int .i64 x.f, .int .i64 x.t, .string x.d]) (cellsAt.of_blk (S4.blk 0 rfl) rfl)) rfl ?_
    refine WOps.call T.call77 (evs_cons rfl (evs_cons rfl evs_nil)) rfl ?_
    have S7 := S4.front 1 rfl
    change St _ _ _ [GA, [(b1, .cells #[.int .i64 x.f, .int .i64 x.t, .string x.d] 37 (0, 0))]] at S7
    refine (air_put hA S7.hp1 x).mono ?_
    rintro _ w8 ⟨rfl, G9, hA10, T11⟩
    have S12 := S7.call1 T11
    change St _ _ _ [G9, [(b1, .cells #[.int .i64 x.f, .int .i64 x.t, .string x.d] 37 (0, 0))]] at S12
    refine ⟨_, rfl, ?_⟩
    refine WOps.p (G.assign rfl) rfl ?_
    refine WOps.nil ?_
    refine WEx.forget (l' := [(4, .int .i64 (putE L))]) ⟨rfl, trivial⟩ ?_
    refine WEx.then_ ?_
    refine WCode.ret ?_
    refine WEx.ret1 rfl rfl ?_
    exact ⟨by rw [sendE, if_neg h], G9, by rw [sendL, if_neg h]; exact hA10, by simpa using St.keep (As := [G9]) S12⟩

set_option maxRecDepth 100000 in
set_option maxHeartbeats 1000000 in
theorem air_Deliver {p : Nat} {L : List Pk} {tm : Int} {GA : Grp} {w : World} (hA : AirG 133 p L tm GA) (hp : Hp w GA) (hL : L.length ≤ 1000) (n : Int) :
    Calls Try.prog 19 [.pointer (some ⟨p, 0, none⟩), .int .i64 n].toArray w fun e w' => e = .returned (.tuple #[(delP L n).v, .int .i64 (delE L n)]) ∧ ∃ G', AirG 133 p (delL L n) tm G' ∧ St w (· ∈ keys GA) w' [G'] := by
  have cs : (isAt L n) ∨ (¬ isAt L n) := Decidable.em _
  rcases cs with h | h
  · obtain ⟨j, x, rfl, hj⟩ := at_nat h
    have hjl : j < L.length := (List.getElem?_eq_some_iff.1 hj).1
    have S := St.init (Gs := [GA]) (by simpa using hp)
    have S := (S : St w (· ∈ keys [GA].flatten) w [GA])
    refine enter 38 [(0, .pointer (some ⟨p, 0, none⟩)), (1, .int .i64 (j : Int))] Try.func19 rfl rfl rfl rfl ?_
    refine WCode.seq ?_
    refine WCode.region ?_
    obtain ⟨b1, w2, E3, S4, X5, L6⟩ := St.var S T.zero37
    change St _ _ _ [[(b1, .cells #[.int .i64 0, .int .i64 0, .string ⟨#[]⟩] 37 (0, 0))], GA] at S4
    refine WOps.e E3 rfl ?_
    refine WOps.p (G.assign rfl) rfl ?_
    refine WOps.nil ?_
    refine WEx.then_ ?_
    refine WCode.seq ?_
    refine WCode.seq ?_
    refine WCode.region ?_
    refine WOps.p (G.move rfl) rfl ?_
    refine WOps.p (G.move rfl) rfl ?_
    refine WOps.call T.call76 (evs_cons rfl (evs_cons rfl evs_nil)) rfl ?_
    have S7 := S4.front 1 rfl
    change St _ _ _ [GA, [(b1, .cells #[.int .i64 0, .int .i64 0, .string ⟨#[]⟩] 37 (0, 0))]] at S7
    refine (air_has hA S7.hp1 ((j : Int))).mono ?_
    rintro _ w8 ⟨rfl, T11⟩
    have S12 := S7.call1 T11
    change St _ _ _ [GA, [(b1, .cells #[.int .i64 0, .int .i64 0, .string ⟨#[]⟩] 37 (0, 0))]] at S12
    refine ⟨_, rfl, ?_⟩
    refine WOps.p (G.not rfl (b := false) (by rw [decide_eq_true h]; rfl)) rfl ?_
    refine WOps.nil ?_
    refine WEx.forget (l' := [(0, .pointer (some ⟨p, 0, none⟩)), (1, .int .i64 (j : Int)), (4, .pointer (some ⟨b1, 0, none⟩)), (5, .int .i64 0), (10, .bool false)]) ⟨rfl, rfl, rfl, rfl, rfl, trivial⟩ ?_
    refine WEx.then_ ?_
    refine WCode.cond_f rfl ?_
    refine WCode.skip ?_
    refine WEx.then_ ?_
    refine WCode.forget (l' := [(0, .pointer (some ⟨p, 0, none⟩)), (1, .int .i64 (j : Int)), (4, .pointer (some ⟨b1, 0, none⟩)), (5, .int .i64 0)]) ⟨rfl, rfl, rfl, rfl, trivial⟩ ?_
    refine WCode.seq ?_
    refine WCode.region ?_
    obtain ⟨A13, c14, R15, rfl, hR16⟩ := hA
    have hle := hR16.shape
    obtain ⟨_, _, hv, hle, _⟩ := hle; cases hv
    have S17 := S12.split
    refine WOps.p (G.move rfl) rfl ?_
    refine WOps.p (G.nilp rfl) rfl ?_
    refine WOps.p (G.field T.fld133_0 rfl (show 0 + 0 = 0 from rfl)) rfl ?_
    refine WOps.r (G.load1 T.one43 rfl (cell_blk (S17.blk 0 rfl) rfl)) rfl ?_
    refine WOps.p (G.move rfl) rfl ?_
    obtain ⟨b18, o19, ea20, ca21⟩ := Rd.at_ Pk.len (hR16.rd (fun b o hb => S17.grp 1 rfl hb)).2 hj rfl
    cases ea20
    refine WOps.p (G.index T.el43 rfl rfl (j := j) hjl rfl) rfl ?_
    refine WOps.r (G.loada T.agg37_3 rfl (cs := [.int .i64 x.f, .int .i64 x.t, .string x.d]) ca21) rfl ?_
    obtain ⟨b22, w23, E24, S25, X26, L27⟩ := St.var S17 T.zero37
    have c28 := ca21.ext X26
    change St _ _ _ [[(b22, .cells #[.int .i64 0, .int .i64 0, .string ⟨#[]⟩] 37 (0, 0))], [(p, .cells #[.slice (some ⟨b18, o19, none⟩) L.length c14, .int .i64 tm] 133 (0, 0))], R15, [(b1, .cells #[.int .i64 0, .int .i64 0, .string ⟨#[]⟩] 37 (0, 0))]] at S25
    refine WOps.e E24 rfl ?_
    obtain ⟨w29, E30, S31⟩ := St.store (P := Try.prog) S25 0 37 (.agg #[.int .i64 x.f, .int .i64 x.t, .string x.d]) (off := 0) (cur' := #[.int .i64 x.f, .int .i64 x.t, .string x.d]) rfl T.size37_3 rfl rfl rfl
    change St _ _ _ [[(b22, .cells #[.int .i64 x.f, .int .i64 x.t, .string x.d] 37 (0, 0))], [(p, .cells #[.slice (some ⟨b18, o19, none⟩) L.length c14, .int .i64 tm] 133 (0, 0))], R15, [(b1, .cells #[.int .i64 0, .int .i64 0, .string ⟨#[]⟩] 37 (0, 0))]] at S31
    refine WOps.u (E30 rfl rfl) ?_
    refine WOps.nil ?_
    refine WEx.forget (l' := [(0, .pointer (some ⟨p, 0, none⟩)), (1, .int .i64 (j : Int)), (4, .pointer (some ⟨b1, 0, none⟩)), (5, .int .i64 0), (6, .pointer (some ⟨b22, 0, none⟩))]) ⟨rfl, rfl, rfl, rfl, rfl, trivial⟩ ?_
    refine WEx.then_ ?_
    refine WCode.seq ?_
    refine WCode.draw [⟨0, 0, []⟩, ⟨1, 0, []⟩, ⟨2, 0, []⟩, ⟨3, 0, []⟩, ⟨5, 0, []⟩, ⟨6, 0, []⟩, ⟨8, 0, []⟩, ⟨9, 0, []⟩, ⟨10, 0, []⟩, ⟨12, 0, []⟩, ⟨13, 0, []⟩, ⟨4, 1, [7, 15, 16, 17, 18]⟩, ⟨7, 0, []⟩, ⟨11, 1, [14, 15, 16, 17, 18]⟩, ⟨14, 0, []⟩, ⟨15, 2, []⟩, ⟨16, 0, []⟩, ⟨17, 0, []⟩, ⟨18, 2, []⟩] T.mixed (by kernel_rfl) (by intro _ _ d _ _ h; cases d <;> exact h) rfl (by kernel_rfl) ?_
    have S33 := S31.drew
    generalize w29.drew = w34 at *
    refine WD.p rfl (G.move rfl) rfl ?_
    refine WD.p rfl (G.move rfl) rfl ?_
    refine WD.p rfl (G.nilp rfl) rfl ?_
    refine WD.p rfl (G.field T.fld133_0 rfl (show 0 + 0 = 0 from rfl)) rfl ?_
    refine WD.p rfl (G.move rfl) rfl ?_
    refine WD.p rfl (G.move rfl) rfl ?_
    refine WD.p rfl (G.move rfl) rfl ?_
    refine WD.p rfl (G.nilp rfl) rfl ?_
    refine WD.p rfl (G.field T.fld133_0 rfl (show 0 + 0 = 0 from rfl)) rfl ?_
    refine WD.p rfl (G.move rfl) rfl ?_
    refine WD.p rfl (G.add rfl rfl (show IntKind.i64.wrap ((j : Int) + 1) = ((j : Int) + 1) from IntWalk.i64_in _ (by simp only [maxLen] at *; omega))) rfl ?_
    refine WD.r rfl (G.load1 T.one43 rfl (cell_blk (S33.blk 1 rfl) rfl)) rfl ?_
    refine WD.p rfl (G.slice_hm T.el43 rfl (h := j) rfl (m := j) rfl (by omega) (by omega)) rfl ?_
    refine WD.r rfl (G.load1 T.one43 rfl (cell_blk (S33.blk 1 rfl) rfl)) rfl ?_
    refine WD.p rfl (G.slice_l T.el43 rfl (lo := j + 1) rfl (by omega)) rfl ?_
    have HR35 := (hR16.rd (fun b o hb => S33.grp 2 rfl hb)).2
    obtain ⟨G36, hG37, hc38⟩ := RowG.cut hR16 (k := j) (m := j) (by omega) (by omega) (by omega)
    have S39 := S33.shrink 2 rfl hG37
    change St _ _ _ [[(b22, .cells #[.int .i64 x.f, .int .i64 x.t, .string x.d] 37 (0, 0))], [(p, .cells #[.slice (some ⟨b18, o19, none⟩) L.length c14, .int .i64 tm] 133 (0, 0))], G36, [(b1, .cells #[.int .i64 0, .int .i64 0, .string ⟨#[]⟩] 37 (0, 0))]] at S39
    obtain ⟨A40, c41, G42, w43, E44, hR45, S46⟩ := St.append (P := Try.prog) S39 2 rfl T.elt43 hc38 (Rd.drop HR35 (lo := j + 1) (by omega) hle) (fun u hu => Pk.ones L u (List.mem_of_mem_drop hu)) (by simp only [maxLen]; omega) (by omega)
    change St _ _ _ [[(b22, .cells #[.int .i64 x.f, .int .i64 x.t, .string x.d] 37 (0, 0))], [(p, .cells #[.slice (some ⟨b18, o19, none⟩) L.length c14, .int .i64 tm] 133 (0, 0))], G42, [(b1, .cells #[.int .i64 0, .int .i64 0, .string ⟨#[]⟩] 37 (0, 0))]] at S46
    refine WD.e rfl (E44 rfl rfl) rfl ?_
    refine WD.p rfl (G.nilp rfl) rfl ?_
    refine WD.p rfl (G.field T.fld133_0 rfl (show 0 + 0 = 0 from rfl)) rfl ?_
    obtain ⟨w47, E48, S49⟩ := St.store (P := Try.prog) S46 1 43 (.slice A40 (j + (L.length - (j + 1))) c41) (off := 0) (cur' := #[.slice A40 (j + (L.length - (j + 1))) c41, .int .i64 tm]) rfl T.size43_1 rfl rfl rfl
    change St _ _ _ [[(b22, .cells #[.int .i64 x.f, .int .i64 x.t, .string x.d] 37 (0, 0))], [(p, .cells #[.slice A40 (j + (L.length - (j + 1))) c41, .int .i64 tm] 133 (0, 0))], G42, [(b1, .cells #[.int .i64 0, .int .i64 0, .string ⟨#[]⟩] 37 (0, 0))]] at S49
    refine WD.u rfl (E48 rfl rfl) ?_
    refine WD.nil ?_
    refine WEx.forget (l' := [(4, .pointer (some ⟨b1, 0, none⟩)), (5, .int .i64 0), (6, .pointer (some ⟨b22, 0, none⟩))]) ⟨rfl, rfl, rfl, trivial⟩ ?_
    refine WEx.then_ ?_
    refine WCode.seq ?_
    refine WCode.region ?_
    refine WOps.r (G.loada T.agg37_3 rfl (cs := [.int .i64 x.f, .int .i64 x.t, .string x.d]) (cellsAt.of_blk (S49.blk 0 rfl) rfl)) rfl ?_
    obtain ⟨w51, E52, S53⟩ := St.store (P := Try.prog) S49 3 37 (.agg #[.int .i64 x.f, .int .i64 x.t, .string x.d]) (off := 0) (cur' := #[.int .i64 x.f, .int .i64 x.t, .string x.d]) rfl T.size37_3 rfl rfl rfl
    change St _ _ _ [[(b22, .cells #[.int .i64 x.f, .int .i64 x.t, .string x.d] 37 (0, 0))], [(p, .cells #[.slice A40 (j + (L.length - (j + 1))) c41, .int .i64 tm] 133 (0, 0))], G42, [(b1, .cells #[.int .i64 x.f, .int .i64 x.t, .string x.d] 37 (0, 0))]] at S53
    refine WOps.u (E52 rfl rfl) ?_
    refine WOps.p (G.assign rfl) rfl ?_
    refine WOps.nil ?_
    refine WEx.forget (l' := [(4, .pointer (some ⟨b1, 0, none⟩)), (5, .int .i64 0)]) ⟨rfl, rfl, trivial⟩ ?_
    refine WEx.then_ ?_
    refine WCode.ret ?_
    refine WEx.retc1 rfl rfl (cs := [.int .i64 x.f, .int .i64 x.t, .string x.d]) T.agg37_3 (cellsAt.of_blk (S53.blk 3 rfl) rfl) rfl ?_
    have S55 := S53.front 2 rfl
    change St _ _ _ [G42, [(b22, .cells #[.int .i64 x.f, .int .i64 x.t, .string x.d] 37 (0, 0))], [(p, .cells #[.slice A40 (j + (L.length - (j + 1))) c41, .int .i64 tm] 133 (0, 0))], [(b1, .cells #[.int .i64 x.f, .int .i64 x.t, .string x.d] 37 (0, 0))]] at S55
    have S56 := S55.front 2 rfl
    change St _ _ _ [[(p, .cells #[.slice A40 (j + (L.length - (j + 1))) c41, .int .i64 tm] 133 (0, 0))], G42, [(b22, .cells #[.int .i64 x.f, .int .i64 x.t, .string x.d] 37 (0, 0))], [(b1, .cells #[.int .i64 x.f, .int .i64 x.t, .string x.d] 37 (0, 0))]] at S56
    have S57 := S56.join
    have S58 := St.keep (As := [[(p, .cells #[.slice A40 (j + (L.length - (j + 1))) c41, .int .i64 tm] 133 (0, 0))] ++ G42]) S57
    refine ⟨?_, _, AirG.mk hR45 (by rw [delL, if_pos h]; exact erase_len hjl) (by rw [delL, if_pos h]; exact erase_cells L j), by simpa using S58⟩
    rw [delP, delE, if_pos h, if_pos h, Int.toNat_natCast, hj]; rfl
  · have S := St.init (Gs := [GA]) (by simpa using hp)
    have S := (S : St w (· ∈ keys [GA].flatten) w [GA])
    refine enter 38 [(0, .pointer (some ⟨p, 0, none⟩)), (1, .int .i64 n)] Try.func19 rfl rfl rfl rfl ?_
    refine WCode.seq ?_
    refine WCode.region ?_
    obtain ⟨b1, w2, E3, S4, X5, L6⟩ := St.var S T.zero37
    change St _ _ _ [[(b1, .cells #[.int .i64 0, .int .i64 0, .string ⟨#[]⟩] 37 (0, 0))], GA] at S4
    refine WOps.e E3 rfl ?_
    refine WOps.p (G.assign rfl) rfl ?_
    refine WOps.nil ?_
    refine WEx.then_ ?_
    refine WCode.seq ?_
    refine WCode.seq ?_
    refine WCode.region ?_
    refine WOps.p (G.move rfl) rfl ?_
    refine WOps.p (G.move rfl) rfl ?_
    refine WOps.call T.call76 (evs_cons rfl (evs_cons rfl evs_nil)) rfl ?_
    have S7 := S4.front 1 rfl
    change St _ _ _ [GA, [(b1, .cells #[.int .i64 0, .int .i64 0, .string ⟨#[]⟩] 37 (0, 0))]] at S7
    refine (air_has hA S7.hp1 (n)).mono ?_
    rintro _ w8 ⟨rfl, T11⟩
    have S12 := S7.call1 T11
    change St _ _ _ [GA, [(b1, .cells #[.int .i64 0, .int .i64 0, .string ⟨#[]⟩] 37 (0, 0))]] at S12
    refine ⟨_, rfl, ?_⟩
    refine WOps.p (G.not rfl (b := true) (by rw [decide_eq_false h]; rfl)) rfl ?_
    refine WOps.nil ?_
    refine WEx.forget (l' := [(0, .pointer (some ⟨p, 0, none⟩)), (1, .int .i64 n), (4, .pointer (some ⟨b1, 0, none⟩)), (5, .int .i64 0), (10, .bool true)]) ⟨rfl, rfl, rfl, rfl, rfl, trivial⟩ ?_
    refine WEx.then_ ?_
    refine WCode.cond_t rfl ?_
    refine WCode.seq ?_
    refine WCode.region ?_
    refine WOps.p (G.build (cells := #[.int .i64 0, .int .i64 0, .string ⟨#[]⟩]) (evp_spec (evp_nil)) (by kernel_rfl)) rfl ?_
    obtain ⟨w13, E14, S15⟩ := St.store (P := Try.prog) S12 1 37 (.agg #[.int .i64 0, .int .i64 0, .string ⟨#[]⟩]) (off := 0) (cur' := #[.int .i64 0, .int .i64 0, .string ⟨#[]⟩]) rfl T.size37_3 rfl rfl rfl
    change St _ _ _ [GA, [(b1, .cells #[.int .i64 0, .int .i64 0, .string ⟨#[]⟩] 37 (0, 0))]] at S15
    refine WOps.u (E14 rfl rfl) ?_
    refine WOps.p (G.assign rfl) rfl ?_
    refine WOps.nil ?_
    refine WEx.forget (l' := [(0, .pointer (some ⟨p, 0, none⟩)), (1, .int .i64 n), (4, .pointer (some ⟨b1, 0, none⟩)), (5, .int .i64 130)]) ⟨rfl, rfl, rfl, rfl, trivial⟩ ?_
    refine WEx.then_ ?_
    refine WCode.ret ?_
    refine WEx.then_ret ?_
    refine WEx.retc1 rfl rfl (cs := [.int .i64 0, .int .i64 0, .string ⟨#[]⟩]) T.agg37_3 (cellsAt.of_blk (S15.blk 1 rfl) rfl) rfl ?_
    refine ⟨?_, _, by rw [delL, if_neg h]; exact hA, by simpa using St.keep (As := [GA]) S15⟩
    rw [delP, delE, if_neg h, if_neg h]; rfl

set_option maxRecDepth 100000 in
set_option maxHeartbeats 1000000 in
theorem air_Drop {p : Nat} {L : List Pk} {tm : Int} {GA : Grp} {w : World} (hA : AirG 133 p L tm GA) (hp : Hp w GA) (hL : L.length ≤ 1000) (n : Int) :
    Calls Try.prog 20 [.pointer (some ⟨p, 0, none⟩), .int .i64 n].toArray w fun e w' => e = .returned (.int .i64 (delE L n)) ∧ ∃ G', AirG 133 p (delL L n) tm G' ∧ St w (· ∈ keys GA) w' [G'] := by
  have S := St.init (Gs := [GA]) (by simpa using hp)
  have S := (S : St w (· ∈ keys [GA].flatten) w [GA])
  refine enter 14 [(0, .pointer (some ⟨p, 0, none⟩)), (1, .int .i64 n)] Try.func20 rfl rfl rfl rfl ?_
  refine WCode.seq ?_
  refine WCode.region ?_
  refine WOps.p (G.assign rfl) rfl ?_
  refine WOps.nil ?_
  refine WEx.then_ ?_
  refine WCode.seq ?_
  refine WCode.region ?_
  refine WOps.p (G.move rfl) rfl ?_
  refine WOps.p (G.move rfl) rfl ?_
  refine WOps.call T.call19 (evs_cons rfl (evs_cons rfl evs_nil)) rfl ?_
  refine (air_Deliver hA S.hp1 hL n).mono ?_
  rintro _ w1 ⟨rfl, G2, hA3, T4⟩
  have S5 := S.call1 T4
  change St _ _ _ [G2] at S5
  refine ⟨_, rfl, ?_⟩
  refine WOps.p (G.move rfl) rfl ?_
  refine WOps.p (G.extract rfl rfl) rfl ?_
  refine WOps.p (G.extract rfl rfl) rfl ?_
  obtain ⟨b6, w7, E8, S9, X10, L11⟩ := St.var S5 T.zero37
  change St _ _ _ [[(b6, .cells #[.int .i64 0, .int .i64 0, .string ⟨#[]⟩] 37 (0, 0))], G2] at S9
  refine WOps.e E8 rfl ?_
  obtain ⟨w12, E13, S14⟩ := St.store (P := Try.prog) S9 0 37 (.agg #[.int .i64 ((delP L n).f), .int .i64 ((delP L n).t), .string ((delP L n).d)]) (off := 0) (cur' := #[.int .i64 ((delP L n).f), .int .i64 ((delP L n).t), .string ((delP L n).d)]) rfl T.size37_3 rfl rfl rfl
  change St _ _ _ [[(b6, .cells #[.int .i64 ((delP L n).f), .int .i64 ((delP L n).t), .string ((delP L n).d)] 37 (0, 0))], G2] at S14
  refine WOps.u (E13 rfl rfl) ?_
  refine WOps.p (G.assign rfl) rfl ?_
  refine WOps.nil ?_
  refine WEx.forget (l' := [(4, .int .i64 0), (6, .int .i64 (delE L n))]) ⟨rfl, rfl, trivial⟩ ?_
  refine WEx.then_ ?_
  refine WCode.seq ?_
  refine WCode.region ?_
  refine WOps.p (G.move rfl) rfl ?_
  refine WOps.p (G.assign rfl) rfl ?_
  refine WOps.nil ?_
  refine WEx.forget (l' := [(4, .int .i64 (delE L n))]) ⟨rfl, trivial⟩ ?_
  refine WEx.then_ ?_
  refine WCode.ret ?_
  refine WEx.ret1 rfl rfl ?_
  have S16 := S14.front 1 rfl
  change St _ _ _ [G2, [(b6, .cells #[.int .i64 ((delP L n).f), .int .i64 ((delP L n).t), .string ((delP L n).d)] 37 (0, 0))]] at S16
  exact ⟨rfl, G2, hA3, by simpa using St.keep (As := [G2]) S16⟩

set_option maxRecDepth 100000 in
set_option maxHeartbeats 1000000 in
theorem air_Double {p : Nat} {L : List Pk} {tm : Int} {GA : Grp} {w : World} (hA : AirG 133 p L tm GA) (hp : Hp w GA) (hL : L.length ≤ 1000) (n : Int) :
    Calls Try.prog 21 [.pointer (some ⟨p, 0, none⟩), .int .i64 n].toArray w fun e w' => e = .returned (.int .i64 (dblE L n)) ∧ ∃ G', AirG 133 p (dblL L n) tm G' ∧ St w (· ∈ keys GA) w' [G'] := by
  have cs : (isAt L n) ∨ (¬ isAt L n) := Decidable.em _
  rcases cs with h | h
  · obtain ⟨j, x, rfl, hj⟩ := at_nat h
    have hjl : j < L.length := (List.getElem?_eq_some_iff.1 hj).1
    have S := St.init (Gs := [GA]) (by simpa using hp)
    have S := (S : St w (· ∈ keys [GA].flatten) w [GA])
    refine enter 18 [(0, .pointer (some ⟨p, 0, none⟩)), (1, .int .i64 (j : Int))] Try.func21 rfl rfl rfl rfl ?_
    refine WCode.seq ?_
    refine WCode.region ?_
    refine WOps.p (G.assign rfl) rfl ?_
    refine WOps.nil ?_
    refine WEx.then_ ?_
    refine WCode.seq ?_
    refine WCode.seq ?_
    refine WCode.region ?_
    refine WOps.p (G.move rfl) rfl ?_
    refine WOps.p (G.move rfl) rfl ?_
    refine WOps.call T.call76 (evs_cons rfl (evs_cons rfl evs_nil)) rfl ?_
    refine (air_has hA S.hp1 ((j : Int))).mono ?_
    rintro _ w1 ⟨rfl, T4⟩
    have S5 := S.call1 T4
    change St _ _ _ [GA] at S5
    refine ⟨_, rfl, ?_⟩
    refine WOps.p (G.not rfl (b := false) (by rw [decide_eq_true h]; rfl)) rfl ?_
    refine WOps.nil ?_
    refine WEx.forget (l' := [(0, .pointer (some ⟨p, 0, none⟩)), (1, .int .i64 (j : Int)), (4, .int .i64 0), (8, .bool false)]) ⟨rfl, rfl, rfl, rfl, trivial⟩ ?_
    refine WEx.then_ ?_
    refine WCode.cond_f rfl ?_
    refine WCode.skip ?_
    refine WEx.then_ ?_
    refine WCode.forget (l' := [(0, .pointer (some ⟨p, 0, none⟩)), (1, .int .i64 (j : Int)), (4, .int .i64 0)]) ⟨rfl, rfl, rfl, trivial⟩ ?_
    refine WCode.seq ?_
    refine WCode.region ?_
    obtain ⟨A6, c7, R8, rfl, hR9⟩ := hA
    have hle := hR9.shape
    obtain ⟨_, _, hv, hle, _⟩ := hle; cases hv
    have S10 := S5.split
    refine WOps.p (G.move rfl) rfl ?_
    refine WOps.p (G.move rfl) rfl ?_
    refine WOps.p (G.nilp rfl) rfl ?_
    refine WOps.p (G.field T.fld133_0 rfl (show 0 + 0 = 0 from rfl)) rfl ?_
    refine WOps.r (G.load1 T.one43 rfl (cell_blk (S10.blk 0 rfl) rfl)) rfl ?_
    refine WOps.p (G.move rfl) rfl ?_
    obtain ⟨b11, o12, ea13, ca14⟩ := Rd.at_ Pk.len (hR9.rd (fun b o hb => S10.grp 1 rfl hb)).2 hj rfl
    cases ea13
    refine WOps.p (G.index T.el43 rfl rfl (j := j) hjl rfl) rfl ?_
    refine WOps.r (G.loada T.agg37_3 rfl (cs := [.int .i64 x.f, .int .i64 x.t, .string x.d]) ca14) rfl ?_
    refine WOps.call T.call77 (evs_cons rfl (evs_cons rfl evs_nil)) rfl ?_
    have S15 := S10.front 1 rfl
    change St _ _ _ [R8, [(p, .cells #[.slice (some ⟨b11, o12, none⟩) L.length c7, .int .i64 tm] 133 (0, 0))]] at S15
    have S16 := S15.front 1 rfl
    change St _ _ _ [[(p, .cells #[.slice (some ⟨b11, o12, none⟩) L.length c7, .int .i64 tm] 133 (0, 0))], R8] at S16
    have S17 := S16.join
    have hA18 : AirG 133 p L tm ([(p, .cells #[.slice (some ⟨b11, o12, none⟩) L.length c7, .int .i64 tm] 133 (0, 0))] ++ R8) := ⟨_, _, _, rfl, hR9⟩
    refine (air_put hA18 S17.hp1 x).mono ?_
    rintro _ w19 ⟨rfl, G20, hA21, T22⟩
    have S23 := S17.call1 T22
    change St _ _ _ [G20] at S23
    refine ⟨_, rfl, ?_⟩
    refine WOps.p (G.assign rfl) rfl ?_
    refine WOps.nil ?_
    refine WEx.forget (l' := [(4, .int .i64 (putE L))]) ⟨rfl, trivial⟩ ?_
    refine WEx.then_ ?_
    refine WCode.ret ?_
    refine WEx.ret1 rfl rfl ?_
    exact ⟨by rw [dblE, if_pos h], G20, by rw [dblL, if_pos h, Int.toNat_natCast, hj]; exact hA21, by simpa using St.keep (As := [G20]) S23⟩
  · have S := St.init (Gs := [GA]) (by simpa using hp)
    have S := (S : St w (· ∈ keys [GA].flatten) w [GA])
    refine enter 18 [(0, .pointer (some ⟨p, 0, none⟩)), (1, .int .i64 n)] Try.func21 rfl rfl rfl rfl ?_
    refine WCode.seq ?_
    refine WCode.region ?_
    refine WOps.p (G.assign rfl) rfl ?_
    refine WOps.nil ?_
    refine WEx.then_ ?_
    refine WCode.seq ?_
    refine WCode.seq ?_
    refine WCode.region ?_
    refine WOps.p (G.move rfl) rfl ?_
    refine WOps.p (G.move rfl) rfl ?_
    refine WOps.call T.call76 (evs_cons rfl (evs_cons rfl evs_nil)) rfl ?_
    refine (air_has hA S.hp1 (n)).mono ?_
    rintro _ w1 ⟨rfl, T4⟩
    have S5 := S.call1 T4
    change St _ _ _ [GA] at S5
    refine ⟨_, rfl, ?_⟩
    refine WOps.p (G.not rfl (b := true) (by rw [decide_eq_false h]; rfl)) rfl ?_
    refine WOps.nil ?_
    refine WEx.forget (l' := [(0, .pointer (some ⟨p, 0, none⟩)), (1, .int .i64 n), (4, .int .i64 0), (8, .bool true)]) ⟨rfl, rfl, rfl, rfl, trivial⟩ ?_
    refine WEx.then_ ?_
    refine WCode.cond_t rfl ?_
    refine WCode.seq ?_
    refine WCode.region ?_
    refine WOps.p (G.assign rfl) rfl ?_
    refine WOps.nil ?_
    refine WEx.forget (l' := [(0, .pointer (some ⟨p, 0, none⟩)), (1, .int .i64 n), (4, .int .i64 130)]) ⟨rfl, rfl, rfl, trivial⟩ ?_
    refine WEx.then_ ?_
    refine WCode.ret ?_
    refine WEx.then_ret ?_
    refine WEx.ret1 rfl rfl ?_
    exact ⟨by rw [dblE, if_neg h], GA, by rw [dblL, if_neg h]; exact hA, by simpa using St.keep (As := [GA]) S5⟩

set_option maxRecDepth 100000 in
set_option maxHeartbeats 1000000 in
theorem pk_Clone {A : Option Addr} {n c : Nat} {xs : List Value} {w : World} (hr : Rd w A n 3 xs) (h1 : ∀ u ∈ xs, u.oneCell' = true) (hn : n ≤ 100000) :
    Calls Try.prog 79 [.slice A n c].toArray w fun e w' => ∃ A' c' G', e = .returned (.slice A' n c') ∧ n ≤ c' ∧ RowG 37 3 (.slice A' n c') n xs G' ∧ St w (fun _ => False) w' [G'] := by
  have cs : (A = none) ∨ (A ≠ none) := Decidable.em _
  rcases cs with h | h
  · have S := St.init0 w
    refine enter 8 [(0, .slice A n c)] Try.func79 rfl rfl rfl rfl ?_
    refine WCode.seq ?_
    refine WCode.region ?_
    refine WOps.p (G.assign rfl) rfl ?_
    refine WOps.nil ?_
    refine WEx.then_ ?_
    refine WCode.seq ?_
    refine WCode.seq ?_
    refine WCode.region ?_
    refine WOps.p (G.move rfl) rfl ?_
    refine WOps.p (G.eq_nil Try.underlying43 rfl rfl (b := true) (decide_eq_true h)) rfl ?_
    refine WOps.nil ?_
    refine WEx.forget (l' := [(0, .slice A n c), (2, .slice none 0 0), (4, .bool true)]) ⟨rfl, rfl, rfl, trivial⟩ ?_
    refine WEx.then_ ?_
    refine WCode.cond_t rfl ?_
    refine WCode.seq ?_
    refine WCode.region ?_
    refine WOps.p (G.assign rfl) rfl ?_
    refine WOps.nil ?_
    refine WEx.forget (l' := [(0, .slice A n c), (2, .slice none 0 0)]) ⟨rfl, rfl, trivial⟩ ?_
    refine WEx.then_ ?_
    refine WCode.ret ?_
    refine WEx.then_ret ?_
    refine WEx.ret1 rfl rfl ?_
    have h0 : n = 0 := by
      rcases Nat.eq_zero_or_pos n with h0 | h0
      · exact h0
      · obtain ⟨b, off, e, _⟩ := hr.2 h0; rw [h] at e; cases e
    subst h0
    have := hr.empty; subst this
    exact ⟨none, 0, [], rfl, Nat.le_refl _, RowG.nil 37 3, by simpa using S.emp⟩
  · have S := St.init0 w
    refine enter 8 [(0, .slice A n c)] Try.func79 rfl rfl rfl rfl ?_
    refine WCode.seq ?_
    refine WCode.region ?_
    refine WOps.p (G.assign rfl) rfl ?_
    refine WOps.nil ?_
    refine WEx.then_ ?_
    refine WCode.seq ?_
    refine WCode.seq ?_
    refine WCode.region ?_
    refine WOps.p (G.move rfl) rfl ?_
    refine WOps.p (G.eq_nil Try.underlying43 rfl rfl (b := false) (decide_eq_false h)) rfl ?_
    refine WOps.nil ?_
    refine WEx.forget (l' := [(0, .slice A n c), (2, .slice none 0 0), (4, .bool false)]) ⟨rfl, rfl, rfl, trivial⟩ ?_
    refine WEx.then_ ?_
    refine WCode.cond_f rfl ?_
    refine WCode.skip ?_
    refine WEx.then_ ?_
    refine WCode.forget (l' := [(0, .slice A n c), (2, .slice none 0 0)]) ⟨rfl, rfl, trivial⟩ ?_
    refine WCode.seq ?_
    refine WCode.region ?_
    obtain ⟨b1, w2, E3, S4, X5, L6⟩ := St.lit S (P := Try.prog) (t := 43) (e := 37) (n := 0) (vs := []) (cs := #[]) (by kernel_rfl)
    change St _ _ _ [[(b1, .cells #[] 37 (0, 0))]] at S4
    refine WOps.e (E3 evp_nil) rfl ?_
    refine WOps.p (G.move rfl) rfl ?_
    have S7 := S4.emp
    have h08 : RowG 37 3 (.slice (some ⟨b1, 0, none⟩) 0 0) 0 [] [] := ⟨by simp, .inl ⟨_, rfl, rfl, rfl⟩⟩
    obtain ⟨A9, c10, G11, w12, E13, hR14, S15⟩ := St.append (P := Try.prog) S7 0 rfl T.elt43 h08 (hr.ext S7.ext0) h1 (by simp only [maxLen]; omega) (by omega)
    change St _ _ _ [G11, [(b1, .cells #[] 37 (0, 0))]] at S15
    refine WOps.e (E13 rfl rfl) rfl ?_
    refine WOps.p (G.assign rfl) rfl ?_
    refine WOps.nil ?_
    refine WEx.forget (l' := [(2, .slice A9 (0 + n) c10)]) ⟨rfl, trivial⟩ ?_
    refine WEx.then_ ?_
    refine WCode.ret ?_
    refine WEx.ret1 rfl rfl ?_
    simp only [Nat.zero_add, List.nil_append] at hR14 ⊢
    have hs := hR14.shape; obtain ⟨_, _, hv, hs, _⟩ := hs; cases hv
    exact ⟨_, _, G11, rfl, hs, hR14, St.keep (As := [G11]) S15⟩

set_option maxRecDepth 100000 in
set_option maxHeartbeats 1000000 in
theorem pk_Clip {A : Option Addr} {n c : Nat} {w : World} (hn : n ≤ c) :
    Calls Try.prog 78 [.slice A n c].toArray w fun e w' => e = .returned (.slice A n n) ∧ St w (fun _ => False) w' [] := by
  have S := St.init0 w
  refine enter 9 [(0, .slice A n c)] Try.func78 rfl rfl rfl rfl ?_
  refine WCode.seq ?_
  refine WCode.region ?_
  refine WOps.p (G.assign rfl) rfl ?_
  refine WOps.nil ?_
  refine WEx.then_ ?_
  refine WCode.seq ?_
  refine WCode.region ?_
  refine WOps.p (G.move rfl) rfl ?_
  refine WOps.p (G.move rfl) rfl ?_
  refine WOps.p (G.len T.el43 rfl) rfl ?_
  refine WOps.p (G.move rfl) rfl ?_
  refine WOps.p (G.len T.el43 rfl) rfl ?_
  refine WOps.p (G.slice_hm T.el43 rfl (h := n) rfl (m := n) rfl (by omega) (by omega)) rfl ?_
  refine WOps.p (G.assign rfl) rfl ?_
  refine WOps.nil ?_
  refine WEx.forget (l' := [(2, .slice A n n)]) ⟨rfl, trivial⟩ ?_
  refine WEx.then_ ?_
  refine WCode.ret ?_
  refine WEx.ret1 rfl rfl ?_
  exact ⟨rfl, S⟩

set_option maxRecDepth 100000 in
set_option maxHeartbeats 1000000 in
theorem air_Flying {p : Nat} {L : List Pk} {tm : Int} {GA : Grp} {w : World} (hA : AirG 133 p L tm GA) (hp : Hp w GA) (hL : L.length ≤ 1000) :
    Calls Try.prog 24 [.pointer (some ⟨p, 0, none⟩)].toArray w fun e w' => ∃ A' c' G', e = .returned (.slice A' L.length c') ∧ RowG 37 3 (.slice A' L.length c') L.length (cellsOf Pk.cs L) G' ∧ St w (· ∈ keys GA) w' [GA, G'] := by
  have S := St.init (Gs := [GA]) (by simpa using hp)
  have S := (S : St w (· ∈ keys [GA].flatten) w [GA])
  obtain ⟨A1, c2, R3, rfl, hR4⟩ := hA
  have hle := hR4.shape
  obtain ⟨_, _, hv, hle, _⟩ := hle; cases hv
  have S5 := S.split
  refine enter 9 [(0, .pointer (some ⟨p, 0, none⟩))] Try.func24 rfl rfl rfl rfl ?_
  refine WCode.seq ?_
  refine WCode.region ?_
  refine WOps.p (G.assign rfl) rfl ?_
  refine WOps.nil ?_
  refine WEx.then_ ?_
  refine WCode.seq ?_
  refine WCode.region ?_
  refine WOps.p (G.move rfl) rfl ?_
  refine WOps.p (G.nilp rfl) rfl ?_
  refine WOps.p (G.field T.fld133_0 rfl (show 0 + 0 = 0 from rfl)) rfl ?_
  refine WOps.r (G.load1 T.one43 rfl (cell_blk (S5.blk 0 rfl) rfl)) rfl ?_
  refine WOps.call T.call79 (evs_cons rfl evs_nil) rfl ?_
  refine (pk_Clone (hR4.rd (fun b o hb => S5.grp 1 rfl hb)).2 (Pk.ones L) (by omega)).mono ?_
  rintro _ w12 ⟨A6, c7, G8, rfl, hl9, hR10, T11⟩
  have S13 := S5.call0 T11
  change St _ _ _ [G8, [(p, .cells #[.slice A1 L.length c2, .int .i64 tm] 133 (0, 0))], R3] at S13
  refine ⟨_, rfl, ?_⟩
  refine WOps.call T.call78 (evs_cons rfl evs_nil) rfl ?_
  refine (pk_Clip hl9).mono ?_
  rintro _ w15 ⟨rfl, T14⟩
  have S16 := S13.call0 T14
  change St _ _ _ [G8, [(p, .cells #[.slice A1 L.length c2, .int .i64 tm] 133 (0, 0))], R3] at S16
  obtain ⟨G18, hG19, hR20⟩ := RowG.cut hR10 (k := L.length) (m := L.length) (Nat.le_refl _) (Nat.le_refl _) hl9
  rw [cellsOf_take Pk.len, List.take_length] at hR20
  have S17 := S16.shrink 0 rfl hG19
  change St _ _ _ [G18, [(p, .cells #[.slice A1 L.length c2, .int .i64 tm] 133 (0, 0))], R3] at S17
  refine ⟨_, rfl, ?_⟩
  refine WOps.p (G.assign rfl) rfl ?_
  refine WOps.nil ?_
  refine WEx.forget (l' := [(2, .slice A6 L.length L.length)]) ⟨rfl, trivial⟩ ?_
  refine WEx.then_ ?_
  refine WCode.ret ?_
  refine WEx.ret1 rfl rfl ?_
  have S21 := S17.front 2 rfl
  change St _ _ _ [R3, G18, [(p, .cells #[.slice A1 L.length c2, .int .i64 tm] 133 (0, 0))]] at S21
  have S22 := S21.front 2 rfl
  change St _ _ _ [[(p, .cells #[.slice A1 L.length c2, .int .i64 tm] 133 (0, 0))], R3, G18] at S22
  exact ⟨_, _, _, rfl, hR20, by simpa using St.keep (As := [_, G18]) S22.join⟩

set_option maxRecDepth 100000 in
set_option maxHeartbeats 1000000 in
theorem ref_Flying {p : Nat} {L : List Pk} {tm : Int} {GA : Grp} {w : World} (hA : AirG 135 p L tm GA) (hp : Hp w GA) (hL : L.length ≤ 1000) :
    Calls Try.prog 72 [.pointer (some ⟨p, 0, none⟩)].toArray w fun e w' => ∃ A' c' G', e = .returned (.slice A' L.length c') ∧ RowG 37 3 (.slice A' L.length c') L.length (cellsOf Pk.cs L) G' ∧ St w (· ∈ keys GA) w' [GA, G'] := by
  have S := St.init (Gs := [GA]) (by simpa using hp)
  have S := (S : St w (· ∈ keys [GA].flatten) w [GA])
  obtain ⟨A1, c2, R3, rfl, hR4⟩ := hA
  have hle := hR4.shape
  obtain ⟨_, _, hv, hle, _⟩ := hle; cases hv
  have S5 := S.split
  refine enter 8 [(0, .pointer (some ⟨p, 0, none⟩))] Try.func72 rfl rfl rfl rfl ?_
  refine WCode.seq ?_
  refine WCode.region ?_
  refine WOps.p (G.assign rfl) rfl ?_
  refine WOps.nil ?_
  refine WEx.then_ ?_
  refine WCode.seq ?_
  refine WCode.region ?_
  refine WOps.p (G.move rfl) rfl ?_
  refine WOps.p (G.nilp rfl) rfl ?_
  refine WOps.p (G.field T.fld135_0 rfl (show 0 + 0 = 0 from rfl)) rfl ?_
  refine WOps.r (G.load1 T.one43 rfl (cell_blk (S5.blk 0 rfl) rfl)) rfl ?_
  have S6 := S5.emp
  have h07 : RowG 37 3 (.slice none 0 0) 0 [] [] := ⟨by simp, .inl ⟨_, rfl, rfl, rfl⟩⟩
  obtain ⟨A8, c9, G10, w11, E12, hR13, S14⟩ := St.append (P := Try.prog) S6 0 rfl T.elt43 h07 (hR4.rd (fun b o hb => S6.grp 2 rfl hb)).2 (Pk.ones L) (by simp only [maxLen]; omega) (by omega)
  change St _ _ _ [G10, [(p, .cells #[.slice A1 L.length c2, .int .i64 tm] 135 (0, 0))], R3] at S14
  refine WOps.e (E12 rfl rfl) rfl ?_
  refine WOps.p (G.assign rfl) rfl ?_
  refine WOps.nil ?_
  refine WEx.forget (l' := [(2, .slice A8 (0 + L.length) c9)]) ⟨rfl, trivial⟩ ?_
  refine WEx.then_ ?_
  refine WCode.ret ?_
  refine WEx.ret1 rfl rfl ?_
  simp only [Nat.zero_add, List.nil_append] at hR13 ⊢
  have S15 := S14.front 2 rfl
  change St _ _ _ [R3, G10, [(p, .cells #[.slice A1 L.length c2, .int .i64 tm] 135 (0, 0))]] at S15
  have S16 := S15.front 2 rfl
  change St _ _ _ [[(p, .cells #[.slice A1 L.length c2, .int .i64 tm] 135 (0, 0))], R3, G10] at S16
  exact ⟨_, _, _, rfl, hR13, by simpa using St.keep (As := [_, G10]) S16.join⟩

set_option maxRecDepth 100000 in
set_option maxHeartbeats 1000000 in
theorem ref_Send {p : Nat} {L : List Pk} {tm : Int} {GA : Grp} {w : World} (hA : AirG 135 p L tm GA) (hp : Hp w GA) (hL : L.length ≤ 1000) (x : Pk) (hx : x.d.size ≤ 9223372036854775807) :
    Calls Try.prog 68 [.pointer (some ⟨p, 0, none⟩), .agg #[.int .i64 x.f, .int .i64 x.t, .string x.d]].toArray w fun e w' => e = .returned (.int .i64 (sendE L x)) ∧ ∃ G', AirG 135 p (sendL L x) tm G' ∧ St w (· ∈ keys GA) w' [G'] := by
  have cs : (1500 < x.d.size) ∨ (¬ 1500 < x.d.size ∧ 1000 ≤ L.length) ∨ (¬ 1500 < x.d.size ∧ L.length < 1000) := by omega
  rcases cs with h | h | h
  · have S := St.init (Gs := [GA]) (by simpa using hp)
    have S := (S : St w (· ∈ keys [GA].flatten) w [GA])
    obtain ⟨A1, c2, R3, rfl, hR4⟩ := hA
    have hle := hR4.shape
    obtain ⟨_, _, hv, hle, _⟩ := hle; cases hv
    have S5 := S.split
    refine enter 25 [(0, .pointer (some ⟨p, 0, none⟩)), (1, .agg #[.int .i64 x.f, .int .i64 x.t, .string x.d])] Try.func68 rfl rfl rfl rfl ?_
    refine WCode.seq ?_
    refine WCode.region ?_
    obtain ⟨b6, w7, E8, S9, X10, L11⟩ := St.box S5 Try.prog 37 (.agg #[.int .i64 x.f, .int .i64 x.t, .string x.d])
    change St _ _ _ [[(b6, .cells #[.int .i64 x.f, .int .i64 x.t, .string x.d] 37 (0, 0))], [(p, .cells #[.slice A1 L.length c2, .int .i64 tm] 135 (0, 0))], R3] at S9
    refine WOps.e (E8 rfl) rfl ?_
    refine WOps.p (G.assign rfl) rfl ?_
    refine WOps.nil ?_
    refine WEx.forget (l' := [(0, .pointer (some ⟨p, 0, none⟩)), (3, .pointer (some ⟨b6, 0, none⟩)), (4, .int .i64 0)]) ⟨rfl, rfl, rfl, trivial⟩ ?_
    refine WEx.then_ ?_
    refine WCode.seq ?_
    refine WCode.seq ?_
    refine WCode.region ?_
    refine WOps.p (G.field T.fld37_2 rfl (show 0 + 2 = 2 from rfl)) rfl ?_
    refine WOps.r (G.load1 T.one9 rfl (cell_blk (S9.blk 0 rfl) rfl)) rfl ?_
    refine WOps.p (G.lens T.str9 rfl) rfl ?_
    refine WOps.p (G.gtr rfl rfl (b := true) (decide_eq_true (by omega))) rfl ?_
    refine WOps.nil ?_
    refine WEx.forget (l' := [(0, .pointer (some ⟨p, 0, none⟩)), (3, .pointer (some ⟨b6, 0, none⟩)), (4, .int .i64 0), (8, .bool true)]) ⟨rfl, rfl, rfl, rfl, trivial⟩ ?_
    refine WEx.then_ ?_
    refine WCode.cond_t rfl ?_
    refine WCode.seq ?_
    refine WCode.region ?_
    refine WOps.p (G.assign rfl) rfl ?_
    refine WOps.nil ?_
    refine WEx.forget (l' := [(0, .pointer (some ⟨p, 0, none⟩)), (3, .pointer (some ⟨b6, 0, none⟩)), (4, .int .i64 131)]) ⟨rfl, rfl, rfl, trivial⟩ ?_
    refine WEx.then_ ?_
    refine WCode.ret ?_
    refine WEx.then_ret ?_
    refine WEx.ret1 rfl rfl ?_
    have S12 := S9.front 2 rfl
    change St _ _ _ [R3, [(b6, .cells #[.int .i64 x.f, .int .i64 x.t, .string x.d] 37 (0, 0))], [(p, .cells #[.slice A1 L.length c2, .int .i64 tm] 135 (0, 0))]] at S12
    have S13 := S12.front 2 rfl
    change St _ _ _ [[(p, .cells #[.slice A1 L.length c2, .int .i64 tm] 135 (0, 0))], R3, [(b6, .cells #[.int .i64 x.f, .int .i64 x.t, .string x.d] 37 (0, 0))]] at S13
    refine ⟨by rw [sendE, if_pos h], _, ⟨A1, c2, R3, by rw [sendL, if_pos h], by rw [sendL, if_pos h]; exact hR4⟩, by simpa using St.keep (As := [_]) S13.join⟩
  · have S := St.init (Gs := [GA]) (by simpa using hp)
    have S := (S : St w (· ∈ keys [GA].flatten) w [GA])
    obtain ⟨A1, c2, R3, rfl, hR4⟩ := hA
    have hle := hR4.shape
    obtain ⟨_, _, hv, hle, _⟩ := hle; cases hv
    have S5 := S.split
    refine enter 25 [(0, .pointer (some ⟨p, 0, none⟩)), (1, .agg #[.int .i64 x.f, .int .i64 x.t, .string x.d])] Try.func68 rfl rfl rfl rfl ?_
    refine WCode.seq ?_
    refine WCode.region ?_
    obtain ⟨b6, w7, E8, S9, X10, L11⟩ := St.box S5 Try.prog 37 (.agg #[.int .i64 x.f, .int .i64 x.t, .string x.d])
    change St _ _ _ [[(b6, .cells #[.int .i64 x.f, .int .i64 x.t, .string x.d] 37 (0, 0))], [(p, .cells #[.slice A1 L.length c2, .int .i64 tm] 135 (0, 0))], R3] at S9
    refine WOps.e (E8 rfl) rfl ?_
    refine WOps.p (G.assign rfl) rfl ?_
    refine WOps.nil ?_
    refine WEx.forget (l' := [(0, .pointer (some ⟨p, 0, none⟩)), (3, .pointer (some ⟨b6, 0, none⟩)), (4, .int .i64 0)]) ⟨rfl, rfl, rfl, trivial⟩ ?_
    refine WEx.then_ ?_
    refine WCode.seq ?_
    refine WCode.seq ?_
    refine WCode.region ?_
    refine WOps.p (G.field T.fld37_2 rfl (show 0 + 2 = 2 from rfl)) rfl ?_
    refine WOps.r (G.load1 T.one9 rfl (cell_blk (S9.blk 0 rfl) rfl)) rfl ?_
    refine WOps.p (G.lens T.str9 rfl) rfl ?_
    refine WOps.p (G.gtr rfl rfl (b := false) (decide_eq_false (by omega))) rfl ?_
    refine WOps.nil ?_
    refine WEx.forget (l' := [(0, .pointer (some ⟨p, 0, none⟩)), (3, .pointer (some ⟨b6, 0, none⟩)), (4, .int .i64 0), (8, .bool false)]) ⟨rfl, rfl, rfl, rfl, trivial⟩ ?_
    refine WEx.then_ ?_
    refine WCode.cond_f rfl ?_
    refine WCode.skip ?_
    refine WEx.then_ ?_
    refine WCode.forget (l' := [(0, .pointer (some ⟨p, 0, none⟩)), (3, .pointer (some ⟨b6, 0, none⟩)), (4, .int .i64 0)]) ⟨rfl, rfl, rfl, trivial⟩ ?_
    refine WCode.seq ?_
    refine WCode.seq ?_
    refine WCode.region ?_
    refine WOps.p (G.move rfl) rfl ?_
    refine WOps.p (G.nilp rfl) rfl ?_
    refine WOps.p (G.field T.fld135_0 rfl (show 0 + 0 = 0 from rfl)) rfl ?_
    refine WOps.r (G.load1 T.one43 rfl (cell_blk (S9.blk 1 rfl) rfl)) rfl ?_
    refine WOps.p (G.len T.el43 rfl) rfl ?_
    refine WOps.p (G.geq rfl rfl (b := true) (decide_eq_true (by omega))) rfl ?_
    refine WOps.nil ?_
    refine WEx.forget (l' := [(0, .pointer (some ⟨p, 0, none⟩)), (3, .pointer (some ⟨b6, 0, none⟩)), (4, .int .i64 0), (14, .bool true)]) ⟨rfl, rfl, rfl, rfl, trivial⟩ ?_
    refine WEx.then_ ?_
    refine WCode.cond_t rfl ?_
    refine WCode.seq ?_
    refine WCode.region ?_
    refine WOps.p (G.assign rfl) rfl ?_
    refine WOps.nil ?_
    refine WEx.forget (l' := [(0, .pointer (some ⟨p, 0, none⟩)), (3, .pointer (some ⟨b6, 0, none⟩)), (4, .int .i64 132)]) ⟨rfl, rfl, rfl, trivial⟩ ?_
    refine WEx.then_ ?_
    refine WCode.ret ?_
    refine WEx.then_ret ?_
    refine WEx.ret1 rfl rfl ?_
    have S12 := S9.front 2 rfl
    change St _ _ _ [R3, [(b6, .cells #[.int .i64 x.f, .int .i64 x.t, .string x.d] 37 (0, 0))], [(p, .cells #[.slice A1 L.length c2, .int .i64 tm] 135 (0, 0))]] at S12
    have S13 := S12.front 2 rfl
    change St _ _ _ [[(p, .cells #[.slice A1 L.length c2, .int .i64 tm] 135 (0, 0))], R3, [(b6, .cells #[.int .i64 x.f, .int .i64 x.t, .string x.d] 37 (0, 0))]] at S13
    refine ⟨by rw [sendE, if_neg h.1, putE, if_pos h.2], _, ⟨A1, c2, R3, by rw [sendL, if_neg h.1, putL, if_pos h.2], by rw [sendL, if_neg h.1, putL, if_pos h.2]; exact hR4⟩, by simpa using St.keep (As := [_]) S13.join⟩
  · have S := St.init (Gs := [GA]) (by simpa using hp)
    have S := (S : St w (· ∈ keys [GA].flatten) w [GA])
    obtain ⟨A1, c2, R3, rfl, hR4⟩ := hA
    have hle := hR4.shape
    obtain ⟨_, _, hv, hle, _⟩ := hle; cases hv
    have S5 := S.split
    refine enter 25 [(0, .pointer (some ⟨p, 0, none⟩)), (1, .agg #[.int .i64 x.f, .int .i64 x.t, .string x.d])] Try.func68 rfl rfl rfl rfl ?_
    refine WCode.seq ?_
    refine WCode.region ?_
    obtain ⟨b6, w7, E8, S9, X10, L11⟩ := St.box S5 Try.prog 37 (.agg #[.int .i64 x.f, .int .i64 x.t, .string x.d])
    change St _ _ _ [[(b6, .cells #[.int .i64 x.f, .int .i64 x.t, .string x.d] 37 (0, 0))], [(p, .cells #[.slice A1 L.length c2, .int .i64 tm] 135 (0, 0))], R3] at S9
    refine WOps.e (E8 rfl) rfl ?_
    refine WOps.p (G.assign rfl) rfl ?_
    refine WOps.nil ?_
    refine WEx.forget (l' := [(0, .pointer (some ⟨p, 0, none⟩)), (3, .pointer (some ⟨b6, 0, none⟩)), (4, .int .i64 0)]) ⟨rfl, rfl, rfl, trivial⟩ ?_
    refine WEx.then_ ?_
    refine WCode.seq ?_
    refine WCode.seq ?_
    refine WCode.region ?_
    refine WOps.p (G.field T.fld37_2 rfl (show 0 + 2 = 2 from rfl)) rfl ?_
    refine WOps.r (G.load1 T.one9 rfl (cell_blk (S9.blk 0 rfl) rfl)) rfl ?_
    refine WOps.p (G.lens T.str9 rfl) rfl ?_
    refine WOps.p (G.gtr rfl rfl (b := false) (decide_eq_false (by omega))) rfl ?_
    refine WOps.nil ?_
    refine WEx.forget (l' := [(0, .pointer (some ⟨p, 0, none⟩)), (3, .pointer (some ⟨b6, 0, none⟩)), (4, .int .i64 0), (8, .bool false)]) ⟨rfl, rfl, rfl, rfl, trivial⟩ ?_
    refine WEx.then_ ?_
    refine WCode.cond_f rfl ?_
    refine WCode.skip ?_
    refine WEx.then_ ?_
    refine WCode.forget (l' := [(0, .pointer (some ⟨p, 0, none⟩)), (3, .pointer (some ⟨b6, 0, none⟩)), (4, .int .i64 0)]) ⟨rfl, rfl, rfl, trivial⟩ ?_
    refine WCode.seq ?_
    refine WCode.seq ?_
    refine WCode.region ?_
    refine WOps.p (G.move rfl) rfl ?_
    refine WOps.p (G.nilp rfl) rfl ?_
    refine WOps.p (G.field T.fld135_0 rfl (show 0 + 0 = 0 from rfl)) rfl ?_
    refine WOps.r (G.load1 T.one43 rfl (cell_blk (S9.blk 1 rfl) rfl)) rfl ?_
    refine WOps.p (G.len T.el43 rfl) rfl ?_
    refine WOps.p (G.geq rfl rfl (b := false) (decide_eq_false (by omega))) rfl ?_
    refine WOps.nil ?_
    refine WEx.forget (l' := [(0, .pointer (some ⟨p, 0, none⟩)), (3, .pointer (some ⟨b6, 0, none⟩)), (4, .int .i64 0), (14, .bool false)]) ⟨rfl, rfl, rfl, rfl, trivial⟩ ?_
    refine WEx.then_ ?_
    refine WCode.cond_f rfl ?_
    refine WCode.skip ?_
    refine WEx.then_ ?_
    refine WCode.forget (l' := [(0, .pointer (some ⟨p, 0, none⟩)), (3, .pointer (some ⟨b6, 0, none⟩)), (4, .int .i64 0)]) ⟨rfl, rfl, rfl, trivial⟩ ?_
    refine WCode.seq ?_
    refine WCode.draw [⟨0, 0, []⟩, ⟨1, 0, []⟩, ⟨2, 0, []⟩, ⟨3, 0, []⟩, ⟨4, 1, [7, 8, 9, 10]⟩, ⟨5, 1, [6, 7, 8, 9, 10]⟩, ⟨6, 2, []⟩, ⟨7, 2, []⟩, ⟨8, 0, []⟩, ⟨9, 0, []⟩, ⟨10, 2, []⟩] T.mixed (by kernel_rfl) (by intro _ _ d _ _ h; cases d <;> exact h) rfl (by kernel_rfl) ?_
    have S12 := S9.drew
    generalize w7.drew = w13 at *
    refine WD.p rfl (G.move rfl) rfl ?_
    refine WD.p rfl (G.move rfl) rfl ?_
    refine WD.p rfl (G.nilp rfl) rfl ?_
    refine WD.p rfl (G.field T.fld135_0 rfl (show 0 + 0 = 0 from rfl)) rfl ?_
    refine WD.r rfl (G.load1 T.one43 rfl (cell_blk (S12.blk 1 rfl) rfl)) rfl ?_
    refine WD.r rfl (G.loada T.agg37_3 rfl (cs := [.int .i64 x.f, .int .i64 x.t, .string x.d]) (cellsAt.of_blk (S12.blk 0 rfl) rfl)) rfl ?_
    obtain ⟨b14, w15, E16, S17, X18, L19⟩ := St.lit S12 (P := Try.prog) (t := 43) (e := 37) (n := 1) (vs := [(0, .agg #[.int .i64 x.f, .int .i64 x.t, .string x.d])]) (cs := #[.int .i64 x.f, .int .i64 x.t, .string x.d]) (by kernel_rfl)
    change St _ _ _ [[(b14, .cells #[.int .i64 x.f, .int .i64 x.t, .string x.d] 37 (0, 0))], [(b6, .cells #[.int .i64 x.f, .int .i64 x.t, .string x.d] 37 (0, 0))], [(p, .cells #[.slice A1 L.length c2, .int .i64 tm] 135 (0, 0))], R3] at S17
    refine WD.e rfl (E16 (evp_cons rfl evp_nil)) rfl ?_
    obtain ⟨A20, c21, G22, w23, E24, hR25, S26⟩ := St.append (P := Try.prog) S17 3 rfl T.elt43 hR4 (Rd.of_blk (S17.blk 0 rfl) (n := 1) (sz := 3) rfl) x.one (by simp only [maxLen]; omega) (by omega)
    change St _ _ _ [[(b14, .cells #[.int .i64 x.f, .int .i64 x.t, .string x.d] 37 (0, 0))], [(b6, .cells #[.int .i64 x.f, .int .i64 x.t, .string x.d] 37 (0, 0))], [(p, .cells #[.slice A1 L.length c2, .int .i64 tm] 135 (0, 0))], G22] at S26
    refine WD.e rfl (E24 rfl rfl) rfl ?_
    refine WD.p rfl (G.nilp rfl) rfl ?_
    refine WD.p rfl (G.field T.fld135_0 rfl (show 0 + 0 = 0 from rfl)) rfl ?_
    obtain ⟨w27, E28, S29⟩ := St.store (P := Try.prog) S26 2 43 (.slice A20 (L.length + 1) c21) (off := 0) (cur' := #[.slice A20 (L.length + 1) c21, .int .i64 tm]) rfl T.size43_1 rfl rfl rfl
    change St _ _ _ [[(b14, .cells #[.int .i64 x.f, .int .i64 x.t, .string x.d] 37 (0, 0))], [(b6, .cells #[.int .i64 x.f, .int .i64 x.t, .string x.d] 37 (0, 0))], [(p, .cells #[.slice A20 (L.length + 1) c21, .int .i64 tm] 135 (0, 0))], G22] at S29
    refine WD.u rfl (E28 rfl rfl) ?_
    refine WD.nil ?_
    refine WEx.forget (l' := [(4, .int .i64 0)]) ⟨rfl, trivial⟩ ?_
    refine WEx.then_ ?_
    refine WCode.seq ?_
    refine WCode.region ?_
    refine WOps.p (G.assign rfl) rfl ?_
    refine WOps.nil ?_
    refine WEx.then_ ?_
    refine WCode.ret ?_
    refine WEx.ret1 rfl rfl ?_
    have S31 := S29.front 3 rfl
    change St _ _ _ [G22, [(b14, .cells #[.int .i64 x.f, .int .i64 x.t, .string x.d] 37 (0, 0))], [(b6, .cells #[.int .i64 x.f, .int .i64 x.t, .string x.d] 37 (0, 0))], [(p, .cells #[.slice A20 (L.length + 1) c21, .int .i64 tm] 135 (0, 0))]] at S31
    have S32 := S31.front 3 rfl
    change St _ _ _ [[(p, .cells #[.slice A20 (L.length + 1) c21, .int .i64 tm] 135 (0, 0))], G22, [(b14, .cells #[.int .i64 x.f, .int .i64 x.t, .string x.d] 37 (0, 0))], [(b6, .cells #[.int .i64 x.f, .int .i64 x.t, .string x.d] 37 (0, 0))]] at S32
    have S33 := S32.join
    have S34 := St.keep (As := [[(p, .cells #[.slice A20 (L.length + 1) c21, .int .i64 tm] 135 (0, 0))] ++ G22]) S33
    refine ⟨by rw [sendE, if_neg h.1, putE, if_neg (by omega)], _, AirG.mk hR25 (by rw [sendL, if_neg h.1, putL, if_neg (by omega)]; simp) (by rw [sendL, if_neg h.1, putL, if_neg (by omega)]; rw [cellsOf_append, cellsOf_one]; rfl), by simpa using S34⟩

end Go.Proofs.Ytoahkjehjmbojaa
