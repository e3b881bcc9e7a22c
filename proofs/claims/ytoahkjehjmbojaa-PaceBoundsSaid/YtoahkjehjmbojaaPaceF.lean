/- Walks (printed by gen.py over the engine). -/
import Derived.Test.YtoahkjehjmbojaaPaceE
import Derived.Test.YtoahkjehjmbojaaFl
namespace Go.Proofs.Ytoahkjehjmbojaa
open Go Go.Eng
set_option linter.unusedSimpArgs false
set_option linter.unusedVariables false


theorem IntWalk_sub {a b : Nat} (h : a ≤ b) (hb : b ≤ 1048576) : IntKind.i64.wrap ((b : Int) - (a : Int)) = ((b - a : Nat) : Int) := by
  rw [IntWalk.i64_in _ (by omega)]; omega
open Go.Eng.F32 in
theorem hear_b0 (z : Int) {k : Nat} (hk : cl z = k) (hk1 : k ≤ 1048576) : ∃ m' s', HearR false 0 0 z m' s' ∧ MOk true m' s' ∧ BOk m' s' k k k := by
  refine ⟨fi k, hf k, .inl ⟨rfl, by rw [hk]; exact fi_eq hk1, hf_eq hk1⟩, ⟨fi_le hk1, Nat.le_trans (hf_le k) (fi_le hk1), fun h => by cases h⟩, Nat.le_refl _, hk1, hk1, Nat.le_refl _, Nat.le_refl _, Nat.le_max_left _ _⟩
open Go.Eng.F32 in
theorem hearS {m s x : Nat} (hm : m < 2139095040) (hs : s < 2139095040) (hx : x < 2139095040) : ∃ m' s' E, HearS m s x m' s' ∧
      min m x ≤ m' ∧ m' ≤ max m x ∧ min s E ≤ s' ∧ s' ≤ max s E ∧ (∀ z, rv x ≤ rv m + rv z → rv m ≤ rv x + rv z → E ≤ z) := by
  obtain ⟨m', s', E, hH, h1, h2, h3, h4, h5, h6⟩ := hear hm hs hx
  exact ⟨m', s', E, hH, h1, h2, h3, h4, h6⟩
theorem hearR_true {m s x m' s' : Nat} {z : Int} (hfo : floatOfInt .f32 (cl z) = x) (h : HearS m s x m' s') : HearR true m s z m' s' := Or.inr ⟨rfl, x, hfo, h⟩
open Go.Eng.F32 in
theorem hear_b (z : Int) {k m s least most first : Nat} (hk : cl z = k) (hk1 : k ≤ 1048576) (hM : MOk true m s) (hB : BOk m s least most first) :
    ∃ m' s', HearR true m s z m' s' ∧ MOk true m' s' ∧ BOk m' s' (min least k) (max most k) first := by
  have hm := hM.hm
  have hs := hM.hs
  obtain ⟨x, hxk⟩ : ∃ x, x = fi k := ⟨_, rfl⟩
  have hx : x ≤ 1233125376 := by rw [hxk]; exact fi_le hk1
  have hfo : floatOfInt .f32 (cl z) = x := by rw [hk, hxk]; exact fi_eq hk1
  obtain ⟨lm, mo, f, lo, hi, hsp⟩ := hB
  obtain ⟨m', s', E, hH, h1, h2, h3, h4, h6⟩ := hearS (m := m) (s := s) (x := x) (by omega) (by omega) (by omega)
  have hR : HearR true m s z m' s' := hearR_true hfo hH
  clear hH
  have hE : E ≤ fi (max most k - min least k) := by
    have r1 := rv_mono lo
    have r2 := rv_mono hi
    obtain ⟨U, hU⟩ : ∃ U : Nat, ∀ n, n ≤ 1048576 → rv (fi n) = n * U := ⟨2 ^ 149, fun n h => fi_rv h⟩
    have ek : rv x = k * U := by rw [hxk]; exact hU k hk1
    have el := hU least (by omega)
    have em := hU most mo
    have ed := hU (max most k - min least k) (by omega)
    clear hU
    have a1 : k * U ≤ least * U + (max most k - min least k) * U := by rw [← Nat.add_mul]; exact Nat.mul_le_mul_right _ (by omega)
    have a2 : most * U ≤ k * U + (max most k - min least k) * U := by rw [← Nat.add_mul]; exact Nat.mul_le_mul_right _ (by omega)
    rw [el] at r1
    rw [em] at r2
    refine h6 _ ?_ ?_
    · rw [ek, ed]; exact Nat.le_trans a1 (Nat.add_le_add_right r1 _)
    · rw [ek, ed]; exact Nat.le_trans r2 a2
  have c1 : min least k ≤ max most k := Nat.le_trans (Nat.min_le_left _ _) (Nat.le_trans lm (Nat.le_max_left _ _))
  have c2 : max most k ≤ 1048576 := Nat.max_le.2 ⟨mo, hk1⟩
  have w1 : fi (most - least) ≤ fi (max most k - min least k) := fi_mono (Nat.le_trans (Nat.sub_le_sub_right (Nat.le_max_left _ _) _) (Nat.sub_le_sub_left (Nat.min_le_left _ _) _))
  have l1 : fi (min least k) ≤ fi least := fi_mono (Nat.min_le_left _ _)
  have l2 : fi (min least k) ≤ x := by rw [hxk]; exact fi_mono (Nat.min_le_right _ _)
  have m1 : fi most ≤ fi (max most k) := fi_mono (Nat.le_max_left _ _)
  have m2 : x ≤ fi (max most k) := by rw [hxk]; exact fi_mono (Nat.le_max_right _ _)
  have ew := fi_le (n := max most k - min least k) (Nat.le_trans (Nat.sub_le _ _) c2)
  have b3 : fi (min least k) ≤ m' := Nat.le_trans (Nat.le_min.2 ⟨Nat.le_trans l1 lo, l2⟩) h1
  have b4 : m' ≤ fi (max most k) := Nat.le_trans h2 (Nat.max_le.2 ⟨Nat.le_trans hi m1, m2⟩)
  have b5 : s' ≤ max (hf first) (fi (max most k - min least k)) := Nat.le_trans h4 (Nat.max_le.2 ⟨Nat.le_trans hsp (Nat.max_le.2 ⟨Nat.le_max_left _ _, Nat.le_trans w1 (Nat.le_max_right _ _)⟩), Nat.le_trans hE (Nat.le_max_right _ _)⟩)
  exact ⟨m', s', hR, ⟨Nat.le_trans h2 (Nat.max_le.2 ⟨hm, hx⟩), Nat.le_trans h4 (Nat.max_le.2 ⟨hs, Nat.le_trans hE ew⟩), fun h => by cases h⟩, ⟨c1, c2, f, b3, b4, b5⟩⟩
open Go.Eng.F32 in
theorem guess_b {m s : Nat} (hM : MOk true m s) : ∃ q : Nat, q ≤ 1048576 ∧ m ≤ fi q ∧ GuessS m s (q : Int) := by
  obtain ⟨n, h1, h2, h3⟩ := guess hM.hm hM.hs
  exact ⟨n, h1, by rw [fi_def]; exact h2, h3⟩

set_option maxRecDepth 100000 in
set_option maxHeartbeats 1000000 in
theorem law_bounds {w : World} {A : Option Addr} {cp : Nat} {L : List Int} (hL : Rd w A L.length 1 (cellsOf Num.cs L)) (hok : ∀ x ∈ L, i64 x) (h63 : L.length ≤ 9223372036854775807) :
    Calls Try.prog 8 [.slice A L.length cp].toArray w fun e w' => e = .returned (.bool true) ∧ St w (fun _ => False) w' [] := by
  have S := St.init0 w
  refine enter 107 [(0, .slice A L.length cp)] Try.func8 rfl rfl rfl rfl ?_
  refine WCode.seq ?_
  refine WCode.region ?_
  refine WOps.p (G.assign rfl) rfl ?_
  refine WOps.nil ?_
  refine WEx.then_ ?_
  refine WCode.seq ?_
  refine WCode.region ?_
  refine WOps.call T.call26 evs_nil rfl ?_
  refine (law_awake).mono ?_
  rintro _ w2 ⟨rfl, T1⟩
  have S3 := S.call0 T1
  have X4 := T1.ext0
  change St _ _ _ [] at S3
  refine ⟨_, rfl, ?_⟩
  refine WOps.p (G.assign rfl) rfl ?_
  refine WOps.nil ?_
  refine WEx.forget (l' := [(0, .slice A L.length cp), (2, .bool false), (3, .bool true)]) ⟨rfl, rfl, rfl, trivial⟩ ?_
  refine WEx.then_ ?_
  refine WCode.seq ?_
  refine WCode.region ?_
  refine WOps.call T.call33 evs_nil rfl ?_
  refine pace_New.mono ?_
  rintro _ w5 ⟨p8, rfl, T6⟩
  have S7 := S3.call0 T6
  change St _ _ _ [[(p8, .cells #[.bool false, .float .f32 0, .float .f32 0] 140 (0, 0))]] at S7
  refine ⟨_, rfl, ?_⟩
  refine WOps.p (G.assign rfl) rfl ?_
  refine WOps.nil ?_
  refine WEx.forget (l' := [(0, .slice A L.length cp), (2, .bool false), (3, .bool true), (4, .pointer (some ⟨p8, 0, none⟩))]) ⟨rfl, rfl, rfl, rfl, trivial⟩ ?_
  refine WEx.then_ ?_
  refine WCode.seq ?_
  refine WCode.seq ?_
  refine WCode.region ?_
  refine WOps.p (G.move rfl) rfl ?_
  refine WOps.p (G.not rfl rfl) rfl ?_
  refine WOps.p (G.move rfl) rfl ?_
  refine WOps.on rfl rfl ?_
  refine WOps.p (G.move rfl) rfl ?_
  refine WOps.on rfl rfl ?_
  refine WOps.p (G.eqp_nil Try.underlying59 rfl rfl (b := false) rfl) rfl ?_
  refine WOps.p (G.pick_f rfl rfl) rfl ?_
  refine WOps.p (G.move rfl) rfl ?_
  refine WOps.on rfl rfl ?_
  refine WOps.p (G.move rfl) rfl ?_
  refine WOps.on rfl rfl ?_
  refine WOps.call T.call34 (evs_cons rfl evs_nil) rfl ?_
  refine (pace_Mean S7.hp1 ).mono ?_
  rintro _ w9 ⟨rfl, T10⟩
  have S11 := S7.call1 T10
  change St _ _ _ [[(p8, .cells #[.bool false, .float .f32 0, .float .f32 0] 140 (0, 0))]] at S11
  refine ⟨_, rfl, ?_⟩
  refine WOps.on rfl rfl ?_
  refine WOps.p (G.fneq rfl rfl (v := false) (by kernel_rfl)) rfl ?_
  refine WOps.p (G.pick_f rfl rfl) rfl ?_
  refine WOps.p (G.move rfl) rfl ?_
  refine WOps.on rfl rfl ?_
  refine WOps.p (G.move rfl) rfl ?_
  refine WOps.on rfl rfl ?_
  refine WOps.call T.call35 (evs_cons rfl evs_nil) rfl ?_
  refine (pace_Spread S11.hp1 ).mono ?_
  rintro _ w12 ⟨rfl, T13⟩
  have S14 := S11.call1 T13
  change St _ _ _ [[(p8, .cells #[.bool false, .float .f32 0, .float .f32 0] 140 (0, 0))]] at S14
  refine ⟨_, rfl, ?_⟩
  refine WOps.on rfl rfl ?_
  refine WOps.p (G.fneq rfl rfl (v := false) (by kernel_rfl)) rfl ?_
  refine WOps.p (G.pick_f rfl rfl) rfl ?_
  refine WOps.p (G.move rfl) rfl ?_
  refine WOps.on rfl rfl ?_
  refine WOps.p (G.move rfl) rfl ?_
  refine WOps.on rfl rfl ?_
  refine WOps.call T.call36 (evs_cons rfl evs_nil) rfl ?_
  refine (pace_Guess0 S14.hp1 ).mono ?_
  rintro _ w15 ⟨rfl, T16⟩
  have S17 := S14.call1 T16
  change St _ _ _ [[(p8, .cells #[.bool false, .float .f32 0, .float .f32 0] 140 (0, 0))]] at S17
  refine ⟨_, rfl, ?_⟩
  refine WOps.on rfl rfl ?_
  refine WOps.p (G.neq rfl rfl (b := false) rfl) rfl ?_
  refine WOps.p (G.pick_f rfl rfl) rfl ?_
  refine WOps.nil ?_
  refine WEx.forget (l' := [(0, .slice A L.length cp), (2, .bool false), (4, .pointer (some ⟨p8, 0, none⟩)), (36, .bool false)]) ⟨rfl, rfl, rfl, rfl, trivial⟩ ?_
  refine WEx.then_ ?_
  refine WCode.cond_f rfl ?_
  refine WCode.skip ?_
  refine WEx.then_ ?_
  refine WCode.forget (l' := [(0, .slice A L.length cp), (2, .bool false), (4, .pointer (some ⟨p8, 0, none⟩))]) ⟨rfl, rfl, rfl, trivial⟩ ?_
  refine WCode.seq ?_
  refine WCode.region ?_
  refine WOps.p (G.assign rfl) rfl ?_
  refine WOps.nil ?_
  refine WEx.then_ ?_
  refine WCode.seq ?_
  refine WCode.region ?_
  refine WOps.p (G.assign rfl) rfl ?_
  refine WOps.nil ?_
  refine WEx.then_ ?_
  refine WCode.seq ?_
  refine WCode.region ?_
  refine WOps.p (G.assign rfl) rfl ?_
  refine WOps.nil ?_
  refine WEx.then_ ?_
  refine WCode.seq ?_
  refine WCode.seq ?_
  refine WCode.region ?_
  refine WOps.p (G.assign rfl) rfl ?_
  refine WOps.nil ?_
  refine WEx.then_ ?_
  refine WCode.block ?_
  refine WCode.forget (l' := [(0, .slice A L.length cp), (2, .bool false), (4, .pointer (some ⟨p8, 0, none⟩)), (5, .int .i64 0), (6, .int .i64 0), (7, .int .i64 0), (8, .int .i64 0)]) ⟨rfl, rfl, rfl, rfl, rfl, rfl, rfl, trivial⟩ ?_
  refine WCode.loop (fun n_ l_ w' => ∃ i : Nat, ∃ hd : Bool, ∃ m : Nat, ∃ s : Nat, ∃ least : Nat, ∃ most : Nat, ∃ first : Nat, l_ = [(0, .slice A L.length cp), (2, .bool false), (4, .pointer (some ⟨p8, 0, none⟩)), (5, .int .i64 ((least : Nat) : Int)), (6, .int .i64 ((most : Nat) : Int)), (7, .int .i64 ((first : Nat) : Int)), (8, .int .i64 ((i : Nat) : Int))] ∧ n_ = L.length - i ∧ (i ≤ L.length) ∧ (MOk hd m s) ∧ (i = 0 → hd = false ∧ least = 0 ∧ most = 0 ∧ first = 0) ∧ (0 < i → hd = true ∧ F32.BOk m s least most first) ∧ St w (fun _ => False) w' [[(p8, .cells #[.bool hd, .float .f32 m, .float .f32 s] 140 (0, 0))]]) _ ⟨0, false, 0, 0, 0, 0, 0, rfl, rfl, (Nat.zero_le _), (MOk.zero), (fun _ => ⟨rfl, rfl, rfl, rfl⟩), (fun q => by omega), S17⟩ ?_
  rintro _ _ w18 ⟨i, hd, m, s, least, most, first, rfl, rfl, hi, hM, hz, hp, S19⟩
  have cs_ : (i = L.length) ∨ (i < L.length ∧ i = 0) ∨ (i < L.length ∧ 0 < i) := by omega
  rcases cs_ with h | h | h
  ·
    refine WCode.seq ?_
    refine WCode.seq ?_
    refine WCode.region ?_
    refine WOps.p (G.move rfl) rfl ?_
    refine WOps.p (G.move rfl) rfl ?_
    refine WOps.p (G.len T.el33 rfl) rfl ?_
    refine WOps.p (G.lss rfl rfl (b := false) (decide_eq_false (by omega))) rfl ?_
    refine WOps.nil ?_
    refine WEx.then_ ?_
    refine WCode.cond_f rfl ?_
    refine WCode.exit ?_
    refine WEx.then_exit ?_
    refine WEx.then_exit ?_
    refine WEx.in_exit ?_
    refine WEx.then_ ?_
    refine WCode.forget (l' := [(2, .bool false)]) ⟨rfl, trivial⟩ ?_
    refine WCode.seq ?_
    refine WCode.region ?_
    refine WOps.p (G.assign rfl) rfl ?_
    refine WOps.nil ?_
    refine WEx.then_ ?_
    refine WCode.ret ?_
    refine WEx.ret1 rfl rfl ?_
    exact ⟨rfl, St.keep (As := []) S19⟩
  ·
    obtain ⟨hlt, rfl⟩ := h
    obtain ⟨rfl, rfl, rfl, rfl⟩ := hz rfl
    obtain ⟨rfl, rfl⟩ := hM.hz rfl
    obtain ⟨z, hx⟩ : ∃ x, L[0]? = some x := ⟨_, List.getElem?_eq_getElem hlt⟩
    have oz := hok z (List.mem_of_getElem? hx)
    obtain ⟨k, hk, hk1⟩ := cl_nat z
    obtain ⟨m', s', hH, hM', hB'⟩ := hear_b0 z hk hk1
    obtain ⟨q, hq, hqm, hg⟩ := guess_b hM'
    refine WCode.seq ?_
    refine WCode.seq ?_
    refine WCode.region ?_
    refine WOps.p (G.move rfl) rfl ?_
    refine WOps.p (G.move rfl) rfl ?_
    refine WOps.p (G.len T.el33 rfl) rfl ?_
    refine WOps.p (G.lss rfl rfl (b := true) (decide_eq_true (by omega))) rfl ?_
    refine WOps.nil ?_
    refine WEx.then_ ?_
    refine WCode.cond_t rfl ?_
    refine WCode.skip ?_
    refine WEx.then_ ?_
    refine WCode.seq ?_
    refine WCode.block ?_
    refine WCode.seq ?_
    refine WCode.region ?_
    refine WOps.p (G.move rfl) rfl ?_
    refine WOps.p (G.move rfl) rfl ?_
    obtain ⟨b20, o21, ea22, ca23⟩ := Rd.at_ Num.len (hL.ext S19.ext0) hx rfl
    cases ea22
    refine WOps.p (G.index T.el33 rfl rfl (j := 0) hlt rfl) rfl ?_
    refine WOps.r (G.load1 T.one3 rfl (cellsAt.at0 ca23)) rfl ?_
    refine WOps.p (G.max rfl rfl (show _ = (if 0 > z then 0 else z) from rfl)) rfl ?_
    refine WOps.p (G.min rfl rfl (show _ = ((k : Nat) : Int) from (by rw [← hk]; unfold cl; (repeat' split) <;> omega))) rfl ?_
    refine WOps.p (G.assign rfl) rfl ?_
    refine WOps.nil ?_
    refine WEx.then_ ?_
    refine WCode.seq ?_
    refine WCode.seq ?_
    refine WCode.region ?_
    refine WOps.p (G.move rfl) rfl ?_
    refine WOps.p (G.eql rfl rfl (b := true) (decide_eq_true (by omega))) rfl ?_
    refine WOps.nil ?_
    refine WEx.then_ ?_
    refine WCode.cond_t rfl ?_
    refine WCode.seq ?_
    refine WCode.region ?_
    refine WOps.p (G.move rfl) rfl ?_
    refine WOps.p (G.assign rfl) rfl ?_
    refine WOps.nil ?_
    refine WEx.then_ ?_
    refine WCode.seq ?_
    refine WCode.region ?_
    refine WOps.p (G.move rfl) rfl ?_
    refine WOps.p (G.assign rfl) rfl ?_
    refine WOps.nil ?_
    refine WEx.then_ ?_
    refine WCode.region ?_
    refine WOps.p (G.move rfl) rfl ?_
    refine WOps.p (G.assign rfl) rfl ?_
    refine WOps.nil ?_
    refine WEx.then_ ?_
    refine WCode.seq ?_
    refine WCode.region ?_
    refine WOps.p (G.move rfl) rfl ?_
    refine WOps.p (G.move rfl) rfl ?_
    refine WOps.p (G.min rfl rfl (show _ = ((k : Nat) : Int) from (by simp))) rfl ?_
    refine WOps.p (G.assign rfl) rfl ?_
    refine WOps.nil ?_
    refine WEx.then_ ?_
    refine WCode.seq ?_
    refine WCode.region ?_
    refine WOps.p (G.move rfl) rfl ?_
    refine WOps.p (G.move rfl) rfl ?_
    refine WOps.p (G.max rfl rfl (show _ = ((k : Nat) : Int) from (by simp))) rfl ?_
    refine WOps.p (G.assign rfl) rfl ?_
    refine WOps.nil ?_
    refine WEx.then_ ?_
    refine WCode.seq ?_
    refine WCode.region ?_
    refine WOps.p (G.move rfl) rfl ?_
    refine WOps.p (G.move rfl) rfl ?_
    refine WOps.p (G.move rfl) rfl ?_
    obtain ⟨b24, o25, ea26, ca27⟩ := Rd.at_ Num.len (hL.ext S19.ext0) hx rfl
    cases ea26
    refine WOps.p (G.index T.el33 rfl rfl (j := 0) hlt rfl) rfl ?_
    refine WOps.r (G.load1 T.one3 rfl (cellsAt.at0 ca27)) rfl ?_
    refine WOps.call T.call38 (evs_cons rfl (evs_cons rfl evs_nil)) rfl ?_
    refine (pace_Hear S19.hp1 oz hH).mono ?_
    rintro _ w28 ⟨rfl, T29⟩
    have S30 := S19.call1 T29
    change St _ _ _ [[(p8, .cells #[.bool true, .float .f32 m', .float .f32 s'] 140 (0, 0))]] at S30
    refine ⟨_, rfl, ?_⟩
    refine WOps.nil ?_
    refine WEx.forget (l' := [(0, .slice (some ⟨b20, o21, none⟩) L.length cp), (2, .bool false), (4, .pointer (some ⟨p8, 0, none⟩)), (5, .int .i64 ((k : Nat) : Int)), (6, .int .i64 ((k : Nat) : Int)), (7, .int .i64 ((k : Nat) : Int)), (8, .int .i64 ((0 : Nat) : Int)), (9, .int .i64 ((k : Nat) : Int)), (37, .int .i64 ((0 : Nat) : Int)), (38, .slice (some ⟨b20, o21, none⟩) L.length cp), (39, .int .i64 (L.length : Nat)), (40, .bool true), (43, .slice (some ⟨b20, o21, none⟩) L.length cp), (44, .int .i64 ((0 : Nat) : Int)), (45, .pointer (some ⟨b20, o21 + 0 * 1, none⟩)), (46, .int .i64 z), (47, .int .i64 (if 0 > z then 0 else z)), (48, .int .i64 ((k : Nat) : Int)), (49, .int .i64 ((0 : Nat) : Int)), (50, .bool true), (51, .int .i64 ((k : Nat) : Int)), (52, .int .i64 ((k : Nat) : Int)), (53, .int .i64 ((k : Nat) : Int)), (54, .int .i64 ((k : Nat) : Int)), (55, .int .i64 ((k : Nat) : Int)), (56, .int .i64 ((k : Nat) : Int)), (57, .int .i64 ((k : Nat) : Int)), (58, .int .i64 ((k : Nat) : Int)), (59, .int .i64 ((k : Nat) : Int)), (60, .pointer (some ⟨p8, 0, none⟩)), (61, .slice (some ⟨b20, o21, none⟩) L.length cp), (62, .int .i64 ((0 : Nat) : Int)), (63, .pointer (some ⟨b20, o21 + 0 * 1, none⟩)), (64, .int .i64 z)]) ⟨rfl, rfl, rfl, rfl, rfl, rfl, rfl, rfl, rfl, rfl, rfl, rfl, rfl, rfl, rfl, rfl, rfl, rfl, rfl, rfl, rfl, rfl, rfl, rfl, rfl, rfl, rfl, rfl, rfl, rfl, rfl, rfl, rfl, rfl, trivial⟩ ?_
    refine WEx.then_ ?_
    refine WCode.seq ?_
    refine WCode.region ?_
    refine WOps.p (G.move rfl) rfl ?_
    refine WOps.call T.call34 (evs_cons rfl evs_nil) rfl ?_
    refine (pace_Mean S30.hp1 ).mono ?_
    rintro _ w31 ⟨rfl, T32⟩
    have S33 := S30.call1 T32
    change St _ _ _ [[(p8, .cells #[.bool true, .float .f32 m', .float .f32 s'] 140 (0, 0))]] at S33
    refine ⟨_, rfl, ?_⟩
    refine WOps.p (G.assign rfl) rfl ?_
    refine WOps.nil ?_
    refine WEx.then_ ?_
    refine WCode.seq ?_
    refine WCode.region ?_
    refine WOps.p (G.move rfl) rfl ?_
    refine WOps.call T.call35 (evs_cons rfl evs_nil) rfl ?_
    refine (pace_Spread S33.hp1 ).mono ?_
    rintro _ w34 ⟨rfl, T35⟩
    have S36 := S33.call1 T35
    change St _ _ _ [[(p8, .cells #[.bool true, .float .f32 m', .float .f32 s'] 140 (0, 0))]] at S36
    refine ⟨_, rfl, ?_⟩
    refine WOps.p (G.assign rfl) rfl ?_
    refine WOps.nil ?_
    refine WEx.then_ ?_
    refine WCode.seq ?_
    refine WCode.region ?_
    refine WOps.p (G.move rfl) rfl ?_
    refine WOps.p (G.itof (k := .f32) (by kernel_rfl) Try.underlying62 rfl (r := (F32.fi k)) (F32.fi_eq hB'.f)) rfl ?_
    refine WOps.p (G.farith rfl rfl (r := (F32.hf k)) (F32.hf_eq hB'.f)) rfl ?_
    refine WOps.p (G.move rfl) rfl ?_
    refine WOps.p (G.move rfl) rfl ?_
    refine WOps.p (G.sub rfl rfl (show IntKind.i64.wrap (((k : Nat) : Int) - ((k : Nat) : Int)) = ((k - k : Nat) : Int) from (IntWalk_sub hB'.lm hB'.mo))) rfl ?_
    refine WOps.p (G.itof (k := .f32) (by kernel_rfl) Try.underlying62 rfl (r := (F32.fi (k - k))) (F32.fi_eq (by have := hB'.mo; omega))) rfl ?_
    refine WOps.p (F32.G.fmax rfl rfl (by have := F32.hf_le k; have := F32.fi_le hB'.f; omega) (by have := F32.fi_le (n := k - k) (by have := hB'.mo; omega); omega)) rfl ?_
    refine WOps.p (G.assign rfl) rfl ?_
    refine WOps.nil ?_
    refine WEx.then_ ?_
    refine WCode.seq ?_
    refine WCode.seq ?_
    refine WCode.region ?_
    refine WOps.p (G.move rfl) rfl ?_
    refine WOps.p (G.move rfl) rfl ?_
    refine WOps.p (G.itof (k := .f32) (by kernel_rfl) Try.underlying62 rfl (r := (F32.fi k)) (F32.fi_eq (by have := hB'.mo; have := hB'.lm; omega))) rfl ?_
    refine WOps.p (G.flss rfl rfl (v := false) (F32.lss_no (by have := hM'.hm; omega) (by have := F32.fi_le (n := k) (by have := hB'.mo; have := hB'.lm; omega); omega) hB'.lo)) rfl ?_
    refine WOps.p (G.move rfl) rfl ?_
    refine WOps.on rfl rfl ?_
    refine WOps.p (G.move rfl) rfl ?_
    refine WOps.on rfl rfl ?_
    refine WOps.p (G.move rfl) rfl ?_
    refine WOps.on rfl rfl ?_
    refine WOps.p (G.itof (k := .f32) (by kernel_rfl) Try.underlying62 rfl (r := (F32.fi k)) (F32.fi_eq hB'.mo)) rfl ?_
    refine WOps.on rfl rfl ?_
    refine WOps.p (G.fgtr rfl rfl (v := false) (F32.gtr_no (by have := hM'.hm; omega) (by have := F32.fi_le (n := k) (by have := hB'.mo; have := hB'.lm; omega); omega) hB'.hi)) rfl ?_
    refine WOps.p (G.pick_f rfl rfl) rfl ?_
    refine WOps.p (G.move rfl) rfl ?_
    refine WOps.on rfl rfl ?_
    refine WOps.p (G.move rfl) rfl ?_
    refine WOps.on rfl rfl ?_
    refine WOps.p (G.flss rfl rfl (v := false) (F32.lss_no (by have := hM'.hs; omega) (by decide) (Nat.zero_le _))) rfl ?_
    refine WOps.p (G.pick_f rfl rfl) rfl ?_
    refine WOps.p (G.move rfl) rfl ?_
    refine WOps.on rfl rfl ?_
    refine WOps.p (G.move rfl) rfl ?_
    refine WOps.on rfl rfl ?_
    refine WOps.p (G.move rfl) rfl ?_
    refine WOps.on rfl rfl ?_
    refine WOps.p (G.fgtr rfl rfl (v := false) (F32.gtr_no (by have := hM'.hs; omega) (by have := F32.hf_le k; have := F32.fi_le hB'.f; have := F32.fi_le (n := k - k) (by have := hB'.mo; omega); omega) hB'.s)) rfl ?_
    refine WOps.p (G.pick_f rfl rfl) rfl ?_
    refine WOps.nil ?_
    refine WEx.then_ ?_
    refine WCode.cond_f rfl ?_
    refine WCode.skip ?_
    refine WEx.then_ ?_
    refine WCode.seq ?_
    refine WCode.region ?_
    refine WOps.p (G.move rfl) rfl ?_
    refine WOps.call T.call36 (evs_cons rfl evs_nil) rfl ?_
    refine (pace_Guess S36.hp1 (.inr ⟨rfl, hg⟩)).mono ?_
    rintro _ w37 ⟨rfl, T38⟩
    have S39 := S36.call1 T38
    change St _ _ _ [[(p8, .cells #[.bool true, .float .f32 m', .float .f32 s'] 140 (0, 0))]] at S39
    refine ⟨_, rfl, ?_⟩
    refine WOps.p (G.assign rfl) rfl ?_
    refine WOps.nil ?_
    refine WEx.then_ ?_
    refine WCode.seq ?_
    refine WCode.region ?_
    refine WOps.p (G.move rfl) rfl ?_
    refine WOps.p (G.itof (k := .f32) (by kernel_rfl) Try.underlying62 rfl (r := (F32.fi q)) (F32.fi_eq hq)) rfl ?_
    refine WOps.p (G.move rfl) rfl ?_
    refine WOps.p (G.flss rfl rfl (v := false) (F32.lss_no (by have := F32.fi_le hq; omega) (by have := hM'.hm; omega) hqm)) rfl ?_
    refine WOps.p (G.move rfl) rfl ?_
    refine WOps.on rfl rfl ?_
    refine WOps.p (G.move rfl) rfl ?_
    refine WOps.on rfl rfl ?_
    refine WOps.p (G.gtr rfl rfl (b := false) (decide_eq_false (by omega))) rfl ?_
    refine WOps.p (G.pick_f rfl rfl) rfl ?_
    refine WOps.nil ?_
    refine WEx.then_ ?_
    refine WCode.cond_f rfl ?_
    refine WCode.skip ?_
    refine WEx.in_normal ?_
    refine WEx.then_ ?_
    refine WCode.region ?_
    refine WOps.p (G.move rfl) rfl ?_
    refine WOps.p (G.add rfl rfl (show IntKind.i64.wrap (((0 : Nat) : Int) + 1) = (((0 : Nat) : Int) + 1) from IntWalk.i64_in _ (by omega))) rfl ?_
    refine WOps.p (G.assign rfl) rfl ?_
    refine WOps.nil ?_
    refine WEx.again _ _ ?_ ?_ ⟨0 + 1, true, m', s', k, k, k, rfl, rfl, hlt, hM', (fun q => by omega), (fun _ => ⟨rfl, hB'⟩), S39⟩
    · omega
    · exact ⟨rfl, rfl, rfl, rfl, rfl, rfl, rfl, trivial⟩
  ·
    obtain ⟨hlt, h0⟩ := h
    obtain ⟨rfl, hB⟩ := hp h0
    obtain ⟨z, hx⟩ : ∃ x, L[i]? = some x := ⟨_, List.getElem?_eq_getElem hlt⟩
    have oz := hok z (List.mem_of_getElem? hx)
    obtain ⟨k, hk, hk1⟩ := cl_nat z
    have hBm := hB.mo; have hBl := hB.lm
    obtain ⟨m', s', hH, hM', hB'⟩ := hear_b z hk hk1 hM hB
    obtain ⟨q, hq, hqm, hg⟩ := guess_b hM'
    refine WCode.seq ?_
    refine WCode.seq ?_
    refine WCode.region ?_
    refine WOps.p (G.move rfl) rfl ?_
    refine WOps.p (G.move rfl) rfl ?_
    refine WOps.p (G.len T.el33 rfl) rfl ?_
    refine WOps.p (G.lss rfl rfl (b := true) (decide_eq_true (by omega))) rfl ?_
    refine WOps.nil ?_
    refine WEx.then_ ?_
    refine WCode.cond_t rfl ?_
    refine WCode.skip ?_
    refine WEx.then_ ?_
    refine WCode.seq ?_
    refine WCode.block ?_
    refine WCode.seq ?_
    refine WCode.region ?_
    refine WOps.p (G.move rfl) rfl ?_
    refine WOps.p (G.move rfl) rfl ?_
    obtain ⟨b40, o41, ea42, ca43⟩ := Rd.at_ Num.len (hL.ext S19.ext0) hx rfl
    cases ea42
    refine WOps.p (G.index T.el33 rfl rfl (j := i) hlt rfl) rfl ?_
    refine WOps.r (G.load1 T.one3 rfl (cellsAt.at0 ca43)) rfl ?_
    refine WOps.p (G.max rfl rfl (show _ = (if 0 > z then 0 else z) from rfl)) rfl ?_
    refine WOps.p (G.min rfl rfl (show _ = ((k : Nat) : Int) from (by rw [← hk]; unfold cl; (repeat' split) <;> omega))) rfl ?_
    refine WOps.p (G.assign rfl) rfl ?_
    refine WOps.nil ?_
    refine WEx.then_ ?_
    refine WCode.seq ?_
    refine WCode.seq ?_
    refine WCode.region ?_
    refine WOps.p (G.move rfl) rfl ?_
    refine WOps.p (G.eql rfl rfl (b := false) (decide_eq_false (by omega))) rfl ?_
    refine WOps.nil ?_
    refine WEx.then_ ?_
    refine WCode.cond_f rfl ?_
    refine WCode.skip ?_
    refine WEx.then_ ?_
    refine WCode.seq ?_
    refine WCode.region ?_
    refine WOps.p (G.move rfl) rfl ?_
    refine WOps.p (G.move rfl) rfl ?_
    refine WOps.p (G.min rfl rfl (show _ = ((min least k : Nat) : Int) from (by split <;> omega))) rfl ?_
    refine WOps.p (G.assign rfl) rfl ?_
    refine WOps.nil ?_
    refine WEx.then_ ?_
    refine WCode.seq ?_
    refine WCode.region ?_
    refine WOps.p (G.move rfl) rfl ?_
    refine WOps.p (G.move rfl) rfl ?_
    refine WOps.p (G.max rfl rfl (show _ = ((max most k : Nat) : Int) from (by split <;> omega))) rfl ?_
    refine WOps.p (G.assign rfl) rfl ?_
    refine WOps.nil ?_
    refine WEx.then_ ?_
    refine WCode.seq ?_
    refine WCode.region ?_
    refine WOps.p (G.move rfl) rfl ?_
    refine WOps.p (G.move rfl) rfl ?_
    refine WOps.p (G.move rfl) rfl ?_
    obtain ⟨b44, o45, ea46, ca47⟩ := Rd.at_ Num.len (hL.ext S19.ext0) hx rfl
    cases ea46
    refine WOps.p (G.index T.el33 rfl rfl (j := i) hlt rfl) rfl ?_
    refine WOps.r (G.load1 T.one3 rfl (cellsAt.at0 ca47)) rfl ?_
    refine WOps.call T.call38 (evs_cons rfl (evs_cons rfl evs_nil)) rfl ?_
    refine (pace_Hear S19.hp1 oz hH).mono ?_
    rintro _ w48 ⟨rfl, T49⟩
    have S50 := S19.call1 T49
    change St _ _ _ [[(p8, .cells #[.bool true, .float .f32 m', .float .f32 s'] 140 (0, 0))]] at S50
    refine ⟨_, rfl, ?_⟩
    refine WOps.nil ?_
    refine WEx.forget (l' := [(0, .slice (some ⟨b40, o41, none⟩) L.length cp), (2, .bool false), (4, .pointer (some ⟨p8, 0, none⟩)), (5, .int .i64 ((min least k : Nat) : Int)), (6, .int .i64 ((max most k : Nat) : Int)), (7, .int .i64 ((first : Nat) : Int)), (8, .int .i64 ((i : Nat) : Int)), (9, .int .i64 ((k : Nat) : Int)), (37, .int .i64 ((i : Nat) : Int)), (38, .slice (some ⟨b40, o41, none⟩) L.length cp), (39, .int .i64 (L.length : Nat)), (40, .bool true), (43, .slice (some ⟨b40, o41, none⟩) L.length cp), (44, .int .i64 ((i : Nat) : Int)), (45, .pointer (some ⟨b40, o41 + i * 1, none⟩)), (46, .int .i64 z), (47, .int .i64 (if 0 > z then 0 else z)), (48, .int .i64 ((k : Nat) : Int)), (49, .int .i64 ((i : Nat) : Int)), (50, .bool false), (54, .int .i64 ((least : Nat) : Int)), (55, .int .i64 ((k : Nat) : Int)), (56, .int .i64 ((min least k : Nat) : Int)), (57, .int .i64 ((most : Nat) : Int)), (58, .int .i64 ((k : Nat) : Int)), (59, .int .i64 ((max most k : Nat) : Int)), (60, .pointer (some ⟨p8, 0, none⟩)), (61, .slice (some ⟨b40, o41, none⟩) L.length cp), (62, .int .i64 ((i : Nat) : Int)), (63, .pointer (some ⟨b40, o41 + i * 1, none⟩)), (64, .int .i64 z)]) ⟨rfl, rfl, rfl, rfl, rfl, rfl, rfl, rfl, rfl, rfl, rfl, rfl, rfl, rfl, rfl, rfl, rfl, rfl, rfl, rfl, rfl, rfl, rfl, rfl, rfl, rfl, rfl, rfl, rfl, rfl, rfl, trivial⟩ ?_
    refine WEx.then_ ?_
    refine WCode.seq ?_
    refine WCode.region ?_
    refine WOps.p (G.move rfl) rfl ?_
    refine WOps.call T.call34 (evs_cons rfl evs_nil) rfl ?_
    refine (pace_Mean S50.hp1 ).mono ?_
    rintro _ w51 ⟨rfl, T52⟩
    have S53 := S50.call1 T52
    change St _ _ _ [[(p8, .cells #[.bool true, .float .f32 m', .float .f32 s'] 140 (0, 0))]] at S53
    refine ⟨_, rfl, ?_⟩
    refine WOps.p (G.assign rfl) rfl ?_
    refine WOps.nil ?_
    refine WEx.then_ ?_
    refine WCode.seq ?_
    refine WCode.region ?_
    refine WOps.p (G.move rfl) rfl ?_
    refine WOps.call T.call35 (evs_cons rfl evs_nil) rfl ?_
    refine (pace_Spread S53.hp1 ).mono ?_
    rintro _ w54 ⟨rfl, T55⟩
    have S56 := S53.call1 T55
    change St _ _ _ [[(p8, .cells #[.bool true, .float .f32 m', .float .f32 s'] 140 (0, 0))]] at S56
    refine ⟨_, rfl, ?_⟩
    refine WOps.p (G.assign rfl) rfl ?_
    refine WOps.nil ?_
    refine WEx.then_ ?_
    refine WCode.seq ?_
    refine WCode.region ?_
    refine WOps.p (G.move rfl) rfl ?_
    refine WOps.p (G.itof (k := .f32) (by kernel_rfl) Try.underlying62 rfl (r := (F32.fi first)) (F32.fi_eq hB'.f)) rfl ?_
    refine WOps.p (G.farith rfl rfl (r := (F32.hf first)) (F32.hf_eq hB'.f)) rfl ?_
    refine WOps.p (G.move rfl) rfl ?_
    refine WOps.p (G.move rfl) rfl ?_
    refine WOps.p (G.sub rfl rfl (show IntKind.i64.wrap (((max most k : Nat) : Int) - ((min least k : Nat) : Int)) = (((max most k) - (min least k) : Nat) : Int) from (IntWalk_sub hB'.lm hB'.mo))) rfl ?_
    refine WOps.p (G.itof (k := .f32) (by kernel_rfl) Try.underlying62 rfl (r := (F32.fi ((max most k) - (min least k)))) (F32.fi_eq (by have := hB'.mo; omega))) rfl ?_
    refine WOps.p (F32.G.fmax rfl rfl (by have := F32.hf_le first; have := F32.fi_le hB'.f; omega) (by have := F32.fi_le (n := (max most k) - (min least k)) (by have := hB'.mo; omega); omega)) rfl ?_
    refine WOps.p (G.assign rfl) rfl ?_
    refine WOps.nil ?_
    refine WEx.then_ ?_
    refine WCode.seq ?_
    refine WCode.seq ?_
    refine WCode.region ?_
    refine WOps.p (G.move rfl) rfl ?_
    refine WOps.p (G.move rfl) rfl ?_
    refine WOps.p (G.itof (k := .f32) (by kernel_rfl) Try.underlying62 rfl (r := (F32.fi (min least k))) (F32.fi_eq (by have := hB'.mo; have := hB'.lm; omega))) rfl ?_
    refine WOps.p (G.flss rfl rfl (v := false) (F32.lss_no (by have := hM'.hm; omega) (by have := F32.fi_le (n := (min least k)) (by have := hB'.mo; have := hB'.lm; omega); omega) hB'.lo)) rfl ?_
    refine WOps.p (G.move rfl) rfl ?_
    refine WOps.on rfl rfl ?_
    refine WOps.p (G.move rfl) rfl ?_
    refine WOps.on rfl rfl ?_
    refine WOps.p (G.move rfl) rfl ?_
    refine WOps.on rfl rfl ?_
    refine WOps.p (G.itof (k := .f32) (by kernel_rfl) Try.underlying62 rfl (r := (F32.fi (max most k))) (F32.fi_eq hB'.mo)) rfl ?_
    refine WOps.on rfl rfl ?_
    refine WOps.p (G.fgtr rfl rfl (v := false) (F32.gtr_no (by have := hM'.hm; omega) (by have := F32.fi_le (n := (max most k)) (by have := hB'.mo; have := hB'.lm; omega); omega) hB'.hi)) rfl ?_
    refine WOps.p (G.pick_f rfl rfl) rfl ?_
    refine WOps.p (G.move rfl) rfl ?_
    refine WOps.on rfl rfl ?_
    refine WOps.p (G.move rfl) rfl ?_
    refine WOps.on rfl rfl ?_
    refine WOps.p (G.flss rfl rfl (v := false) (F32.lss_no (by have := hM'.hs; omega) (by decide) (Nat.zero_le _))) rfl ?_
    refine WOps.p (G.pick_f rfl rfl) rfl ?_
    refine WOps.p (G.move rfl) rfl ?_
    refine WOps.on rfl rfl ?_
    refine WOps.p (G.move rfl) rfl ?_
    refine WOps.on rfl rfl ?_
    refine WOps.p (G.move rfl) rfl ?_
    refine WOps.on rfl rfl ?_
    refine WOps.p (G.fgtr rfl rfl (v := false) (F32.gtr_no (by have := hM'.hs; omega) (by have := F32.hf_le first; have := F32.fi_le hB'.f; have := F32.fi_le (n := (max most k) - (min least k)) (by have := hB'.mo; omega); omega) hB'.s)) rfl ?_
    refine WOps.p (G.pick_f rfl rfl) rfl ?_
    refine WOps.nil ?_
    refine WEx.then_ ?_
    refine WCode.cond_f rfl ?_
    refine WCode.skip ?_
    refine WEx.then_ ?_
    refine WCode.seq ?_
    refine WCode.region ?_
    refine WOps.p (G.move rfl) rfl ?_
    refine WOps.call T.call36 (evs_cons rfl evs_nil) rfl ?_
    refine (pace_Guess S56.hp1 (.inr ⟨rfl, hg⟩)).mono ?_
    rintro _ w57 ⟨rfl, T58⟩
    have S59 := S56.call1 T58
    change St _ _ _ [[(p8, .cells #[.bool true, .float .f32 m', .float .f32 s'] 140 (0, 0))]] at S59
    refine ⟨_, rfl, ?_⟩
    refine WOps.p (G.assign rfl) rfl ?_
    refine WOps.nil ?_
    refine WEx.then_ ?_
    refine WCode.seq ?_
    refine WCode.region ?_
    refine WOps.p (G.move rfl) rfl ?_
    refine WOps.p (G.itof (k := .f32) (by kernel_rfl) Try.underlying62 rfl (r := (F32.fi q)) (F32.fi_eq hq)) rfl ?_
    refine WOps.p (G.move rfl) rfl ?_
    refine WOps.p (G.flss rfl rfl (v := false) (F32.lss_no (by have := F32.fi_le hq; omega) (by have := hM'.hm; omega) hqm)) rfl ?_
    refine WOps.p (G.move rfl) rfl ?_
    refine WOps.on rfl rfl ?_
    refine WOps.p (G.move rfl) rfl ?_
    refine WOps.on rfl rfl ?_
    refine WOps.p (G.gtr rfl rfl (b := false) (decide_eq_false (by omega))) rfl ?_
    refine WOps.p (G.pick_f rfl rfl) rfl ?_
    refine WOps.nil ?_
    refine WEx.then_ ?_
    refine WCode.cond_f rfl ?_
    refine WCode.skip ?_
    refine WEx.in_normal ?_
    refine WEx.then_ ?_
    refine WCode.region ?_
    refine WOps.p (G.move rfl) rfl ?_
    refine WOps.p (G.add rfl rfl (show IntKind.i64.wrap (((i : Nat) : Int) + 1) = (((i : Nat) : Int) + 1) from IntWalk.i64_in _ (by omega))) rfl ?_
    refine WOps.p (G.assign rfl) rfl ?_
    refine WOps.nil ?_
    refine WEx.again _ _ ?_ ?_ ⟨i + 1, true, m', s', (min least k), (max most k), first, rfl, rfl, hlt, hM', (fun q => by omega), (fun _ => ⟨rfl, hB'⟩), S59⟩
    · omega
    · exact ⟨rfl, rfl, rfl, rfl, rfl, rfl, rfl, trivial⟩

end Go.Proofs.Ytoahkjehjmbojaa
