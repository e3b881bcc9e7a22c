/- Walks (printed by gen.py over the engine). -/
import Derived.Test.YtoahkjehjmbojaaPaceD
namespace Go.Proofs.Ytoahkjehjmbojaa
open Go Go.Eng
set_option linter.unusedSimpArgs false
set_option linter.unusedVariables false
theorem T.call37 : Callable Try.prog 37 := Callable.mk Try.func37 (by kernel_rfl) (by kernel_rfl)
theorem T.call39 : Callable Try.prog 39 := Callable.mk Try.func39 (by kernel_rfl) (by kernel_rfl)
theorem T.el58 : slEl Try.prog 58 = some 2 := by kernel_rfl
theorem T.fld67_0 : fldOff Try.prog 67 0 = some 0 := by kernel_rfl
theorem T.fld67_1 : fldOff Try.prog 67 1 = some 1 := by kernel_rfl

open Go.Eng.F32 in
/-- What a meter has heard and holds. -/
structure MOk (hd : Bool) (m s : Nat) : Prop where
  hm : m ≤ 1233125376
  hs : s ≤ 1233125376
  hz : hd = false → m = 0 ∧ s = 0
theorem MOk.zero : MOk false 0 0 := ⟨by omega, by omega, fun _ => ⟨rfl, rfl⟩⟩
theorem MOk.lt_m {hd : Bool} {m s : Nat} (h : MOk hd m s) : m < 2139095040 := by have := h.hm; omega
theorem MOk.lt_s {hd : Bool} {m s : Nat} (h : MOk hd m s) : s < 2139095040 := by have := h.hs; omega
theorem neq_same {m : Nat} (h : m < 2139095040) : (FloatKind.f32.format.order m m != some .eq) = false := by
  show (Ieee.single.order m m != some .eq) = false
  rw [Go.Eng.F32.order_w h h, Go.Eng.F32.cmpn_eq]; rfl
def HearR (hd : Bool) (m s : Nat) (n : Int) (m' s' : Nat) : Prop := (hd = false ∧ floatOfInt .f32 (cl n) = m' ∧ floatBits .quo .f32 m' 1073741824 = some s') ∨ (hd = true ∧ ∃ x, floatOfInt .f32 (cl n) = x ∧ HearS m s x m' s')
def GuessR (hd : Bool) (m s : Nat) (n : Int) : Prop := (hd = false ∧ n = 0) ∨ (hd = true ∧ GuessS m s n)
theorem cl_nat (n : Int) : ∃ k : Nat, cl n = k ∧ k ≤ 1048576 := ⟨(cl n).toNat, by unfold cl; (repeat' split) <;> omega, by unfold cl; (repeat' split) <;> omega⟩
open Go.Eng.F32 in
theorem hearR_ok {hd : Bool} {m s : Nat} (h : MOk hd m s) (n : Int) : ∃ m' s', HearR hd m s n m' s' ∧ MOk true m' s' := by
  obtain ⟨k, hk, hk1⟩ := cl_nat n
  obtain ⟨f1, f2, f3⟩ := f_int k hk1
  cases hd with
  | false =>
    have hq := div2 (r := rung (k * 2 ^ 213)) (by omega)
    refine ⟨_, _, .inl ⟨rfl, by rw [hk]; exact f1, hq⟩, f3, ?_, fun h => by cases h⟩
    exact Nat.le_trans (rung_le (Nat.mul_le_mul_left _ (Nat.pow_le_pow_right (by decide) (by decide)))) f3
  | true =>
    have hm := h.hm
    have hs := h.hs
    obtain ⟨m', s', E, hH, h1, h2, h3, h4, h5, h6⟩ := hear (m := m) (s := s) (x := rung (k * 2 ^ 213)) (by omega) (by omega) (by omega)
    have hm' := rv_mono hm
    have hf := rv_mono f3
    have hE : E ≤ 1233125376 := h6 _ (by omega) (by omega)
    exact ⟨m', s', .inr ⟨rfl, _, by rw [hk]; exact f1, hH⟩, by omega, by omega, fun h => by cases h⟩
open Go.Eng.F32 in
theorem guessR_ok {hd : Bool} {m s : Nat} (h : MOk hd m s) : ∃ n : Int, GuessR hd m s n := by
  cases hd with
  | false => exact ⟨0, .inl ⟨rfl, rfl⟩⟩
  | true => 
    obtain ⟨n, _, _, hg⟩ := guess h.hm h.hs
    exact ⟨n, .inr ⟨rfl, hg⟩⟩
theorem pace_Hear {w : World} {p m s : Nat} {hd : Bool} (hp : Hp w (MG 140 p hd m s)) {n : Int} (hn : i64 n) {m' s' : Nat} (h : HearR hd m s n m' s') :
    Calls Try.prog 38 [.pointer (some ⟨p, 0, none⟩), .int .i64 n].toArray w fun e w' => e = .returned (.tuple #[]) ∧ St w (· ∈ keys (MG 140 p hd m s)) w' [MG 140 p true m' s'] := by
  rcases h with ⟨rfl, hx, hq⟩ | ⟨rfl, x, hx, hH⟩
  · exact pace_Hear0 hp n hn hx hq
  · exact pace_Hear1 hp n hn hx hH
theorem ref_Hear {w : World} {p m s : Nat} {hd : Bool} (hp : Hp w (MG 64 p hd m s)) {n : Int} (hn : i64 n) {m' s' : Nat} (h : HearR hd m s n m' s') :
    Calls Try.prog 39 [.pointer (some ⟨p, 0, none⟩), .int .i64 n].toArray w fun e w' => e = .returned (.tuple #[]) ∧ St w (· ∈ keys (MG 64 p hd m s)) w' [MG 64 p true m' s'] := by
  rcases h with ⟨rfl, hx, hq⟩ | ⟨rfl, x, hx, hH⟩
  · exact ref_Hear0 hp n hn hx hq
  · exact ref_Hear1 hp n hn hx hH
theorem pace_Guess {w : World} {p m s : Nat} {hd : Bool} (hp : Hp w (MG 140 p hd m s)) {n : Int} (h : GuessR hd m s n) :
    Calls Try.prog 36 [.pointer (some ⟨p, 0, none⟩)].toArray w fun e w' => e = .returned (.int .i64 n) ∧ St w (· ∈ keys (MG 140 p hd m s)) w' [MG 140 p hd m s] := by
  rcases h with ⟨rfl, rfl⟩ | ⟨rfl, hg⟩
  · exact pace_Guess0 hp
  · exact pace_Guess1 hp hg
theorem ref_Guess {w : World} {p m s : Nat} {hd : Bool} (hp : Hp w (MG 64 p hd m s)) {n : Int} (h : GuessR hd m s n) :
    Calls Try.prog 37 [.pointer (some ⟨p, 0, none⟩)].toArray w fun e w' => e = .returned (.int .i64 n) ∧ St w (· ∈ keys (MG 64 p hd m s)) w' [MG 64 p hd m s] := by
  rcases h with ⟨rfl, rfl⟩ | ⟨rfl, hg⟩
  · exact ref_Guess0 hp
  · exact ref_Guess1 hp hg
/-- A step of the play. -/
structure Tk where
  o : Bool
  n : Int
def Tk.cs (x : Tk) : List Value := [.bool x.o, .int .i64 x.n]
theorem Tk.len (x : Tk) : x.cs.length = 2 := rfl
theorem tk_cases {L : List Tk} {i : Nat} (hi : i ≤ L.length) : i = L.length ∨ (∃ n, L[i]? = some ⟨true, n⟩) ∨ (∃ n, L[i]? = some ⟨false, n⟩) := by
  rcases Nat.lt_or_ge i L.length with h | h
  · right
    rw [List.getElem?_eq_getElem h]
    cases L[i] with
    | mk o n =>
      cases o
      · exact .inr ⟨n, rfl⟩
      · exact .inl ⟨n, rfl⟩
  · left; omega

set_option maxRecDepth 100000 in
set_option maxHeartbeats 1000000 in
theorem law_plays {w : World} {A : Option Addr} {cp : Nat} {L : List Tk} (hL : Rd w A L.length 2 (cellsOf Tk.cs L)) (hok : ∀ x ∈ L, i64 x.n) (h63 : L.length ≤ 9223372036854775807) :
    Calls Try.prog 6 [.slice A L.length cp].toArray w fun e w' => e = .returned (.bool true) ∧ St w (fun _ => False) w' [] := by
  have S := St.init0 w
  refine enter 117 [(0, .slice A L.length cp)] Try.func6 rfl rfl rfl rfl ?_
  refine WCode.seq ?_
  refine WCode.region ?_
  refine WOps.p (G.assign rfl) rfl ?_
  refine WOps.nil ?_
  refine WEx.then_ ?_
  refine WCode.seq ?_
  refine WCode.region ?_
  refine WOps.call T.call26 evs_nil rfl ?_
  refine (law_awake).mono ?_
  rintro _ w2 ⟨rfl, T1⟩
  have S3 := S.call0 T1
  have X4 := T1.ext0
  change St _ _ _ [] at S3
  refine ⟨_, rfl, ?_⟩
  refine WOps.p (G.assign rfl) rfl ?_
  refine WOps.nil ?_
  refine WEx.forget (l' := [(0, .slice A L.length cp), (2, .bool false), (3, .bool true)]) ⟨rfl, rfl, rfl, trivial⟩ ?_
  refine WEx.then_ ?_
  refine WCode.seq ?_
  refine WCode.region ?_
  refine WOps.call T.call33 evs_nil rfl ?_
  refine pace_New.mono ?_
  rintro _ w5 ⟨p8, rfl, T6⟩
  have S7 := S3.call0 T6
  change St _ _ _ [[(p8, .cells #[.bool false, .float .f32 0, .float .f32 0] 140 (0, 0))]] at S7
  refine ⟨_, rfl, ?_⟩
  refine WOps.p (G.assign rfl) rfl ?_
  refine WOps.nil ?_
  refine WEx.forget (l' := [(0, .slice A L.length cp), (2, .bool false), (3, .bool true), (4, .pointer (some ⟨p8, 0, none⟩))]) ⟨rfl, rfl, rfl, rfl, trivial⟩ ?_
  refine WEx.then_ ?_
  refine WCode.seq ?_
  refine WCode.region ?_
  refine WOps.call T.call33 evs_nil rfl ?_
  refine pace_New.mono ?_
  rintro _ w9 ⟨p12, rfl, T10⟩
  have S11 := S7.call0 T10
  change St _ _ _ [[(p12, .cells #[.bool false, .float .f32 0, .float .f32 0] 140 (0, 0))], [(p8, .cells #[.bool false, .float .f32 0, .float .f32 0] 140 (0, 0))]] at S11
  refine ⟨_, rfl, ?_⟩
  refine WOps.p (G.assign rfl) rfl ?_
  refine WOps.nil ?_
  refine WEx.forget (l' := [(0, .slice A L.length cp), (2, .bool false), (3, .bool true), (4, .pointer (some ⟨p8, 0, none⟩)), (5, .pointer (some ⟨p12, 0, none⟩))]) ⟨rfl, rfl, rfl, rfl, rfl, trivial⟩ ?_
  refine WEx.then_ ?_
  refine WCode.seq ?_
  refine WCode.seq ?_
  refine WCode.region ?_
  refine WOps.p (G.move rfl) rfl ?_
  refine WOps.p (G.not rfl rfl) rfl ?_
  refine WOps.p (G.move rfl) rfl ?_
  refine WOps.on rfl rfl ?_
  refine WOps.p (G.move rfl) rfl ?_
  refine WOps.on rfl rfl ?_
  refine WOps.p (G.eqp_nil Try.underlying59 rfl rfl (b := false) rfl) rfl ?_
  refine WOps.p (G.pick_f rfl rfl) rfl ?_
  refine WOps.p (G.move rfl) rfl ?_
  refine WOps.on rfl rfl ?_
  refine WOps.p (G.move rfl) rfl ?_
  refine WOps.on rfl rfl ?_
  refine WOps.p (G.eqp_nil Try.underlying59 rfl rfl (b := false) rfl) rfl ?_
  refine WOps.p (G.pick_f rfl rfl) rfl ?_
  refine WOps.nil ?_
  refine WEx.forget (l' := [(0, .slice A L.length cp), (2, .bool false), (4, .pointer (some ⟨p8, 0, none⟩)), (5, .pointer (some ⟨p12, 0, none⟩)), (21, .bool false)]) ⟨rfl, rfl, rfl, rfl, rfl, trivial⟩ ?_
  refine WEx.then_ ?_
  refine WCode.cond_f rfl ?_
  refine WCode.skip ?_
  refine WEx.then_ ?_
  refine WCode.forget (l' := [(0, .slice A L.length cp), (2, .bool false), (4, .pointer (some ⟨p8, 0, none⟩)), (5, .pointer (some ⟨p12, 0, none⟩))]) ⟨rfl, rfl, rfl, rfl, trivial⟩ ?_
  refine WCode.seq ?_
  refine WCode.region ?_
  refine WOps.p (G.build (cells := #[.bool false, .float .f32 0, .float .f32 0]) (evp_spec (evp_nil)) (by kernel_rfl)) rfl ?_
  obtain ⟨b13, w14, E15, S16, X17, L18⟩ := St.box S11 Try.prog 64 (.agg #[.bool false, .float .f32 0, .float .f32 0])
  change St _ _ _ [[(b13, .cells #[.bool false, .float .f32 0, .float .f32 0] 64 (0, 0))], [(p12, .cells #[.bool false, .float .f32 0, .float .f32 0] 140 (0, 0))], [(p8, .cells #[.bool false, .float .f32 0, .float .f32 0] 140 (0, 0))]] at S16
  refine WOps.e (E15 rfl) rfl ?_
  refine WOps.p (G.assign rfl) rfl ?_
  refine WOps.nil ?_
  refine WEx.forget (l' := [(0, .slice A L.length cp), (2, .bool false), (4, .pointer (some ⟨p8, 0, none⟩)), (5, .pointer (some ⟨p12, 0, none⟩)), (6, .pointer (some ⟨b13, 0, none⟩))]) ⟨rfl, rfl, rfl, rfl, rfl, trivial⟩ ?_
  refine WEx.then_ ?_
  refine WCode.seq ?_
  refine WCode.region ?_
  refine WOps.p (G.build (cells := #[.bool false, .float .f32 0, .float .f32 0]) (evp_spec (evp_nil)) (by kernel_rfl)) rfl ?_
  obtain ⟨b19, w20, E21, S22, X23, L24⟩ := St.box S16 Try.prog 64 (.agg #[.bool false, .float .f32 0, .float .f32 0])
  change St _ _ _ [[(b19, .cells #[.bool false, .float .f32 0, .float .f32 0] 64 (0, 0))], [(b13, .cells #[.bool false, .float .f32 0, .float .f32 0] 64 (0, 0))], [(p12, .cells #[.bool false, .float .f32 0, .float .f32 0] 140 (0, 0))], [(p8, .cells #[.bool false, .float .f32 0, .float .f32 0] 140 (0, 0))]] at S22
  refine WOps.e (E21 rfl) rfl ?_
  refine WOps.p (G.assign rfl) rfl ?_
  refine WOps.nil ?_
  refine WEx.forget (l' := [(0, .slice A L.length cp), (2, .bool false), (4, .pointer (some ⟨p8, 0, none⟩)), (5, .pointer (some ⟨p12, 0, none⟩)), (6, .pointer (some ⟨b13, 0, none⟩)), (7, .pointer (some ⟨b19, 0, none⟩))]) ⟨rfl, rfl, rfl, rfl, rfl, rfl, trivial⟩ ?_
  refine WEx.then_ ?_
  refine WCode.seq ?_
  refine WCode.seq ?_
  refine WCode.region ?_
  refine WOps.p (G.assign rfl) rfl ?_
  refine WOps.nil ?_
  refine WEx.then_ ?_
  refine WCode.block ?_
  have S25 := S22.front 1 rfl
  change St _ _ _ [[(b13, .cells #[.bool false, .float .f32 0, .float .f32 0] 64 (0, 0))], [(b19, .cells #[.bool false, .float .f32 0, .float .f32 0] 64 (0, 0))], [(p12, .cells #[.bool false, .float .f32 0, .float .f32 0] 140 (0, 0))], [(p8, .cells #[.bool false, .float .f32 0, .float .f32 0] 140 (0, 0))]] at S25
  have S26 := S25.front 2 rfl
  change St _ _ _ [[(p12, .cells #[.bool false, .float .f32 0, .float .f32 0] 140 (0, 0))], [(b13, .cells #[.bool false, .float .f32 0, .float .f32 0] 64 (0, 0))], [(b19, .cells #[.bool false, .float .f32 0, .float .f32 0] 64 (0, 0))], [(p8, .cells #[.bool false, .float .f32 0, .float .f32 0] 140 (0, 0))]] at S26
  have S27 := S26.front 3 rfl
  change St _ _ _ [[(p8, .cells #[.bool false, .float .f32 0, .float .f32 0] 140 (0, 0))], [(p12, .cells #[.bool false, .float .f32 0, .float .f32 0] 140 (0, 0))], [(b13, .cells #[.bool false, .float .f32 0, .float .f32 0] 64 (0, 0))], [(b19, .cells #[.bool false, .float .f32 0, .float .f32 0] 64 (0, 0))]] at S27
  refine WCode.forget (l' := [(0, .slice A L.length cp), (2, .bool false), (4, .pointer (some ⟨p8, 0, none⟩)), (5, .pointer (some ⟨p12, 0, none⟩)), (6, .pointer (some ⟨b13, 0, none⟩)), (7, .pointer (some ⟨b19, 0, none⟩)), (8, .int .i64 0)]) ⟨rfl, rfl, rfl, rfl, rfl, rfl, rfl, trivial⟩ ?_
  refine WCode.loop (fun n_ l_ w' => ∃ i : Nat, ∃ hd1 : Bool, ∃ m1 : Nat, ∃ s1 : Nat, ∃ hd2 : Bool, ∃ m2 : Nat, ∃ s2 : Nat, l_ = [(0, .slice A L.length cp), (2, .bool false), (4, .pointer (some ⟨p8, 0, none⟩)), (5, .pointer (some ⟨p12, 0, none⟩)), (6, .pointer (some ⟨b13, 0, none⟩)), (7, .pointer (some ⟨b19, 0, none⟩)), (8, .int .i64 (i : Nat))] ∧ n_ = L.length + 1 - i ∧ (i ≤ L.length) ∧ (MOk hd1 m1 s1) ∧ (MOk hd2 m2 s2) ∧ St w (fun _ => False) w' [[(p8, .cells #[.bool hd1, .float .f32 m1, .float .f32 s1] 140 (0, 0))], [(p12, .cells #[.bool hd2, .float .f32 m2, .float .f32 s2] 140 (0, 0))], [(b13, .cells #[.bool hd1, .float .f32 m1, .float .f32 s1] 64 (0, 0))], [(b19, .cells #[.bool hd2, .float .f32 m2, .float .f32 s2] 64 (0, 0))]]) _ ⟨0, false, 0, 0, false, 0, 0, rfl, rfl, (Nat.zero_le _), (MOk.zero), (MOk.zero), S27⟩ ?_
  rintro _ _ w28 ⟨i, hd1, m1, s1, hd2, m2, s2, rfl, rfl, hi, hM1, hM2, S29⟩
  have cs_ : (i = L.length) ∨ (∃ n, L[i]? = some ⟨true, n⟩) ∨ (∃ n, L[i]? = some ⟨false, n⟩) := tk_cases hi
  rcases cs_ with h | ⟨n, hx⟩ | ⟨n, hx⟩
  ·
    obtain ⟨g1, hg1⟩ := guessR_ok hM1
    obtain ⟨g2, hg2⟩ := guessR_ok hM2
    refine WCode.seq ?_
    refine WCode.seq ?_
    refine WCode.region ?_
    refine WOps.p (G.move rfl) rfl ?_
    refine WOps.p (G.move rfl) rfl ?_
    refine WOps.p (G.len T.el58 rfl) rfl ?_
    refine WOps.p (G.leq rfl rfl (b := true) (decide_eq_true (by omega))) rfl ?_
    refine WOps.nil ?_
    refine WEx.then_ ?_
    refine WCode.cond_t rfl ?_
    refine WCode.skip ?_
    refine WEx.then_ ?_
    refine WCode.seq ?_
    refine WCode.block ?_
    refine WCode.seq ?_
    refine WCode.seq ?_
    refine WCode.drawH (.one 0 0 (.one 2 0 (.one 3 0 (.one 4 0 (.one 5 1 (.one 1 2 (.one 6 0 (.one 7 0 (.one 8 0 (.one 10 0 (.one 11 0 (.one 12 0 (.one 13 1 (.one 9 2 (.one 14 0 (.one 15 0 (.one 16 0 (.one 17 0 (.one 19 0 (.one 18 2 (.one 20 2 (.one 21 0 (.one 22 0 (.one 23 0 (.one 24 0 (.one 26 0 (.one 27 0 (.one 28 0 (.one 29 1 (.one 25 2 (.one 30 0 (.one 31 0 (.one 32 0 (.one 33 0 (.one 35 0 (.one 36 0 (.one 37 0 (.one 38 1 (.one 34 2 (.one 39 0 (.one 40 0 (.one 41 0 (.one 42 0 (.one 44 0 (.one 43 2 (.one 45 2 (.one 46 0 (.one 47 0 .nil)))))))))))))))))))))))))))))))))))))))))))))))) (fun W => cellsAt W b13 0 [.bool hd1, .float .f32 m1, .float .f32 s1] ∧ cellsAt W b19 0 [.bool hd2, .float .f32 m2, .float .f32 s2] ∧ True) T.mixed (by kernel_rfl) (by intro _ _ d _ _ h; cases d <;> exact h) rfl rfl (by kernel_rfl) ?_ ?_
    all_goals have S30 := S29.drew
    all_goals generalize w28.drew = w31 at *
    · exact ⟨cellsAt.of_blk (S30.blk 2 rfl) rfl, cellsAt.of_blk (S30.blk 3 rfl) rfl, trivial⟩
    refine WH.p rfl wants (G.move rfl) rfl ?_
    refine WH.p rfl wants (G.move rfl) rfl ?_
    refine WH.p rfl wants (G.nilp rfl) rfl ?_
    refine WH.p rfl wants (G.field T.fld64_1 rfl (show 0 + 1 = 1 from rfl)) rfl ?_
    refine WH.r rfl wants (fun _ h => G.load1 T.one62 rfl (cellsAt.at h.1 1 rfl)) rfl ?_
    refine WH.call rfl wants T.call34 (evs_cons rfl evs_nil) rfl ?_
    refine (pace_Mean S30.hp1 ).mono ?_
    rintro _ w32 ⟨rfl, T33⟩
    have S34 := S30.call1 T33
    change St _ _ _ [[(p8, .cells #[.bool hd1, .float .f32 m1, .float .f32 s1] 140 (0, 0))], [(p12, .cells #[.bool hd2, .float .f32 m2, .float .f32 s2] 140 (0, 0))], [(b13, .cells #[.bool hd1, .float .f32 m1, .float .f32 s1] 64 (0, 0))], [(b19, .cells #[.bool hd2, .float .f32 m2, .float .f32 s2] 64 (0, 0))]] at S34
    refine ⟨_, rfl, ?_⟩
    refine ⟨⟨cellsAt.of_blk (S34.blk 2 rfl) rfl, cellsAt.of_blk (S34.blk 3 rfl) rfl, trivial⟩, ?_⟩
    refine WH.p rfl wants (G.fneq rfl rfl (v := false) (neq_same hM1.lt_m)) rfl ?_
    refine WH.p rfl wants (G.move rfl) rfl ?_
    refine WH.p rfl (wants_on rfl rfl) (G.move rfl) rfl ?_
    refine WH.p rfl (wants_on rfl rfl) (G.move rfl) rfl ?_
    refine WH.p rfl (wants_on rfl rfl) (G.nilp rfl) rfl ?_
    refine WH.p rfl (wants_on rfl rfl) (G.field T.fld64_2 rfl (show 0 + 2 = 2 from rfl)) rfl ?_
    refine WH.r rfl (wants_on rfl rfl) (fun _ h => G.load1 T.one62 rfl (cellsAt.at h.1 2 rfl)) rfl ?_
    refine WH.call rfl (wants_on rfl rfl) T.call35 (evs_cons rfl evs_nil) rfl ?_
    refine (pace_Spread S34.hp1 ).mono ?_
    rintro _ w35 ⟨rfl, T36⟩
    have S37 := S34.call1 T36
    change St _ _ _ [[(p8, .cells #[.bool hd1, .float .f32 m1, .float .f32 s1] 140 (0, 0))], [(p12, .cells #[.bool hd2, .float .f32 m2, .float .f32 s2] 140 (0, 0))], [(b13, .cells #[.bool hd1, .float .f32 m1, .float .f32 s1] 64 (0, 0))], [(b19, .cells #[.bool hd2, .float .f32 m2, .float .f32 s2] 64 (0, 0))]] at S37
    refine ⟨_, rfl, ?_⟩
    refine ⟨⟨cellsAt.of_blk (S37.blk 2 rfl) rfl, cellsAt.of_blk (S37.blk 3 rfl) rfl, trivial⟩, ?_⟩
    refine WH.p rfl (wants_on rfl rfl) (G.fneq rfl rfl (v := false) (neq_same hM1.lt_s)) rfl ?_
    refine WH.p rfl wants (G.pick_f rfl rfl) rfl ?_
    refine WH.p rfl wants (G.move rfl) rfl ?_
    refine WH.p rfl (wants_on rfl rfl) (G.move rfl) rfl ?_
    refine WH.p rfl (wants_on rfl rfl) (G.move rfl) rfl ?_
    refine WH.call rfl (wants_on rfl rfl) T.call36 (evs_cons rfl evs_nil) rfl ?_
    refine (pace_Guess S37.hp1 hg1).mono ?_
    rintro _ w38 ⟨rfl, T39⟩
    have S40 := S37.call1 T39
    change St _ _ _ [[(p8, .cells #[.bool hd1, .float .f32 m1, .float .f32 s1] 140 (0, 0))], [(p12, .cells #[.bool hd2, .float .f32 m2, .float .f32 s2] 140 (0, 0))], [(b13, .cells #[.bool hd1, .float .f32 m1, .float .f32 s1] 64 (0, 0))], [(b19, .cells #[.bool hd2, .float .f32 m2, .float .f32 s2] 64 (0, 0))]] at S40
    refine ⟨_, rfl, ?_⟩
    refine ⟨⟨cellsAt.of_blk (S40.blk 2 rfl) rfl, cellsAt.of_blk (S40.blk 3 rfl) rfl, trivial⟩, ?_⟩
    refine WH.call rfl (wants_on rfl rfl) T.call37 (evs_cons rfl evs_nil) rfl ?_
    have S41 := S40.front 2 rfl
    change St _ _ _ [[(b13, .cells #[.bool hd1, .float .f32 m1, .float .f32 s1] 64 (0, 0))], [(p8, .cells #[.bool hd1, .float .f32 m1, .float .f32 s1] 140 (0, 0))], [(p12, .cells #[.bool hd2, .float .f32 m2, .float .f32 s2] 140 (0, 0))], [(b19, .cells #[.bool hd2, .float .f32 m2, .float .f32 s2] 64 (0, 0))]] at S41
    refine (ref_Guess S41.hp1 hg1).mono ?_
    rintro _ w42 ⟨rfl, T43⟩
    have S44 := S41.call1 T43
    change St _ _ _ [[(b13, .cells #[.bool hd1, .float .f32 m1, .float .f32 s1] 64 (0, 0))], [(p8, .cells #[.bool hd1, .float .f32 m1, .float .f32 s1] 140 (0, 0))], [(p12, .cells #[.bool hd2, .float .f32 m2, .float .f32 s2] 140 (0, 0))], [(b19, .cells #[.bool hd2, .float .f32 m2, .float .f32 s2] 64 (0, 0))]] at S44
    refine ⟨_, rfl, ?_⟩
    refine ⟨⟨cellsAt.of_blk (S44.blk 0 rfl) rfl, cellsAt.of_blk (S44.blk 3 rfl) rfl, trivial⟩, ?_⟩
    refine WH.p rfl (wants_on rfl rfl) (G.neq rfl rfl (b := false) (by simp)) rfl ?_
    refine WH.p rfl wants (G.pick_f rfl rfl) rfl ?_
    refine WH.p rfl wants (G.move rfl) rfl ?_
    refine WH.p rfl (wants_on rfl rfl) (G.move rfl) rfl ?_
    refine WH.p rfl (wants_on rfl rfl) (G.move rfl) rfl ?_
    refine WH.p rfl (wants_on rfl rfl) (G.nilp rfl) rfl ?_
    refine WH.p rfl (wants_on rfl rfl) (G.field T.fld64_1 rfl (show 0 + 1 = 1 from rfl)) rfl ?_
    refine WH.r rfl (wants_on rfl rfl) (fun _ h => G.load1 T.one62 rfl (cellsAt.at h.2.1 1 rfl)) rfl ?_
    refine WH.call rfl (wants_on rfl rfl) T.call34 (evs_cons rfl evs_nil) rfl ?_
    have S45 := S44.front 2 rfl
    change St _ _ _ [[(p12, .cells #[.bool hd2, .float .f32 m2, .float .f32 s2] 140 (0, 0))], [(b13, .cells #[.bool hd1, .float .f32 m1, .float .f32 s1] 64 (0, 0))], [(p8, .cells #[.bool hd1, .float .f32 m1, .float .f32 s1] 140 (0, 0))], [(b19, .cells #[.bool hd2, .float .f32 m2, .float .f32 s2] 64 (0, 0))]] at S45
    refine (pace_Mean S45.hp1 ).mono ?_
    rintro _ w46 ⟨rfl, T47⟩
    have S48 := S45.call1 T47
    change St _ _ _ [[(p12, .cells #[.bool hd2, .float .f32 m2, .float .f32 s2] 140 (0, 0))], [(b13, .cells #[.bool hd1, .float .f32 m1, .float .f32 s1] 64 (0, 0))], [(p8, .cells #[.bool hd1, .float .f32 m1, .float .f32 s1] 140 (0, 0))], [(b19, .cells #[.bool hd2, .float .f32 m2, .float .f32 s2] 64 (0, 0))]] at S48
    refine ⟨_, rfl, ?_⟩
    refine ⟨⟨cellsAt.of_blk (S48.blk 1 rfl) rfl, cellsAt.of_blk (S48.blk 3 rfl) rfl, trivial⟩, ?_⟩
    refine WH.p rfl (wants_on rfl rfl) (G.fneq rfl rfl (v := false) (neq_same hM2.lt_m)) rfl ?_
    refine WH.p rfl wants (G.pick_f rfl rfl) rfl ?_
    refine WH.p rfl wants (G.move rfl) rfl ?_
    refine WH.p rfl (wants_on rfl rfl) (G.move rfl) rfl ?_
    refine WH.p rfl (wants_on rfl rfl) (G.move rfl) rfl ?_
    refine WH.p rfl (wants_on rfl rfl) (G.nilp rfl) rfl ?_
    refine WH.p rfl (wants_on rfl rfl) (G.field T.fld64_2 rfl (show 0 + 2 = 2 from rfl)) rfl ?_
    refine WH.r rfl (wants_on rfl rfl) (fun _ h => G.load1 T.one62 rfl (cellsAt.at h.2.1 2 rfl)) rfl ?_
    refine WH.call rfl (wants_on rfl rfl) T.call35 (evs_cons rfl evs_nil) rfl ?_
    refine (pace_Spread S48.hp1 ).mono ?_
    rintro _ w49 ⟨rfl, T50⟩
    have S51 := S48.call1 T50
    change St _ _ _ [[(p12, .cells #[.bool hd2, .float .f32 m2, .float .f32 s2] 140 (0, 0))], [(b13, .cells #[.bool hd1, .float .f32 m1, .float .f32 s1] 64 (0, 0))], [(p8, .cells #[.bool hd1, .float .f32 m1, .float .f32 s1] 140 (0, 0))], [(b19, .cells #[.bool hd2, .float .f32 m2, .float .f32 s2] 64 (0, 0))]] at S51
    refine ⟨_, rfl, ?_⟩
    refine ⟨⟨cellsAt.of_blk (S51.blk 1 rfl) rfl, cellsAt.of_blk (S51.blk 3 rfl) rfl, trivial⟩, ?_⟩
    refine WH.p rfl (wants_on rfl rfl) (G.fneq rfl rfl (v := false) (neq_same hM2.lt_s)) rfl ?_
    refine WH.p rfl wants (G.pick_f rfl rfl) rfl ?_
    refine WH.p rfl wants (G.move rfl) rfl ?_
    refine WH.p rfl (wants_on rfl rfl) (G.move rfl) rfl ?_
    refine WH.p rfl (wants_on rfl rfl) (G.move rfl) rfl ?_
    refine WH.call rfl (wants_on rfl rfl) T.call36 (evs_cons rfl evs_nil) rfl ?_
    refine (pace_Guess S51.hp1 hg2).mono ?_
    rintro _ w52 ⟨rfl, T53⟩
    have S54 := S51.call1 T53
    change St _ _ _ [[(p12, .cells #[.bool hd2, .float .f32 m2, .float .f32 s2] 140 (0, 0))], [(b13, .cells #[.bool hd1, .float .f32 m1, .float .f32 s1] 64 (0, 0))], [(p8, .cells #[.bool hd1, .float .f32 m1, .float .f32 s1] 140 (0, 0))], [(b19, .cells #[.bool hd2, .float .f32 m2, .float .f32 s2] 64 (0, 0))]] at S54
    refine ⟨_, rfl, ?_⟩
    refine ⟨⟨cellsAt.of_blk (S54.blk 1 rfl) rfl, cellsAt.of_blk (S54.blk 3 rfl) rfl, trivial⟩, ?_⟩
    refine WH.call rfl (wants_on rfl rfl) T.call37 (evs_cons rfl evs_nil) rfl ?_
    have S55 := S54.front 3 rfl
    change St _ _ _ [[(b19, .cells #[.bool hd2, .float .f32 m2, .float .f32 s2] 64 (0, 0))], [(p12, .cells #[.bool hd2, .float .f32 m2, .float .f32 s2] 140 (0, 0))], [(b13, .cells #[.bool hd1, .float .f32 m1, .float .f32 s1] 64 (0, 0))], [(p8, .cells #[.bool hd1, .float .f32 m1, .float .f32 s1] 140 (0, 0))]] at S55
    refine (ref_Guess S55.hp1 hg2).mono ?_
    rintro _ w56 ⟨rfl, T57⟩
    have S58 := S55.call1 T57
    change St _ _ _ [[(b19, .cells #[.bool hd2, .float .f32 m2, .float .f32 s2] 64 (0, 0))], [(p12, .cells #[.bool hd2, .float .f32 m2, .float .f32 s2] 140 (0, 0))], [(b13, .cells #[.bool hd1, .float .f32 m1, .float .f32 s1] 64 (0, 0))], [(p8, .cells #[.bool hd1, .float .f32 m1, .float .f32 s1] 140 (0, 0))]] at S58
    refine ⟨_, rfl, ?_⟩
    refine ⟨⟨cellsAt.of_blk (S58.blk 2 rfl) rfl, cellsAt.of_blk (S58.blk 0 rfl) rfl, trivial⟩, ?_⟩
    refine WH.p rfl (wants_on rfl rfl) (G.neq rfl rfl (b := false) (by simp)) rfl ?_
    refine WH.p rfl wants (G.pick_f rfl rfl) rfl ?_
    refine WH.nil ?_
    refine WEx.then_ ?_
    refine WCode.cond_f rfl ?_
    refine WCode.skip ?_
    refine WEx.then_ ?_
    refine WCode.seq ?_
    refine WCode.seq ?_
    refine WCode.region ?_
    refine WOps.p (G.move rfl) rfl ?_
    refine WOps.p (G.move rfl) rfl ?_
    refine WOps.p (G.len T.el58 rfl) rfl ?_
    refine WOps.p (G.eql rfl rfl (b := true) (decide_eq_true (by omega))) rfl ?_
    refine WOps.nil ?_
    refine WEx.then_ ?_
    refine WCode.cond_t rfl ?_
    refine WCode.exit ?_
    refine WEx.then_exit ?_
    refine WEx.in_other rfl ?_
    refine WEx.then_exit ?_
    refine WEx.then_exit ?_
    refine WEx.in_exit ?_
    refine WEx.then_ ?_
    refine WCode.forget (l' := [(2, .bool false)]) ⟨rfl, trivial⟩ ?_
    refine WCode.seq ?_
    refine WCode.region ?_
    refine WOps.p (G.assign rfl) rfl ?_
    refine WOps.nil ?_
    refine WEx.then_ ?_
    refine WCode.ret ?_
    refine WEx.ret1 rfl rfl ?_
    exact ⟨rfl, St.keep (As := []) S58⟩
  ·
    obtain ⟨g1, hg1⟩ := guessR_ok hM1
    obtain ⟨g2, hg2⟩ := guessR_ok hM2
    have hlt : i < L.length := (List.getElem?_eq_some_iff.1 hx).1
    have on : i64 n := hok _ (List.mem_of_getElem? hx)
    obtain ⟨m', s', hH, hM'⟩ := hearR_ok hM2 n
    refine WCode.seq ?_
    refine WCode.seq ?_
    refine WCode.region ?_
    refine WOps.p (G.move rfl) rfl ?_
    refine WOps.p (G.move rfl) rfl ?_
    refine WOps.p (G.len T.el58 rfl) rfl ?_
    refine WOps.p (G.leq rfl rfl (b := true) (decide_eq_true (by omega))) rfl ?_
    refine WOps.nil ?_
    refine WEx.then_ ?_
    refine WCode.cond_t rfl ?_
    refine WCode.skip ?_
    refine WEx.then_ ?_
    refine WCode.seq ?_
    refine WCode.block ?_
    refine WCode.seq ?_
    refine WCode.seq ?_
    refine WCode.drawH (.one 0 0 (.one 2 0 (.one 3 0 (.one 4 0 (.one 5 1 (.one 1 2 (.one 6 0 (.one 7 0 (.one 8 0 (.one 10 0 (.one 11 0 (.one 12 0 (.one 13 1 (.one 9 2 (.one 14 0 (.one 15 0 (.one 16 0 (.one 17 0 (.one 19 0 (.one 18 2 (.one 20 2 (.one 21 0 (.one 22 0 (.one 23 0 (.one 24 0 (.one 26 0 (.one 27 0 (.one 28 0 (.one 29 1 (.one 25 2 (.one 30 0 (.one 31 0 (.one 32 0 (.one 33 0 (.one 35 0 (.one 36 0 (.one 37 0 (.one 38 1 (.one 34 2 (.one 39 0 (.one 40 0 (.one 41 0 (.one 42 0 (.one 44 0 (.one 43 2 (.one 45 2 (.one 46 0 (.one 47 0 .nil)))))))))))))))))))))))))))))))))))))))))))))))) (fun W => cellsAt W b13 0 [.bool hd1, .float .f32 m1, .float .f32 s1] ∧ cellsAt W b19 0 [.bool hd2, .float .f32 m2, .float .f32 s2] ∧ True) T.mixed (by kernel_rfl) (by intro _ _ d _ _ h; cases d <;> exact h) rfl rfl (by kernel_rfl) ?_ ?_
    all_goals have S59 := S29.drew
    all_goals generalize w28.drew = w60 at *
    · exact ⟨cellsAt.of_blk (S59.blk 2 rfl) rfl, cellsAt.of_blk (S59.blk 3 rfl) rfl, trivial⟩
    refine WH.p rfl wants (G.move rfl) rfl ?_
    refine WH.p rfl wants (G.move rfl) rfl ?_
    refine WH.p rfl wants (G.nilp rfl) rfl ?_
    refine WH.p rfl wants (G.field T.fld64_1 rfl (show 0 + 1 = 1 from rfl)) rfl ?_
    refine WH.r rfl wants (fun _ h => G.load1 T.one62 rfl (cellsAt.at h.1 1 rfl)) rfl ?_
    refine WH.call rfl wants T.call34 (evs_cons rfl evs_nil) rfl ?_
    refine (pace_Mean S59.hp1 ).mono ?_
    rintro _ w61 ⟨rfl, T62⟩
    have S63 := S59.call1 T62
    change St _ _ _ [[(p8, .cells #[.bool hd1, .float .f32 m1, .float .f32 s1] 140 (0, 0))], [(p12, .cells #[.bool hd2, .float .f32 m2, .float .f32 s2] 140 (0, 0))], [(b13, .cells #[.bool hd1, .float .f32 m1, .float .f32 s1] 64 (0, 0))], [(b19, .cells #[.bool hd2, .float .f32 m2, .float .f32 s2] 64 (0, 0))]] at S63
    refine ⟨_, rfl, ?_⟩
    refine ⟨⟨cellsAt.of_blk (S63.blk 2 rfl) rfl, cellsAt.of_blk (S63.blk 3 rfl) rfl, trivial⟩, ?_⟩
    refine WH.p rfl wants (G.fneq rfl rfl (v := false) (neq_same hM1.lt_m)) rfl ?_
    refine WH.p rfl wants (G.move rfl) rfl ?_
    refine WH.p rfl (wants_on rfl rfl) (G.move rfl) rfl ?_
    refine WH.p rfl (wants_on rfl rfl) (G.move rfl) rfl ?_
    refine WH.p rfl (wants_on rfl rfl) (G.nilp rfl) rfl ?_
    refine WH.p rfl (wants_on rfl rfl) (G.field T.fld64_2 rfl (show 0 + 2 = 2 from rfl)) rfl ?_
    refine WH.r rfl (wants_on rfl rfl) (fun _ h => G.load1 T.one62 rfl (cellsAt.at h.1 2 rfl)) rfl ?_
    refine WH.call rfl (wants_on rfl rfl) T.call35 (evs_cons rfl evs_nil) rfl ?_
    refine (pace_Spread S63.hp1 ).mono ?_
    rintro _ w64 ⟨rfl, T65⟩
    have S66 := S63.call1 T65
    change St _ _ _ [[(p8, .cells #[.bool hd1, .float .f32 m1, .float .f32 s1] 140 (0, 0))], [(p12, .cells #[.bool hd2, .float .f32 m2, .float .f32 s2] 140 (0, 0))], [(b13, .cells #[.bool hd1, .float .f32 m1, .float .f32 s1] 64 (0, 0))], [(b19, .cells #[.bool hd2, .float .f32 m2, .float .f32 s2] 64 (0, 0))]] at S66
    refine ⟨_, rfl, ?_⟩
    refine ⟨⟨cellsAt.of_blk (S66.blk 2 rfl) rfl, cellsAt.of_blk (S66.blk 3 rfl) rfl, trivial⟩, ?_⟩
    refine WH.p rfl (wants_on rfl rfl) (G.fneq rfl rfl (v := false) (neq_same hM1.lt_s)) rfl ?_
    refine WH.p rfl wants (G.pick_f rfl rfl) rfl ?_
    refine WH.p rfl wants (G.move rfl) rfl ?_
    refine WH.p rfl (wants_on rfl rfl) (G.move rfl) rfl ?_
    refine WH.p rfl (wants_on rfl rfl) (G.move rfl) rfl ?_
    refine WH.call rfl (wants_on rfl rfl) T.call36 (evs_cons rfl evs_nil) rfl ?_
    refine (pace_Guess S66.hp1 hg1).mono ?_
    rintro _ w67 ⟨rfl, T68⟩
    have S69 := S66.call1 T68
    change St _ _ _ [[(p8, .cells #[.bool hd1, .float .f32 m1, .float .f32 s1] 140 (0, 0))], [(p12, .cells #[.bool hd2, .float .f32 m2, .float .f32 s2] 140 (0, 0))], [(b13, .cells #[.bool hd1, .float .f32 m1, .float .f32 s1] 64 (0, 0))], [(b19, .cells #[.bool hd2, .float .f32 m2, .float .f32 s2] 64 (0, 0))]] at S69
    refine ⟨_, rfl, ?_⟩
    refine ⟨⟨cellsAt.of_blk (S69.blk 2 rfl) rfl, cellsAt.of_blk (S69.blk 3 rfl) rfl, trivial⟩, ?_⟩
    refine WH.call rfl (wants_on rfl rfl) T.call37 (evs_cons rfl evs_nil) rfl ?_
    have S70 := S69.front 2 rfl
    change St _ _ _ [[(b13, .cells #[.bool hd1, .float .f32 m1, .float .f32 s1] 64 (0, 0))], [(p8, .cells #[.bool hd1, .float .f32 m1, .float .f32 s1] 140 (0, 0))], [(p12, .cells #[.bool hd2, .float .f32 m2, .float .f32 s2] 140 (0, 0))], [(b19, .cells #[.bool hd2, .float .f32 m2, .float .f32 s2] 64 (0, 0))]] at S70
    refine (ref_Guess S70.hp1 hg1).mono ?_
    rintro _ w71 ⟨rfl, T72⟩
    have S73 := S70.call1 T72
    change St _ _ _ [[(b13, .cells #[.bool hd1, .float .f32 m1, .float .f32 s1] 64 (0, 0))], [(p8, .cells #[.bool hd1, .float .f32 m1, .float .f32 s1] 140 (0, 0))], [(p12, .cells #[.bool hd2, .float .f32 m2, .float .f32 s2] 140 (0, 0))], [(b19, .cells #[.bool hd2, .float .f32 m2, .float .f32 s2] 64 (0, 0))]] at S73
    refine ⟨_, rfl, ?_⟩
    refine ⟨⟨cellsAt.of_blk (S73.blk 0 rfl) rfl, cellsAt.of_blk (S73.blk 3 rfl) rfl, trivial⟩, ?_⟩
    refine WH.p rfl (wants_on rfl rfl) (G.neq rfl rfl (b := false) (by simp)) rfl ?_
    refine WH.p rfl wants (G.pick_f rfl rfl) rfl ?_
    refine WH.p rfl wants (G.move rfl) rfl ?_
    refine WH.p rfl (wants_on rfl rfl) (G.move rfl) rfl ?_
    refine WH.p rfl (wants_on rfl rfl) (G.move rfl) rfl ?_
    refine WH.p rfl (wants_on rfl rfl) (G.nilp rfl) rfl ?_
    refine WH.p rfl (wants_on rfl rfl) (G.field T.fld64_1 rfl (show 0 + 1 = 1 from rfl)) rfl ?_
    refine WH.r rfl (wants_on rfl rfl) (fun _ h => G.load1 T.one62 rfl (cellsAt.at h.2.1 1 rfl)) rfl ?_
    refine WH.call rfl (wants_on rfl rfl) T.call34 (evs_cons rfl evs_nil) rfl ?_
    have S74 := S73.front 2 rfl
    change St _ _ _ [[(p12, .cells #[.bool hd2, .float .f32 m2, .float .f32 s2] 140 (0, 0))], [(b13, .cells #[.bool hd1, .float .f32 m1, .float .f32 s1] 64 (0, 0))], [(p8, .cells #[.bool hd1, .float .f32 m1, .float .f32 s1] 140 (0, 0))], [(b19, .cells #[.bool hd2, .float .f32 m2, .float .f32 s2] 64 (0, 0))]] at S74
    refine (pace_Mean S74.hp1 ).mono ?_
    rintro _ w75 ⟨rfl, T76⟩
    have S77 := S74.call1 T76
    change St _ _ _ [[(p12, .cells #[.bool hd2, .float .f32 m2, .float .f32 s2] 140 (0, 0))], [(b13, .cells #[.bool hd1, .float .f32 m1, .float .f32 s1] 64 (0, 0))], [(p8, .cells #[.bool hd1, .float .f32 m1, .float .f32 s1] 140 (0, 0))], [(b19, .cells #[.bool hd2, .float .f32 m2, .float .f32 s2] 64 (0, 0))]] at S77
    refine ⟨_, rfl, ?_⟩
    refine ⟨⟨cellsAt.of_blk (S77.blk 1 rfl) rfl, cellsAt.of_blk (S77.blk 3 rfl) rfl, trivial⟩, ?_⟩
    refine WH.p rfl (wants_on rfl rfl) (G.fneq rfl rfl (v := false) (neq_same hM2.lt_m)) rfl ?_
    refine WH.p rfl wants (G.pick_f rfl rfl) rfl ?_
    refine WH.p rfl wants (G.move rfl) rfl ?_
    refine WH.p rfl (wants_on rfl rfl) (G.move rfl) rfl ?_
    refine WH.p rfl (wants_on rfl rfl) (G.move rfl) rfl ?_
    refine WH.p rfl (wants_on rfl rfl) (G.nilp rfl) rfl ?_
    refine WH.p rfl (wants_on rfl rfl) (G.field T.fld64_2 rfl (show 0 + 2 = 2 from rfl)) rfl ?_
    refine WH.r rfl (wants_on rfl rfl) (fun _ h => G.load1 T.one62 rfl (cellsAt.at h.2.1 2 rfl)) rfl ?_
    refine WH.call rfl (wants_on rfl rfl) T.call35 (evs_cons rfl evs_nil) rfl ?_
    refine (pace_Spread S77.hp1 ).mono ?_
    rintro _ w78 ⟨rfl, T79⟩
    have S80 := S77.call1 T79
    change St _ _ _ [[(p12, .cells #[.bool hd2, .float .f32 m2, .float .f32 s2] 140 (0, 0))], [(b13, .cells #[.bool hd1, .float .f32 m1, .float .f32 s1] 64 (0, 0))], [(p8, .cells #[.bool hd1, .float .f32 m1, .float .f32 s1] 140 (0, 0))], [(b19, .cells #[.bool hd2, .float .f32 m2, .float .f32 s2] 64 (0, 0))]] at S80
    refine ⟨_, rfl, ?_⟩
    refine ⟨⟨cellsAt.of_blk (S80.blk 1 rfl) rfl, cellsAt.of_blk (S80.blk 3 rfl) rfl, trivial⟩, ?_⟩
    refine WH.p rfl (wants_on rfl rfl) (G.fneq rfl rfl (v := false) (neq_same hM2.lt_s)) rfl ?_
    refine WH.p rfl wants (G.pick_f rfl rfl) rfl ?_
    refine WH.p rfl wants (G.move rfl) rfl ?_
    refine WH.p rfl (wants_on rfl rfl) (G.move rfl) rfl ?_
    refine WH.p rfl (wants_on rfl rfl) (G.move rfl) rfl ?_
    refine WH.call rfl (wants_on rfl rfl) T.call36 (evs_cons rfl evs_nil) rfl ?_
    refine (pace_Guess S80.hp1 hg2).mono ?_
    rintro _ w81 ⟨rfl, T82⟩
    have S83 := S80.call1 T82
    change St _ _ _ [[(p12, .cells #[.bool hd2, .float .f32 m2, .float .f32 s2] 140 (0, 0))], [(b13, .cells #[.bool hd1, .float .f32 m1, .float .f32 s1] 64 (0, 0))], [(p8, .cells #[.bool hd1, .float .f32 m1, .float .f32 s1] 140 (0, 0))], [(b19, .cells #[.bool hd2, .float .f32 m2, .float .f32 s2] 64 (0, 0))]] at S83
    refine ⟨_, rfl, ?_⟩
    refine ⟨⟨cellsAt.of_blk (S83.blk 1 rfl) rfl, cellsAt.of_blk (S83.blk 3 rfl) rfl, trivial⟩, ?_⟩
    refine WH.call rfl (wants_on rfl rfl) T.call37 (evs_cons rfl evs_nil) rfl ?_
    have S84 := S83.front 3 rfl
    change St _ _ _ [[(b19, .cells #[.bool hd2, .float .f32 m2, .float .f32 s2] 64 (0, 0))], [(p12, .cells #[.bool hd2, .float .f32 m2, .float .f32 s2] 140 (0, 0))], [(b13, .cells #[.bool hd1, .float .f32 m1, .float .f32 s1] 64 (0, 0))], [(p8, .cells #[.bool hd1, .float .f32 m1, .float .f32 s1] 140 (0, 0))]] at S84
    refine (ref_Guess S84.hp1 hg2).mono ?_
    rintro _ w85 ⟨rfl, T86⟩
    have S87 := S84.call1 T86
    change St _ _ _ [[(b19, .cells #[.bool hd2, .float .f32 m2, .float .f32 s2] 64 (0, 0))], [(p12, .cells #[.bool hd2, .float .f32 m2, .float .f32 s2] 140 (0, 0))], [(b13, .cells #[.bool hd1, .float .f32 m1, .float .f32 s1] 64 (0, 0))], [(p8, .cells #[.bool hd1, .float .f32 m1, .float .f32 s1] 140 (0, 0))]] at S87
    refine ⟨_, rfl, ?_⟩
    refine ⟨⟨cellsAt.of_blk (S87.blk 2 rfl) rfl, cellsAt.of_blk (S87.blk 0 rfl) rfl, trivial⟩, ?_⟩
    refine WH.p rfl (wants_on rfl rfl) (G.neq rfl rfl (b := false) (by simp)) rfl ?_
    refine WH.p rfl wants (G.pick_f rfl rfl) rfl ?_
    refine WH.nil ?_
    refine WEx.then_ ?_
    refine WCode.cond_f rfl ?_
    refine WCode.skip ?_
    refine WEx.then_ ?_
    refine WCode.seq ?_
    refine WCode.seq ?_
    refine WCode.region ?_
    refine WOps.p (G.move rfl) rfl ?_
    refine WOps.p (G.move rfl) rfl ?_
    refine WOps.p (G.len T.el58 rfl) rfl ?_
    refine WOps.p (G.eql rfl rfl (b := false) (decide_eq_false (by omega))) rfl ?_
    refine WOps.nil ?_
    refine WEx.then_ ?_
    refine WCode.cond_f rfl ?_
    refine WCode.skip ?_
    refine WEx.then_ ?_
    refine WCode.seq ?_
    refine WCode.region ?_
    refine WOps.p (G.move rfl) rfl ?_
    refine WOps.p (G.move rfl) rfl ?_
    obtain ⟨b88, o89, ea90, ca91⟩ := Rd.at_ Tk.len (hL.ext S87.ext0) hx rfl
    cases ea90
    refine WOps.p (G.index T.el58 rfl rfl (j := i) hlt rfl) rfl ?_
    refine WOps.p (G.field T.fld67_0 rfl (show o89 + i * 2 + 0 = o89 + i * 2 + 0 from rfl)) rfl ?_
    refine WOps.r (G.load1 T.one4 rfl (cellsAt.at ca91 0 rfl)) rfl ?_
    refine WOps.nil ?_
    refine WEx.then_ ?_
    refine WCode.cond_t rfl ?_
    refine WCode.seq ?_
    refine WCode.region ?_
    refine WOps.p (G.move rfl) rfl ?_
    refine WOps.p (G.move rfl) rfl ?_
    refine WOps.p (G.move rfl) rfl ?_
    obtain ⟨b92, o93, ea94, ca95⟩ := Rd.at_ Tk.len (hL.ext S87.ext0) hx rfl
    cases ea94
    refine WOps.p (G.index T.el58 rfl rfl (j := i) hlt rfl) rfl ?_
    refine WOps.p (G.field T.fld67_1 rfl (show o89 + i * 2 + 1 = o89 + i * 2 + 1 from rfl)) rfl ?_
    refine WOps.r (G.load1 T.one3 rfl (cellsAt.at ca95 1 rfl)) rfl ?_
    refine WOps.call T.call38 (evs_cons rfl (evs_cons rfl evs_nil)) rfl ?_
    have S96 := S87.front 1 rfl
    change St _ _ _ [[(p12, .cells #[.bool hd2, .float .f32 m2, .float .f32 s2] 140 (0, 0))], [(b19, .cells #[.bool hd2, .float .f32 m2, .float .f32 s2] 64 (0, 0))], [(b13, .cells #[.bool hd1, .float .f32 m1, .float .f32 s1] 64 (0, 0))], [(p8, .cells #[.bool hd1, .float .f32 m1, .float .f32 s1] 140 (0, 0))]] at S96
    refine (pace_Hear S96.hp1 on hH).mono ?_
    rintro _ w97 ⟨rfl, T98⟩
    have S99 := S96.call1 T98
    change St _ _ _ [[(p12, .cells #[.bool true, .float .f32 m', .float .f32 s'] 140 (0, 0))], [(b19, .cells #[.bool hd2, .float .f32 m2, .float .f32 s2] 64 (0, 0))], [(b13, .cells #[.bool hd1, .float .f32 m1, .float .f32 s1] 64 (0, 0))], [(p8, .cells #[.bool hd1, .float .f32 m1, .float .f32 s1] 140 (0, 0))]] at S99
    refine ⟨_, rfl, ?_⟩
    refine WOps.nil ?_
    refine WEx.forget (l' := [(0, .slice (some ⟨b88, o89, none⟩) L.length cp), (2, .bool false), (4, .pointer (some ⟨p8, 0, none⟩)), (5, .pointer (some ⟨p12, 0, none⟩)), (6, .pointer (some ⟨b13, 0, none⟩)), (7, .pointer (some ⟨b19, 0, none⟩)), (8, .int .i64 (i : Nat)), (26, .int .i64 (i : Nat)), (27, .slice (some ⟨b88, o89, none⟩) L.length cp), (28, .int .i64 (L.length : Nat)), (29, .bool true), (32, .pointer (some ⟨p8, 0, none⟩)), (33, .float .f32 m1), (34, .pointer (some ⟨b13, 0, none⟩)), (35, .pointer (some ⟨b13, 0, none⟩)), (36, .pointer (some ⟨b13, 1, none⟩)), (37, .float .f32 m1), (38, .bool false), (39, .bool false), (40, .pointer (some ⟨p8, 0, none⟩)), (41, .float .f32 s1), (42, .pointer (some ⟨b13, 0, none⟩)), (43, .pointer (some ⟨b13, 0, none⟩)), (44, .pointer (some ⟨b13, 2, none⟩)), (45, .float .f32 s1), (46, .bool false), (47, .bool false), (48, .bool false), (49, .pointer (some ⟨p8, 0, none⟩)), (50, .int .i64 g1), (51, .pointer (some ⟨b13, 0, none⟩)), (52, .int .i64 g1), (53, .bool false), (54, .bool false), (55, .bool false), (56, .pointer (some ⟨p12, 0, none⟩)), (57, .float .f32 m2), (58, .pointer (some ⟨b19, 0, none⟩)), (59, .pointer (some ⟨b19, 0, none⟩)), (60, .pointer (some ⟨b19, 1, none⟩)), (61, .float .f32 m2), (62, .bool false), (63, .bool false), (64, .bool false), (65, .pointer (some ⟨p12, 0, none⟩)), (66, .float .f32 s2), (67, .pointer (some ⟨b19, 0, none⟩)), (68, .pointer (some ⟨b19, 0, none⟩)), (69, .pointer (some ⟨b19, 2, none⟩)), (70, .float .f32 s2), (71, .bool false), (72, .bool false), (73, .bool false), (74, .pointer (some ⟨p12, 0, none⟩)), (75, .int .i64 g2), (76, .pointer (some ⟨b19, 0, none⟩)), (77, .int .i64 g2), (78, .bool false), (79, .bool false), (80, .int .i64 (i : Nat)), (81, .slice (some ⟨b88, o89, none⟩) L.length cp), (82, .int .i64 (L.length : Nat)), (83, .bool false), (84, .slice (some ⟨b88, o89, none⟩) L.length cp), (85, .int .i64 (i : Nat)), (86, .pointer (some ⟨b88, o89 + i * 2, none⟩)), (87, .pointer (some ⟨b88, o89 + i * 2 + 0, none⟩)), (88, .bool true), (89, .pointer (some ⟨p12, 0, none⟩)), (90, .slice (some ⟨b88, o89, none⟩) L.length cp), (91, .int .i64 (i : Nat)), (92, .pointer (some ⟨b88, o89 + i * 2, none⟩)), (93, .pointer (some ⟨b88, o89 + i * 2 + 1, none⟩)), (94, .int .i64 n)]) ⟨rfl, rfl, rfl, rfl, rfl, rfl, rfl, rfl, rfl, rfl, rfl, rfl, rfl, rfl, rfl, rfl, rfl, rfl, rfl, rfl, rfl, rfl, rfl, rfl, rfl, rfl, rfl, rfl, rfl, rfl, rfl, rfl, rfl, rfl, rfl, rfl, rfl, rfl, rfl, rfl, rfl, rfl, rfl, rfl, rfl, rfl, rfl, rfl, rfl, rfl, rfl, rfl, rfl, rfl, rfl, rfl, rfl, rfl, rfl, rfl, rfl, rfl, rfl, rfl, rfl, rfl, rfl, rfl, rfl, rfl, rfl, rfl, rfl, rfl, trivial⟩ ?_
    refine WEx.then_ ?_
    refine WCode.region ?_
    refine WOps.p (G.move rfl) rfl ?_
    refine WOps.p (G.move rfl) rfl ?_
    refine WOps.p (G.move rfl) rfl ?_
    obtain ⟨b100, o101, ea102, ca103⟩ := Rd.at_ Tk.len (hL.ext S99.ext0) hx rfl
    cases ea102
    refine WOps.p (G.index T.el58 rfl rfl (j := i) hlt rfl) rfl ?_
    refine WOps.p (G.field T.fld67_1 rfl (show o89 + i * 2 + 1 = o89 + i * 2 + 1 from rfl)) rfl ?_
    refine WOps.r (G.load1 T.one3 rfl (cellsAt.at ca103 1 rfl)) rfl ?_
    refine WOps.call T.call39 (evs_cons rfl (evs_cons rfl evs_nil)) rfl ?_
    have S104 := S99.front 1 rfl
    change St _ _ _ [[(b19, .cells #[.bool hd2, .float .f32 m2, .float .f32 s2] 64 (0, 0))], [(p12, .cells #[.bool true, .float .f32 m', .float .f32 s'] 140 (0, 0))], [(b13, .cells #[.bool hd1, .float .f32 m1, .float .f32 s1] 64 (0, 0))], [(p8, .cells #[.bool hd1, .float .f32 m1, .float .f32 s1] 140 (0, 0))]] at S104
    refine (ref_Hear S104.hp1 on hH).mono ?_
    rintro _ w105 ⟨rfl, T106⟩
    have S107 := S104.call1 T106
    change St _ _ _ [[(b19, .cells #[.bool true, .float .f32 m', .float .f32 s'] 64 (0, 0))], [(p12, .cells #[.bool true, .float .f32 m', .float .f32 s'] 140 (0, 0))], [(b13, .cells #[.bool hd1, .float .f32 m1, .float .f32 s1] 64 (0, 0))], [(p8, .cells #[.bool hd1, .float .f32 m1, .float .f32 s1] 140 (0, 0))]] at S107
    refine ⟨_, rfl, ?_⟩
    refine WOps.nil ?_
    refine WEx.forget (l' := [(0, .slice (some ⟨b88, o89, none⟩) L.length cp), (2, .bool false), (4, .pointer (some ⟨p8, 0, none⟩)), (5, .pointer (some ⟨p12, 0, none⟩)), (6, .pointer (some ⟨b13, 0, none⟩)), (7, .pointer (some ⟨b19, 0, none⟩)), (8, .int .i64 (i : Nat)), (26, .int .i64 (i : Nat)), (27, .slice (some ⟨b88, o89, none⟩) L.length cp), (28, .int .i64 (L.length : Nat)), (29, .bool true), (32, .pointer (some ⟨p8, 0, none⟩)), (33, .float .f32 m1), (34, .pointer (some ⟨b13, 0, none⟩)), (35, .pointer (some ⟨b13, 0, none⟩)), (36, .pointer (some ⟨b13, 1, none⟩)), (37, .float .f32 m1), (38, .bool false), (39, .bool false), (40, .pointer (some ⟨p8, 0, none⟩)), (41, .float .f32 s1), (42, .pointer (some ⟨b13, 0, none⟩)), (43, .pointer (some ⟨b13, 0, none⟩)), (44, .pointer (some ⟨b13, 2, none⟩)), (45, .float .f32 s1), (46, .bool false), (47, .bool false), (48, .bool false), (49, .pointer (some ⟨p8, 0, none⟩)), (50, .int .i64 g1), (51, .pointer (some ⟨b13, 0, none⟩)), (52, .int .i64 g1), (53, .bool false), (54, .bool false), (55, .bool false), (56, .pointer (some ⟨p12, 0, none⟩)), (57, .float .f32 m2), (58, .pointer (some ⟨b19, 0, none⟩)), (59, .pointer (some ⟨b19, 0, none⟩)), (60, .pointer (some ⟨b19, 1, none⟩)), (61, .float .f32 m2), (62, .bool false), (63, .bool false), (64, .bool false), (65, .pointer (some ⟨p12, 0, none⟩)), (66, .float .f32 s2), (67, .pointer (some ⟨b19, 0, none⟩)), (68, .pointer (some ⟨b19, 0, none⟩)), (69, .pointer (some ⟨b19, 2, none⟩)), (70, .float .f32 s2), (71, .bool false), (72, .bool false), (73, .bool false), (74, .pointer (some ⟨p12, 0, none⟩)), (75, .int .i64 g2), (76, .pointer (some ⟨b19, 0, none⟩)), (77, .int .i64 g2), (78, .bool false), (79, .bool false), (80, .int .i64 (i : Nat)), (81, .slice (some ⟨b88, o89, none⟩) L.length cp), (82, .int .i64 (L.length : Nat)), (83, .bool false), (84, .slice (some ⟨b88, o89, none⟩) L.length cp), (85, .int .i64 (i : Nat)), (86, .pointer (some ⟨b88, o89 + i * 2, none⟩)), (87, .pointer (some ⟨b88, o89 + i * 2 + 0, none⟩)), (88, .bool true), (89, .pointer (some ⟨p12, 0, none⟩)), (90, .slice (some ⟨b88, o89, none⟩) L.length cp), (91, .int .i64 (i : Nat)), (92, .pointer (some ⟨b88, o89 + i * 2, none⟩)), (93, .pointer (some ⟨b88, o89 + i * 2 + 1, none⟩)), (94, .int .i64 n), (96, .pointer (some ⟨b19, 0, none⟩)), (97, .slice (some ⟨b88, o89, none⟩) L.length cp), (98, .int .i64 (i : Nat)), (99, .pointer (some ⟨b88, o89 + i * 2, none⟩)), (100, .pointer (some ⟨b88, o89 + i * 2 + 1, none⟩)), (101, .int .i64 n)]) ⟨rfl, rfl, rfl, rfl, rfl, rfl, rfl, rfl, rfl, rfl, rfl, rfl, rfl, rfl, rfl, rfl, rfl, rfl, rfl, rfl, rfl, rfl, rfl, rfl, rfl, rfl, rfl, rfl, rfl, rfl, rfl, rfl, rfl, rfl, rfl, rfl, rfl, rfl, rfl, rfl, rfl, rfl, rfl, rfl, rfl, rfl, rfl, rfl, rfl, rfl, rfl, rfl, rfl, rfl, rfl, rfl, rfl, rfl, rfl, rfl, rfl, rfl, rfl, rfl, rfl, rfl, rfl, rfl, rfl, rfl, rfl, rfl, rfl, rfl, rfl, rfl, rfl, rfl, rfl, rfl, trivial⟩ ?_
    refine WEx.in_normal ?_
    refine WEx.then_ ?_
    refine WCode.region ?_
    refine WOps.p (G.move rfl) rfl ?_
    refine WOps.p (G.add rfl rfl (show IntKind.i64.wrap ((i : Nat) + 1) = ((i : Nat) + 1) from IntWalk.i64_in _ (by omega))) rfl ?_
    refine WOps.p (G.assign rfl) rfl ?_
    refine WOps.nil ?_
    have S108 := S107.front 2 rfl
    change St _ _ _ [[(b13, .cells #[.bool hd1, .float .f32 m1, .float .f32 s1] 64 (0, 0))], [(b19, .cells #[.bool true, .float .f32 m', .float .f32 s'] 64 (0, 0))], [(p12, .cells #[.bool true, .float .f32 m', .float .f32 s'] 140 (0, 0))], [(p8, .cells #[.bool hd1, .float .f32 m1, .float .f32 s1] 140 (0, 0))]] at S108
    have S109 := S108.front 2 rfl
    change St _ _ _ [[(p12, .cells #[.bool true, .float .f32 m', .float .f32 s'] 140 (0, 0))], [(b13, .cells #[.bool hd1, .float .f32 m1, .float .f32 s1] 64 (0, 0))], [(b19, .cells #[.bool true, .float .f32 m', .float .f32 s'] 64 (0, 0))], [(p8, .cells #[.bool hd1, .float .f32 m1, .float .f32 s1] 140 (0, 0))]] at S109
    have S110 := S109.front 3 rfl
    change St _ _ _ [[(p8, .cells #[.bool hd1, .float .f32 m1, .float .f32 s1] 140 (0, 0))], [(p12, .cells #[.bool true, .float .f32 m', .float .f32 s'] 140 (0, 0))], [(b13, .cells #[.bool hd1, .float .f32 m1, .float .f32 s1] 64 (0, 0))], [(b19, .cells #[.bool true, .float .f32 m', .float .f32 s'] 64 (0, 0))]] at S110
    refine WEx.again _ _ ?_ ?_ ⟨i + 1, hd1, m1, s1, true, m', s', rfl, rfl, hlt, hM1, hM', S110⟩
    · omega
    · exact ⟨rfl, rfl, rfl, rfl, rfl, rfl, rfl, trivial⟩
  ·
    obtain ⟨g1, hg1⟩ := guessR_ok hM1
    obtain ⟨g2, hg2⟩ := guessR_ok hM2
    have hlt : i < L.length := (List.getElem?_eq_some_iff.1 hx).1
    have on : i64 n := hok _ (List.mem_of_getElem? hx)
    obtain ⟨m', s', hH, hM'⟩ := hearR_ok hM1 n
    refine WCode.seq ?_
    refine WCode.seq ?_
    refine WCode.region ?_
    refine WOps.p (G.move rfl) rfl ?_
    refine WOps.p (G.move rfl) rfl ?_
    refine WOps.p (G.len T.el58 rfl) rfl ?_
    refine WOps.p (G.leq rfl rfl (b := true) (decide_eq_true (by omega))) rfl ?_
    refine WOps.nil ?_
    refine WEx.then_ ?_
    refine WCode.cond_t rfl ?_
    refine WCode.skip ?_
    refine WEx.then_ ?_
    refine WCode.seq ?_
    refine WCode.block ?_
    refine WCode.seq ?_
    refine WCode.seq ?_
    refine WCode.drawH (.one 0 0 (.one 2 0 (.one 3 0 (.one 4 0 (.one 5 1 (.one 1 2 (.one 6 0 (.one 7 0 (.one 8 0 (.one 10 0 (.one 11 0 (.one 12 0 (.one 13 1 (.one 9 2 (.one 14 0 (.one 15 0 (.one 16 0 (.one 17 0 (.one 19 0 (.one 18 2 (.one 20 2 (.one 21 0 (.one 22 0 (.one 23 0 (.one 24 0 (.one 26 0 (.one 27 0 (.one 28 0 (.one 29 1 (.one 25 2 (.one 30 0 (.one 31 0 (.one 32 0 (.one 33 0 (.one 35 0 (.one 36 0 (.one 37 0 (.one 38 1 (.one 34 2 (.one 39 0 (.one 40 0 (.one 41 0 (.one 42 0 (.one 44 0 (.one 43 2 (.one 45 2 (.one 46 0 (.one 47 0 .nil)))))))))))))))))))))))))))))))))))))))))))))))) (fun W => cellsAt W b13 0 [.bool hd1, .float .f32 m1, .float .f32 s1] ∧ cellsAt W b19 0 [.bool hd2, .float .f32 m2, .float .f32 s2] ∧ True) T.mixed (by kernel_rfl) (by intro _ _ d _ _ h; cases d <;> exact h) rfl rfl (by kernel_rfl) ?_ ?_
    all_goals have S111 := S29.drew
    all_goals generalize w28.drew = w112 at *
    · exact ⟨cellsAt.of_blk (S111.blk 2 rfl) rfl, cellsAt.of_blk (S111.blk 3 rfl) rfl, trivial⟩
    refine WH.p rfl wants (G.move rfl) rfl ?_
    refine WH.p rfl wants (G.move rfl) rfl ?_
    refine WH.p rfl wants (G.nilp rfl) rfl ?_
    refine WH.p rfl wants (G.field T.fld64_1 rfl (show 0 + 1 = 1 from rfl)) rfl ?_
    refine WH.r rfl wants (fun _ h => G.load1 T.one62 rfl (cellsAt.at h.1 1 rfl)) rfl ?_
    refine WH.call rfl wants T.call34 (evs_cons rfl evs_nil) rfl ?_
    refine (pace_Mean S111.hp1 ).mono ?_
    rintro _ w113 ⟨rfl, T114⟩
    have S115 := S111.call1 T114
    change St _ _ _ [[(p8, .cells #[.bool hd1, .float .f32 m1, .float .f32 s1] 140 (0, 0))], [(p12, .cells #[.bool hd2, .float .f32 m2, .float .f32 s2] 140 (0, 0))], [(b13, .cells #[.bool hd1, .float .f32 m1, .float .f32 s1] 64 (0, 0))], [(b19, .cells #[.bool hd2, .float .f32 m2, .float .f32 s2] 64 (0, 0))]] at S115
    refine ⟨_, rfl, ?_⟩
    refine ⟨⟨cellsAt.of_blk (S115.blk 2 rfl) rfl, cellsAt.of_blk (S115.blk 3 rfl) rfl, trivial⟩, ?_⟩
    refine WH.p rfl wants (G.fneq rfl rfl (v := false) (neq_same hM1.lt_m)) rfl ?_
    refine WH.p rfl wants (G.move rfl) rfl ?_
    refine WH.p rfl (wants_on rfl rfl) (G.move rfl) rfl ?_
    refine WH.p rfl (wants_on rfl rfl) (G.move rfl) rfl ?_
    refine WH.p rfl (wants_on rfl rfl) (G.nilp rfl) rfl ?_
    refine WH.p rfl (wants_on rfl rfl) (G.field T.fld64_2 rfl (show 0 + 2 = 2 from rfl)) rfl ?_
    refine WH.r rfl (wants_on rfl rfl) (fun _ h => G.load1 T.one62 rfl (cellsAt.at h.1 2 rfl)) rfl ?_
    refine WH.call rfl (wants_on rfl rfl) T.call35 (evs_cons rfl evs_nil) rfl ?_
    refine (pace_Spread S115.hp1 ).mono ?_
    rintro _ w116 ⟨rfl, T117⟩
    have S118 := S115.call1 T117
    change St _ _ _ [[(p8, .cells #[.bool hd1, .float .f32 m1, .float .f32 s1] 140 (0, 0))], [(p12, .cells #[.bool hd2, .float .f32 m2, .float .f32 s2] 140 (0, 0))], [(b13, .cells #[.bool hd1, .float .f32 m1, .float .f32 s1] 64 (0, 0))], [(b19, .cells #[.bool hd2, .float .f32 m2, .float .f32 s2] 64 (0, 0))]] at S118
    refine ⟨_, rfl, ?_⟩
    refine ⟨⟨cellsAt.of_blk (S118.blk 2 rfl) rfl, cellsAt.of_blk (S118.blk 3 rfl) rfl, trivial⟩, ?_⟩
    refine WH.p rfl (wants_on rfl rfl) (G.fneq rfl rfl (v := false) (neq_same hM1.lt_s)) rfl ?_
    refine WH.p rfl wants (G.pick_f rfl rfl) rfl ?_
    refine WH.p rfl wants (G.move rfl) rfl ?_
    refine WH.p rfl (wants_on rfl rfl) (G.move rfl) rfl ?_
    refine WH.p rfl (wants_on rfl rfl) (G.move rfl) rfl ?_
    refine WH.call rfl (wants_on rfl rfl) T.call36 (evs_cons rfl evs_nil) rfl ?_
    refine (pace_Guess S118.hp1 hg1).mono ?_
    rintro _ w119 ⟨rfl, T120⟩
    have S121 := S118.call1 T120
    change St _ _ _ [[(p8, .cells #[.bool hd1, .float .f32 m1, .float .f32 s1] 140 (0, 0))], [(p12, .cells #[.bool hd2, .float .f32 m2, .float .f32 s2] 140 (0, 0))], [(b13, .cells #[.bool hd1, .float .f32 m1, .float .f32 s1] 64 (0, 0))], [(b19, .cells #[.bool hd2, .float .f32 m2, .float .f32 s2] 64 (0, 0))]] at S121
    refine ⟨_, rfl, ?_⟩
    refine ⟨⟨cellsAt.of_blk (S121.blk 2 rfl) rfl, cellsAt.of_blk (S121.blk 3 rfl) rfl, trivial⟩, ?_⟩
    refine WH.call rfl (wants_on rfl rfl) T.call37 (evs_cons rfl evs_nil) rfl ?_
    have S122 := S121.front 2 rfl
    change St _ _ _ [[(b13, .cells #[.bool hd1, .float .f32 m1, .float .f32 s1] 64 (0, 0))], [(p8, .cells #[.bool hd1, .float .f32 m1, .float .f32 s1] 140 (0, 0))], [(p12, .cells #[.bool hd2, .float .f32 m2, .float .f32 s2] 140 (0, 0))], [(b19, .cells #[.bool hd2, .float .f32 m2, .float .f32 s2] 64 (0, 0))]] at S122
    refine (ref_Guess S122.hp1 hg1).mono ?_
    rintro _ w123 ⟨rfl, T124⟩
    have S125 := S122.call1 T124
    change St _ _ _ [[(b13, .cells #[.bool hd1, .float .f32 m1, .float .f32 s1] 64 (0, 0))], [(p8, .cells #[.bool hd1, .float .f32 m1, .float .f32 s1] 140 (0, 0))], [(p12, .cells #[.bool hd2, .float .f32 m2, .float .f32 s2] 140 (0, 0))], [(b19, .cells #[.bool hd2, .float .f32 m2, .float .f32 s2] 64 (0, 0))]] at S125
    refine ⟨_, rfl, ?_⟩
    refine ⟨⟨cellsAt.of_blk (S125.blk 0 rfl) rfl, cellsAt.of_blk (S125.blk 3 rfl) rfl, trivial⟩, ?_⟩
    refine WH.p rfl (wants_on rfl rfl) (G.neq rfl rfl (b := false) (by simp)) rfl ?_
    refine WH.p rfl wants (G.pick_f rfl rfl) rfl ?_
    refine WH.p rfl wants (G.move rfl) rfl ?_
    refine WH.p rfl (wants_on rfl rfl) (G.move rfl) rfl ?_
    refine WH.p rfl (wants_on rfl rfl) (G.move rfl) rfl ?_
    refine WH.p rfl (wants_on rfl rfl) (G.nilp rfl) rfl ?_
    refine WH.p rfl (wants_on rfl rfl) (G.field T.fld64_1 rfl (show 0 + 1 = 1 from rfl)) rfl ?_
    refine WH.r rfl (wants_on rfl rfl) (fun _ h => G.load1 T.one62 rfl (cellsAt.at h.2.1 1 rfl)) rfl ?_
    refine WH.call rfl (wants_on rfl rfl) T.call34 (evs_cons rfl evs_nil) rfl ?_
    have S126 := S125.front 2 rfl
    change St _ _ _ [[(p12, .cells #[.bool hd2, .float .f32 m2, .float .f32 s2] 140 (0, 0))], [(b13, .cells #[.bool hd1, .float .f32 m1, .float .f32 s1] 64 (0, 0))], [(p8, .cells #[.bool hd1, .float .f32 m1, .float .f32 s1] 140 (0, 0))], [(b19, .cells #[.bool hd2, .float .f32 m2, .float .f32 s2] 64 (0, 0))]] at S126
    refine (pace_Mean S126.hp1 ).mono ?_
    rintro _ w127 ⟨rfl, T128⟩
    have S129 := S126.call1 T128
    change St _ _ _ [[(p12, .cells #[.bool hd2, .float .f32 m2, .float .f32 s2] 140 (0, 0))], [(b13, .cells #[.bool hd1, .float .f32 m1, .float .f32 s1] 64 (0, 0))], [(p8, .cells #[.bool hd1, .float .f32 m1, .float .f32 s1] 140 (0, 0))], [(b19, .cells #[.bool hd2, .float .f32 m2, .float .f32 s2] 64 (0, 0))]] at S129
    refine ⟨_, rfl, ?_⟩
    refine ⟨⟨cellsAt.of_blk (S129.blk 1 rfl) rfl, cellsAt.of_blk (S129.blk 3 rfl) rfl, trivial⟩, ?_⟩
    refine WH.p rfl (wants_on rfl rfl) (G.fneq rfl rfl (v := false) (neq_same hM2.lt_m)) rfl ?_
    refine WH.p rfl wants (G.pick_f rfl rfl) rfl ?_
    refine WH.p rfl wants (G.move rfl) rfl ?_
    refine WH.p rfl (wants_on rfl rfl) (G.move rfl) rfl ?_
    refine WH.p rfl (wants_on rfl rfl) (G.move rfl) rfl ?_
    refine WH.p rfl (wants_on rfl rfl) (G.nilp rfl) rfl ?_
    refine WH.p rfl (wants_on rfl rfl) (G.field T.fld64_2 rfl (show 0 + 2 = 2 from rfl)) rfl ?_
    refine WH.r rfl (wants_on rfl rfl) (fun _ h => G.load1 T.one62 rfl (cellsAt.at h.2.1 2 rfl)) rfl ?_
    refine WH.call rfl (wants_on rfl rfl) T.call35 (evs_cons rfl evs_nil) rfl ?_
    refine (pace_Spread S129.hp1 ).mono ?_
    rintro _ w130 ⟨rfl, T131⟩
    have S132 := S129.call1 T131
    change St _ _ _ [[(p12, .cells #[.bool hd2, .float .f32 m2, .float .f32 s2] 140 (0, 0))], [(b13, .cells #[.bool hd1, .float .f32 m1, .float .f32 s1] 64 (0, 0))], [(p8, .cells #[.bool hd1, .float .f32 m1, .float .f32 s1] 140 (0, 0))], [(b19, .cells #[.bool hd2, .float .f32 m2, .float .f32 s2] 64 (0, 0))]] at S132
    refine ⟨_, rfl, ?_⟩
    refine ⟨⟨cellsAt.of_blk (S132.blk 1 rfl) rfl, cellsAt.of_blk (S132.blk 3 rfl) rfl, trivial⟩, ?_⟩
    refine WH.p rfl (wants_on rfl rfl) (G.fneq rfl rfl (v := false) (neq_same hM2.lt_s)) rfl ?_
    refine WH.p rfl wants (G.pick_f rfl rfl) rfl ?_
    refine WH.p rfl wants (G.move rfl) rfl ?_
    refine WH.p rfl (wants_on rfl rfl) (G.move rfl) rfl ?_
    refine WH.p rfl (wants_on rfl rfl) (G.move rfl) rfl ?_
    refine WH.call rfl (wants_on rfl rfl) T.call36 (evs_cons rfl evs_nil) rfl ?_
    refine (pace_Guess S132.hp1 hg2).mono ?_
    rintro _ w133 ⟨rfl, T134⟩
    have S135 := S132.call1 T134
    change St _ _ _ [[(p12, .cells #[.bool hd2, .float .f32 m2, .float .f32 s2] 140 (0, 0))], [(b13, .cells #[.bool hd1, .float .f32 m1, .float .f32 s1] 64 (0, 0))], [(p8, .cells #[.bool hd1, .float .f32 m1, .float .f32 s1] 140 (0, 0))], [(b19, .cells #[.bool hd2, .float .f32 m2, .float .f32 s2] 64 (0, 0))]] at S135
    refine ⟨_, rfl, ?_⟩
    refine ⟨⟨cellsAt.of_blk (S135.blk 1 rfl) rfl, cellsAt.of_blk (S135.blk 3 rfl) rfl, trivial⟩, ?_⟩
    refine WH.call rfl (wants_on rfl rfl) T.call37 (evs_cons rfl evs_nil) rfl ?_
    have S136 := S135.front 3 rfl
    change St _ _ _ [[(b19, .cells #[.bool hd2, .float .f32 m2, .float .f32 s2] 64 (0, 0))], [(p12, .cells #[.bool hd2, .float .f32 m2, .float .f32 s2] 140 (0, 0))], [(b13, .cells #[.bool hd1, .float .f32 m1, .float .f32 s1] 64 (0, 0))], [(p8, .cells #[.bool hd1, .float .f32 m1, .float .f32 s1] 140 (0, 0))]] at S136
    refine (ref_Guess S136.hp1 hg2).mono ?_
    rintro _ w137 ⟨rfl, T138⟩
    have S139 := S136.call1 T138
    change St _ _ _ [[(b19, .cells #[.bool hd2, .float .f32 m2, .float .f32 s2] 64 (0, 0))], [(p12, .cells #[.bool hd2, .float .f32 m2, .float .f32 s2] 140 (0, 0))], [(b13, .cells #[.bool hd1, .float .f32 m1, .float .f32 s1] 64 (0, 0))], [(p8, .cells #[.bool hd1, .float .f32 m1, .float .f32 s1] 140 (0, 0))]] at S139
    refine ⟨_, rfl, ?_⟩
    refine ⟨⟨cellsAt.of_blk (S139.blk 2 rfl) rfl, cellsAt.of_blk (S139.blk 0 rfl) rfl, trivial⟩, ?_⟩
    refine WH.p rfl (wants_on rfl rfl) (G.neq rfl rfl (b := false) (by simp)) rfl ?_
    refine WH.p rfl wants (G.pick_f rfl rfl) rfl ?_
    refine WH.nil ?_
    refine WEx.then_ ?_
    refine WCode.cond_f rfl ?_
    refine WCode.skip ?_
    refine WEx.then_ ?_
    refine WCode.seq ?_
    refine WCode.seq ?_
    refine WCode.region ?_
    refine WOps.p (G.move rfl) rfl ?_
    refine WOps.p (G.move rfl) rfl ?_
    refine WOps.p (G.len T.el58 rfl) rfl ?_
    refine WOps.p (G.eql rfl rfl (b := false) (decide_eq_false (by omega))) rfl ?_
    refine WOps.nil ?_
    refine WEx.then_ ?_
    refine WCode.cond_f rfl ?_
    refine WCode.skip ?_
    refine WEx.then_ ?_
    refine WCode.seq ?_
    refine WCode.region ?_
    refine WOps.p (G.move rfl) rfl ?_
    refine WOps.p (G.move rfl) rfl ?_
    obtain ⟨b140, o141, ea142, ca143⟩ := Rd.at_ Tk.len (hL.ext S139.ext0) hx rfl
    cases ea142
    refine WOps.p (G.index T.el58 rfl rfl (j := i) hlt rfl) rfl ?_
    refine WOps.p (G.field T.fld67_0 rfl (show o141 + i * 2 + 0 = o141 + i * 2 + 0 from rfl)) rfl ?_
    refine WOps.r (G.load1 T.one4 rfl (cellsAt.at ca143 0 rfl)) rfl ?_
    refine WOps.nil ?_
    refine WEx.then_ ?_
    refine WCode.cond_f rfl ?_
    refine WCode.seq ?_
    refine WCode.region ?_
    refine WOps.p (G.move rfl) rfl ?_
    refine WOps.p (G.move rfl) rfl ?_
    refine WOps.p (G.move rfl) rfl ?_
    obtain ⟨b144, o145, ea146, ca147⟩ := Rd.at_ Tk.len (hL.ext S139.ext0) hx rfl
    cases ea146
    refine WOps.p (G.index T.el58 rfl rfl (j := i) hlt rfl) rfl ?_
    refine WOps.p (G.field T.fld67_1 rfl (show o141 + i * 2 + 1 = o141 + i * 2 + 1 from rfl)) rfl ?_
    refine WOps.r (G.load1 T.one3 rfl (cellsAt.at ca147 1 rfl)) rfl ?_
    refine WOps.call T.call38 (evs_cons rfl (evs_cons rfl evs_nil)) rfl ?_
    have S148 := S139.front 3 rfl
    change St _ _ _ [[(p8, .cells #[.bool hd1, .float .f32 m1, .float .f32 s1] 140 (0, 0))], [(b19, .cells #[.bool hd2, .float .f32 m2, .float .f32 s2] 64 (0, 0))], [(p12, .cells #[.bool hd2, .float .f32 m2, .float .f32 s2] 140 (0, 0))], [(b13, .cells #[.bool hd1, .float .f32 m1, .float .f32 s1] 64 (0, 0))]] at S148
    refine (pace_Hear S148.hp1 on hH).mono ?_
    rintro _ w149 ⟨rfl, T150⟩
    have S151 := S148.call1 T150
    change St _ _ _ [[(p8, .cells #[.bool true, .float .f32 m', .float .f32 s'] 140 (0, 0))], [(b19, .cells #[.bool hd2, .float .f32 m2, .float .f32 s2] 64 (0, 0))], [(p12, .cells #[.bool hd2, .float .f32 m2, .float .f32 s2] 140 (0, 0))], [(b13, .cells #[.bool hd1, .float .f32 m1, .float .f32 s1] 64 (0, 0))]] at S151
    refine ⟨_, rfl, ?_⟩
    refine WOps.nil ?_
    refine WEx.forget (l' := [(0, .slice (some ⟨b140, o141, none⟩) L.length cp), (2, .bool false), (4, .pointer (some ⟨p8, 0, none⟩)), (5, .pointer (some ⟨p12, 0, none⟩)), (6, .pointer (some ⟨b13, 0, none⟩)), (7, .pointer (some ⟨b19, 0, none⟩)), (8, .int .i64 (i : Nat)), (26, .int .i64 (i : Nat)), (27, .slice (some ⟨b140, o141, none⟩) L.length cp), (28, .int .i64 (L.length : Nat)), (29, .bool true), (32, .pointer (some ⟨p8, 0, none⟩)), (33, .float .f32 m1), (34, .pointer (some ⟨b13, 0, none⟩)), (35, .pointer (some ⟨b13, 0, none⟩)), (36, .pointer (some ⟨b13, 1, none⟩)), (37, .float .f32 m1), (38, .bool false), (39, .bool false), (40, .pointer (some ⟨p8, 0, none⟩)), (41, .float .f32 s1), (42, .pointer (some ⟨b13, 0, none⟩)), (43, .pointer (some ⟨b13, 0, none⟩)), (44, .pointer (some ⟨b13, 2, none⟩)), (45, .float .f32 s1), (46, .bool false), (47, .bool false), (48, .bool false), (49, .pointer (some ⟨p8, 0, none⟩)), (50, .int .i64 g1), (51, .pointer (some ⟨b13, 0, none⟩)), (52, .int .i64 g1), (53, .bool false), (54, .bool false), (55, .bool false), (56, .pointer (some ⟨p12, 0, none⟩)), (57, .float .f32 m2), (58, .pointer (some ⟨b19, 0, none⟩)), (59, .pointer (some ⟨b19, 0, none⟩)), (60, .pointer (some ⟨b19, 1, none⟩)), (61, .float .f32 m2), (62, .bool false), (63, .bool false), (64, .bool false), (65, .pointer (some ⟨p12, 0, none⟩)), (66, .float .f32 s2), (67, .pointer (some ⟨b19, 0, none⟩)), (68, .pointer (some ⟨b19, 0, none⟩)), (69, .pointer (some ⟨b19, 2, none⟩)), (70, .float .f32 s2), (71, .bool false), (72, .bool false), (73, .bool false), (74, .pointer (some ⟨p12, 0, none⟩)), (75, .int .i64 g2), (76, .pointer (some ⟨b19, 0, none⟩)), (77, .int .i64 g2), (78, .bool false), (79, .bool false), (80, .int .i64 (i : Nat)), (81, .slice (some ⟨b140, o141, none⟩) L.length cp), (82, .int .i64 (L.length : Nat)), (83, .bool false), (84, .slice (some ⟨b140, o141, none⟩) L.length cp), (85, .int .i64 (i : Nat)), (86, .pointer (some ⟨b140, o141 + i * 2, none⟩)), (87, .pointer (some ⟨b140, o141 + i * 2 + 0, none⟩)), (88, .bool false), (103, .pointer (some ⟨p8, 0, none⟩)), (104, .slice (some ⟨b140, o141, none⟩) L.length cp), (105, .int .i64 (i : Nat)), (106, .pointer (some ⟨b140, o141 + i * 2, none⟩)), (107, .pointer (some ⟨b140, o141 + i * 2 + 1, none⟩)), (108, .int .i64 n)]) ⟨rfl, rfl, rfl, rfl, rfl, rfl, rfl, rfl, rfl, rfl, rfl, rfl, rfl, rfl, rfl, rfl, rfl, rfl, rfl, rfl, rfl, rfl, rfl, rfl, rfl, rfl, rfl, rfl, rfl, rfl, rfl, rfl, rfl, rfl, rfl, rfl, rfl, rfl, rfl, rfl, rfl, rfl, rfl, rfl, rfl, rfl, rfl, rfl, rfl, rfl, rfl, rfl, rfl, rfl, rfl, rfl, rfl, rfl, rfl, rfl, rfl, rfl, rfl, rfl, rfl, rfl, rfl, rfl, rfl, rfl, rfl, rfl, rfl, rfl, trivial⟩ ?_
    refine WEx.then_ ?_
    refine WCode.region ?_
    refine WOps.p (G.move rfl) rfl ?_
    refine WOps.p (G.move rfl) rfl ?_
    refine WOps.p (G.move rfl) rfl ?_
    obtain ⟨b152, o153, ea154, ca155⟩ := Rd.at_ Tk.len (hL.ext S151.ext0) hx rfl
    cases ea154
    refine WOps.p (G.index T.el58 rfl rfl (j := i) hlt rfl) rfl ?_
    refine WOps.p (G.field T.fld67_1 rfl (show o141 + i * 2 + 1 = o141 + i * 2 + 1 from rfl)) rfl ?_
    refine WOps.r (G.load1 T.one3 rfl (cellsAt.at ca155 1 rfl)) rfl ?_
    refine WOps.call T.call39 (evs_cons rfl (evs_cons rfl evs_nil)) rfl ?_
    have S156 := S151.front 3 rfl
    change St _ _ _ [[(b13, .cells #[.bool hd1, .float .f32 m1, .float .f32 s1] 64 (0, 0))], [(p8, .cells #[.bool true, .float .f32 m', .float .f32 s'] 140 (0, 0))], [(b19, .cells #[.bool hd2, .float .f32 m2, .float .f32 s2] 64 (0, 0))], [(p12, .cells #[.bool hd2, .float .f32 m2, .float .f32 s2] 140 (0, 0))]] at S156
    refine (ref_Hear S156.hp1 on hH).mono ?_
    rintro _ w157 ⟨rfl, T158⟩
    have S159 := S156.call1 T158
    change St _ _ _ [[(b13, .cells #[.bool true, .float .f32 m', .float .f32 s'] 64 (0, 0))], [(p8, .cells #[.bool true, .float .f32 m', .float .f32 s'] 140 (0, 0))], [(b19, .cells #[.bool hd2, .float .f32 m2, .float .f32 s2] 64 (0, 0))], [(p12, .cells #[.bool hd2, .float .f32 m2, .float .f32 s2] 140 (0, 0))]] at S159
    refine ⟨_, rfl, ?_⟩
    refine WOps.nil ?_
    refine WEx.forget (l' := [(0, .slice (some ⟨b140, o141, none⟩) L.length cp), (2, .bool false), (4, .pointer (some ⟨p8, 0, none⟩)), (5, .pointer (some ⟨p12, 0, none⟩)), (6, .pointer (some ⟨b13, 0, none⟩)), (7, .pointer (some ⟨b19, 0, none⟩)), (8, .int .i64 (i : Nat)), (26, .int .i64 (i : Nat)), (27, .slice (some ⟨b140, o141, none⟩) L.length cp), (28, .int .i64 (L.length : Nat)), (29, .bool true), (32, .pointer (some ⟨p8, 0, none⟩)), (33, .float .f32 m1), (34, .pointer (some ⟨b13, 0, none⟩)), (35, .pointer (some ⟨b13, 0, none⟩)), (36, .pointer (some ⟨b13, 1, none⟩)), (37, .float .f32 m1), (38, .bool false), (39, .bool false), (40, .pointer (some ⟨p8, 0, none⟩)), (41, .float .f32 s1), (42, .pointer (some ⟨b13, 0, none⟩)), (43, .pointer (some ⟨b13, 0, none⟩)), (44, .pointer (some ⟨b13, 2, none⟩)), (45, .float .f32 s1), (46, .bool false), (47, .bool false), (48, .bool false), (49, .pointer (some ⟨p8, 0, none⟩)), (50, .int .i64 g1), (51, .pointer (some ⟨b13, 0, none⟩)), (52, .int .i64 g1), (53, .bool false), (54, .bool false), (55, .bool false), (56, .pointer (some ⟨p12, 0, none⟩)), (57, .float .f32 m2), (58, .pointer (some ⟨b19, 0, none⟩)), (59, .pointer (some ⟨b19, 0, none⟩)), (60, .pointer (some ⟨b19, 1, none⟩)), (61, .float .f32 m2), (62, .bool false), (63, .bool false), (64, .bool false), (65, .pointer (some ⟨p12, 0, none⟩)), (66, .float .f32 s2), (67, .pointer (some ⟨b19, 0, none⟩)), (68, .pointer (some ⟨b19, 0, none⟩)), (69, .pointer (some ⟨b19, 2, none⟩)), (70, .float .f32 s2), (71, .bool false), (72, .bool false), (73, .bool false), (74, .pointer (some ⟨p12, 0, none⟩)), (75, .int .i64 g2), (76, .pointer (some ⟨b19, 0, none⟩)), (77, .int .i64 g2), (78, .bool false), (79, .bool false), (80, .int .i64 (i : Nat)), (81, .slice (some ⟨b140, o141, none⟩) L.length cp), (82, .int .i64 (L.length : Nat)), (83, .bool false), (84, .slice (some ⟨b140, o141, none⟩) L.length cp), (85, .int .i64 (i : Nat)), (86, .pointer (some ⟨b140, o141 + i * 2, none⟩)), (87, .pointer (some ⟨b140, o141 + i * 2 + 0, none⟩)), (88, .bool false), (103, .pointer (some ⟨p8, 0, none⟩)), (104, .slice (some ⟨b140, o141, none⟩) L.length cp), (105, .int .i64 (i : Nat)), (106, .pointer (some ⟨b140, o141 + i * 2, none⟩)), (107, .pointer (some ⟨b140, o141 + i * 2 + 1, none⟩)), (108, .int .i64 n), (110, .pointer (some ⟨b13, 0, none⟩)), (111, .slice (some ⟨b140, o141, none⟩) L.length cp), (112, .int .i64 (i : Nat)), (113, .pointer (some ⟨b140, o141 + i * 2, none⟩)), (114, .pointer (some ⟨b140, o141 + i * 2 + 1, none⟩)), (115, .int .i64 n)]) ⟨rfl, rfl, rfl, rfl, rfl, rfl, rfl, rfl, rfl, rfl, rfl, rfl, rfl, rfl, rfl, rfl, rfl, rfl, rfl, rfl, rfl, rfl, rfl, rfl, rfl, rfl, rfl, rfl, rfl, rfl, rfl, rfl, rfl, rfl, rfl, rfl, rfl, rfl, rfl, rfl, rfl, rfl, rfl, rfl, rfl, rfl, rfl, rfl, rfl, rfl, rfl, rfl, rfl, rfl, rfl, rfl, rfl, rfl, rfl, rfl, rfl, rfl, rfl, rfl, rfl, rfl, rfl, rfl, rfl, rfl, rfl, rfl, rfl, rfl, rfl, rfl, rfl, rfl, rfl, rfl, trivial⟩ ?_
    refine WEx.in_normal ?_
    refine WEx.then_ ?_
    refine WCode.region ?_
    refine WOps.p (G.move rfl) rfl ?_
    refine WOps.p (G.add rfl rfl (show IntKind.i64.wrap ((i : Nat) + 1) = ((i : Nat) + 1) from IntWalk.i64_in _ (by omega))) rfl ?_
    refine WOps.p (G.assign rfl) rfl ?_
    refine WOps.nil ?_
    have S160 := S159.front 2 rfl
    change St _ _ _ [[(b19, .cells #[.bool hd2, .float .f32 m2, .float .f32 s2] 64 (0, 0))], [(b13, .cells #[.bool true, .float .f32 m', .float .f32 s'] 64 (0, 0))], [(p8, .cells #[.bool true, .float .f32 m', .float .f32 s'] 140 (0, 0))], [(p12, .cells #[.bool hd2, .float .f32 m2, .float .f32 s2] 140 (0, 0))]] at S160
    have S161 := S160.front 1 rfl
    change St _ _ _ [[(b13, .cells #[.bool true, .float .f32 m', .float .f32 s'] 64 (0, 0))], [(b19, .cells #[.bool hd2, .float .f32 m2, .float .f32 s2] 64 (0, 0))], [(p8, .cells #[.bool true, .float .f32 m', .float .f32 s'] 140 (0, 0))], [(p12, .cells #[.bool hd2, .float .f32 m2, .float .f32 s2] 140 (0, 0))]] at S161
    have S162 := S161.front 3 rfl
    change St _ _ _ [[(p12, .cells #[.bool hd2, .float .f32 m2, .float .f32 s2] 140 (0, 0))], [(b13, .cells #[.bool true, .float .f32 m', .float .f32 s'] 64 (0, 0))], [(b19, .cells #[.bool hd2, .float .f32 m2, .float .f32 s2] 64 (0, 0))], [(p8, .cells #[.bool true, .float .f32 m', .float .f32 s'] 140 (0, 0))]] at S162
    have S163 := S162.front 3 rfl
    change St _ _ _ [[(p8, .cells #[.bool true, .float .f32 m', .float .f32 s'] 140 (0, 0))], [(p12, .cells #[.bool hd2, .float .f32 m2, .float .f32 s2] 140 (0, 0))], [(b13, .cells #[.bool true, .float .f32 m', .float .f32 s'] 64 (0, 0))], [(b19, .cells #[.bool hd2, .float .f32 m2, .float .f32 s2] 64 (0, 0))]] at S163
    refine WEx.again _ _ ?_ ?_ ⟨i + 1, true, m', s', hd2, m2, s2, rfl, rfl, hlt, hM', hM2, S163⟩
    · omega
    · exact ⟨rfl, rfl, rfl, rfl, rfl, rfl, rfl, trivial⟩

end Go.Proofs.Ytoahkjehjmbojaa
