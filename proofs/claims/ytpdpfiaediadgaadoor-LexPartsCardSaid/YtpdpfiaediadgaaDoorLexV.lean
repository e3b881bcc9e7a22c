/- LexParts: how a piece is written, and that it is taken apart again. -/
import Derived.Test.YtpdpfiaediadgaaDoorLexC
import Derived.Test.YtpdpfiaediadgaaDoorLexU
set_option linter.unusedVariables false
namespace Go.Proofs.YtpdpfiaediadgaaDoor
open Go Go.Eng
def hexT : List UInt8 := [48, 49, 50, 51, 52, 53, 54, 55, 56, 57, 97, 98, 99, 100, 101, 102]
def ch (d : Nat) : UInt8 := hexT.getD d 48
theorem ch_cut : ∀ d : Fin 16, (List.take (d.val + 1) hexT).drop d.val = [ch d.val] := by decide
theorem ch_facts : ∀ d : Fin 16, inRun (ch d.val) = true ∧ (d.val < 10 → isDigit (ch d.val) = true) ∧ (ch d.val = 48 → d.val = 0) ∧ ch d.val ≠ 120 ∧ ch d.val ≠ 45 ∧ (dval 8 (ch d.val) = (d.val : Int)) ∧ (dval 10 (ch d.val) = (d.val : Int)) ∧ (dval 16 (ch d.val) = (d.val : Int)) := by decide
def dg (b : Nat) : Nat → Nat → List UInt8 → List UInt8
  | 0, _, s => s
  | f + 1, x, s => if 0 < x then dg b f (x / b) (ch (x % b) :: s) else s
theorem dg_zero (b f : Nat) (s : List UInt8) : dg b f 0 s = s := by cases f <;> rfl
theorem dg_len (b : Nat) : ∀ (f x : Nat) (s : List UInt8), (dg b f x s).length ≤ f + s.length := by
  intro f
  induction f with
  | zero => intro x s; exact Nat.le_add_left _ _
  | succ f ih =>
    intro x s
    rw [dg]
    split
    · have := ih (x / b) (ch (x % b) :: s); rw [List.length_cons] at this; omega
    · omega
theorem half {b x f : Nat} (hb : 2 ≤ b) (h : x < 2 ^ (f + 1)) : x / b < 2 ^ f := by
  have h1 : x / b ≤ x / 2 := Nat.div_le_div_left hb (by omega)
  have h2 : x / 2 < 2 ^ f := by rw [Nat.div_lt_iff_lt_mul (by omega)]; rw [Nat.pow_succ] at h; exact h
  omega
theorem digits_l (b : Nat) (h2 : 2 ≤ b) (h16 : b ≤ 16) : ∀ (f x : Nat) (s : List UInt8), f ≤ 60 → x < 2 ^ f → s.length + f ≤ 1000 → Ev (fun k => lw_digits.l1 k (b : Int) (x : Int) s) (dg b f x s) := by
  intro f
  induction f with
  | zero =>
    intro x s hf hx hs
    obtain rfl : x = 0 := by simpa using hx
    refine Ev.step (g := fun k => lw_digits.l1 (k + 1) (b : Int) ((0 : Nat) : Int) s) ?_ (fun _ => rfl)
    simp only [lw_digits.l1]
    exact Ev.neg (by omega) Ev.ret
  | succ f ih =>
    intro x s hf hx hs
    refine Ev.step (g := fun k => lw_digits.l1 (k + 1) (b : Int) (x : Int) s) ?_ (fun _ => rfl)
    simp only [lw_digits.l1]
    rw [dg]
    have h60 : 2 ^ (f + 1) ≤ 2 ^ 60 := Nat.pow_le_pow_right (by omega) hf
    have hm : x % b < b := Nat.mod_lt _ (by omega)
    by_cases h0 : 0 < x
    · rw [if_pos h0]
      refine Ev.pos (by omega) ?_
      have e1 : Int.tmod (x : Int) (b : Int) = ((x % b : Nat) : Int) := rfl
      have e2 : Int.tdiv (x : Int) (b : Int) = ((x / b : Nat) : Int) := rfl
      have hdl : x / b ≤ x := Nat.div_le_self _ _
      have hnn : (0 : Int) ≤ ((x / b : Nat) : Int) := Int.natCast_nonneg _
      rw [e1, e2, w64_succ (by omega), w64_of (n := ((x / b : Nat) : Int)) (by omega) (by omega)]
      refine Ev.bindc (cut_at (L := hexT) (a := x % b) (b := x % b + 1) rfl rfl (by omega) (by show _ ≤ 16; omega)) ?_
      rw [ch_cut ⟨x % b, by omega⟩]
      refine Ev.bindc (cat_at (by simp; omega)) ?_
      exact ih (x / b) (ch (x % b) :: s) (by omega) (half h2 hx) (by rw [List.length_cons]; omega)
    · rw [if_neg h0]
      exact Ev.neg (by omega) Ev.ret
def dgs (b n : Nat) : List UInt8 := dg b 29 (n / b) [ch (n % b)]
def Bs (b : Nat) : Prop := b = 8 ∨ b = 10 ∨ b = 16
theorem digits_ {b n : Nat} (hb : Bs b) (hn : n < 4294967296) : Ev (fun k => lw_digits k (n : Int) (b : Int)) (dgs b n) := by
  have h8 : 8 ≤ b ∧ b ≤ 16 := by rcases hb with h | h | h <;> omega
  unfold lw_digits
  refine Ev.neg (by omega) ?_
  have e1 : Int.tmod (n : Int) (b : Int) = ((n % b : Nat) : Int) := rfl
  have e2 : Int.tdiv (n : Int) (b : Int) = ((n / b : Nat) : Int) := rfl
  have hm : n % b < b := Nat.mod_lt _ (by omega)
  have hdl : n / b ≤ n := Nat.div_le_self _ _
  have hnn : (0 : Int) ≤ ((n / b : Nat) : Int) := Int.natCast_nonneg _
  rw [e1, e2, w64_succ (by omega), w64_of (n := ((n / b : Nat) : Int)) (by omega) (by omega)]
  refine Ev.bindc (cut_at (L := hexT) (a := n % b) (b := n % b + 1) rfl rfl (by omega) (by show _ ≤ 16; omega)) ?_
  rw [ch_cut ⟨n % b, by omega⟩]
  refine digits_l b (by omega) h8.2 29 (n / b) [ch (n % b)] (by omega) ?_ (by simp)
  rw [Nat.div_lt_iff_lt_mul (by omega)]
  have : 2 ^ 29 * 8 ≤ 2 ^ 29 * b := Nat.mul_le_mul_left _ h8.1
  omega
theorem digs_ch {b x d : Nat} (hb : Bs b) (hd : d < b) (hx : x * b + d ≤ 4294967295) (s : List UInt8) : digs (b : Int) (x : Int) (ch d :: s) = digs (b : Int) ((x * b + d : Nat) : Int) s := by
  have h16 : d < 16 := by rcases hb with h | h | h <;> omega
  have f := ch_facts ⟨d, h16⟩
  have e : dval (b : Int) (ch d) = (d : Int) := by
    rcases hb with h | h | h <;> subst h
    · exact f.2.2.2.2.2.1
    · exact f.2.2.2.2.2.2.1
    · exact f.2.2.2.2.2.2.2
  have e3 : (x : Int) * (b : Int) + (d : Int) = ((x * b + d : Nat) : Int) := by simp
  rw [digs, e, if_neg (by omega), e3, if_neg (by omega)]
theorem digs_dg {b : Nat} (hb : Bs b) : ∀ (f x : Nat) (s : List UInt8), x < 2 ^ f → x ≤ 4294967295 → digs (b : Int) 0 (dg b f x s) = digs (b : Int) (x : Int) s := by
  have h8 : 8 ≤ b ∧ b ≤ 16 := by rcases hb with h | h | h <;> omega
  intro f
  induction f with
  | zero =>
    intro x s hx _
    obtain rfl : x = 0 := by simpa using hx
    rfl
  | succ f ih =>
    intro x s hx h32
    rw [dg]
    by_cases h0 : 0 < x
    · have hdl : x / b ≤ x := Nat.div_le_self _ _
      have hdm : x / b * b + x % b = x := by rw [Nat.mul_comm]; exact Nat.div_add_mod x b
      rw [if_pos h0, ih (x / b) _ (half (by omega) hx) (by omega), digs_ch hb (Nat.mod_lt _ (by omega)) (by omega), hdm]
    · obtain rfl : x = 0 := by omega
      rw [if_neg h0]; rfl
theorem dgs_val {b n : Nat} (hb : Bs b) (hn : n < 4294967296) : digS (b : Int) (dgs b n) = ((n : Int), true) := by
  have h8 : 8 ≤ b ∧ b ≤ 16 := by rcases hb with h | h | h <;> omega
  have hdl : n / b ≤ n := Nat.div_le_self _ _
  have hdm : n / b * b + n % b = n := by rw [Nat.mul_comm]; exact Nat.div_add_mod n b
  have h29 : n / b < 2 ^ 29 := by
    rw [Nat.div_lt_iff_lt_mul (by omega)]
    have : 2 ^ 29 * 8 ≤ 2 ^ 29 * b := Nat.mul_le_mul_left _ h8.1
    omega
  have e : digs (b : Int) 0 (dgs b n) = some (n : Int) := by
    unfold dgs
    rw [digs_dg hb 29 (n / b) _ h29 (by omega), digs_ch hb (Nat.mod_lt _ (by omega)) (by omega), hdm]; rfl
  have hne : dgs b n ≠ [] := by
    have : ∀ (f x : Nat) (s : List UInt8), s ≠ [] → dg b f x s ≠ [] := by
      intro f
      induction f with
      | zero => intro x s h; exact h
      | succ f ih => intro x s h; rw [dg]; split; exact ih _ _ (by simp); exact h
    exact this _ _ _ (by simp)
  unfold digS
  rw [e]
  simp [hne]
theorem dg_all {b : Nat} (h2 : 2 ≤ b) (h16 : b ≤ 16) : ∀ (f x : Nat) (s : List UInt8), s.all inRun = true → (dg b f x s).all inRun = true := by
  intro f
  induction f with
  | zero => intro x s h; exact h
  | succ f ih =>
    intro x s h
    rw [dg]
    split
    · exact ih _ _ (by rw [List.all_cons, (ch_facts ⟨x % b, by have := Nat.mod_lt x (show b > 0 by omega); omega⟩).1, h]; rfl)
    · exact h
theorem dg_head {b : Nat} (h2 : 2 ≤ b) (h16 : b ≤ 16) : ∀ (f x : Nat) (s : List UInt8), 0 < x → x < 2 ^ f → ∃ d, 0 < d ∧ d < b ∧ (dg b f x s).head? = some (ch d) := by
  intro f
  induction f with
  | zero => intro x s h0 h; simp at h; omega
  | succ f ih =>
    intro x s h0 hx
    rw [dg, if_pos h0]
    by_cases h : 0 < x / b
    · exact ih (x / b) _ h (half h2 hx)
    · have hz : x / b = 0 := Nat.eq_zero_of_not_pos h
      have hlt : x < b := by rcases Nat.div_eq_zero_iff.1 hz with h | h <;> omega
      rw [hz, dg_zero, Nat.mod_eq_of_lt hlt]
      exact ⟨x, h0, hlt, rfl⟩
/-- A number's letters: its first is a digit of the base, and none above 0 unless it is 0. -/
theorem dgs_facts {b n : Nat} (hb : Bs b) (hn : n < 4294967296) : ∃ d p, dgs b n = ch d :: p ∧ d < b ∧ (0 < n → 0 < d) ∧ (n = 0 → d = 0 ∧ p = []) ∧ (ch d :: p).all inRun = true ∧ (dgs b n).length ≤ 30 := by
  have h8 : 8 ≤ b ∧ b ≤ 16 := by rcases hb with h | h | h <;> omega
  have h29 : n / b < 2 ^ 29 := by
    rw [Nat.div_lt_iff_lt_mul (by omega)]
    have : 2 ^ 29 * 8 ≤ 2 ^ 29 * b := Nat.mul_le_mul_left _ h8.1
    omega
  have hm : n % b < b := Nat.mod_lt _ (by omega)
  have hall : (dgs b n).all inRun = true := dg_all (by omega) h8.2 _ _ _ (by rw [List.all_cons, (ch_facts ⟨n % b, by omega⟩).1]; rfl)
  have hlen : (dgs b n).length ≤ 30 := dg_len b 29 (n / b) [ch (n % b)]
  by_cases h : 0 < n / b
  · obtain ⟨d, h1, h2, h3⟩ := dg_head (by omega) h8.2 29 (n / b) [ch (n % b)] h h29
    have h3' : (dgs b n).head? = some (ch d) := h3
    obtain ⟨p, hp⟩ : ∃ p, dgs b n = ch d :: p := by
      cases hx : dgs b n with
      | nil => rw [hx] at h3'; cases h3'
      | cons c p => rw [hx] at h3'; injection h3' with e; exact ⟨p, by rw [← e]⟩
    have hnp : n ≠ 0 := by rintro rfl; simp at h
    exact ⟨d, p, hp, h2, fun _ => h1, fun e => absurd e hnp, by rw [← hp]; exact hall, hlen⟩
  · have hz : n / b = 0 := Nat.eq_zero_of_not_pos h
    have hlt : n < b := by rcases Nat.div_eq_zero_iff.1 hz with h | h <;> omega
    have e : dgs b n = [ch n] := by unfold dgs; rw [hz, dg_zero, Nat.mod_eq_of_lt hlt]
    exact ⟨n, [], e, hlt, id, fun h => ⟨h, rfl⟩, by rw [← e]; exact hall, hlen⟩
theorem all_run : ∀ (p q : List UInt8), p.all inRun = true → runLen q = 0 → runLen (p ++ q) = p.length := by
  intro p
  induction p with
  | nil => intro q _ h; exact h
  | cons c p ih =>
    intro q h hq
    rw [List.all_cons, Bool.and_eq_true] at h
    rw [List.cons_append, runLen_cons, if_pos h.1, ih q h.2 hq]; rfl
/-- A number is taken apart again. -/
theorem num_taken {c : UInt8} {p q : List UInt8} {v : Int} (hall : p.all inRun = true) (hq : runLen q = 0) (hc : isDigit c = true ∨ c = 45 ∧ ∃ d r, p = d :: r ∧ isDigit d = true) (hv : numS (decide (c = 45)) (if c = 45 then p else c :: p) = (v, true)) :
    nextS (c :: p ++ q) = .tok ⟨3, [], v, 0⟩ (c :: p).length := by
  rw [List.cons_append, nextS_num p q _ (all_run p q hall hq)]
  · unfold numN
    rw [hv, if_pos rfl, List.length_cons, Nat.add_comm]
  · rcases hc with h | ⟨rfl, d, r, rfl, h⟩
    · rw [h]; rfl
    · simp [minusDigit, h]
theorem dec_taken {n : Nat} (hn : n < 4294967296) {q : List UInt8} (hq : runLen q = 0) : nextS (dgs 10 n ++ q) = .tok ⟨3, [], (n : Int), 0⟩ (dgs 10 n).length := by
  have hb : Bs 10 := .inr (.inl rfl)
  have hv := dgs_val hb hn
  obtain ⟨d, p, e, hd, h1, h2, hall, hlen⟩ := dgs_facts hb hn
  rw [List.all_cons, Bool.and_eq_true] at hall
  have f := ch_facts ⟨d, by omega⟩
  rw [e] at hv ⊢
  refine num_taken hall.2 hq (.inl (f.2.1 hd)) ?_
  rw [if_neg f.2.2.2.2.1, decide_eq_false f.2.2.2.2.1]
  unfold numS
  rw [if_neg (by simp)]
  by_cases h0 : n = 0
  · obtain ⟨rfl, rfl⟩ := h2 h0
    subst h0; rfl
  · have hd0 : ch d ≠ 48 := fun h => by have := f.2.2.1 h; have := h1 (by omega); simp at *; omega
    have t1 : ¬ (ch d :: p) = [48] := by intro h; injection h with h _; exact hd0 h
    have t2 : ¬ (2 < (ch d :: p).length ∧ List.take 2 (ch d :: p) = [48, 120]) := by
      rintro ⟨_, h⟩
      cases p <;> simp at h
      exact hd0 h.1
    have t3 : ¬ (ch d :: p).head? = some 48 := by intro h; injection h with h; exact hd0 h
    rw [if_neg t1, if_neg t2, if_neg t3]
    exact hv
theorem neg_taken {n : Nat} (h0 : 0 < n) (hn : n ≤ 2147483648) {q : List UInt8} (hq : runLen q = 0) : nextS (45 :: dgs 10 n ++ q) = .tok ⟨3, [], -(n : Int), 0⟩ (45 :: dgs 10 n).length := by
  have hb : Bs 10 := .inr (.inl rfl)
  have hv := dgs_val hb (show n < 4294967296 by omega)
  obtain ⟨d, p, e, hd, h1, h2, hall, hlen⟩ := dgs_facts hb (show n < 4294967296 by omega)
  have f := ch_facts ⟨d, by omega⟩
  have hd0 : ch d ≠ 48 := fun h => by have := f.2.2.1 h; have := h1 h0; simp at *; omega
  refine num_taken (by rw [e]; exact hall) hq (.inr ⟨rfl, ch d, p, e, f.2.1 hd⟩) ?_
  rw [if_pos rfl, decide_eq_true rfl]
  unfold numS
  have hh : (dgs 10 n).head? ≠ some 48 := by rw [e]; intro h; injection h with h; exact hd0 h
  have hv' : digS 10 (dgs 10 n) = ((n : Int), true) := hv
  rw [if_pos rfl, hv']
  simp [hh]
  omega
theorem hex_taken {n : Nat} (hn : n < 4294967296) {q : List UInt8} (hq : runLen q = 0) : nextS ([48, 120] ++ dgs 16 n ++ q) = .tok ⟨3, [], (n : Int), 0⟩ ([48, 120] ++ dgs 16 n).length := by
  have hb : Bs 16 := .inr (.inr rfl)
  have hv := dgs_val hb hn
  obtain ⟨d, p, e, hd, h1, h2, hall, hlen⟩ := dgs_facts hb hn
  refine num_taken (c := 48) (p := 120 :: dgs 16 n) (by rw [List.all_cons, e, hall]; rfl) hq (.inl (by decide)) ?_
  rw [if_neg (by decide), decide_eq_false (by decide)]
  unfold numS
  rw [if_neg (by simp), if_neg (by simp), if_pos]
  · exact hv
  · rw [e]; exact ⟨by simp, rfl⟩
theorem oct_taken {n : Nat} (hn : n < 4294967296) {q : List UInt8} (hq : runLen q = 0) : nextS ([48] ++ dgs 8 n ++ q) = .tok ⟨3, [], (n : Int), 0⟩ ([48] ++ dgs 8 n).length := by
  have hb : Bs 8 := .inl rfl
  have hv := dgs_val hb hn
  obtain ⟨d, p, e, hd, h1, h2, hall, hlen⟩ := dgs_facts hb hn
  have f := ch_facts ⟨d, by omega⟩
  refine num_taken (c := 48) (p := dgs 8 n) (by rw [e]; exact hall) hq (.inl (by decide)) ?_
  rw [if_neg (by decide), decide_eq_false (by decide)]
  unfold numS
  have t2 : ¬ (2 < (48 :: dgs 8 n).length ∧ List.take 2 (48 :: dgs 8 n) = [48, 120]) := by
    rintro ⟨_, h⟩
    rw [e] at h
    simp at h
    exact f.2.2.2.1 h
  rw [if_neg (by simp), if_neg (by rw [e]; simp), if_neg t2, if_pos (show (48 :: dgs 8 n).head? = some 48 from rfl)]
  exact hv
end Go.Proofs.YtpdpfiaediadgaaDoor
