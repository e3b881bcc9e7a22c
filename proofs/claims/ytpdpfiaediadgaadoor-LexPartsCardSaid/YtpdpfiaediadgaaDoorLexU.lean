/- The errors' law: steps keep to the letters that they take and one more. -/
import Derived.Test.YtpdpfiaediadgaaDoorLexT
set_option linter.unusedVariables false
namespace Go.Proofs.YtpdpfiaediadgaaDoor
open Go Go.Eng
def Nx.len : Nx → Option Nat
  | .bad _ => none
  | .skip n => some n
  | .tok _ n => some n
theorem len_ok {m : List UInt8} {n : Nat} (h0 : m ≠ []) (h : (nextS m).len = some n) : 1 ≤ n ∧ n ≤ m.length := by
  have hok := nextS_ok m h0
  generalize nextS m = x at h hok
  cases x with
  | bad e => cases h
  | skip k => obtain rfl : k = n := Option.some.inj h; exact hok
  | tok t k => obtain rfl : k = n := Option.some.inj h; exact ⟨hok.1, hok.2.1⟩
theorem runLen_ext : ∀ (p q q' : List UInt8), runLen (p ++ q) = p.length → (runLen q = 0 → runLen q' = 0) → runLen (p ++ q') = p.length := by
  intro p
  induction p with
  | nil => intro q q' h hz; exact hz h
  | cons c p ih =>
    intro q q' h hz
    rw [List.cons_append, runLen_cons] at h ⊢
    by_cases hc : inRun c = true
    · rw [if_pos hc] at h ⊢
      rw [List.length_cons] at h ⊢
      rw [ih q q' (by omega) hz]
    · rw [if_neg hc, List.length_cons] at h; omega
theorem runLen_split (l : List UInt8) : runLen (l.take (runLen l) ++ l.drop (runLen l)) = (l.take (runLen l)).length := by
  rw [List.take_append_drop, List.length_take]; have := runLen_le l; omega
def same (q q' : List UInt8) : Prop := q' = [] ∨ q'.head? = q.head?
theorem same_run {q q' : List UInt8} (h : same q q') (h0 : runLen q = 0) : runLen q' = 0 := by
  rcases h with rfl | h
  · rfl
  · cases q' with
    | nil => rfl
    | cons d r =>
      cases q with
      | nil => cases h
      | cons e t =>
        obtain rfl : d = e := Option.some.inj h
        rw [runLen_cons] at h0 ⊢
        by_cases hd : inRun d = true
        · rw [if_pos hd] at h0; omega
        · rw [if_neg hd]
theorem blank_run (m : List UInt8) : runLen (32 :: m) = 0 := by rw [runLen_cons, if_neg (by decide)]
theorem take2_ne {c : UInt8} (h : c ≠ 47) (l : List UInt8) : ¬ (c :: l).take 2 = [47, 42] := by
  intro e
  cases l <;> simp at e
  exact h e.1
theorem index_ext : ∀ (p q q' : List UInt8), ¬ Lib.index (p ++ q) ends < 0 → Lib.index (p ++ q) ends + 2 = (p.length : Int) → Lib.index (p ++ q') ends = Lib.index (p ++ q) ends := by
  intro p
  induction p with
  | nil => intro q q' h0 h; rw [List.length_nil] at h; omega
  | cons c p ih =>
    intro q q' h0 h
    rw [List.cons_append, index_cons] at h0 h
    rw [List.cons_append, List.cons_append, index_cons, index_cons]
    cases p with
    | nil =>
      exfalso
      have hg := index_ge q ends
      rw [List.length_cons, List.length_nil] at h
      split at h
      · omega
      · rename_i g
        rw [if_neg g, List.nil_append] at h0
        rw [List.nil_append] at h
        by_cases g2 : Lib.index q ends < 0
        · rw [if_pos g2] at h0; omega
        · rw [if_neg g2] at h; omega
    | cons d p =>
      have e2 : ∀ r, List.take 2 (c :: (d :: p ++ r)) = [c, d] := fun r => rfl
      rw [e2 q] at h h0 ⊢
      rw [e2 q']
      by_cases h1 : [c, d] = ends
      · rw [if_pos h1, if_pos h1]
      · rw [if_neg h1] at h h0
        rw [if_neg h1, if_neg h1]
        by_cases h2 : Lib.index (d :: p ++ q) ends < 0
        · rw [if_pos h2] at h0; omega
        · rw [if_neg h2] at h h0
          rw [ih q q' h2 (by rw [List.length_cons] at h; omega)]
def wordN (w : List UInt8) : Nx := if isWord w then .tok ⟨2, w, 0, 0⟩ w.length else if 32 < w.length then .bad 32 else .tok ⟨1, w, 0, 0⟩ w.length
def numN (c : UInt8) (p : List UInt8) : Nx := if (numS (decide (c = 45)) (if c = 45 then p else c :: p)).2 then .tok ⟨3, [], (numS (decide (c = 45)) (if c = 45 then p else c :: p)).1, 0⟩ (1 + p.length) else .bad 31
theorem letter_not {c : UInt8} (h : isLetter c = true) : c ≠ 47 ∧ ¬ isBlank c = true ∧ inRun c = true := by
  refine ⟨by rintro rfl; revert h; decide, fun hb => ?_, by simp [inRun, h]⟩
  simp [isLetter, isBlank] at h hb
  omega
theorem digit_not {c : UInt8} (h : isDigit c = true) : c ≠ 47 ∧ ¬ isBlank c = true ∧ ¬ isLetter c = true := by
  refine ⟨by rintro rfl; revert h; decide, fun hb => ?_, fun hb => ?_⟩
  · simp [isDigit, isBlank] at h hb
    omega
  · simp [isDigit, isLetter] at h hb
    omega
theorem nextS_word {c : UInt8} (p q : List UInt8) (h : isLetter c = true) (hr : runLen (p ++ q) = p.length) : nextS (c :: (p ++ q)) = wordN (c :: p) := by
  obtain ⟨h1, h2, h3⟩ := letter_not h
  rw [nextS_cons, if_neg h2, if_neg (take2_ne h1 _), if_pos h]
  have e1 : runLen (c :: (p ++ q)) = (c :: p).length := by rw [runLen_cons, if_pos h3, hr]; rfl
  have e2 : List.take (c :: p).length (c :: (p ++ q)) = c :: p := by rw [← List.cons_append]; exact List.take_left
  rw [e1, e2]; rfl
theorem num_not {c : UInt8} {l : List UInt8} (h : (isDigit c || minusDigit c l) = true) : c ≠ 47 ∧ ¬ isBlank c = true ∧ ¬ isLetter c = true := by
  by_cases hd : isDigit c = true
  · exact digit_not hd
  · simp only [Bool.not_eq_true] at hd
    rw [hd, Bool.false_or] at h
    obtain rfl := (runLen_minus h).1
    decide
theorem nextS_num {c : UInt8} (p q : List UInt8) (h : (isDigit c || minusDigit c (p ++ q)) = true) (hr : runLen (p ++ q) = p.length) : nextS (c :: (p ++ q)) = numN c p := by
  obtain ⟨h1, h2, h3⟩ := num_not h
  rw [nextS_cons, if_neg h2, if_neg (take2_ne h1 _), if_neg h3, if_pos h, hr]
  have e1 : List.take p.length (p ++ q) = p := List.take_left
  have e2 : List.take (1 + p.length) (c :: (p ++ q)) = c :: p := by rw [Nat.add_comm, List.take_succ_cons, e1]
  rw [e1, e2]; rfl
theorem minus_ext {c : UInt8} {p q q' : List UInt8} (h : runLen (p ++ q) = p.length) (h' : runLen (p ++ q') = p.length) : minusDigit c (p ++ q') = minusDigit c (p ++ q) := by
  cases p with
  | cons d p => rfl
  | nil =>
    have z : ∀ r, runLen r = 0 → minusDigit c r = false := by
      intro r hr
      by_cases hm : minusDigit c r = true
      · have := (runLen_minus hm).2
        rw [hr] at this
        exact absurd rfl this
      · simpa using hm
    rw [List.nil_append] at h h' ⊢
    rw [List.nil_append, z _ h, z _ h']
theorem nextS_ext (c : UInt8) (p q q' : List UInt8) (hl : (nextS (c :: (p ++ q))).len = some (p.length + 1)) (hs : same q q') : nextS (c :: (p ++ q')) = nextS (c :: (p ++ q)) := by
  by_cases c1 : isBlank c = true
  · rw [nextS_cons, nextS_cons, if_pos c1, if_pos c1]
  by_cases c2 : (c :: (p ++ q)).take 2 = [47, 42]
  · rw [nextS_cons, if_neg c1, if_pos c2] at hl
    rw [nextS_cons c (p ++ q), nextS_cons c (p ++ q'), if_neg c1, if_neg c1, if_pos c2]
    by_cases c3 : Lib.index ((c :: (p ++ q)).drop 2) ends < 0
    · rw [if_pos c3] at hl; cases hl
    · rw [if_neg c3] at hl
      have hn : (Lib.index ((c :: (p ++ q)).drop 2) ends).toNat + 4 = p.length + 1 := Option.some.inj hl
      cases p with
      | nil => simp at hn
      | cons d p =>
        have e1 : List.drop 2 (c :: (d :: p ++ q)) = p ++ q := rfl
        have e2 : List.drop 2 (c :: (d :: p ++ q')) = p ++ q' := rfl
        have e3 : List.take 2 (c :: (d :: p ++ q')) = List.take 2 (c :: (d :: p ++ q)) := rfl
        rw [e1] at hn c3
        rw [e3, if_pos c2, e1, e2, index_ext p q q' c3 (by rw [List.length_cons] at hn; omega)]
  by_cases c3 : isLetter c = true
  · have hr : runLen (p ++ q) = p.length := by
      obtain ⟨g1, g2, g3⟩ := letter_not c3
      rw [nextS_cons, if_neg c1, if_neg c2, if_pos c3, runLen_cons, if_pos g3] at hl
      split at hl
      · have := Option.some.inj hl; omega
      · split at hl
        · cases hl
        · have := Option.some.inj hl; omega
    rw [nextS_word p q c3 hr, nextS_word p q' c3 (runLen_ext p q q' hr (same_run hs))]
  by_cases c4 : (isDigit c || minusDigit c (p ++ q)) = true
  · have hr : runLen (p ++ q) = p.length := by
      rw [nextS_cons, if_neg c1, if_neg c2, if_neg c3, if_pos c4] at hl
      by_cases c5 : (numS (decide (c = 45)) (if c = 45 then (p ++ q).take (runLen (p ++ q)) else (c :: (p ++ q)).take (1 + runLen (p ++ q)))).2 = true
      · rw [if_pos c5] at hl
        have : 1 + runLen (p ++ q) = p.length + 1 := Option.some.inj hl
        omega
      · rw [if_neg c5] at hl; cases hl
    have hr' := runLen_ext p q q' hr (same_run hs)
    rw [nextS_num p q c4 hr, nextS_num p q' (by rw [minus_ext hr hr']; exact c4) hr']
  by_cases c5 : isSign c = true
  · have hn : ∀ r : List UInt8, nextS (c :: r) = .tok ⟨4, [c], 0, 0⟩ 1 := by
      intro r
      have h47 : c ≠ 47 := by rintro rfl; revert c5; decide
      have h45 : c ≠ 45 := by rintro rfl; revert c5; decide
      have hd : isDigit c = false := by simp only [Bool.or_eq_true, not_or, Bool.not_eq_true] at c4; exact c4.1
      rw [nextS_cons, if_neg c1, if_neg (take2_ne h47 _), if_neg c3, if_neg (by rw [hd]; simp [minusDigit, h45]), if_pos c5]
    rw [hn, hn]
  · rw [nextS_cons, if_neg c1, if_neg c2, if_neg c3, if_neg c4, if_neg c5] at hl
    cases hl
/-- The errors 30, 31 and 32 stay. -/
theorem bad_ext (c : UInt8) (l m : List UInt8) (e : Int) (h : nextS (c :: l) = .bad e) (he : e ≠ 33) : nextS (c :: (l.take (if e = 30 then 0 else runLen l) ++ 32 :: m)) = .bad e := by
  have hsp := runLen_split l
  have h32 := runLen_ext (l.take (runLen l)) (l.drop (runLen l)) (32 :: m) hsp (fun _ => blank_run m)
  have hj : (nextS (c :: (l.take (runLen l) ++ l.drop (runLen l)))) = .bad e := by rw [List.take_append_drop]; exact h
  rw [nextS_cons] at h
  by_cases c1 : isBlank c = true
  · rw [if_pos c1] at h; cases h
  rw [if_neg c1] at h
  by_cases c2 : (c :: l).take 2 = [47, 42]
  · rw [if_pos c2] at h
    split at h
    · injection h with h; exact absurd h.symm he
    · cases h
  rw [if_neg c2] at h
  by_cases c3 : isLetter c = true
  · rw [if_pos c3] at h
    split at h
    · cases h
    · split at h
      · injection h with h
        rw [if_neg (by omega), nextS_word _ _ c3 h32, ← nextS_word _ _ c3 hsp]
        exact hj
      · cases h
  rw [if_neg c3] at h
  by_cases c4 : (isDigit c || minusDigit c l) = true
  · rw [if_pos c4] at h
    have he : e = 31 := by
      by_cases c5 : (numS (decide (c = 45)) (if c = 45 then l.take (runLen l) else (c :: l).take (1 + runLen l))).2 = true
      · rw [if_pos c5] at h; cases h
      · rw [if_neg c5] at h; injection h with h; exact h.symm
    have c4' : (isDigit c || minusDigit c (l.take (runLen l) ++ l.drop (runLen l))) = true := by rw [List.take_append_drop]; exact c4
    rw [if_neg (by omega), nextS_num _ _ (by rw [minus_ext hsp h32]; exact c4') h32, ← nextS_num _ _ c4' hsp]
    exact hj
  rw [if_neg c4] at h
  by_cases c5 : isSign c = true
  · rw [if_pos c5] at h; cases h
  rw [if_neg c5] at h
  injection h with h
  subst h
  rw [if_pos rfl, List.take_zero, List.nil_append, nextS_cons, if_neg c1, if_neg (by simp), if_neg c3, if_neg, if_neg c5]
  simp only [Bool.or_eq_true, not_or, Bool.not_eq_true] at c4 ⊢
  refine ⟨c4.1, ?_⟩
  have : isDigit 32 = false := by decide
  simp [minusDigit, this]
inductive Reach (s : List UInt8) : Nat → Nat → Prop
  | here (a : Nat) : Reach s a a
  | more {a n b : Nat} : a < s.length → (nextS (s.drop a)).len = some n → Reach s (a + n) b → Reach s a b
theorem Reach.le {s : List UInt8} {a b : Nat} (h : Reach s a b) : a ≤ b ∧ (a ≤ s.length → b ≤ s.length) := by
  induction h with
  | here a => exact ⟨Nat.le_refl _, id⟩
  | more h1 h2 h3 ih =>
    have := len_ok (drop_ne h1) h2
    rw [List.length_drop] at this
    exact ⟨by omega, fun _ => ih.2 (by omega)⟩
def endT (s : List UInt8) : Token := ⟨5, [], 0, (s.length : Int)⟩
theorem scan_or (s : List UInt8) : ∀ (d a : Nat) (acc : List Token), s.length < a + d → a ≤ s.length → acc.length ≤ a →
    (∃ acc', acc'.length ≤ s.length ∧ scanG d s a acc = (acc' ++ [endT s], 0, 0)) ∨ ∃ b e, Reach s a b ∧ b < s.length ∧ nextS (s.drop b) = .bad e ∧ scanG d s a acc = ([], e, (b : Int)) := by
  intro d
  induction d with
  | zero => intro a acc h1 h2; omega
  | succ d ih =>
    intro a acc h1 h2 h3
    rw [scanG]
    by_cases ha : a < s.length
    · rw [if_pos ha]
      have hl := fun n => len_ok (n := n) (drop_ne ha)
      have hm := fun n b => Reach.more (n := n) (b := b) ha
      rw [List.length_drop] at hl
      generalize hx : nextS (s.drop a) = x at hl hm ⊢
      cases x with
      | bad e => exact .inr ⟨a, e, .here a, ha, hx, rfl⟩
      | skip n =>
        have := hl n rfl
        rcases ih (a + n) acc (by omega) (by omega) (by omega) with h | ⟨b, e, g1, g2⟩
        · exact .inl h
        · exact .inr ⟨b, e, hm n b rfl g1, g2⟩
      | tok t n =>
        have := hl n rfl
        rcases ih (a + n) (acc ++ [t.put a]) (by omega) (by omega) (by simp; omega) with h | ⟨b, e, g1, g2⟩
        · exact .inl h
        · exact .inr ⟨b, e, hm n b rfl g1, g2⟩
    · rw [if_neg ha]
      exact .inl ⟨acc, by omega, rfl⟩
theorem scan_reach {s : List UInt8} {a b : Nat} (h : Reach s a b) : ∀ (d : Nat) (acc : List Token), s.length < a + d → ∃ d' acc', s.length < b + d' ∧ scanG d s a acc = scanG d' s b acc' := by
  induction h with
  | here a => intro d acc hd; exact ⟨d, acc, hd, rfl⟩
  | @more a n b h1 h2 h3 ih =>
    intro d acc hd
    have := len_ok (drop_ne h1) h2
    obtain ⟨d, rfl⟩ : ∃ e, d = e + 1 := ⟨d - 1, by omega⟩
    rw [scanG, if_pos h1]
    generalize nextS (s.drop a) = x at h2
    cases x with
    | bad e => cases h2
    | skip k =>
      obtain rfl : k = n := Option.some.inj h2
      exact ih d acc (by omega)
    | tok t k =>
      obtain rfl : k = n := Option.some.inj h2
      exact ih d _ (by omega)
theorem reach_ext {s : List UInt8} {b : Nat} (q : List UInt8) (hb : b ≤ s.length) (hq : same (s.drop b) q) {a : Nat} (h : Reach s a b) : Reach (s.take b ++ q) a b := by
  induction h with
  | here a => exact .here a
  | @more a n b h1 h2 h3 ih =>
    have hle := h3.le
    obtain ⟨g1, g2⟩ := len_ok (drop_ne h1) h2
    rw [List.length_drop] at g2
    have hab : a + n ≤ b := hle.1
    have hlen : a < (s.take b ++ q).length := by rw [List.length_append, List.length_take]; omega
    refine .more hlen ?_ (ih hb hq)
    have e1 : (s.take b ++ q).drop a = (s.drop a).take (b - a) ++ q := by
      rw [List.drop_append_of_le_length (by rw [List.length_take]; omega), List.drop_take]
    have e2 : (s.drop a).take (b - a) = (s.drop a).take n ++ (s.drop (a + n)).take (b - a - n) := by
      have : b - a = n + (b - a - n) := by omega
      rw [this, List.take_add, List.drop_drop]
      congr 2
      omega
    have e3 : s.drop a = (s.drop a).take n ++ s.drop (a + n) := by rw [← List.drop_drop, List.take_append_drop]
    rw [e1, e2, List.append_assoc]
    obtain ⟨c, l, hcl⟩ : ∃ c l, s.drop a = c :: l := by
      cases hx : s.drop a with
      | nil => exact absurd hx (drop_ne h1)
      | cons c l => exact ⟨c, l, rfl⟩
    obtain ⟨n, rfl⟩ : ∃ j, n = j + 1 := ⟨n - 1, by omega⟩
    have hpl : (l.take n).length = n := by
      have := congrArg List.length hcl
      rw [List.length_drop, List.length_cons] at this
      rw [List.length_take]; omega
    have hsame : same (s.drop (a + (n + 1))) ((s.drop (a + (n + 1))).take (b - a - (n + 1)) ++ q) := by
      rcases Nat.eq_or_lt_of_le hab with e | e
      · rw [show b - a - (n + 1) = 0 from by omega, List.take_zero, List.nil_append, e]; exact hq
      · refine .inr ?_
        have hx : a + (n + 1) < s.length := by omega
        obtain ⟨j, hj⟩ : ∃ j, b - a - (n + 1) = j + 1 := ⟨b - a - (n + 1) - 1, by omega⟩
        rw [hj, List.drop_eq_getElem_cons hx]; rfl
    rw [e3, hcl, List.take_succ_cons, List.cons_append] at h2
    rw [hcl, List.take_succ_cons, List.cons_append]
    rw [nextS_ext c (l.take n) _ _ (by rw [hpl]; exact h2) hsame]
    exact h2
/-- A scan of what lies ahead of the place that was reached. -/
theorem scan_ends {s : List UInt8} {b : Nat} (hb : b ≤ s.length) (hs : s.length ≤ 16000) (h : Reach s 0 b) : ∃ L, scanS (s.take b) = (L, 0, 0) := by
  have h' := reach_ext [] hb (.inl rfl) h
  rw [List.append_nil] at h'
  have hl : (s.take b).length = b := by rw [List.length_take]; omega
  unfold scanS
  rw [if_neg (by omega)]
  obtain ⟨d', acc', g1, g2⟩ := scan_reach h' ((s.take b).length + 1) [] (by omega)
  rw [g2]
  obtain ⟨d', rfl⟩ : ∃ e, d' = e + 1 := ⟨d' - 1, by omega⟩
  rw [scanG, if_neg (by omega)]
  exact ⟨_, rfl⟩
theorem scan_note {s : List UInt8} {b : Nat} (hb : b < s.length) (h : Reach s 0 b) (he : nextS (s.drop b) = .bad 33) (h5 : b + 5 ≤ 16000) : ∃ L, scanS (s.take b ++ [47, 42, 32, 42, 47]) = (L, 0, 0) := by
  have hl : (s.take b).length = b := by rw [List.length_take]; omega
  have hhead : (s.drop b).head? = some 47 := by
    obtain ⟨c, l, hcl⟩ : ∃ c l, s.drop b = c :: l := by
      cases hx : s.drop b with
      | nil => exact absurd hx (drop_ne hb)
      | cons c l => exact ⟨c, l, rfl⟩
    rw [hcl] at he ⊢
    by_cases h47 : c = 47
    · rw [h47]; rfl
    · exfalso
      rw [nextS_cons, if_neg (take2_ne h47 _)] at he
      split at he
      · cases he
      · split at he
        · split at he
          · cases he
          · split at he
            · injection he with he; omega
            · cases he
        · by_cases c4 : (isDigit c || minusDigit c l) = true
          · rw [if_pos c4] at he
            by_cases c5 : (numS (decide (c = 45)) (if c = 45 then l.take (runLen l) else (c :: l).take (1 + runLen l))).2 = true
            · rw [if_pos c5] at he; cases he
            · rw [if_neg c5] at he; injection he with he; omega
          · rw [if_neg c4] at he
            split at he
            · cases he
            · injection he with he; omega
  have h' := reach_ext [47, 42, 32, 42, 47] (Nat.le_of_lt hb) (.inr hhead.symm) h
  have hlen : (s.take b ++ [47, 42, 32, 42, 47]).length = b + 5 := by rw [List.length_append, hl]; rfl
  unfold scanS
  rw [if_neg (by omega)]
  obtain ⟨d', acc', g1, g2⟩ := scan_reach h' ((s.take b ++ [47, 42, 32, 42, 47]).length + 1) [] (by omega)
  rw [g2]
  obtain ⟨d', rfl⟩ : ∃ e, d' = e + 1 := ⟨d' - 1, by omega⟩
  have hdr : (s.take b ++ [47, 42, 32, 42, 47]).drop b = [47, 42, 32, 42, 47] := List.drop_left' hl
  have hn : nextS [47, 42, 32, 42, 47] = .skip 5 := rfl
  rw [scanG, if_pos (by omega), hdr, hn]
  obtain ⟨d', rfl⟩ : ∃ e, d' = e + 1 := ⟨d' - 1, by omega⟩
  show ∃ L, scanG (d' + 1) _ (b + 5) acc' = _
  rw [scanG, if_neg (by omega)]
  exact ⟨_, rfl⟩
theorem scan_fault {s : List UInt8} {b : Nat} (hb : b < s.length) (h : Reach s 0 b) {e : Int} (he : nextS (s.drop b) = .bad e) (h33 : e ≠ 33) (m : List UInt8)
    {X : Nat} (hX : X = b + 1 + (if e = 30 then 0 else runLen (s.drop (b + 1)))) (hlen : (s.take X ++ 32 :: m).length ≤ 16000) : scanS (s.take X ++ 32 :: m) = ([], e, (b : Int)) := by
  obtain ⟨c, l, hcl⟩ : ∃ c l, s.drop b = c :: l := by
    cases hx : s.drop b with
    | nil => exact absurd hx (drop_ne hb)
    | cons c l => exact ⟨c, l, rfl⟩
  have hdl : s.drop (b + 1) = l := by rw [← List.drop_drop, hcl]; rfl
  rw [hdl] at hX
  rw [hcl] at he
  have hbe := bad_ext c l m e he h33
  have hll : l.length = s.length - (b + 1) := by rw [← hdl, List.length_drop]
  have hrl := runLen_le l
  have hXl : X ≤ s.length := by rw [hX]; split <;> omega
  have eT : s.take X ++ 32 :: m = s.take b ++ (c :: (l.take (if e = 30 then 0 else runLen l) ++ 32 :: m)) := by
    rw [hX, Nat.add_assoc, List.take_add, hcl, Nat.add_comm 1, List.take_succ_cons, List.append_assoc, List.cons_append]
  rw [eT] at hlen ⊢
  have h' := reach_ext (c :: (l.take (if e = 30 then 0 else runLen l) ++ 32 :: m)) (Nat.le_of_lt hb) (.inr (by rw [hcl]; rfl)) h
  have hl : (s.take b).length = b := by rw [List.length_take]; omega
  have hdr : (s.take b ++ (c :: (l.take (if e = 30 then 0 else runLen l) ++ 32 :: m))).drop b = c :: (l.take (if e = 30 then 0 else runLen l) ++ 32 :: m) := List.drop_left' hl
  unfold scanS
  rw [if_neg (by omega)]
  obtain ⟨d', acc', g1, g2⟩ := scan_reach h' ((s.take b ++ (c :: (l.take (if e = 30 then 0 else runLen l) ++ 32 :: m))).length + 1) [] (by omega)
  rw [g2]
  have hbl : b < (s.take b ++ (c :: (l.take (if e = 30 then 0 else runLen l) ++ 32 :: m))).length := by rw [List.length_append, hl, List.length_cons]; omega
  obtain ⟨d', rfl⟩ : ∃ e, d' = e + 1 := ⟨d' - 1, by omega⟩
  rw [scanG, if_pos hbl, hdr, hbe]
end Go.Proofs.YtpdpfiaediadgaaDoor
