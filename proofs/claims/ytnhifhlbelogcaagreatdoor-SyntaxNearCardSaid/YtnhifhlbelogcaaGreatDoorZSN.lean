/- SyntaxNear's plain law: true for all. -/
import Derived.Test.YtnhifhlbelogcaaGreatDoorZSM
import Derived.Test.YtnhifhlbelogcaaGreatDoorZPQ
set_option linter.unusedVariables false
set_option linter.unusedSimpArgs false
namespace Go.Proofs.YtnhifhlbelogcaaGreatDoor
open Go Go.Eng
theorem alike_ {t : Tree} (h : Sm t) : Ev (fun k => sy_alike k t t) true := by
  induction h with
  | @mk K nm x a l hl hs ih =>
    refine Ev.unf ?_;simp only [sy_alike];refine Ev.pos (by simp) (Ev.pos (by simp) (Ev.pos (by simp) (Ev.pos (by simp) (Ev.unf ?_))));simp only [sy_alike.j1];refine Ev.neg (by simp) ?_;have loop : ∀ (d i : Nat), l.length - i = d → i ≤ l.length → Ev (fun k => sy_alike.l1 k ⟨K, nm, x, a, l⟩ ⟨K, nm, x, a, l⟩ (i : Int)) true := by
      intro d
      induction d with
      | zero =>
        intro i h1 h2;refine Ev.unf ?_;simp only [sy_alike.l1];exact Ev.neg (by omega) Ev.ret
      | succ d ihd =>
        intro i h1 h2;have hi : i < l.length := by omega
        have hx : idx l (i : Int) = some l[i] := idx_at rfl hi;refine Ev.unf ?_;simp only [sy_alike.l1];refine Ev.pos (by omega) (Ev.bindc hx (Ev.bindc hx (Ev.bind (ih l[i] (List.getElem_mem hi)) (Ev.pos rfl ?_))));rw [w64_succ (by omega)];exact ihd (i + 1) (by omega) (by omega)
    exact loop l.length 0 rfl (Nat.zero_le _)
theorem add_ (k : Nat) {a b : Int} (ha : 0 ≤ a) (ha' : a ≤ 1125899906842624) (hb : 0 ≤ b) (hb' : b ≤ 1125899906842624) : ∃ r, (∀ k, sy_add k a b = some r) ∧ 0 ≤ r ∧ r ≤ 2147483648 ∧ (r ≤ 2147483647 → r = a + b) := by
  unfold sy_add;rw [w64_of (n := 2147483647 - a) (by omega) (by omega), w64_of (n := a + b) (by omega) (by omega)];by_cases h : 2147483647 - a < b
  · exact ⟨2147483648, fun k => by rw [if_pos h], by omega, by omega, by omega⟩
  · exact ⟨a + b, fun k => by rw [if_neg h], by omega, by omega, fun _ => rfl⟩
theorem thrice_ {a : Int} (ha : 0 ≤ a) (ha' : a ≤ 1125899906842624) : ∃ r, (∀ k, sy_thrice k a = some r) ∧ 0 ≤ r ∧ r ≤ 2147483648 ∧ (r ≤ 2147483647 → r = 3 * a) := by
  obtain ⟨r1, h1, p1, q1, e1⟩ := add_ 0 ha ha' ha ha';obtain ⟨r2, h2, p2, q2, e2⟩ := add_ 0 ha ha' p1 (by omega);refine ⟨r2, fun k => ?_, p2, q2, fun h => ?_⟩
  · unfold sy_thrice
    rw [h1, Option.bind_some, h2]
    rfl
  · have := e2 h
    have := e1 (by omega)
    omega
theorem pick_ {c n : Int} (hc : -9223372036854775808 ≤ c) (hc' : c < 9223372036854775808) (hn : 0 < n) : ∃ r : Nat, (r : Int) < n ∧ ∀ k, sy_pick k c n = some (r : Int) := by
  unfold sy_pick;by_cases h : c < 0
  · rw [w64_of (n := c + 1) (by omega) (by omega), w64_of (n := -(c + 1)) (by omega) (by omega)]
    have h0 := Int.tmod_nonneg (a := -(c + 1)) n (by omega);have h1 := Int.tmod_lt_of_pos (-(c + 1)) hn;refine ⟨((-(c + 1)).tmod n).toNat, by omega, fun k => ?_⟩;rw [if_pos h, if_neg (by omega)]
    congr 1
    omega
  · have h0 := Int.tmod_nonneg (a := c) n (by omega)
    have h1 := Int.tmod_lt_of_pos c hn;refine ⟨(c.tmod n).toNat, by omega, fun k => ?_⟩;rw [if_neg h, if_neg (by omega)]
    congr 1
    omega
theorem near_l (m85 m93 m103 m105 m107 m113 : List UInt8) : ∀ (d i : Nat), 6 - i = d → i ≤ 6 → Ev (fun k => law_Near.l1 k m85 m93 m103 m105 m107 m113 (i : Int)) true := by
  intro d
  induction d with
  | zero =>
    intro i h1 h2;refine Ev.unf ?_;simp only [law_Near.l1];exact Ev.neg (by simp only [List.length_cons, List.length_nil]; omega) Ev.ret
  | succ d ih =>
    intro i h1 h2;have hi : i < ([m85, m93, m103, m105, m107, m113] : List (List UInt8)).length := by simp only [List.length_cons, List.length_nil]; omega
    have hx : idx ([m85, m93, m103, m105, m107, m113] : List (List UInt8)) (i : Int) = some (([m85, m93, m103, m105, m107, m113] : List (List UInt8))[i]) := idx_at rfl hi;refine Ev.unf ?_;simp only [law_Near.l1];obtain ⟨r, hs, h1', h2'⟩ := parse_agree (([m85, m93, m103, m105, m107, m113] : List (List UInt8))[i]);refine Ev.pos (by simp only [List.length_cons, List.length_nil]; omega) (Ev.bindc hx (Ev.bind h1' (Ev.bindc hx (Ev.bind h2' (Ev.bind (alike_ hs) (Ev.pos rfl (Ev.pos rfl (Ev.pos rfl ?_))))))));rw [w64_succ (by omega)];exact ih (i + 1) (by omega) (by omega)
theorem near_true (s o : List UInt8) (c : Int) (hs : s.length ≤ 140737488355328) (ho : o.length ≤ 140737488355328) (hc : -9223372036854775808 ≤ c) (hc' : c < 9223372036854775808) : ∃ k, law_Near k s c o = some true := by
  refine Ev.get (f := fun k => law_Near k s c o) ?_;unfold law_Near;obtain ⟨r1, e1, p1, q1, f1⟩ := thrice_ (a := (s.length : Int)) (by omega) (by omega);obtain ⟨r2, e2, p2, q2, f2⟩ := thrice_ (a := (o.length : Int)) (by omega) (by omega);obtain ⟨r3, e3, p3, q3, f3⟩ := add_ 0 p1 (by omega) p2 (by omega);obtain ⟨r4, e4, p4, q4, f4⟩ := thrice_ p3 (by omega);refine Ev.bind (Ev.all e1) (Ev.bind (Ev.all e2) (Ev.bind (Ev.all e3) (Ev.bind (Ev.all e4) ?_)));by_cases hb : 2147483647 < r4
  · exact Ev.pos hb Ev.ret
  · have g4 := f4 (by omega)
    have g3 := f3 (by omega);have g2 := f2 (by omega);have g1 := f1 (by omega);have ho' : o.length ≤ 2147483647 := by omega
    have haw : Ev (fun k => sy_awake k) true := ⟨60, fun k hk => by
      obtain ⟨j, rfl⟩ := Nat.exists_eq_add_of_le hk;rw [Nat.add_comm];exact sy_awake_k j⟩
    refine Ev.neg hb (Ev.bind haw (Ev.bind (lx_Scan_ s) (Ev.pos rfl ?_)));have hj : ∀ b : Bool, b = true → Ev (fun k => law_Near.j1 k s c o true (scanS s) b) true := fun b hb => by
      unfold law_Near.j1;exact Ev.pos hb Ev.ret
    by_cases h0 : (scanS s).2.1 = 0
    · refine Ev.pos h0 ?_
      obtain ⟨hl, A, hA, hin⟩ := scanS_toks h0;by_cases h1 : ((scanS s).1.length : Int) = 1
      · exact hj _ (by simpa using h1)
      · unfold law_Near.j1
        refine Ev.neg (by simpa using h1) ?_;have hlen := scanS_len s;generalize hT : (scanS s).1 = T at *;have hTl : T.length = A.length + 1 := by rw [hA]; simp
        have hat : ∀ (i : Nat) (h : i < T.length), ∃ b : Nat, T[i].At = (b : Int) ∧ b ≤ s.length := fun i h => by
          have hm : T[i] ∈ A ++ [(⟨5, [], 0, (s.length : Int)⟩ : Token)] := hA ▸ List.getElem_mem h;rcases List.mem_append.1 hm with hm | hm
          · obtain ⟨_, _, g1, g2⟩ := hin _ hm
            exact ⟨T[i].At.toNat, by omega, by omega⟩
          · rw [List.mem_singleton] at hm
            rw [hm];exact ⟨s.length, rfl, Nat.le_refl _⟩
        obtain ⟨j, hj1, hj2⟩ := pick_ (c := c) (n := (T.length : Int) - 1) hc hc' (by omega);obtain ⟨b0, hb0, hb0'⟩ := hat j (by omega);obtain ⟨b1, hb1, hb1'⟩ := hat (j + 1) (by omega);rw [w64_of (n := (T.length : Int) - 1) (by omega) (by omega)];refine Ev.bind (Ev.all hj2) ?_;refine Ev.bindc (idx_at rfl (by omega)) ?_;rw [w64_succ (by omega)];refine Ev.bindc (idx_at rfl (by omega)) ?_;refine Ev.bindc (cut_to hb0 hb0') ?_;refine Ev.bindc (cut_from hb1 hb1') ?_;refine Ev.bindc (cat_at (by simp only [List.length_append, List.length_take, List.length_drop, List.length_singleton]; omega)) ?_;refine Ev.bindc (cut_to hb1 hb1') ?_;refine Ev.bindc (cat_at (by simp only [List.length_append, List.length_take, List.length_drop, List.length_singleton]; omega)) ?_;refine Ev.bindc (cut_from hb0 hb0') ?_;refine Ev.bindc (cat_at (by simp only [List.length_append, List.length_take, List.length_drop, List.length_singleton]; omega)) ?_;refine Ev.bindc (cut_to hb0 hb0') ?_;refine Ev.bindc (cat_at (by simp only [List.length_append, List.length_take, List.length_drop, List.length_singleton]; omega)) ?_;refine Ev.bindc (cat_at (by simp only [List.length_append, List.length_take, List.length_drop, List.length_singleton]; omega)) ?_;refine Ev.bindc (cut_from hb1 hb1') ?_;refine Ev.bindc (cat_at (by simp only [List.length_append, List.length_take, List.length_drop, List.length_singleton]; omega)) ?_;refine Ev.bindc (cut_to hb0 hb0') ?_;refine Ev.bindc (cut_to hb1 hb1') ?_;refine Ev.bindc (cut_to hb1 hb1') ?_;refine Ev.bindc (cat_at (by simp only [List.length_append, List.length_take, List.length_drop, List.length_singleton]; omega)) ?_;refine Ev.bindc (cat_at (by simp only [List.length_append, List.length_take, List.length_drop, List.length_singleton]; omega)) ?_;exact near_l _ _ _ _ _ _ 6 0 rfl (by decide)
    · exact Ev.neg h0 (hj _ rfl)
end Go.Proofs.YtnhifhlbelogcaaGreatDoor
