/- LexParts: what is written out of pieces is taken apart into just these. -/
import Derived.Test.YtpdpfiaediadgaaDoorLexV
set_option linter.unusedVariables false
namespace Go.Proofs.YtpdpfiaediadgaaDoor
open Go Go.Eng
def ofT : List UInt8 := [97, 98, 99, 100, 101, 102, 103, 104, 105, 106, 107, 108, 109, 110, 111, 112, 113, 114, 115, 116, 117, 118, 119, 120, 121, 122, 65, 66, 67, 68, 69, 70, 71, 72, 73, 74, 75, 76, 77, 78, 79, 80, 81, 82, 83, 84, 85, 86, 87, 88, 89, 90, 48, 49, 50, 51, 52, 53, 54, 55, 56, 57, 95]
theorem of_facts : ∀ i : Fin 63, inRun (ofT.getD i.val 0) = true ∧ (i.val < 52 → isLetter (ofT.getD i.val 0) = true) := by decide
theorem of_idx {n : Nat} (h : n < 63) : idx ofT (n : Int) = some (ofT.getD n 0) := by
  have hl : ofT.length = 63 := rfl
  rw [idx_at rfl (by omega), List.getD_eq_getElem?_getD, List.getElem?_eq_getElem (by omega)]; rfl
theorem run_l (s : List UInt8) : ∀ (d j : Nat) (l : List UInt8), 32 - j = d → 1 ≤ j → j ≤ 32 → l.length = j → ∃ p, Ev (fun k => lw_run.l1 k s l (j : Int)) (l ++ p) ∧ p.all inRun = true ∧ (l ++ p).length ≤ 32 := by
  intro d
  induction d with
  | zero =>
    intro j l hd h1 h2 hl
    refine ⟨[], ?_, rfl, by rw [List.append_nil]; omega⟩
    refine Ev.step (g := fun k => lw_run.l1 (k + 1) s l (j : Int)) ?_ (fun _ => rfl)
    simp only [lw_run.l1]
    by_cases hj : j < s.length
    · refine Ev.pos (by omega) ?_
      refine Ev.step (g := fun k => lw_run.j2 (k + 1) s l (j : Int) (decide ((j : Int) < 32))) ?_ (fun _ => rfl)
      simp only [lw_run.j2]
      exact Ev.neg (by simp; omega) (Ev.ret.cast (by simp))
    · refine Ev.neg (by omega) ?_
      refine Ev.step (g := fun k => lw_run.j2 (k + 1) s l (j : Int) false) ?_ (fun _ => rfl)
      simp only [lw_run.j2]
      exact Ev.neg (by simp) (Ev.ret.cast (by simp))
  | succ d ih =>
    intro j l hd h1 h2 hl
    by_cases hj : j < s.length
    · have hm : s[j].toNat % 63 < 63 := Nat.mod_lt _ (by omega)
      obtain ⟨p, g1, g2, g3⟩ := ih (j + 1) (l ++ [ofT.getD (s[j].toNat % 63) 0]) (by omega) (by omega) (by omega) (by simp; omega)
      refine ⟨ofT.getD (s[j].toNat % 63) 0 :: p, ?_, by rw [List.all_cons, (of_facts ⟨_, hm⟩).1, g2]; rfl, by rw [List.append_assoc] at g3; exact g3⟩
      refine Ev.step (g := fun k => lw_run.l1 (k + 1) s l (j : Int)) ?_ (fun _ => rfl)
      simp only [lw_run.l1]
      refine Ev.pos (by omega) ?_
      refine Ev.step (g := fun k => lw_run.j2 (k + 1) s l (j : Int) (decide ((j : Int) < 32))) ?_ (fun _ => rfl)
      simp only [lw_run.j2]
      refine Ev.pos (by simp; omega) ?_
      refine Ev.bindc (idx_at rfl hj) ?_
      refine Ev.bindc (r := ofT.getD (s[j].toNat % 63) 0) (of_idx hm) ?_
      refine Ev.bindc (cat_at (by simp; omega)) ?_
      rw [w64_succ (by omega)]
      exact g1.cast (by simp)
    · refine ⟨[], ?_, rfl, by rw [List.append_nil]; omega⟩
      refine Ev.step (g := fun k => lw_run.l1 (k + 1) s l (j : Int)) ?_ (fun _ => rfl)
      simp only [lw_run.l1]
      refine Ev.neg (by omega) ?_
      refine Ev.step (g := fun k => lw_run.j2 (k + 1) s l (j : Int) false) ?_ (fun _ => rfl)
      simp only [lw_run.j2]
      exact Ev.neg (by simp) (Ev.ret.cast (by simp))
theorem run_ (s : List UInt8) : ∃ c p, Ev (fun k => lw_run k s) (c :: p) ∧ isLetter c = true ∧ p.all inRun = true ∧ (c :: p).length ≤ 32 := by
  unfold lw_run
  by_cases h : 0 < s.length
  · have hm : s[0].toNat % 52 < 52 := Nat.mod_lt _ (by omega)
    obtain ⟨p, g1, g2, g3⟩ := run_l s 31 1 [ofT.getD (s[0].toNat % 52) 0] rfl (Nat.le_refl _) (by omega) rfl
    refine ⟨_, p, ?_, (of_facts ⟨_, Nat.lt_of_lt_of_le hm (by decide)⟩).2 hm, g2, g3⟩
    refine Ev.pos (by omega) ?_
    refine Ev.bindc (idx_at (j := 0) rfl h) ?_
    refine Ev.bindc (r := ofT.getD (s[0].toNat % 52) 0) (of_idx (Nat.lt_of_lt_of_le hm (by decide))) ?_
    exact g1
  · obtain ⟨p, g1, g2, g3⟩ := run_l s 31 1 [113] rfl (Nat.le_refl _) (by omega) rfl
    refine ⟨_, p, ?_, by decide, g2, g3⟩
    refine Ev.neg (by omega) ?_
    exact g1
theorem pick_ (k : Nat) (a : Int) (n : Nat) (hn : 0 < n) (h0 : -9223372036854775808 ≤ a) (h1 : a ≤ 9223372036854775807) : ∃ m : Nat, lw_pick k a (n : Int) = some (m : Int) ∧ m < n := by
  have key : ∀ b : Nat, Int.tmod (b : Int) (n : Int) = ((b % n : Nat) : Int) := fun _ => rfl
  unfold lw_pick
  by_cases h : a < 0
  · rw [if_pos h, if_neg (by omega), w64_of (n := a + 1) (by omega) (by omega), w64_of (n := -(a + 1)) (by omega) (by omega)]
    have e : -(a + 1) = ((-(a + 1)).toNat : Int) := by omega
    rw [e, key]
    exact ⟨_, rfl, Nat.mod_lt _ hn⟩
  · rw [if_neg h, if_neg (by omega)]
    have e : a = (a.toNat : Int) := by omega
    rw [e, key]
    exact ⟨_, rfl, Nat.mod_lt _ hn⟩
theorem sign_taken {c : UInt8} (c5 : isSign c = true) (r : List UInt8) : nextS (c :: r) = .tok ⟨4, [c], 0, 0⟩ 1 := by
  have hd : ∀ c ∈ signs, c ≠ 47 ∧ c ≠ 45 ∧ isBlank c = false ∧ isLetter c = false ∧ isDigit c = false := by decide
  obtain ⟨h47, h45, h1, h2, h3⟩ := hd c (of_decide_eq_true c5)
  rw [nextS_cons, if_neg (by simp [h1]), if_neg (take2_ne h47 _), if_neg (by simp [h2]), if_neg (by rw [h3]; simp [minusDigit, h45]), if_pos c5]
structure TkOK (t : Token) (x : List UInt8) : Prop where
  ne : x ≠ []
  len : x.length ≤ 32
  took : ∀ q, (t.Kind = 4 ∨ runLen q = 0) → nextS (x ++ q) = .tok t x.length
  sign : t.Kind = 4 → ∀ q, runLen (x ++ q) = 0
theorem dgs_ne (b n : Nat) (hb : Bs b) (hn : n < 4294967296) : dgs b n ≠ [] ∧ (dgs b n).length ≤ 30 := by
  obtain ⟨d, p, e, _, _, _, _, hl⟩ := dgs_facts hb hn
  exact ⟨by rw [e]; simp, hl⟩
theorem token_ (p : Piece) (h0 : -9223372036854775808 ≤ p.N) (h1 : p.N ≤ 9223372036854775807) : ∃ t x, Ev (fun k => lw_token k p) (t, x) ∧ TkOK t x := by
  have hn3 : ((3 : Int) = 4) ↔ False := by decide
  obtain ⟨n, hn, hlt⟩ := pick_ 0 p.N 4294967296 (by omega) h0 h1
  have hpick : ∀ k, lw_pick k p.N 4294967296 = some (n : Int) := fun k => hn
  unfold lw_token
  by_cases c0 : p.What = 0
  · obtain ⟨c, r, g1, g2, g3, g4⟩ := run_ p.S
    by_cases c1 : isWord (c :: r) = true
    · refine ⟨⟨2, c :: r, 0, 0⟩, c :: r, ?_, by simp, g4, fun q hq => ?_, fun h => absurd h (show ¬ (2 : Int) = 4 by decide)⟩
      · refine Ev.bind (Ev.all hpick) (Ev.pos c0 ?_)
        refine Ev.bind g1 ?_
        refine Ev.bind (lx_IsWord_ _) ?_
        exact Ev.pos c1 Ev.ret
      · have hq' : runLen q = 0 := by rcases hq with h | h; exact absurd h (show ¬ (2 : Int) = 4 by decide); exact h
        rw [List.cons_append, nextS_word r q g2 (all_run r q g3 hq')]
        unfold wordN
        rw [if_pos c1]
    · refine ⟨⟨1, c :: r, 0, 0⟩, c :: r, ?_, by simp, g4, fun q hq => ?_, fun h => absurd h (show ¬ (1 : Int) = 4 by decide)⟩
      · refine Ev.bind (Ev.all hpick) (Ev.pos c0 ?_)
        refine Ev.bind g1 ?_
        refine Ev.bind (lx_IsWord_ _) ?_
        exact Ev.neg c1 Ev.ret
      · have hq' : runLen q = 0 := by rcases hq with h | h; exact absurd h (show ¬ (1 : Int) = 4 by decide); exact h
        rw [List.cons_append, nextS_word r q g2 (all_run r q g3 hq')]
        unfold wordN
        rw [if_neg c1, if_neg (by omega)]
  by_cases c1 : p.What = 1
  · have hpos : ¬ (p.N < 0 ∧ -2147483648 ≤ p.N) → ∀ b, b = decide (-2147483648 ≤ p.N) ∧ p.N < 0 ∨ b = false ∧ ¬ p.N < 0 → Ev (fun k => lw_token.j2 k p (n : Int) b) (⟨3, [], (n : Int), 0⟩, dgs 10 n) := by
      intro hno b hb
      have hbf : b = false := by
        rcases hb with ⟨h, h'⟩ | ⟨h, _⟩
        · rw [h, decide_eq_false (fun h2 => hno ⟨h', h2⟩)]
        · exact h
      subst hbf
      unfold lw_token.j2
      refine Ev.neg (by simp) ?_
      exact Ev.bind (digits_ (b := 10) (.inr (.inl rfl)) hlt) Ev.ret
    by_cases hneg : p.N < 0 ∧ -2147483648 ≤ p.N
    · have hm : -p.N = ((-p.N).toNat : Int) := by omega
      have hN : p.N = -((-p.N).toNat : Int) := by omega
      have hb := dgs_ne 10 (-p.N).toNat (.inr (.inl rfl)) (by omega)
      refine ⟨⟨3, [], p.N, 0⟩, 45 :: dgs 10 (-p.N).toNat, ?_, by simp, by rw [List.length_cons]; omega, fun q hq => ?_, fun h => absurd h (show ¬ (3 : Int) = 4 by decide)⟩
      · refine Ev.bind (Ev.all hpick) (Ev.neg c0 (Ev.pos c1 (Ev.pos hneg.1 ?_)))
        unfold lw_token.j2
        refine Ev.pos (decide_eq_true hneg.2) ?_
        rw [w64_of (n := -p.N) (by omega) (by omega)]
        rw [hm]
        refine Ev.bind (digits_ (b := 10) (.inr (.inl rfl)) (by omega)) ?_
        refine Ev.bindc (cat_at (by rw [List.length_singleton]; omega)) ?_
        exact Ev.ret
      · have hq' : runLen q = 0 := by rcases hq with h | h; exact absurd h (show ¬ (3 : Int) = 4 by decide); exact h
        have := neg_taken (n := (-p.N).toNat) (by omega) (by omega) hq'
        rw [← hN] at this
        exact this
    · have hb := dgs_ne 10 n (.inr (.inl rfl)) hlt
      refine ⟨⟨3, [], (n : Int), 0⟩, dgs 10 n, ?_, hb.1, by omega, fun q hq => ?_, fun h => absurd h (show ¬ (3 : Int) = 4 by decide)⟩
      · refine Ev.bind (Ev.all hpick) (Ev.neg c0 (Ev.pos c1 ?_))
        by_cases h : p.N < 0
        · exact Ev.pos h (hpos hneg _ (.inl ⟨rfl, h⟩))
        · exact Ev.neg h (hpos hneg _ (.inr ⟨rfl, h⟩))
      · have hq' : runLen q = 0 := by rcases hq with h | h; exact absurd h (show ¬ (3 : Int) = 4 by decide); exact h
        exact dec_taken hlt hq'
  by_cases c2 : p.What = 2
  · have hb := dgs_ne 16 n (.inr (.inr rfl)) hlt
    refine ⟨⟨3, [], (n : Int), 0⟩, [48, 120] ++ dgs 16 n, ?_, by simp, by simp; omega, fun q hq => ?_, fun h => absurd h (show ¬ (3 : Int) = 4 by decide)⟩
    · refine Ev.bind (Ev.all hpick) (Ev.neg c0 (Ev.neg c1 (Ev.pos c2 ?_)))
      refine Ev.bind (digits_ (b := 16) (.inr (.inr rfl)) hlt) ?_
      refine Ev.bindc (cat_at (by simp; omega)) ?_
      exact Ev.ret
    · have hq' : runLen q = 0 := by rcases hq with h | h; exact absurd h (show ¬ (3 : Int) = 4 by decide); exact h
      exact hex_taken hlt hq'
  by_cases c3 : p.What = 3
  · have hb := dgs_ne 8 n (.inl rfl) hlt
    refine ⟨⟨3, [], (n : Int), 0⟩, [48] ++ dgs 8 n, ?_, by simp, by simp; omega, fun q hq => ?_, fun h => absurd h (show ¬ (3 : Int) = 4 by decide)⟩
    · refine Ev.bind (Ev.all hpick) (Ev.neg c0 (Ev.neg c1 (Ev.neg c2 (Ev.pos c3 ?_))))
      refine Ev.bind (digits_ (b := 8) (.inl rfl) hlt) ?_
      refine Ev.bindc (cat_at (by simp; omega)) ?_
      exact Ev.ret
    · have hq' : runLen q = 0 := by rcases hq with h | h; exact absurd h (show ¬ (3 : Int) = 4 by decide); exact h
      exact oct_taken hlt hq'
  obtain ⟨m, hm, hm13⟩ := pick_ 0 p.N 13 (by omega) h0 h1
  have hs : ∀ i : Fin 13, (List.take (i.val + 1) signs).drop i.val = [signs.getD i.val 0] ∧ isSign (signs.getD i.val 0) = true ∧ inRun (signs.getD i.val 0) = false := by decide
  obtain ⟨s1, s2, s3⟩ := hs ⟨m, hm13⟩
  refine ⟨⟨4, [signs.getD m 0], 0, 0⟩, [signs.getD m 0], ?_, by simp, by simp, fun q hq => sign_taken s2 q, fun _ q => by rw [List.singleton_append, runLen_cons, s3]; rfl⟩
  refine Ev.bind (Ev.all hpick) (Ev.neg c0 (Ev.neg c1 (Ev.neg c2 (Ev.neg c3 ?_))))
  refine Ev.bind (r := (m : Int)) (Ev.all fun k => hm) ?_
  rw [w64_succ (by omega)]
  refine Ev.bindc (cut_at (L := signs) (a := m) (b := m + 1) rfl rfl (by omega) (by show _ ≤ 13; omega)) ?_
  rw [s1]
  exact Ev.ret
/-! ### gaps -/
def Ck (c : List UInt8) : Prop := c ≠ [] ∧ ∀ q, nextS (c ++ q) = .skip c.length
theorem ck_blank {c : UInt8} (h : isBlank c = true) : Ck [c] := ⟨by simp, fun q => by rw [List.singleton_append, nextS_cons, if_pos h]; rfl⟩
theorem ck_note (p : List UInt8) (h : ¬ Lib.index (p ++ []) ends < 0) (h2 : Lib.index (p ++ []) ends + 2 = (p.length : Int)) : Ck (47 :: 42 :: p) := by
  refine ⟨by simp, fun q => ?_⟩
  have e := index_ext p [] q h h2
  rw [List.cons_append, List.cons_append, nextS_cons, if_neg (by decide), if_pos (show List.take 2 (47 :: 42 :: (p ++ q)) = [47, 42] from rfl)]
  rw [show List.drop 2 (47 :: 42 :: (p ++ q)) = p ++ q from rfl, e, if_neg h]
  congr 1
  rw [List.length_cons, List.length_cons]
  omega
theorem ck_a : Ck [47, 42, 42, 47] := ck_note [42, 47] (by decide) (by decide)
theorem ck_b : Ck [47, 42, 32, 97, 59, 123, 32, 47, 32, 42, 32, 47, 47, 32, 42, 47] := ck_note [32, 97, 59, 123, 32, 47, 32, 42, 32, 47, 47, 32, 42, 47] (by decide) (by decide)
theorem gap_l (g : List Int) (hg : g.length ≤ 2147483647) : ∀ (d j : Nat) (s : List UInt8), g.length - j = d → j ≤ g.length → s.length ≤ 1 + 16 * j → ∃ cs : List (List UInt8), Ev (fun k => lw_gap.l1 k g s (j : Int)) (s ++ cs.flatten) ∧ (∀ c ∈ cs, Ck c) ∧ cs.flatten.length ≤ 16 * d := by
  intro d
  induction d with
  | zero =>
    intro j s hd hj hs
    refine ⟨[], ?_, by simp, by simp⟩
    refine Ev.step (g := fun k => lw_gap.l1 (k + 1) g s (j : Int)) ?_ (fun _ => rfl)
    simp only [lw_gap.l1]
    exact Ev.neg (by omega) (Ev.ret.cast (by simp))
  | succ d ih =>
    intro j s hd hj hs
    have hlt : j < g.length := by omega
    have one : ∀ c : List UInt8, Ck c → c.length ≤ 16 → ∃ cs : List (List UInt8), Ev (fun k => Option.bind (cat s c) fun m => lw_gap.l1 k g m (w64 ((j : Int) + 1))) (s ++ cs.flatten) ∧ (∀ c ∈ cs, Ck c) ∧ cs.flatten.length ≤ 16 * (d + 1) := by
      intro c hc hl
      obtain ⟨cs, g1, g2, g3⟩ := ih (j + 1) (s ++ c) (by omega) (by omega) (by rw [List.length_append]; omega)
      refine ⟨c :: cs, ?_, ?_, by rw [List.flatten_cons, List.length_append]; omega⟩
      · refine Ev.bindc (cat_at (by omega)) ?_
        rw [w64_succ (by omega)]
        exact g1.cast (by simp)
      · intro x hx
        rcases List.mem_cons.1 hx with rfl | hx
        · exact hc
        · exact g2 x hx
    have lift : ∀ {r : List UInt8}, Ev (fun k => Option.bind (lw_pick k g[j] 6) fun t23 => (if t23 = 0 then (Option.bind (cat s ([9] : List UInt8)) fun m29 => (lw_gap.l1 k g m29 (w64 ((j : Int) + 1)))) else (if t23 = 1 then (Option.bind (cat s ([10] : List UInt8)) fun m32 => (lw_gap.l1 k g m32 (w64 ((j : Int) + 1)))) else (if t23 = 2 then (Option.bind (cat s ([13] : List UInt8)) fun m35 => (lw_gap.l1 k g m35 (w64 ((j : Int) + 1)))) else (if t23 = 3 then (Option.bind (cat s ([47, 42, 42, 47] : List UInt8)) fun m38 => (lw_gap.l1 k g m38 (w64 ((j : Int) + 1)))) else (if t23 = 4 then (Option.bind (cat s ([47, 42, 32, 97, 59, 123, 32, 47, 32, 42, 32, 47, 47, 32, 42, 47] : List UInt8)) fun m41 => (lw_gap.l1 k g m41 (w64 ((j : Int) + 1)))) else (Option.bind (cat s ([32] : List UInt8)) fun m43 => (lw_gap.l1 k g m43 (w64 ((j : Int) + 1)))))))))) r → Ev (fun k => lw_gap.l1 k g s (j : Int)) r := by
      intro r h
      refine Ev.step (g := fun k => lw_gap.l1 (k + 1) g s (j : Int)) ?_ (fun _ => rfl)
      simp only [lw_gap.l1]
      refine Ev.pos (by omega) ?_
      exact Ev.bindc (idx_at rfl hlt) h
    obtain ⟨t, ht⟩ : ∃ t, ∀ k, lw_pick k g[j] 6 = some t := by
      by_cases h : g[j] < 0
      · exact ⟨_, fun k => by unfold lw_pick; rw [if_pos h, if_neg (by decide)]⟩
      · exact ⟨_, fun k => by unfold lw_pick; rw [if_neg h, if_neg (by decide)]⟩
    by_cases t0 : t = 0
    · obtain ⟨cs, g1, g2⟩ := one _ (ck_blank (c := 9) (by decide)) (by decide)
      exact ⟨cs, lift (Ev.bind (Ev.all ht) (Ev.pos t0 g1)), g2⟩
    by_cases t1 : t = 1
    · obtain ⟨cs, g1, g2⟩ := one _ (ck_blank (c := 10) (by decide)) (by decide)
      exact ⟨cs, lift (Ev.bind (Ev.all ht) (Ev.neg t0 (Ev.pos t1 g1))), g2⟩
    by_cases t2 : t = 2
    · obtain ⟨cs, g1, g2⟩ := one _ (ck_blank (c := 13) (by decide)) (by decide)
      exact ⟨cs, lift (Ev.bind (Ev.all ht) (Ev.neg t0 (Ev.neg t1 (Ev.pos t2 g1)))), g2⟩
    by_cases t3 : t = 3
    · obtain ⟨cs, g1, g2⟩ := one _ ck_a (by decide)
      exact ⟨cs, lift (Ev.bind (Ev.all ht) (Ev.neg t0 (Ev.neg t1 (Ev.neg t2 (Ev.pos t3 g1))))), g2⟩
    by_cases t4 : t = 4
    · obtain ⟨cs, g1, g2⟩ := one _ ck_b (by decide)
      exact ⟨cs, lift (Ev.bind (Ev.all ht) (Ev.neg t0 (Ev.neg t1 (Ev.neg t2 (Ev.neg t3 (Ev.pos t4 g1)))))), g2⟩
    obtain ⟨cs, g1, g2⟩ := one _ (ck_blank (c := 32) (by decide)) (by decide)
    exact ⟨cs, lift (Ev.bind (Ev.all ht) (Ev.neg t0 (Ev.neg t1 (Ev.neg t2 (Ev.neg t3 (Ev.neg t4 g1)))))), g2⟩
theorem gap_ (g : List Int) (hg : g.length ≤ 2147483647) : ∃ cs : List (List UInt8), Ev (fun k => lw_gap k g) (32 :: cs.flatten) ∧ (∀ c ∈ [32] :: cs, Ck c) ∧ cs.flatten.length ≤ 16 * g.length := by
  obtain ⟨cs, g1, g2, g3⟩ := gap_l g hg g.length 0 [32] rfl (by omega) (by simp)
  refine ⟨cs, g1, ?_, g3⟩
  intro x hx
  rcases List.mem_cons.1 hx with rfl | hx
  · exact ck_blank (by decide)
  · exact g2 x hx
end Go.Proofs.YtpdpfiaediadgaaDoor
