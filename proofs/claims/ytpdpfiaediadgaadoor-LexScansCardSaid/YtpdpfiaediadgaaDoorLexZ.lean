/- LexScans answers true. -/
import Derived.Test.YtpdpfiaediadgaaDoorLexD
import Derived.Test.YtpdpfiaediadgaaDoorLexT
set_option linter.unusedVariables false
namespace Go.Proofs.YtpdpfiaediadgaaDoor
open Go Go.Eng
/-! ### the document's scan -/
theorem noskip {c : UInt8} {l : List UInt8} (c1 : ¬ isBlank c = true) (c2 : ¬ (c :: l).take 2 = [47, 42]) (n : Nat) : nextS (c :: l) ≠ .skip n := by
  intro h
  rw [nextS_cons, if_neg c1, if_neg c2] at h
  split at h
  · split at h
    · cases h
    · split at h <;> cases h
  · by_cases c4 : (isDigit c || minusDigit c l) = true
    · rw [if_pos c4] at h
      by_cases c5 : (numS (decide (c = 45)) (if c = 45 then l.take (runLen l) else (c :: l).take (1 + runLen l))).2 = true
      · rw [if_pos c5] at h; cases h
      · rw [if_neg c5] at h; cases h
    · rw [if_neg c4] at h
      split at h <;> cases h
theorem rf_Scan_l (s : List UInt8) (hs : s.length ≤ 16000) : ∀ (d a : Nat) (acc : List Token), s.length < a + d → a ≤ s.length → acc.length ≤ a → Ev (fun k => rf_Scan.l1 k s acc (a : Int)) (scanG d s a acc) := by
  intro d
  induction d with
  | zero => intro a acc h1 h2; omega
  | succ d ih =>
    intro a acc h1 h2 h3
    refine Ev.step (g := fun k => rf_Scan.l1 (k + 1) s acc (a : Int)) ?_ (fun _ => rfl)
    simp only [rf_Scan.l1]
    rw [scanG]
    by_cases ha : a < s.length
    · rw [if_pos ha]
      refine Ev.pos (by omega) ?_
      refine Ev.bindc (idx_at rfl ha) ?_
      have hdr : s.drop a = s[a] :: s.drop (a + 1) := List.drop_eq_getElem_cons ha
      have blank : isBlank s[a] = true → Ev (fun k => rf_Scan.j1 k s acc (a : Int) s[a] true) (match nextS (s.drop a) with
          | .bad e => ([], e, (a : Int))
          | .skip n => scanG d s (a + n) acc
          | .tok t n => scanG d s (a + n) (acc ++ [t.put a])) := by
        intro hb
        rw [hdr, nextS_cons, if_pos hb]
        refine Ev.step (g := fun k => rf_Scan.j1 (k + 1) s acc (a : Int) s[a] true) ?_ (fun _ => rfl)
        simp only [rf_Scan.j1]
        refine Ev.pos trivial ?_
        rw [w64_succ (by omega)]
        exact ih (a + 1) acc (by omega) (by omega) (by omega)
      have other : ¬ isBlank s[a] = true → Ev (fun k => rf_Scan.j1 k s acc (a : Int) s[a] false) (match nextS (s.drop a) with
          | .bad e => ([], e, (a : Int))
          | .skip n => scanG d s (a + n) acc
          | .tok t n => scanG d s (a + n) (acc ++ [t.put a])) := by
        intro hb
        have plain : ¬ (s.drop a).take 2 = [47, 42] → Ev (fun k => rf_Scan.j2 k s acc (a : Int)) (match nextS (s.drop a) with
            | .bad e => ([], e, (a : Int))
            | .skip n => scanG d s (a + n) acc
            | .tok t n => scanG d s (a + n) (acc ++ [t.put a])) := by
          intro ht
          rw [hdr] at ht
          refine Ev.step (g := fun k => rf_Scan.j2 (k + 1) s acc (a : Int)) ?_ (fun _ => rfl)
          simp only [rf_Scan.j2]
          refine Ev.bind (rf_one_ s hs ha _ _ hdr hb ht) ?_
          have hok := nextS_ok _ (drop_ne ha)
          have hns : ∀ n, nextS (s.drop a) ≠ .skip n := by rw [hdr]; exact noskip hb ht
          generalize nextS (s.drop a) = x at hok hns ⊢
          cases x with
          | bad e =>
            have he : e ≠ 0 := by rcases hok with h | h | h | h <;> subst h <;> decide
            exact Ev.neg he Ev.ret
          | skip n => exact absurd rfl (hns n)
          | tok t n =>
            obtain ⟨g1, g2, g3⟩ := hok
            rw [List.length_drop] at g2
            refine Ev.pos rfl ?_
            refine Ev.bindc (cat_at (by rw [List.length_singleton]; omega)) ?_
            exact ih (a + n) (acc ++ [t.put a]) (by omega) (by omega) (by rw [List.length_append, List.length_singleton]; omega)
        refine Ev.step (g := fun k => rf_Scan.j1 (k + 1) s acc (a : Int) s[a] false) ?_ (fun _ => rfl)
        simp only [rf_Scan.j1]
        refine Ev.neg (by simp) ?_
        by_cases c1 : s[a] = 47
        · refine Ev.pos ((toNatN _ 47 (by decide)).2 c1) ?_
          by_cases h5 : a + 1 < s.length
          · rw [w64_succ (by omega)]
            refine Ev.pos (by omega) ?_
            refine Ev.bindc (idx_at rfl h5) ?_
            have ht2 := take2 s a h5
            by_cases c2 : s[a + 1] = 42
            · refine Ev.pos ((toNatN _ 42 (by decide)).2 c2) ?_
              refine Ev.bind (rf_comment_ s hs (j := a) (by omega)) ?_
              have ht : (s.drop a).take 2 = [47, 42] := by rw [ht2, c1, c2]
              have hdd : (s.drop a).drop 2 = s.drop (a + 2) := List.drop_drop
              have hin := index_in (s.drop (a + 2))
              have hge := index_ge (s.drop (a + 2)) ends
              rw [List.length_drop] at hin
              have e1 : nextS (s.drop a) = if Lib.index (s.drop (a + 2)) ends < 0 then .bad 33 else .skip ((Lib.index (s.drop (a + 2)) ends).toNat + 4) := by
                rw [← hdd, hdr, nextS_cons, if_neg hb, if_pos (by rw [← hdr]; exact ht)]
              rw [e1]
              by_cases h0 : Lib.index (s.drop (a + 2)) ends < 0
              · rw [if_pos h0, if_pos h0]
                exact Ev.pos rfl Ev.ret
              · rw [if_neg h0, if_neg h0]
                have h0' := hin h0
                refine Ev.neg (by omega) ?_
                have e2 : ((a + 4 : Nat) : Int) + Lib.index (s.drop (a + 2)) ends = ((a + ((Lib.index (s.drop (a + 2)) ends).toNat + 4) : Nat) : Int) := by omega
                rw [e2]
                exact ih _ acc (by omega) (by omega) (by omega)
            · refine Ev.neg (fun h => c2 ((toNatN _ 42 (by decide)).1 h)) ?_
              exact plain (by rw [ht2]; intro h; injection h with _ h; injection h with h _; exact c2 h)
          · rw [w64_succ (by omega)]
            refine Ev.neg (by omega) ?_
            refine plain ?_
            have : s.drop (a + 1) = [] := List.drop_eq_nil_of_le (by omega)
            rw [hdr, this]; simp
        · refine Ev.neg (fun h => c1 ((toNatN _ 47 (by decide)).1 h)) ?_
          refine plain ?_
          rw [hdr]
          intro h
          cases hl : s.drop (a + 1) <;> rw [hl] at h <;> simp at h
          exact c1 h.1
      have hbl : isBlank s[a] = true ↔ s[a] = 32 ∨ s[a] = 9 ∨ s[a] = 10 ∨ s[a] = 13 := by
        have e : ∀ n : Nat, n < 256 → (s[a].toNat = n ↔ s[a] = UInt8.ofNat n) := fun n hn => by
          rw [← toNatN _ n hn]; omega
        simp only [isBlank, Bool.or_eq_true, decide_eq_true_eq]
        rw [e 32 (by decide), e 9 (by decide), e 10 (by decide), e 13 (by decide)]
        constructor
        · rintro (((h | h) | h) | h)
          · exact .inl h
          · exact .inr (.inl h)
          · exact .inr (.inr (.inl h))
          · exact .inr (.inr (.inr h))
        · rintro (h | h | h | h)
          · exact .inl (.inl (.inl h))
          · exact .inl (.inl (.inr h))
          · exact .inl (.inr h)
          · exact .inr h
      by_cases c1 : s[a] = 32
      · exact Ev.pos ((toNatN _ 32 (by decide)).2 c1) (blank (hbl.2 (.inl c1)))
      refine Ev.neg (fun h => c1 ((toNatN _ 32 (by decide)).1 h)) ?_
      by_cases c2 : s[a] = 9
      · exact Ev.pos ((toNatN _ 9 (by decide)).2 c2) (blank (hbl.2 (.inr (.inl c2))))
      refine Ev.neg (fun h => c2 ((toNatN _ 9 (by decide)).1 h)) ?_
      by_cases c3 : s[a] = 10
      · exact Ev.pos ((toNatN _ 10 (by decide)).2 c3) (blank (hbl.2 (.inr (.inr (.inl c3)))))
      refine Ev.neg (fun h => c3 ((toNatN _ 10 (by decide)).1 h)) ?_
      by_cases c4 : s[a] = 13
      · rw [decide_eq_true (show (s[a].toNat : Int) = 13 from (toNatN _ 13 (by decide)).2 c4)]
        exact blank (hbl.2 (.inr (.inr (.inr c4))))
      · rw [decide_eq_false (show ¬ (s[a].toNat : Int) = 13 from fun h => c4 ((toNatN _ 13 (by decide)).1 h))]
        refine other (fun h => ?_)
        rcases hbl.1 h with h | h | h | h
        · exact c1 h
        · exact c2 h
        · exact c3 h
        · exact c4 h
    · rw [if_neg ha]
      refine Ev.neg (by omega) ?_
      exact Ev.bindc (cat_at (by rw [List.length_singleton]; omega)) Ev.ret
theorem rf_Scan_ (s : List UInt8) : Ev (fun k => rf_Scan k s) (scanS s) := by
  unfold rf_Scan scanS
  by_cases h : 16000 < s.length
  · rw [if_pos h]; exact Ev.pos (by omega) Ev.ret
  · rw [if_neg h]
    refine Ev.neg (by omega) ?_
    exact rf_Scan_l s (by omega) (s.length + 1) 0 [] (by omega) (by omega) (Nat.le_refl _)
theorem scanG_len (s : List UInt8) : ∀ (d a : Nat) (acc : List Token), acc.length ≤ a → a ≤ s.length → (scanG d s a acc).1.length ≤ s.length + 1 := by
  intro d
  induction d with
  | zero => intro a acc _ _; exact Nat.zero_le _
  | succ d ih =>
    intro a acc h1 h2
    rw [scanG]
    by_cases ha : a < s.length
    · rw [if_pos ha]
      have hok := nextS_ok _ (drop_ne ha)
      generalize nextS (s.drop a) = x at hok ⊢
      cases x with
      | bad e => exact Nat.zero_le _
      | skip n =>
        obtain ⟨g1, g2⟩ := hok
        rw [List.length_drop] at g2
        exact ih _ _ (by omega) (by omega)
      | tok t n =>
        obtain ⟨g1, g2, _⟩ := hok
        rw [List.length_drop] at g2
        exact ih _ _ (by rw [List.length_append, List.length_singleton]; omega) (by omega)
    · rw [if_neg ha]
      show (acc ++ [_]).length ≤ _
      rw [List.length_append, List.length_singleton]; omega
theorem scanS_len (s : List UInt8) : (scanS s).1.length ≤ 16001 := by
  unfold scanS
  by_cases h : 16000 < s.length
  · rw [if_pos h]; exact Nat.zero_le _
  · rw [if_neg h]
    have := scanG_len s (s.length + 1) 0 [] (Nat.le_refl _) (Nat.zero_le _)
    omega
/-! ### the lists written over and grown -/
def Kinds (LL : List (List Token)) (f : Nat → Int) (OK : Nat → Nat → Prop) : Prop := ∀ (k j : Nat) (x : List Token) (t : Token), LL[k]? = some x → x[j]? = some t → OK k j → t.Kind = f k
def Short (LL : List (List Token)) (m : Nat) : Prop := ∀ x ∈ LL, x.length ≤ m
theorem owned_6 (E : List (List Token)) (hE : E.length ≤ 1000) (hS : Short E 100000) (hK : Kinds E (fun k => -5 - ((k / 20 : Nat) : Int)) (fun _ _ => True)) :
    ∀ (d i : Nat), E.length - i = d → i ≤ E.length → Ev (fun k => lw_owned.l5 k E (i : Int)) true := by
  intro d
  induction d with
  | zero =>
    intro i hd hi
    refine Ev.step (g := fun k => lw_owned.l5 (k + 1) E (i : Int)) ?_ (fun _ => rfl)
    simp only [lw_owned.l5]
    exact Ev.neg (by omega) Ev.ret
  | succ d ih =>
    intro i hd hi
    have hlt : i < E.length := by omega
    refine Ev.step (g := fun k => lw_owned.l5 (k + 1) E (i : Int)) ?_ (fun _ => rfl)
    simp only [lw_owned.l5]
    refine Ev.pos (by omega) ?_
    have inner : ∀ (e j : Nat), E[i].length - j = e → j ≤ E[i].length → Ev (fun k => lw_owned.l6 k E (i : Int) (j : Int)) true := by
      intro e
      induction e with
      | zero =>
        intro j he hj
        refine Ev.step (g := fun k => lw_owned.l6 (k + 1) E (i : Int) (j : Int)) ?_ (fun _ => rfl)
        simp only [lw_owned.l6]
        refine Ev.bindc (idx_at rfl hlt) ?_
        refine Ev.neg (by omega) ?_
        rw [w64_succ (by omega)]
        exact ih (i + 1) (by omega) (by omega)
      | succ e ihe =>
        intro j he hj
        have hjl : j < E[i].length := by omega
        have hsh := hS _ (List.getElem_mem hlt)
        refine Ev.step (g := fun k => lw_owned.l6 (k + 1) E (i : Int) (j : Int)) ?_ (fun _ => rfl)
        simp only [lw_owned.l6]
        refine Ev.bindc (idx_at rfl hlt) ?_
        refine Ev.pos (by omega) ?_
        refine Ev.bindc (idx_at rfl hlt) ?_
        refine Ev.bindc (idx_at rfl hjl) ?_
        have hk := hK i j _ _ (List.getElem?_eq_getElem hlt) (List.getElem?_eq_getElem hjl) trivial
        have e1 : Int.tdiv (i : Int) 20 = ((i / 20 : Nat) : Int) := rfl
        have e2 : i / 20 ≤ i := Nat.div_le_self _ _
        rw [e1, w64_of (n := ((i / 20 : Nat) : Int)) (by omega) (by omega), w64_of (n := -5 - ((i / 20 : Nat) : Int)) (by omega) (by omega)]
        refine Ev.pos hk ?_
        rw [w64_succ (by omega)]
        exact ihe (j + 1) (by omega) (by omega)
    exact inner _ 0 rfl (Nat.zero_le _)
theorem owned_3 (LL : List (List Token)) (hL : LL.length ≤ 40) (hS : Short LL 20000) (hK : Kinds LL (fun k => -5 - (k : Int)) (fun _ _ => True)) :
    ∀ (d n : Nat) (E : List (List Token)), LL.length - n = d → n ≤ LL.length → E.length = 20 * n → Short E 100000 → Kinds E (fun k => -5 - ((k / 20 : Nat) : Int)) (fun _ _ => True) → Ev (fun k => lw_owned.l3 k LL E (n : Int)) true := by
  intro d
  induction d with
  | zero =>
    intro n E hd hn hE hSE hKE
    refine Ev.step (g := fun k => lw_owned.l3 (k + 1) LL E (n : Int)) ?_ (fun _ => rfl)
    simp only [lw_owned.l3]
    refine Ev.neg (by omega) ?_
    unfold lw_owned.j2
    exact owned_6 E (by omega) hSE hKE _ 0 rfl (Nat.zero_le _)
  | succ d ih =>
    intro n E hd hn hE hSE hKE
    have hlt : n < LL.length := by omega
    refine Ev.step (g := fun k => lw_owned.l3 (k + 1) LL E (n : Int)) ?_ (fun _ => rfl)
    simp only [lw_owned.l3]
    refine Ev.pos (by omega) ?_
    refine Ev.bindc (idx_at rfl hlt) ?_
    have inner : ∀ (e i : Nat) (E : List (List Token)) (x : List Token), 20 - i = e → i ≤ 20 → E.length = 20 * n + i → Short E 100000 → Kinds E (fun k => -5 - ((k / 20 : Nat) : Int)) (fun _ _ => True) → x.length ≤ 20000 + i → (∀ t ∈ x, t.Kind = -5 - (n : Int)) →
        Ev (fun k => lw_owned.l4 k LL (n : Int) E x (i : Int)) true := by
      intro e
      induction e with
      | zero =>
        intro i E x he hi hE hSE hKE hx hkx
        refine Ev.step (g := fun k => lw_owned.l4 (k + 1) LL (n : Int) E x (i : Int)) ?_ (fun _ => rfl)
        simp only [lw_owned.l4]
        refine Ev.neg (by omega) ?_
        rw [w64_succ (by omega)]
        exact ih (n + 1) E (by omega) (by omega) (by omega) hSE hKE
      | succ e ihe =>
        intro i E x he hi hE hSE hKE hx hkx
        refine Ev.step (g := fun k => lw_owned.l4 (k + 1) LL (n : Int) E x (i : Int)) ?_ (fun _ => rfl)
        simp only [lw_owned.l4]
        refine Ev.pos (by omega) ?_
        refine Ev.bindc (cat_at (by rw [List.length_singleton]; omega)) ?_
        refine Ev.bindc (cat_at (by rw [List.length_singleton]; omega)) ?_
        rw [w64_succ (by omega), w64_of (n := -5 - (n : Int)) (by omega) (by omega)]
        refine ihe (i + 1) _ _ (by omega) (by omega) (by rw [List.length_append, List.length_singleton]; omega) ?_ ?_ (by rw [List.length_append, List.length_singleton]; omega) ?_
        · intro y hy
          rcases List.mem_append.1 hy with hy | hy
          · exact hSE y hy
          · obtain rfl : y = x := by simpa using hy
            omega
        · intro k j y t hy ht _
          rcases Nat.lt_or_ge k E.length with hk | hk
          · rw [List.getElem?_append_left hk] at hy
            exact hKE k j y t hy ht trivial
          · rw [List.getElem?_append_right hk] at hy
            have hk0 : k - E.length = 0 := by
              rcases Nat.eq_zero_or_pos (k - E.length) with h | h
              · exact h
              · rw [List.getElem?_eq_none (by rw [List.length_singleton]; omega)] at hy; cases hy
            rw [hk0] at hy
            obtain rfl : x = y := by simpa using hy
            rw [hkx t (List.mem_of_getElem? ht)]
            have : k / 20 = n := by omega
            show -5 - (n : Int) = -5 - ((k / 20 : Nat) : Int)
            rw [this]
        · intro t ht
          rcases List.mem_append.1 ht with ht | ht
          · exact hkx t ht
          · obtain rfl := List.mem_singleton.1 ht
            rfl
    refine inner 20 0 E LL[n] rfl (by omega) (by omega) hSE hKE (hS _ (List.getElem_mem hlt)) (fun t ht => ?_)
    obtain ⟨j, hj, rfl⟩ := List.getElem_of_mem ht
    exact hK n j _ _ (List.getElem?_eq_getElem hlt) (List.getElem?_eq_getElem hj) trivial
theorem short_set {LL : List (List Token)} {m n : Nat} {x : List Token} (h : Short LL m) (hx : x.length ≤ m) : Short (LL.set n x) m := by
  intro y hy
  rcases List.mem_or_eq_of_mem_set hy with h1 | rfl
  · exact h y h1
  · exact hx
theorem owned_1 : ∀ (d n : Nat) (LL : List (List Token)), LL.length - n = d → n ≤ LL.length → LL.length ≤ 40 → Short LL 20000 → Kinds LL (fun k => -5 - (k : Int)) (fun k _ => k < n) → Ev (fun k => lw_owned.l1 k LL (n : Int)) true := by
  intro d
  induction d with
  | zero =>
    intro n LL hd hn hL hS hK
    refine Ev.step (g := fun k => lw_owned.l1 (k + 1) LL (n : Int)) ?_ (fun _ => rfl)
    simp only [lw_owned.l1]
    refine Ev.neg (by omega) ?_
    unfold lw_owned.j1
    refine owned_3 LL hL hS (fun k j x t hx ht _ => hK k j x t hx ht ?_) _ 0 [] rfl (Nat.zero_le _) rfl (by intro x hx; cases hx) (by intro k j x t hx; simp at hx)
    have := (List.getElem?_eq_some_iff.1 hx).1
    omega
  | succ d ih =>
    intro n LL hd hn hL hS hK
    have hlt : n < LL.length := by omega
    refine Ev.step (g := fun k => lw_owned.l1 (k + 1) LL (n : Int)) ?_ (fun _ => rfl)
    simp only [lw_owned.l1]
    refine Ev.pos (by omega) ?_
    have inner : ∀ (e i : Nat) (LL : List (List Token)) (hlt : n < LL.length), LL.length - n = d + 1 → LL.length ≤ 40 → LL[n].length - i = e → i ≤ LL[n].length → Short LL 20000 → Kinds LL (fun k => -5 - (k : Int)) (fun k j => k < n ∨ k = n ∧ j < i) →
        Ev (fun k => lw_owned.l2 k (n : Int) LL (i : Int)) true := by
      intro e
      induction e with
      | zero =>
        intro i LL hlt hd hL he hi hS hK
        refine Ev.step (g := fun k => lw_owned.l2 (k + 1) (n : Int) LL (i : Int)) ?_ (fun _ => rfl)
        simp only [lw_owned.l2]
        refine Ev.bindc (idx_at rfl hlt) ?_
        refine Ev.neg (by omega) ?_
        rw [w64_succ (by omega)]
        refine ih (n + 1) LL (by omega) (by omega) hL hS (fun k j x t hx ht hk => hK k j x t hx ht ?_)
        rcases Nat.lt_or_ge k n with h | h
        · exact .inl h
        · have hkn : k = n := by omega
          subst hkn
          rw [List.getElem?_eq_getElem hlt] at hx
          obtain rfl := Option.some.inj hx
          have := (List.getElem?_eq_some_iff.1 ht).1
          exact .inr ⟨rfl, by omega⟩
      | succ e ihe =>
        intro i LL hlt hd hL he hi hS hK
        have hil : i < LL[n].length := by omega
        have hsh := hS _ (List.getElem_mem hlt)
        refine Ev.step (g := fun k => lw_owned.l2 (k + 1) (n : Int) LL (i : Int)) ?_ (fun _ => rfl)
        simp only [lw_owned.l2]
        refine Ev.bindc (idx_at rfl hlt) ?_
        refine Ev.pos (by omega) ?_
        refine Ev.bindc (idx_at rfl hlt) ?_
        refine Ev.bindc (idx_at rfl hil) ?_
        refine Ev.bindc (upd_at hil) ?_
        refine Ev.bindc (upd_at hlt) ?_
        rw [w64_succ (by omega), w64_of (n := -5 - (n : Int)) (by omega) (by omega)]
        have e1 : (LL.set n (LL[n].set i (⟨-5 - (n : Int), [], 0, 0⟩ : Token)))[n]'(by rw [List.length_set]; exact hlt) = LL[n].set i ⟨-5 - (n : Int), [], 0, 0⟩ := List.getElem_set_self _
        refine ihe (i + 1) _ (by rw [List.length_set]; exact hlt) (by rw [List.length_set]; exact hd) (by rw [List.length_set]; exact hL) (by rw [e1, List.length_set]; omega) (by rw [e1, List.length_set]; omega) (short_set hS (by rw [List.length_set]; exact hsh)) ?_
        intro k j x t hx ht hk
        rw [List.getElem?_set] at hx
        by_cases hkn : n = k
        · rw [if_pos hkn, if_pos hlt] at hx
          obtain rfl := Option.some.inj hx
          subst hkn
          rw [List.getElem?_set] at ht
          by_cases hij : i = j
          · rw [if_pos hij, if_pos hil] at ht
            obtain rfl := Option.some.inj ht
            rfl
          · rw [if_neg hij] at ht
            refine hK n j _ t (List.getElem?_eq_getElem hlt) ht (.inr ⟨rfl, ?_⟩)
            rcases hk with h | ⟨_, h⟩ <;> omega
        · rw [if_neg hkn] at hx
          refine hK k j x t hx ht (.inl ?_)
          rcases hk with h | ⟨h, _⟩
          · exact h
          · exact absurd h.symm hkn
    refine inner _ 0 LL hlt hd hL rfl (Nat.zero_le _) hS (fun k j x t hx ht hk => hK k j x t hx ht ?_)
    rcases hk with h | ⟨_, h⟩
    · exact h
    · omega
theorem owned_ (LL : List (List Token)) (hL : LL.length ≤ 40) (hS : Short LL 20000) : Ev (fun k => lw_owned k LL) true := by
  unfold lw_owned
  exact owned_1 _ 0 LL rfl (Nat.zero_le _) hL hS (by intro k j x t _ _ h; omega)
/-! ### the law -/
theorem scans_2 (A : List (List UInt8)) (hA : A.length ≤ 40) : ∀ (d i : Nat), A.length - i = d → i ≤ A.length → Ev (fun k => law_Scans.l2 k true A (A.map fun s => (scanS s).1) (i : Int)) true := by
  intro d
  induction d with
  | zero =>
    intro i hd hi
    refine Ev.step (g := fun k => law_Scans.l2 (k + 1) true A (A.map fun s => (scanS s).1) (i : Int)) ?_ (fun _ => rfl)
    simp only [law_Scans.l2]
    refine Ev.neg (by omega) (Ev.pos trivial ?_)
    refine Ev.bind (owned_ _ (by rw [List.length_map]; exact hA) ?_) Ev.ret
    intro x hx
    obtain ⟨s, _, rfl⟩ := List.mem_map.1 hx
    have := scanS_len s
    omega
  | succ d ih =>
    intro i hd hi
    have hlt : i < A.length := by omega
    refine Ev.step (g := fun k => law_Scans.l2 (k + 1) true A (A.map fun s => (scanS s).1) (i : Int)) ?_ (fun _ => rfl)
    simp only [law_Scans.l2]
    refine Ev.pos (by omega) ?_
    refine Ev.bindc (idx_at rfl hlt) ?_
    refine Ev.bind (rf_Scan_ _) ?_
    refine Ev.bindc (idx_at rfl (by rw [List.length_map]; exact hlt)) ?_
    rw [List.getElem_map]
    refine Ev.bind (lw_same_ _ (scanS_len _)) ?_
    refine Ev.pos rfl ?_
    rw [w64_succ (by omega)]
    exact ih (i + 1) (by omega) (by omega)
theorem scans_1 (a0 a1 : List UInt8) : ∀ (d i : Nat), 4 - i = d → i ≤ 4 → Ev (fun k => law_Scans.l1 k a0 a1 true (([a0, a0, a1, a0].take i).map fun s => (scanS s).1) (i : Int)) true := by
  intro d
  induction d with
  | zero =>
    intro i hd hi
    obtain rfl : i = 4 := by omega
    refine Ev.step (g := fun k => law_Scans.l1 (k + 1) a0 a1 true (([a0, a0, a1, a0].take 4).map fun s => (scanS s).1) ((4 : Nat) : Int)) ?_ (fun _ => rfl)
    simp only [law_Scans.l1]
    refine Ev.neg (by simp) ?_
    unfold law_Scans.j1
    exact scans_2 [a0, a0, a1, a0] (by simp) 4 0 rfl (by omega)
  | succ d ih =>
    intro i hd hi
    have hlt : i < [a0, a0, a1, a0].length := by show i < 4; omega
    refine Ev.step (g := fun k => law_Scans.l1 (k + 1) a0 a1 true (([a0, a0, a1, a0].take i).map fun s => (scanS s).1) (i : Int)) ?_ (fun _ => rfl)
    simp only [law_Scans.l1]
    refine Ev.pos (by omega) ?_
    refine Ev.bindc (idx_at rfl hlt) ?_
    refine Ev.bind (rf_Scan_ _) ?_
    refine Ev.bindc (idx_at rfl hlt) ?_
    refine Ev.bind (lx_Scan_ _) ?_
    refine Ev.bind (lw_same_ _ (scanS_len _)) ?_
    refine Ev.pos rfl (Ev.pos rfl (Ev.pos rfl ?_))
    refine Ev.bindc (cat_at (by rw [List.length_singleton, List.length_map, List.length_take]; omega)) ?_
    rw [w64_succ (by omega)]
    refine (ih (i + 1) (by omega) (by omega)).fn (fun k => ?_)
    have e : ([a0, a0, a1, a0].take (i + 1)).map (fun s => (scanS s).1) = ([a0, a0, a1, a0].take i).map (fun s => (scanS s).1) ++ [(scanS [a0, a0, a1, a0][i]).1] := by
      rw [List.take_succ_eq_append_getElem hlt, List.map_append]; rfl
    rw [e]
theorem scans_true (a0 a1 : List UInt8) : ∃ k, law_Scans k a0 a1 = some true := by
  refine Ev.get ?_
  unfold law_Scans
  exact Ev.bind known_ (scans_1 a0 a1 4 0 rfl (by omega))
end Go.Proofs.YtpdpfiaediadgaaDoor
