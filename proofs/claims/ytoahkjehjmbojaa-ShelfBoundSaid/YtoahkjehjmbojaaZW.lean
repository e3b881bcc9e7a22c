/- ShelfBound's plain law: the shelf of texts under numbers is a plain list of pairs. -/
import Derived.Test.YtoahkjehjmbojaaZV
set_option linter.unusedVariables false
namespace Go.Proofs.Ytoahkjehjmbojaa
open Go Go.Eng
abbrev PI := Pair_int__string_
theorem Ev.unf {α : Type} {f : Nat → Option α} {r : α} (h : Ev (fun k => f (k + 1)) r) : Ev f r := Ev.step h (fun _ => rfl)
def posn (l : List PI) (k : Int) : Nat := l.findIdx (fun p => decide (p.key = k))
theorem posn_cons (x : PI) (l : List PI) (k : Int) : posn (x :: l) k = if x.key = k then 0 else posn l k + 1 := by
  unfold posn; rw [List.findIdx_cons]; by_cases h : x.key = k <;> simp [h]
theorem posn_le (l : List PI) (k : Int) : posn l k ≤ l.length := List.findIdx_le_length
theorem posn_key {l : List PI} {k : Int} (h : posn l k < l.length) : l[posn l k].key = k := by
  have := List.findIdx_getElem (p := fun p : PI => decide (p.key = k)) (w := h)
  exact of_decide_eq_true this
theorem posn_app : ∀ (a b : List PI) (k : Int), (∀ p ∈ a, p.key ≠ k) → posn (a ++ b) k = a.length + posn b k
  | [], b, k, _ => by simp
  | x :: a, b, k, h => by
    rw [List.cons_append, posn_cons, if_neg (h x (by simp)), posn_app a b k (fun p hp => h p (by simp [hp])), List.length_cons]; omega
theorem posn_mem {l : List PI} {k : Int} (h : ¬ posn l k < l.length) : ∀ p ∈ l, p.key ≠ k := by
  intro p hp e
  apply h
  exact List.findIdx_lt_length_of_exists ⟨p, hp, by simpa using e⟩
theorem idx_l1 (key : Int) : ∀ (b a : List PI), a.length + b.length < 4611686018427387904 → Ev (fun k => sha_idx.l1 k (a ++ b) key (a.length : Int)) (if posn b key < b.length then ((a.length + posn b key : Nat) : Int) else -1)
  | [], a, h => by
    refine Ev.unf ?_
    simp only [sha_idx.l1]
    refine Ev.neg (by simp) ?_
    rw [if_neg (by simp)]
    exact Ev.ret
  | x :: b, a, h => by
    refine Ev.unf ?_
    simp only [sha_idx.l1]
    simp only [List.length_cons] at h
    refine Ev.pos (by simp only [List.length_append, List.length_cons]; omega) ?_
    refine Ev.bindc (idx_at (j := a.length) rfl (by simp)) ?_
    simp only [List.getElem_append_right (Nat.le_refl _), Nat.sub_self, List.getElem_cons_zero]
    refine Ev.bind (r := decide (x.key = key)) (Ev.all fun k => rfl) ?_
    by_cases hk : x.key = key
    · refine Ev.pos (by simp [hk]) ?_
      rw [posn_cons, if_pos hk, if_pos (by simp)]
      exact Ev.ret
    · refine Ev.neg (by simp [hk]) ?_
      rw [w64_succ (by omega)]
      have := idx_l1 key b (a ++ [x]) (by simp only [List.length_append, List.length_cons, List.length_nil]; omega)
      rw [List.length_append, List.append_assoc] at this
      refine Ev.cast this ?_
      rw [posn_cons, if_neg hk]
      simp only [List.length_cons, List.length_nil]
      by_cases h2 : posn b key < b.length
      · rw [if_pos h2, if_pos (by omega)]; congr 1; omega
      · rw [if_neg h2, if_neg (by omega)]
theorem place_in {m : Int} {l : List PI} {key : Int} (hl : l.length < 4611686018427387904) (h : posn l key < l.length) : Ev (fun k => sha_place k ⟨m, l⟩ key) ((posn l key : Int), ⟨m, l⟩) := by
  have := idx_l1 key l [] (by simpa using hl)
  rw [if_pos h] at this
  simp only [sha_place, sha_idx]
  refine Ev.bind this ?_
  simp only [List.length_nil, Nat.zero_add]
  exact Ev.ret
theorem place_out {m : Int} {l : List PI} {key : Int} (hl : l.length < 4611686018427387904) (h : ¬ posn l key < l.length) : Ev (fun k => sha_place k ⟨m, l⟩ key) (-1, ⟨m, l⟩) := by
  have := idx_l1 key l [] (by simpa using hl)
  rw [if_neg h] at this
  simp only [sha_place, sha_idx]
  exact Ev.bind this Ev.ret
theorem get_in {m : Int} {l : List PI} {key : Int} (hl : l.length < 4611686018427387904) (h : posn l key < l.length) : Ev (fun k => sha_Get k ⟨m, l⟩ key) (l[posn l key].value, true, ⟨m, l⟩) := by
  simp only [sha_Get]
  refine Ev.bind (place_in hl h) ?_
  refine Ev.pos (by simp) ?_
  exact Ev.bindc (idx_at rfl h) Ev.ret
theorem put_in {m : Int} {l : List PI} {key : Int} {v : List UInt8} (hl : l.length < 4611686018427387904) (h : posn l key < l.length) : Ev (fun k => sha_Put k ⟨m, l⟩ key v) (0, ⟨m, l.set (posn l key) ⟨key, v⟩⟩) := by
  simp only [sha_Put]
  refine Ev.bind (place_in hl h) ?_
  refine Ev.pos (by simp) ?_
  refine Ev.bindc (idx_at rfl h) ?_
  rw [posn_key h]
  refine Ev.bindc (r := l.set (posn l key) ⟨key, v⟩) ?_ Ev.ret
  unfold upd
  rw [if_pos ⟨by omega, by simp only [Int.toNat_natCast]; exact h⟩, Int.toNat_natCast]
theorem put_full {m : Int} {l : List PI} {key : Int} {v : List UInt8} (hl : l.length < 4611686018427387904) (h : ¬ posn l key < l.length) (hm : (l.length : Int) = m) : Ev (fun k => sha_Put k ⟨m, l⟩ key v) (140, ⟨m, l⟩) := by
  simp only [sha_Put]
  refine Ev.bind (place_out hl h) ?_
  exact Ev.neg (show ¬ (0 : Int) ≤ -1 by decide) (Ev.pos hm Ev.ret)
theorem put_new {m : Int} {l : List PI} {key : Int} {v : List UInt8} (hl : l.length < 68719476736) (h : ¬ posn l key < l.length) (hm : ¬ (l.length : Int) = m) : Ev (fun k => sha_Put k ⟨m, l⟩ key v) (0, ⟨m, l ++ [⟨key, v⟩]⟩) := by
  simp only [sha_Put]
  refine Ev.bind (place_out (by omega) h) ?_
  refine Ev.neg (show ¬ (0 : Int) ≤ -1 by decide) (Ev.neg hm ?_)
  exact Ev.bindc (cat_at (by simp; omega)) Ev.ret
theorem drop_in {m : Int} {l : List PI} {key : Int} (hl : l.length < 68719476736) (h : posn l key < l.length) : Ev (fun k => sha_Drop k ⟨m, l⟩ key) (0, ⟨m, l.eraseIdx (posn l key)⟩) := by
  simp only [sha_Drop]
  refine Ev.bind (place_in (by omega) h) ?_
  refine Ev.neg (by simp) ?_
  refine Ev.bind (r := l.eraseIdx (posn l key)) (Ev.all fun k => ?_) Ev.ret
  simp only [sha_del]
  rw [w64_succ (by omega)]
  rw [cut_at (a := posn l key) (b := posn l key + 1) rfl rfl (by omega) (by omega), Option.bind_some, if_neg (by omega), cut_to rfl (by omega), Option.bind_some, cut_from rfl (by omega), Option.bind_some, cat_at (by rw [List.length_take, List.length_drop]; omega), Option.bind_some, if_pos (by omega),
    if_pos (by rw [List.length_append, List.length_take, List.length_drop]; omega), List.eraseIdx_eq_take_drop_succ]
theorem drop_out {m : Int} {l : List PI} {key : Int} (hl : l.length < 68719476736) (h : ¬ posn l key < l.length) : Ev (fun k => sha_Drop k ⟨m, l⟩ key) (141, ⟨m, l⟩) := by
  simp only [sha_Drop]
  refine Ev.bind (place_out (by omega) h) ?_
  exact Ev.pos (show (-1 : Int) < 0 by decide) Ev.ret
theorem keys_l1 (m : Int) (l : List PI) (hl : l.length < 68719476736) : ∀ (b a : List PI), l = a ++ b → Ev (fun k => sha_Keys.l1 k ⟨m, l⟩ (a.map (·.key)) (a.length : Int)) (l.map (·.key), ⟨m, l⟩)
  | [], a, e => by
    refine Ev.unf ?_
    simp only [sha_Keys.l1]
    subst e
    refine Ev.neg (by simp) ?_
    simp only [List.append_nil]
    exact Ev.ret
  | x :: b, a, e => by
    refine Ev.unf ?_
    simp only [sha_Keys.l1]
    have hlen : l.length = a.length + (b.length + 1) := by rw [e, List.length_append, List.length_cons]
    refine Ev.pos (by show (a.length : Int) < (l.length : Int); omega) ?_
    refine Ev.bindc (idx_at (j := a.length) rfl (by show a.length < l.length; omega)) ?_
    have hx : l[a.length]'(by omega) = x := by subst e; simp
    show Ev (fun k => (cat (a.map (·.key)) [(l[a.length]'(by omega)).key]).bind fun l64 => sha_Keys.l1 k ⟨m, l⟩ l64 (w64 ((a.length : Int) + 1))) _
    rw [hx]
    refine Ev.bindc (cat_at (by simp; omega)) ?_
    rw [w64_succ (by omega)]
    have := keys_l1 m l hl b (a ++ [x]) (by rw [e]; simp)
    simpa using this
theorem keys_ev {m : Int} {l : List PI} (hl : l.length < 68719476736) : Ev (fun k => sha_Keys k ⟨m, l⟩) (l.map (·.key), ⟨m, l⟩) := by
  simp only [sha_Keys]
  refine Ev.pos (by omega) (Ev.pos (by omega) ?_)
  exact keys_l1 m l hl l [] rfl
/-! ### pick -/
def pk (a n : Int) : Int := Int.tmod (if a < 0 then w64 (-(w64 (a + 1))) else a) n
theorem pick_ev {a n : Int} (hn : 0 < n) : Ev (fun k => sh_pick k a n) (pk a n) := by
  simp only [sh_pick, pk]
  by_cases h : a < 0
  · simp only [if_pos h]; exact Ev.neg (by omega) Ev.ret
  · simp only [if_neg h]; exact Ev.neg (by omega) Ev.ret
theorem pk_in {a n : Int} (ha : -9223372036854775808 ≤ a ∧ a ≤ 9223372036854775807) (hn : 0 < n) : 0 ≤ pk a n ∧ pk a n < n := by
  unfold pk
  have h0 : 0 ≤ (if a < 0 then w64 (-(w64 (a + 1))) else a) := by
    by_cases h : a < 0
    · rw [if_pos h, w64_of (n := a + 1) (by omega) (by omega), w64_of (by omega) (by omega)]; omega
    · rw [if_neg h]; omega
  exact ⟨Int.tmod_nonneg _ h0, Int.tmod_lt_of_pos _ hn⟩
/-! ### Prune -/
def flt (b : Int) (l : List PI) : List PI := l.filter fun p => decide (b ≤ p.key)
theorem flt_split (b : Int) (l : List PI) : l.length = (flt b l).length + (l.filter fun p => !decide (b ≤ p.key)).length := by
  unfold flt
  induction l with
  | nil => rfl
  | cons x l ih => by_cases h : b ≤ x.key <;> simp [h] <;> omega
theorem keep_ev {script : List Act} {i : Nat} (hi : i < script.length) (key : Int) (v : List UInt8) : Ev (fun k => sh_keep k key v script (i : Int)) (decide (pk script[i].N 16 ≤ key)) := by
  simp only [sh_keep]
  refine Ev.bindc (idx_at rfl hi) ?_
  exact Ev.bind (pick_ev (by decide)) Ev.ret
def nod (l : List PI) : Prop := (l.map (·.key)).Nodup
theorem nod_app {a b : List PI} (h : nod (a ++ b)) : ∀ x ∈ b, ∀ p ∈ a, p.key ≠ x.key := by
  unfold nod at h
  rw [List.map_append, List.nodup_append] at h
  intro x hx p hp e
  exact h.2.2 _ (List.mem_map_of_mem hp) _ (List.mem_map_of_mem hx) e
theorem prune_l2 (sc : List Act) (i : Int) (m : Int) (out : List Int) (P : Int → Bool) : ∀ (rest pre done : List PI) (n : Nat) (o1 : List Int),
    (pre ++ rest).length < 68719476736 → nod (pre ++ rest) → out = o1 ++ (rest.filter (fun p => !P p.key)).map (·.key) → out.length < 68719476736 → n < 68719476736 → n + o1.length < 1000000000000 → n = o1.length →
    Ev (fun k => sha_Prune.l2 k sc i out (n : Int) (o1.length : Int) m (pre.filter (fun p => P p.key) ++ rest)) (((out.length : Nat) : Int), ⟨m, (pre ++ rest).filter (fun p => P p.key)⟩) := by
  intro rest
  induction rest with
  | nil =>
    intro pre done n o1 hl hn he ho h1 h2 h3
    refine Ev.unf ?_
    simp only [sha_Prune.l2]
    simp only [List.filter_nil, List.map_nil, List.append_nil] at he
    subst he
    refine Ev.neg (by simp) ?_
    simp only [List.append_nil]
    subst h3
    exact Ev.ret
  | cons x rest ih =>
    intro pre done n o1 hl hn he ho h1 h2 h3
    have hl' : ((pre ++ [x]) ++ rest).length < 68719476736 := by simpa using hl
    have hn' : nod ((pre ++ [x]) ++ rest) := by simpa using hn
    by_cases hx : P x.key = true
    · have := ih (pre ++ [x]) done n o1 hl' hn' (by rw [he]; simp [hx]) ho h1 h2 h3
      simp only [List.filter_append, List.filter_cons, hx, if_true, List.filter_nil, List.append_assoc, List.singleton_append] at this ⊢
      exact this
    · have hx' : P x.key = false := by simpa using hx
      have he' : out = o1 ++ x.key :: (rest.filter (fun p => !P p.key)).map (·.key) := by rw [he]; simp [hx']
      have hol : out.length = o1.length + ((rest.filter (fun p => !P p.key)).length + 1) := by rw [he']; simp
      refine Ev.unf ?_
      simp only [sha_Prune.l2]
      refine Ev.pos (by omega) ?_
      refine Ev.bindc (idx_at (j := o1.length) rfl (by omega)) ?_
      have hxx : out[o1.length]'(by omega) = x.key := by subst he'; simp
      rw [hxx]
      have hnin : ∀ p ∈ pre.filter (fun p => P p.key), p.key ≠ x.key := fun p hp => nod_app hn x (by simp) p ((List.mem_filter.1 hp).1)
      have hpos : posn (pre.filter (fun p => P p.key) ++ x :: rest) x.key = (pre.filter (fun p => P p.key)).length := by
        rw [posn_app _ _ _ hnin, posn_cons, if_pos rfl]; rfl
      have hfl : (pre.filter (fun p => P p.key)).length ≤ pre.length := List.length_filter_le _ _
      simp only [List.length_append, List.length_cons] at hl
      refine Ev.bind (drop_in (by simp only [List.length_append, List.length_cons]; omega) (by rw [hpos]; simp)) ?_
      refine Ev.pos rfl ?_
      rw [hpos]
      have her : (pre.filter (fun p => P p.key) ++ x :: rest).eraseIdx (pre.filter (fun p => P p.key)).length = pre.filter (fun p => P p.key) ++ rest := by
        rw [List.eraseIdx_append_of_length_le (Nat.le_refl _)]; simp
      simp only [her]
      rw [w64_succ (by omega), w64_succ (by omega)]
      have := ih (pre ++ [x]) done (n + 1) (o1 ++ [x.key]) hl' hn' (by rw [he']; simp) ho (by omega) (by simp; omega) (by simp [h3])
      simp only [List.filter_append, List.filter_cons, hx', List.filter_nil, List.append_assoc, List.append_nil, List.singleton_append, Bool.false_eq_true, if_false, List.length_append, List.length_singleton] at this ⊢
      exact this
theorem prune_l1 (sc : List Act) {i : Nat} (hi : i < sc.length) (m : Int) (l : List PI) (hl : l.length < 68719476736) (hn : nod l) : ∀ (b a : List PI), l = a ++ b →
    Ev (fun k => sha_Prune.l1 k ⟨m, l⟩ sc (i : Int) l ((a.filter (fun p => !decide (pk sc[i].N 16 ≤ p.key))).map (·.key)) (a.length : Int)) (((l.length - (flt (pk sc[i].N 16) l).length : Nat) : Int), ⟨m, flt (pk sc[i].N 16) l⟩)
  | [], a, e => by
    refine Ev.unf ?_
    simp only [sha_Prune.l1]
    rw [List.append_nil] at e
    subst e
    refine Ev.neg (by omega) ?_
    simp only [sha_Prune.j1]
    have hp := flt_split (pk sc[i].N 16) l
    have := prune_l2 sc i m ((l.filter (fun p => !decide (pk sc[i].N 16 ≤ p.key))).map (·.key)) (fun q => decide (pk sc[i].N 16 ≤ q)) l [] [] 0 [] (by simpa using hl) (by simpa using hn) (by simp) (by rw [List.length_map]; omega) (by omega) (by simp) rfl
    simp only [List.filter_nil, List.nil_append, List.length_nil, List.length_map] at this
    have e2 : (l.filter fun p => !decide (pk sc[i].N 16 ≤ p.key)).length = l.length - (flt (pk sc[i].N 16) l).length := by omega
    rw [e2] at this
    exact this
  | x :: b, a, e => by
    refine Ev.unf ?_
    simp only [sha_Prune.l1]
    have hlen : l.length = a.length + (b.length + 1) := by rw [e, List.length_append, List.length_cons]
    refine Ev.pos (by omega) ?_
    refine Ev.bindc (idx_at (j := a.length) rfl (by omega)) ?_
    have hx : l[a.length]'(by omega) = x := by subst e; simp
    rw [hx]
    refine Ev.bind (keep_ev hi x.key x.value) ?_
    rw [w64_succ (by omega)]
    have ih := prune_l1 sc hi m l hl hn b (a ++ [x]) (by rw [e]; simp)
    rw [List.length_append, List.length_singleton] at ih
    by_cases h : pk sc[i].N 16 ≤ x.key
    · refine Ev.pos (by simpa using h) ?_
      simpa [h] using ih
    · refine Ev.neg (by simpa using h) ?_
      refine Ev.bindc (cat_at ?_) ?_
      · have := List.length_filter_le (fun p : PI => !decide (pk sc[i].N 16 ≤ p.key)) a
        simp only [List.length_map, List.length_singleton]
        omega
      · simpa [h] using ih
theorem prune_ev {sc : List Act} {i : Nat} (hi : i < sc.length) {m : Int} {l : List PI} (hl : l.length < 68719476736) (hn : nod l) :
    Ev (fun k => sha_Prune k ⟨m, l⟩ sc (i : Int)) (((l.length - (flt (pk sc[i].N 16) l).length : Nat) : Int), ⟨m, flt (pk sc[i].N 16) l⟩) := by
  simp only [sha_Prune]
  refine Ev.bind (r := l) (Ev.all fun k => ?_) ?_
  · simp only [sha_Clone]
    rw [cat_at (by simp; omega)]
    rfl
  · exact prune_l1 sc hi m l hl hn l [] rfl
/-! ### the law -/
theorem posn_nod : ∀ {l : List PI}, nod l → ∀ {j : Nat} (h : j < l.length), posn l l[j].key = j
  | x :: l, hn, 0, h => by rw [List.getElem_cons_zero, posn_cons, if_pos rfl]
  | x :: l, hn, j + 1, h => by
    have h' : j < l.length := by simpa using h
    have hne : x.key ≠ l[j].key := nod_app (a := [x]) (b := l) hn l[j] (List.getElem_mem _) x (by simp)
    rw [List.getElem_cons_succ, posn_cons, if_neg hne, posn_nod (l := l) (by unfold nod at hn ⊢; rw [List.map_cons, List.nodup_cons] at hn; exact hn.2)]
section
variable {sc : List Act} {room : Int} {i : Nat}
theorem bound_j1 {l : List PI} (hi : i < 4000000000) (H : Ev (fun k => law_Bound.l1 k sc room (l.map (·.key)) (l.map (·.value)) room l ((i + 1 : Nat) : Int)) true) :
    Ev (fun k => law_Bound.j1 k sc room (i : Int) (l.map (·.key)) (l.map (·.value)) room l) true := by
  refine Ev.unf ?_
  simp only [law_Bound.j1]
  rw [w64_succ (by omega)]
  exact H
theorem bound_l4 {l : List PI} (hi : i < 4000000000) (hl : l.length < 68719476736) (hn : nod l) (H : Ev (fun k => law_Bound.l1 k sc room (l.map (·.key)) (l.map (·.value)) room l ((i + 1 : Nat) : Int)) true) :
    ∀ d j : Nat, l.length = j + d → Ev (fun k => law_Bound.l4 k sc room (i : Int) (l.map (·.key)) (l.map (·.value)) (l.map (·.key), ⟨room, l⟩) (j : Int) room l) true
  | 0, j, e => by
    refine Ev.unf ?_
    simp only [law_Bound.l4]
    refine Ev.neg (by rw [List.length_map]; omega) ?_
    exact bound_j1 hi H
  | d + 1, j, e => by
    refine Ev.unf ?_
    simp only [law_Bound.l4]
    have hj : j < l.length := by omega
    refine Ev.pos (by rw [List.length_map]; omega) ?_
    refine Ev.bindc (idx_at rfl (by rw [List.length_map]; omega)) ?_
    have hp := posn_nod hn hj
    have hg := get_in (m := room) (l := l) (key := l[j].key) (by omega) (by rw [hp]; exact hj)
    simp only [hp] at hg
    simp only [List.getElem_map]
    refine Ev.bind hg ?_
    refine Ev.bindc (idx_at rfl (by rw [List.length_map]; omega)) ?_
    refine Ev.bindc (idx_at rfl (by rw [List.length_map]; omega)) ?_
    refine Ev.pos rfl ?_
    refine Ev.bindc (idx_at rfl (by rw [List.length_map]; omega)) ?_
    simp only [List.getElem_map]
    refine Ev.pos trivial (Ev.pos trivial ?_)
    rw [w64_succ (by omega)]
    exact bound_l4 hi hl hn H d (j + 1) (by omega)
theorem bound_j3 {l : List PI} {ks : List Int} {vs : List (List UInt8)} (hi : i < 4000000000) (hl : l.length < 68719476736) (hr : (l.length : Int) ≤ room) (hn : nod l) (hk : ks = l.map (·.key)) (hv : vs = l.map (·.value)) (H : Ev (fun k => law_Bound.l1 k sc room (l.map (·.key)) (l.map (·.value)) room l ((i + 1 : Nat) : Int)) true) :
    Ev (fun k => law_Bound.j3 k sc room (i : Int) ks vs room l) true := by
  subst hk; subst hv
  refine Ev.unf ?_
  simp only [law_Bound.j3]
  refine Ev.bind (keys_ev hl) ?_
  refine Ev.pos rfl ?_
  refine Ev.bind (r := ((l.length : Int), ⟨room, l⟩)) (Ev.all fun k => rfl) ?_
  refine Ev.pos (by rw [List.length_map]) ?_
  refine Ev.unf ?_
  simp only [law_Bound.j5]
  refine Ev.neg (by rw [List.length_map]; simp only [decide_eq_true_eq]; omega) ?_
  exact bound_l4 hi hl hn H l.length 0 (by omega)
theorem nod_set {l : List PI} (hn : nod l) {j : Nat} {x : PI} (hj : j < l.length) (hx : x.key = l[j].key) : nod (l.set j x) := by
  unfold nod at *
  have : (l.set j x).map (·.key) = l.map (·.key) := by
    rw [List.map_set]
    apply List.ext_getElem (by simp)
    intro n h1 h2
    rw [List.getElem_set]
    split
    · subst_vars; simp [hx]
    · rfl
  rw [this]; exact hn
theorem bound_l3 {l : List PI} (hi : i < sc.length) (hi' : i < 4000000000) (hl : l.length < 68719476736) (hr : (l.length : Int) ≤ room) (hn : nod l)
    (H : ∀ l' : List PI, l'.length < 68719476736 → (l'.length : Int) ≤ room → nod l' → Ev (fun k => law_Bound.l1 k sc room (l'.map (·.key)) (l'.map (·.value)) room l' ((i + 1 : Nat) : Int)) true) : ∀ (b a : List PI), l = a ++ b →
    Ev (fun k => law_Bound.l3 k sc room (l.map (·.key)) (l.map (·.value)) (i : Int) (((l.length - (flt (pk sc[i].N 16) l).length : Nat) : Int), ⟨room, flt (pk sc[i].N 16) l⟩)
      ((flt (pk sc[i].N 16) a).map (·.key)) ((flt (pk sc[i].N 16) a).map (·.value)) (a.length : Int)) true
  | [], a, e => by
    refine Ev.unf ?_
    simp only [law_Bound.l3]
    rw [List.append_nil] at e
    subst e
    refine Ev.neg (by rw [List.length_map]; omega) ?_
    have hf : (flt (pk sc[i].N 16) l).length ≤ l.length := List.length_filter_le _ _
    refine Ev.pos (by rw [List.length_map, List.length_map, w64_of (by omega) (by omega)]; omega) ?_
    have hn' : nod (flt (pk sc[i].N 16) l) := List.Nodup.sublist ((List.filter_sublist).map _) hn
    exact bound_j3 hi' (by omega) (by omega) hn' rfl rfl (H _ (by omega) (by omega) hn')
  | x :: b, a, e => by
    refine Ev.unf ?_
    simp only [law_Bound.l3]
    have hlen : l.length = a.length + (b.length + 1) := by rw [e, List.length_append, List.length_cons]
    refine Ev.pos (by rw [List.length_map]; omega) ?_
    refine Ev.bindc (idx_at (j := a.length) rfl (by rw [List.length_map]; omega)) ?_
    have hx : l[a.length]'(by omega) = x := by subst e; simp
    rw [List.getElem_map, hx]
    refine Ev.bindc (idx_at rfl hi) ?_
    refine Ev.bind (pick_ev (by decide)) ?_
    rw [w64_succ (by omega)]
    have ih := bound_l3 hi hi' hl hr hn H b (a ++ [x]) (by rw [e]; simp)
    rw [List.length_append, List.length_singleton] at ih
    have hf : (flt (pk sc[i].N 16) a).length ≤ a.length := List.length_filter_le _ _
    by_cases h : pk sc[i].N 16 ≤ x.key
    · refine Ev.pos h ?_
      refine Ev.bindc (idx_at (j := a.length) rfl (by rw [List.length_map]; omega)) ?_
      rw [List.getElem_map, hx]
      refine Ev.bindc (cat_at (by rw [List.length_map]; simp only [List.length_singleton]; omega)) ?_
      refine Ev.bindc (idx_at (j := a.length) rfl (by rw [List.length_map]; omega)) ?_
      rw [List.getElem_map, hx]
      refine Ev.bindc (cat_at (by rw [List.length_map]; simp only [List.length_singleton]; omega)) ?_
      simpa [flt, h] using ih
    · refine Ev.neg h ?_
      simpa [flt, h] using ih
theorem nod_snoc {l : List PI} (hn : nod l) {x : PI} (h : ∀ p ∈ l, p.key ≠ x.key) : nod (l ++ [x]) := by
  unfold nod at *
  rw [List.map_append, List.nodup_append]
  refine ⟨hn, by simp, ?_⟩
  intro a ha b hb e
  obtain ⟨p, hp, rfl⟩ := List.mem_map.1 ha
  simp at hb
  subst hb
  exact h p hp e
theorem bound_j2 {l : List PI} {key : Int} (hi : i < sc.length) (hi' : i < 4000000000) (hr : (l.length : Int) ≤ room) (hroom : room ≤ 11) (hn : nod l)
    (H : ∀ l' : List PI, l'.length < 68719476736 → (l'.length : Int) ≤ room → nod l' → Ev (fun k => law_Bound.l1 k sc room (l'.map (·.key)) (l'.map (·.value)) room l' ((i + 1 : Nat) : Int)) true) :
    Ev (fun k => law_Bound.j2 k sc room (l.map (·.key)) (l.map (·.value)) room l (i : Int) key (posn l key : Int)) true := by
  have hl : l.length < 68719476736 := by omega
  have hp := posn_le l key
  refine Ev.unf ?_
  simp only [law_Bound.j2]
  refine Ev.bindc (idx_at rfl hi) ?_
  by_cases c1 : sc[i].Kind = 1
  · refine Ev.pos c1 ?_
    by_cases hin : posn l key < l.length
    · refine Ev.bind (drop_in hl hin) ?_
      refine Ev.pos (by rw [List.length_map]; simp [hin]) (Ev.pos (by rw [List.length_map]; omega) ?_)
      refine Ev.unf ?_
      simp only [law_Bound.j4]
      refine Ev.pos (by rw [List.length_map]; omega) ?_
      rw [w64_succ (by omega)]
      refine Ev.bindc (cut_to rfl (by rw [List.length_map]; omega)) ?_
      refine Ev.bindc (cat_at (by simp only [List.length_nil, List.length_take, List.length_map]; omega)) ?_
      refine Ev.bindc (cut_to rfl (by rw [List.length_map]; omega)) ?_
      refine Ev.bindc (cat_at (by simp only [List.length_nil, List.length_take, List.length_map]; omega)) ?_
      refine Ev.bindc (cut_from rfl (by rw [List.length_map]; omega)) ?_
      refine Ev.bindc (cat_at (by simp only [List.length_append, List.length_nil, List.length_take, List.length_drop, List.length_map]; omega)) ?_
      refine Ev.bindc (cut_from rfl (by rw [List.length_map]; omega)) ?_
      refine Ev.bindc (cat_at (by simp only [List.length_append, List.length_nil, List.length_take, List.length_drop, List.length_map]; omega)) ?_
      have he : (l.eraseIdx (posn l key)).length ≤ l.length := List.length_eraseIdx_le _ _
      have hn' : nod (l.eraseIdx (posn l key)) := List.Nodup.sublist ((List.eraseIdx_sublist _ _).map _) hn
      refine bound_j3 hi' (by omega) (by omega) hn' ?_ ?_ (H _ (by omega) (by omega) hn') <;> simp [List.eraseIdx_eq_take_drop_succ]
    · refine Ev.bind (drop_out hl hin) ?_
      refine Ev.pos (by rw [List.length_map]; simp [hin]) (Ev.neg (by rw [List.length_map]; omega) (Ev.pos rfl ?_))
      refine Ev.unf ?_
      simp only [law_Bound.j4]
      refine Ev.neg (by rw [List.length_map]; omega) ?_
      exact bound_j3 hi' hl hr hn rfl rfl (H _ hl hr hn)
  refine Ev.neg c1 ?_
  by_cases c2 : sc[i].Kind = 2
  · refine Ev.pos c2 ?_
    refine Ev.bind (prune_ev hi hl hn) ?_
    exact bound_l3 hi hi' hl hr hn H l [] rfl
  refine Ev.neg c2 ?_
  refine Ev.bindc (idx_at rfl hi) ?_
  by_cases hin : posn l key < l.length
  · refine Ev.bind (put_in (by omega) hin) ?_
    refine Ev.pos (by rw [List.length_map]; omega) ?_
    refine Ev.bindc (cat_at (by simp; omega)) ?_
    refine Ev.bindc (idx_at (j := posn l key) rfl (by simp [hin])) ?_
    refine Ev.bindc (r := ([] ++ l.map (fun p : PI => p.value)).set (posn l key) [u8of sc[i].N, u8of (i : Int)]) ?_ ?_
    · unfold upd
      rw [if_pos ⟨by omega, by simp only [List.nil_append, List.length_map]; omega⟩, Int.toNat_natCast]
    refine Ev.pos rfl ?_
    have hn' : nod (l.set (posn l key) ⟨key, [u8of sc[i].N, u8of (i : Int)]⟩) := nod_set hn hin (posn_key hin).symm
    refine bound_j3 hi' (by simpa using hl) (by simpa using hr) hn' ?_ ?_ (H _ (by simpa using hl) (by simpa using hr) hn')
    · rw [List.map_set]
      apply List.ext_getElem (by simp)
      intro n h1 h2
      rw [List.getElem_set]
      split
      · subst_vars; simp [posn_key hin]
      · rfl
    · rw [List.map_set]; rfl
  · by_cases hf : (l.length : Int) = room
    · refine Ev.bind (put_full (by omega) hin hf) ?_
      refine Ev.neg (by rw [List.length_map]; omega) (Ev.pos (by rw [List.length_map]; omega) (Ev.pos rfl ?_))
      exact bound_j1 hi' (H _ hl hr hn)
    · refine Ev.bind (put_new hl hin hf) ?_
      refine Ev.neg (by rw [List.length_map]; omega) (Ev.neg (by rw [List.length_map]; omega) ?_)
      refine Ev.bindc (cat_at (by simp; omega)) ?_
      refine Ev.bindc (cat_at (by simp; omega)) ?_
      refine Ev.pos rfl ?_
      have hn' : nod (l ++ [⟨key, [u8of sc[i].N, u8of (i : Int)]⟩]) := nod_snoc hn (posn_mem hin)
      have hlen : (l ++ [(⟨key, [u8of sc[i].N, u8of (i : Int)]⟩ : PI)]).length = l.length + 1 := by simp
      exact bound_j3 (l := l ++ [(⟨key, [u8of sc[i].N, u8of (i : Int)]⟩ : PI)]) hi' (by omega) (by omega) hn' (by simp) (by simp) (H _ (by omega) (by omega) hn')
theorem bound_l2 {l : List PI} {key : Int} (hl : l.length < 68719476736) (H : Ev (fun k => law_Bound.j2 k sc room (l.map (·.key)) (l.map (·.value)) room l (i : Int) key (posn l key : Int)) true) :
    ∀ (b a : List PI), l = a ++ b → (∀ p ∈ a, p.key ≠ key) → Ev (fun k => law_Bound.l2 k sc room (l.map (·.key)) (l.map (·.value)) room l (i : Int) key (a.length : Int)) true
  | [], a, e, hp => by
    refine Ev.unf ?_
    simp only [law_Bound.l2]
    rw [List.append_nil] at e
    subst e
    refine Ev.neg (by rw [List.length_map]; omega) ?_
    have := posn_app l [] key hp
    simp only [List.append_nil] at this
    rw [this] at H
    exact H
  | x :: b, a, e, hp => by
    refine Ev.unf ?_
    simp only [law_Bound.l2]
    have hlen : l.length = a.length + (b.length + 1) := by rw [e, List.length_append, List.length_cons]
    refine Ev.pos (by rw [List.length_map]; omega) ?_
    refine Ev.bindc (idx_at (j := a.length) rfl (by rw [List.length_map]; omega)) ?_
    have hx : l[a.length]'(by omega) = x := by subst e; simp
    rw [List.getElem_map, hx]
    by_cases hk : x.key = key
    · refine Ev.pos hk ?_
      have : posn l key = a.length := by rw [e, posn_app a _ key hp, posn_cons, if_pos hk]; rfl
      rw [this] at H
      exact H
    · refine Ev.neg hk ?_
      rw [w64_succ (by omega)]
      have := bound_l2 hl H b (a ++ [x]) (by rw [e]; simp) (by intro p h; rcases List.mem_append.1 h with h | h; exact hp p h; exact (List.mem_singleton.1 h) ▸ hk)
      rw [List.length_append, List.length_singleton] at this
      exact this
end
theorem bound_l1 {sc : List Act} (hlen : sc.length ≤ 2147483647) {room : Int} (hroom : room ≤ 11) : ∀ (d i : Nat) (l : List PI), sc.length = i + d → l.length < 68719476736 → (l.length : Int) ≤ room → nod l →
    Ev (fun k => law_Bound.l1 k sc room (l.map (·.key)) (l.map (·.value)) room l (i : Int)) true
  | 0, i, l, e, hl, hr, hn => by
    refine Ev.unf ?_
    simp only [law_Bound.l1]
    exact Ev.neg (by omega) Ev.ret
  | d + 1, i, l, e, hl, hr, hn => by
    refine Ev.unf ?_
    simp only [law_Bound.l1]
    refine Ev.pos (by omega) ?_
    refine Ev.bindc (idx_at rfl (by omega)) ?_
    refine Ev.bind (pick_ev (by decide)) ?_
    exact bound_l2 hl (bound_j2 (by omega) (by omega) hr hroom hn (fun l' h1 h2 h3 => bound_l1 hlen hroom d (i + 1) l' (by omega) h1 h2 h3)) l [] rfl (by simp)
theorem awake_ev : Ev (fun k => sh_awake k) true := ⟨40, fun k hk => by
  obtain ⟨m, rfl⟩ : ∃ m, k = m + 40 := ⟨k - 40, by omega⟩
  kernel_rfl⟩
theorem bound_true (most : Int) (sc : List Act) (hm : -9223372036854775808 ≤ most ∧ most ≤ 9223372036854775807) : ∃ k, law_Bound k most sc = some true := by
  refine Ev.get (f := fun k => law_Bound k most sc) ?_
  simp only [law_Bound]
  by_cases hlen : 2147483647 < (sc.length : Int)
  · exact Ev.pos hlen Ev.ret
  refine Ev.neg hlen ?_
  refine Ev.bind awake_ev ?_
  refine Ev.bind (pick_ev (by decide)) ?_
  obtain ⟨h1, h2⟩ := pk_in hm (n := 12) (by decide)
  refine Ev.bind (r := (some ⟨pk most 12, []⟩, 0)) (Ev.all fun k => ?_) ?_
  · simp only [sha_New]; rw [if_neg (by omega), if_neg (by omega)]
  refine Ev.pos rfl (Ev.pos rfl ?_)
  refine Ev.bindc rfl (Ev.pos rfl ?_)
  exact bound_l1 (by omega) (by omega) sc.length 0 [] (by omega) (by simp) (by simpa using h1) (by simp [nod])
end Go.Proofs.Ytoahkjehjmbojaa
