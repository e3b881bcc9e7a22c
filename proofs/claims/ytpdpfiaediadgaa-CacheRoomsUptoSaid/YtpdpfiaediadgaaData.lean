/- A slice that is handed in, opened with what its elements are as data. -/
import Derived.Test.YtpdpfiaediadgaaOpen3
set_option linter.unusedVariables false
namespace Go.Eng
open Go Go.RowKit Go.WideShapes Go.ChangeShapes Go.Deep
section
variable {H : Type} {enc : TypeId × Value → H} {P : Program} {α : Type} {r : Rp α} {w : World} {F : Nat → Prop}
/-- A list, and its data. -/
def ListD (OK : α → DataW H → Prop) (L : List α) (d : DataW H) : Prop := (L = [] ∧ d = .nil) ∨ ∃ els sp, d = .slice els sp ∧ els.length = L.length ∧ ∀ (i : Nat) x y, L[i]? = some x → els[i]? = some y → OK x y
theorem slr_trodD {t e : TypeId} (ht : P.underlying t = some (.slice e)) (r : Rp α) (hsz : P.cellsOf e = r.sz) (h0 : 0 < r.sz) (OK : α → DataW H → Prop)
    (hel : ∀ n cs y, DataW.trod enc P w 0 (fun _ => true) true n e cs = some y → ∃ x, OK x y.1 ∧ r.rd w (Old w) x cs)
    {n : Nat} {cs : List Value} {y : DataW H × List MemPlace} (h : DataW.trod enc P w 0 (fun _ => true) true n t cs = some y) :
    ∃ (A : Option Addr) (cap : Nat) (L : List α), cs = [.slice A L.length cap] ∧ SlR r w (Old w) A cap L ∧ ListD OK L y.1 := by
  rcases open_slice ht h with ⟨rfl, hy⟩ | ⟨a', len, cap, m, n, D, Pl, rfl, _, hlc, hcm, hm, hyy, hx⟩
  · exact ⟨none, 0, [], rfl, SlR.nil _ _ _ _, .inl ⟨rfl, by rw [hy]⟩⟩
  · simp only [if_true] at hm
    subst hm
    have key : ∀ k, k ≤ len → ∃ (L : List α) (xs : List Value), L.length = k ∧ (∀ (i : Nat) x, L[i]? = some x → OK x (D i)) ∧ elems r w (Old w) L xs ∧ ∀ j v, xs[j]? = some v → w.cell? (a'.add j) = some v := by
      intro k
      induction k with
      | zero => intro _; exact ⟨[], [], rfl, by simp, rfl, by simp⟩
      | succ k ih =>
        intro hk
        obtain ⟨L, xs, hL, hok, he, hcell⟩ := ih (by omega)
        obtain ⟨cs', h1, h2⟩ := hx k (by omega)
        obtain ⟨x, hxo, hrd⟩ := hel _ _ _ h2
        rw [hsz] at h1
        obtain ⟨_, hlen, hat⟩ := World.cells?_some h1
        refine ⟨L ++ [x], xs ++ cs', by simp [hL], ?_, he.snoc hrd, ?_⟩
        · intro i y hy
          rcases Nat.lt_or_ge i L.length with hi | hi
          · rw [List.getElem?_append_left hi] at hy
            exact hok i y hy
          · rw [List.getElem?_append_right hi] at hy
            have hi0 : i - L.length = 0 := by
              have := (List.getElem?_eq_some_iff.1 hy).1
              simp only [List.length_singleton] at this
              omega
            rw [hi0] at hy
            simp only [List.getElem?_cons_zero, Option.some.injEq] at hy
            subst hy
            obtain rfl : i = k := by omega
            exact hxo
        · intro j v hj
          have hll : xs.length = k * r.sz := by rw [he.len, hL]
          rcases Nat.lt_or_ge j (k * r.sz) with hlt | hge
          · rw [List.getElem?_append_left (by omega)] at hj
            exact hcell j v hj
          · rw [List.getElem?_append_right (by omega), hll] at hj
            have hjl : j - k * r.sz < r.sz := by
              have := (List.getElem?_eq_some_iff.1 hj).1
              rw [r.len hrd] at this
              exact this
            have := hat (j - k * r.sz) hjl
            rw [add_add, show k * r.sz + (j - k * r.sz) = j by omega] at this
            rw [this, hj]
    obtain ⟨L, xs, hL, hok, he, hcell⟩ := key len (Nat.le_refl _)
    subst hL
    refine ⟨some a', _, L, rfl, ⟨hlc, hcm, xs, he, fun hpos => ?_⟩, .inr ⟨_, _, by rw [hyy], by simp, fun i x y hx hy => ?_⟩⟩
    · have hll : xs.length = L.length * r.sz := he.len
      have hpos' : 0 < L.length * r.sz := Nat.mul_pos hpos h0
      have h00 := hcell 0 _ (List.getElem?_eq_getElem (by omega))
      have ha0 : a'.add 0 = a' := by simp [Addr.add]
      rw [ha0] at h00
      obtain ⟨g1, g2⟩ := cell_none h00
      obtain ⟨b, off, sp⟩ := a'
      subst g1
      refine ⟨b, off, rfl, g2, fun j v hj => ?_⟩
      have := hcell j v hj
      rwa [Addr.add_lit] at this
    · have hi := (List.getElem?_eq_some_iff.1 hx).1
      simp only [List.getElem?_map, List.getElem?_range hi, Option.map_some, Option.some.injEq] at hy
      subst hy
      exact hok i x hx
theorem slr_TrodD {t e : TypeId} (ht : P.underlying t = some (.slice e)) (r : Rp α) (hsz : P.cellsOf e = r.sz) (h0 : 0 < r.sz) (OK : α → DataW H → Prop)
    (hel : ∀ n cs y, DataW.trod enc P w 0 (fun _ => true) true n e cs = some y → ∃ x, OK x y.1 ∧ r.rd w (Old w) x cs)
    {q : Reach} {b0 : Nat} {v : Value} {d : DataW H} {ps : List MemPlace} (hval : Value.okWide P w q b0 t v) (hd : DataW.Trod enc P w 0 (fun _ => true) true t v d ps) :
    ∃ (A : Option Addr) (cap : Nat) (L : List α), v = .slice A L.length cap ∧ SlR r w (Old w) A cap L ∧ ListD OK L d := by
  obtain ⟨a, len, cap, rfl⟩ := okWide_slice ht hval
  obtain ⟨fuel, hf⟩ := hd
  obtain ⟨A, c, L, h1, h2, h3⟩ := slr_trodD ht r hsz h0 OK hel hf
  simp [Value.cells] at h1
  obtain ⟨rfl, rfl, rfl⟩ := h1
  exact ⟨_, _, L, rfl, h2, h3⟩
theorem ListD.all {OK : α → DataW H → Prop} {L : List α} {d : DataW H} (h : ListD OK L d) : ∀ x ∈ L, ∃ y, OK x y := by
  intro x hx
  obtain ⟨i, hi, rfl⟩ := List.getElem_of_mem hx
  rcases h with ⟨rfl, _⟩ | ⟨els, sp, _, hl, hk⟩
  · simp at hi
  · exact ⟨_, hk i _ _ (List.getElem?_eq_getElem hi) (List.getElem?_eq_getElem (by omega))⟩
theorem str_trodD {base : Nat} {spare : Nat → Bool} {held : Bool} {t : TypeId} (ht : P.underlying t = some .string) {n : Nat} {cs : List Value} {y : DataW H × List MemPlace} (h : DataW.trod enc P w base spare held n t cs = some y) : ∃ s : List UInt8, cs = [.string (bs s)] ∧ y.1 = .lit (.string s) := by
  obtain ⟨s, rfl, hy, _⟩ := DataW.trod_string ht h
  obtain ⟨l, rfl⟩ := bs_ex s
  refine ⟨l, rfl, ?_⟩
  rw [hy]
  simp [bs]
theorem bool_trodD {base : Nat} {spare : Nat → Bool} {held : Bool} {t : TypeId} (ht : P.underlying t = some .bool) {n : Nat} {cs : List Value} {y : DataW H × List MemPlace} (h : DataW.trod enc P w base spare held n t cs = some y) : ∃ b : Bool, cs = [.bool b] := by
  obtain ⟨b, e, _⟩ := DataW.trod_bool ht h
  exact ⟨b, e⟩
end
end Go.Eng
