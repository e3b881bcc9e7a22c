/- What is handed in, opened, with the sizes that its form allows. -/
import Derived.SizedLaws
import Derived.Test.YtoahkjehjmbojaaOpen3
set_option linter.unusedVariables false
namespace Go.Eng
open Go Go.RowKit Go.WideShapes Go.ChangeShapes Go.Deep
section
variable {H : Type} {enc : TypeId × Value → H} {P : Program} {α : Type} {r : Rp α} {w : World} {F : Nat → Prop}
/-- No part of it weighs more. -/
def Light (P : Program) (t : TypeId) (d : DataW H) : Prop := ∀ n ∈ d.weights P t, n ≤ reachBytes
theorem weightsAll_mem {e : TypeId} : ∀ {ds : List (DataW H)} {d : DataW H}, d ∈ ds → ∀ n ∈ d.weights P e, n ∈ DataW.weightsAll P e ds
  | x :: ds, d, h, n, hn => by
    simp only [DataW.weightsAll, List.mem_append]
    rcases List.mem_cons.1 h with rfl | h
    · exact .inl hn
    · exact .inr (weightsAll_mem h n hn)
theorem Light.slice {t e : TypeId} {els sp : List (DataW H)} (ht : P.underlying t = some (.slice e)) (h : Light P t (.slice els sp)) : (els.length + sp.length) * P.bytesOf e ≤ reachBytes ∧ ∀ d ∈ els, Light P e d := by
  refine ⟨h _ (by unfold DataW.weights; rw [ht]; exact List.mem_cons_self), fun d hd n hn => h n ?_⟩
  unfold DataW.weights
  rw [ht]
  exact List.mem_cons_of_mem _ (List.mem_append_left _ (weightsAll_mem hd n hn))
theorem Light.field {t : TypeId} {fs : Array Field} {ds : List (DataW H)} (ht : P.underlying t = some (.struct fs)) (h : Light P t (.agg ds)) {i : Nat} {f : Field} {d : DataW H} (hf : fs[i]? = some f) (hd : ds[i]? = some d) : Light P f.type d := fun n hn => h n (by
  unfold DataW.weights
  rw [ht]
  exact DataW.weights_mem_each (j := i) (by rw [List.getElem?_map, Array.getElem?_toList, hf]; rfl) hd n hn)
theorem Light.str {t : TypeId} {bytes : List UInt8} (h : Light P t (DataW.lit (.string bytes) : DataW H)) : bytes.length ≤ reachBytes := h _ (by unfold DataW.weights; exact List.mem_singleton_self _)
/-- Light elements, as many as the form's reach allows. -/
theorem slr_light {t e : TypeId} (ht : P.underlying t = some (.slice e)) (r : Rp α) (hsz : P.cellsOf e = r.sz) (h0 : 0 < r.sz) (OK : α → Prop)
    (hel : ∀ n cs y, DataW.trod enc P w 0 (fun _ => true) true n e cs = some y → Light P e y.1 → ∃ x, OK x ∧ r.rd w (Old w) x cs)
    {n : Nat} {cs : List Value} {y : DataW H × List MemPlace} (h : DataW.trod enc P w 0 (fun _ => true) true n t cs = some y) (hL : Light P t y.1) :
    ∃ (A : Option Addr) (cap : Nat) (L : List α), cs = [.slice A L.length cap] ∧ SlR r w (Old w) A cap L ∧ (∀ x ∈ L, OK x) ∧ L.length * P.bytesOf e ≤ reachBytes := by
  rcases open_slice ht h with ⟨rfl, _⟩ | ⟨a', len, cap, m, n, D, Pl, rfl, _, hlc, hcm, hm, hyy, hx⟩
  · exact ⟨none, 0, [], rfl, SlR.nil _ _ _ _, by simp, by simp [reachBytes]⟩
  · simp only [if_true] at hm
    subst hm
    rw [hyy] at hL
    obtain ⟨hw, hel'⟩ := hL.slice ht
    have key : ∀ k, k ≤ len → ∃ (L : List α) (xs : List Value), L.length = k ∧ (∀ x ∈ L, OK x) ∧ elems r w (Old w) L xs ∧ ∀ j v, xs[j]? = some v → w.cell? (a'.add j) = some v := by
      intro k
      induction k with
      | zero => intro _; exact ⟨[], [], rfl, by simp, rfl, by simp⟩
      | succ k ih =>
        intro hk
        obtain ⟨L, xs, hL, hok, he, hcell⟩ := ih (by omega)
        obtain ⟨cs', h1, h2⟩ := hx k (by omega)
        obtain ⟨x, hxo, hrd⟩ := hel _ _ _ h2 (hel' _ (List.mem_map.2 ⟨k, List.mem_range.2 (by omega), rfl⟩))
        rw [hsz] at h1
        obtain ⟨_, hlen, hat⟩ := World.cells?_some h1
        refine ⟨L ++ [x], xs ++ cs', by simp [hL], ?_, he.snoc hrd, ?_⟩
        · intro y hy
          rcases List.mem_append.1 hy with hy | hy
          · exact hok y hy
          · obtain rfl : y = x := by simpa using hy
            exact hxo
        · intro j v hj
          have hll : xs.length = k * r.sz := by rw [he.len, hL]
          rcases Nat.lt_or_ge j (k * r.sz) with hlt | hge
          · rw [List.getElem?_append_left (by omega)] at hj
            exact hcell j v hj
          · rw [List.getElem?_append_right (by omega), hll] at hj
            have hjl : j - k * r.sz < r.sz := by
              have := (List.getElem?_eq_some_iff.1 hj).1
              rw [r.len hrd] at this
              exact this
            have := hat (j - k * r.sz) hjl
            rw [add_add, show k * r.sz + (j - k * r.sz) = j by omega] at this
            rw [this, hj]
    obtain ⟨L, xs, hL, hok, he, hcell⟩ := key len (Nat.le_refl _)
    subst hL
    have hw' : L.length * P.bytesOf e ≤ reachBytes := Nat.le_trans (Nat.mul_le_mul_right _ (by simp)) hw
    refine ⟨some a', _, L, rfl, ⟨hlc, hcm, xs, he, fun hpos => ?_⟩, hok, hw'⟩
    have hll : xs.length = L.length * r.sz := he.len
    have hpos' : 0 < L.length * r.sz := Nat.mul_pos hpos h0
    have h00 := hcell 0 _ (List.getElem?_eq_getElem (by omega))
    have ha0 : a'.add 0 = a' := by simp [Addr.add]
    rw [ha0] at h00
    obtain ⟨g1, g2⟩ := cell_none h00
    obtain ⟨b, off, sp⟩ := a'
    subst g1
    refine ⟨b, off, rfl, g2, fun j v hj => ?_⟩
    have := hcell j v hj
    rwa [Addr.add_lit] at this
theorem slr_Light {t e : TypeId} (ht : P.underlying t = some (.slice e)) (r : Rp α) (hsz : P.cellsOf e = r.sz) (h0 : 0 < r.sz) (OK : α → Prop)
    (hel : ∀ n cs y, DataW.trod enc P w 0 (fun _ => true) true n e cs = some y → Light P e y.1 → ∃ x, OK x ∧ r.rd w (Old w) x cs)
    {q : Reach} {b0 : Nat} {v : Value} {d : DataW H} {ps : List MemPlace} (hval : Value.okWide P w q b0 t v) (hd : DataW.Trod enc P w 0 (fun _ => true) true t v d ps) (hL : Light P t d) :
    ∃ (A : Option Addr) (cap : Nat) (L : List α), v = .slice A L.length cap ∧ SlR r w (Old w) A cap L ∧ (∀ x ∈ L, OK x) ∧ L.length * P.bytesOf e ≤ reachBytes := by
  obtain ⟨a, len, cap, rfl⟩ := okWide_slice ht hval
  obtain ⟨fuel, hf⟩ := hd
  obtain ⟨A, c, L, h1, h2, h3, h4⟩ := slr_light ht r hsz h0 OK hel hf hL
  simp [Value.cells] at h1
  obtain ⟨rfl, rfl, rfl⟩ := h1
  exact ⟨_, _, L, rfl, h2, h3, h4⟩
/-- A field's data. -/
theorem fldL {fs : Array Field} {xs : List (DataW H × List MemPlace)} {T : TypeId} (hT : P.underlying T = some (.struct fs)) (hL : Light P T (.agg (xs.map (·.1))))
    (i t o : Nat) (h1 : (fs[i]?).map (fun f => (f.type, f.offset)) = some (t, o)) {x : DataW H × List MemPlace} (hx : xs[i]? = some x) : Light P t x.1 := by
  cases hi : fs[i]? with
  | none => rw [hi] at h1; cases h1
  | some f =>
    rw [hi] at h1
    simp only [Option.map_some, Option.some.injEq, Prod.mk.injEq] at h1
    have := hL.field hT (i := i) (d := x.1) hi (by rw [List.getElem?_map, hx]; rfl)
    rw [h1.1] at this
    exact this
theorem str_trod {base : Nat} {spare : Nat → Bool} {held : Bool} {t : TypeId} (ht : P.underlying t = some .string) {n : Nat} {cs : List Value} {y : DataW H × List MemPlace} (h : DataW.trod enc P w base spare held n t cs = some y) (hL : Light P t y.1) : ∃ s : List UInt8, cs = [.string (bs s)] ∧ s.length ≤ reachBytes := by
  obtain ⟨s, rfl, hy, _⟩ := DataW.trod_string ht h
  obtain ⟨l, rfl⟩ := bs_ex s
  rw [hy] at hL
  have h2 : Light P t (DataW.lit (.string (bs l).data.toList) : DataW H) := hL
  exact ⟨l, rfl, by have := h2.str; simpa [bs] using this⟩
theorem bool_trod {base : Nat} {spare : Nat → Bool} {held : Bool} {t : TypeId} (ht : P.underlying t = some .bool) {n : Nat} {cs : List Value} {y : DataW H × List MemPlace} (h : DataW.trod enc P w base spare held n t cs = some y) : ∃ b : Bool, cs = [.bool b] := by
  obtain ⟨b, e, _⟩ := DataW.trod_bool ht h
  exact ⟨b, e⟩
end
end Go.Eng
