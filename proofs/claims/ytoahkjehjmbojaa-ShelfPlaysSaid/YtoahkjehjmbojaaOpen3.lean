/- A slice that is handed in, opened as what is read: its elements may lead on. -/
import Derived.Test.YtoahkjehjmbojaaRow3
set_option linter.unusedVariables false
namespace Go.Eng
open Go Go.RowKit Go.WideShapes Go.ChangeShapes Go.Deep
section
variable {H : Type} {enc : TypeId × Value → H} {P : Program} {α : Type} {r : Rp α} {w : World} {F : Nat → Prop}
theorem elems.snoc {x : α} {cs : List Value} (h : r.rd w F x cs) : ∀ {L : List α} {xs : List Value}, elems r w F L xs → elems r w F (L ++ [x]) (xs ++ cs)
  | [], _, h0 => by cases h0; exact ⟨cs, [], by simp, h, rfl⟩
  | y :: L, _, ⟨ds, ys, e, h1, h2⟩ => by subst e; exact ⟨ds, ys ++ cs, by simp, h1, elems.snoc h h2⟩
theorem cell_none {a : Addr} {v : Value} (h : w.cell? a = some v) : a.spot = none ∧ a.block < w.heap.size := by
  obtain ⟨b, o, sp⟩ := a
  have hsp : sp = none := by
    unfold World.cell? at h
    cases sp with
    | none => rfl
    | some q => split at h <;> simp at h
  refine ⟨hsp, ?_⟩
  rcases Nat.lt_or_ge b w.heap.size with hl | hl
  · exact hl
  · unfold World.cell? at h
    simp [Array.getElem?_eq_none hl] at h
/-- Old blocks. -/
def Old (w : World) : Nat → Prop := fun b => b < w.heap.size
theorem Old.nk {w : World} : ∀ b, Old w b → NK w [] b := fun b h => ⟨by simp [keys], h⟩
theorem slr_trod {t e : TypeId} (ht : P.underlying t = some (.slice e)) (r : Rp α) (hsz : P.cellsOf e = r.sz) (h0 : 0 < r.sz) (OK : α → Prop)
    (hel : ∀ n cs y, DataW.trod enc P w 0 (fun _ => true) true n e cs = some y → ∃ x, OK x ∧ r.rd w (Old w) x cs)
    {n : Nat} {cs : List Value} {y : DataW H × List MemPlace} (h : DataW.trod enc P w 0 (fun _ => true) true n t cs = some y) :
    ∃ (A : Option Addr) (cap : Nat) (L : List α), cs = [.slice A L.length cap] ∧ SlR r w (Old w) A cap L ∧ ∀ x ∈ L, OK x := by
  rcases open_slice ht h with ⟨rfl, _⟩ | ⟨a', len, cap, m, n, D, Pl, rfl, _, hlc, hcm, hm, _, hx⟩
  · exact ⟨none, 0, [], rfl, SlR.nil _ _ _ _, by simp⟩
  · simp only [if_true] at hm
    subst hm
    have key : ∀ k, k ≤ len → ∃ (L : List α) (xs : List Value), L.length = k ∧ (∀ x ∈ L, OK x) ∧ elems r w (Old w) L xs ∧ ∀ j v, xs[j]? = some v → w.cell? (a'.add j) = some v := by
      intro k
      induction k with
      | zero => intro _; exact ⟨[], [], rfl, by simp, rfl, by simp⟩
      | succ k ih =>
        intro hk
        obtain ⟨L, xs, hL, hok, he, hcell⟩ := ih (by omega)
        obtain ⟨cs', h1, h2⟩ := hx k (by omega)
        obtain ⟨x, hxo, hrd⟩ := hel _ _ _ h2
        rw [hsz] at h1
        obtain ⟨_, hlen, hat⟩ := World.cells?_some h1
        refine ⟨L ++ [x], xs ++ cs', by simp [hL], ?_, he.snoc hrd, ?_⟩
        · intro y hy
          rcases List.mem_append.1 hy with hy | hy
          · exact hok y hy
          · obtain rfl : y = x := by simpa using hy
            exact hxo
        · intro j v hj
          have hll : xs.length = k * r.sz := by rw [he.len, hL]
          rcases Nat.lt_or_ge j (k * r.sz) with hlt | hge
          · rw [List.getElem?_append_left (by omega)] at hj
            exact hcell j v hj
          · rw [List.getElem?_append_right (by omega), hll] at hj
            have hjl : j - k * r.sz < r.sz := by
              have := (List.getElem?_eq_some_iff.1 hj).1
              rw [r.len hrd] at this
              exact this
            have := hat (j - k * r.sz) hjl
            rw [add_add, show k * r.sz + (j - k * r.sz) = j by omega] at this
            rw [this, hj]
    obtain ⟨L, xs, hL, hok, he, hcell⟩ := key len (Nat.le_refl _)
    subst hL
    refine ⟨some a', _, L, rfl, ⟨hlc, hcm, xs, he, fun hpos => ?_⟩, hok⟩
    have hll : xs.length = L.length * r.sz := he.len
    have hpos' : 0 < L.length * r.sz := Nat.mul_pos hpos h0
    have h00 := hcell 0 _ (List.getElem?_eq_getElem (by omega))
    have ha0 : a'.add 0 = a' := by simp [Addr.add]
    rw [ha0] at h00
    obtain ⟨g1, g2⟩ := cell_none h00
    obtain ⟨b, off, sp⟩ := a'
    subst g1
    refine ⟨b, off, rfl, g2, fun j v hj => ?_⟩
    have := hcell j v hj
    rwa [Addr.add_lit] at this
theorem slr_Trod {t e : TypeId} (ht : P.underlying t = some (.slice e)) (r : Rp α) (hsz : P.cellsOf e = r.sz) (h0 : 0 < r.sz) (OK : α → Prop)
    (hel : ∀ n cs y, DataW.trod enc P w 0 (fun _ => true) true n e cs = some y → ∃ x, OK x ∧ r.rd w (Old w) x cs)
    {q : Reach} {b0 : Nat} {v : Value} {d : DataW H} {ps : List MemPlace} (hval : Value.okWide P w q b0 t v) (hd : DataW.Trod enc P w 0 (fun _ => true) true t v d ps) :
    ∃ (A : Option Addr) (cap : Nat) (L : List α), v = .slice A L.length cap ∧ SlR r w (Old w) A cap L ∧ ∀ x ∈ L, OK x := by
  obtain ⟨a, len, cap, rfl⟩ := okWide_slice ht hval
  obtain ⟨fuel, hf⟩ := hd
  obtain ⟨A, c, L, h1, h2, h3⟩ := slr_trod ht r hsz h0 OK hel hf
  simp [Value.cells] at h1
  obtain ⟨rfl, rfl, rfl⟩ := h1
  exact ⟨_, _, L, rfl, h2, h3⟩
theorem fld {base : Nat} {spare : Nat → Bool} {held : Bool} {fs : Array Field} {m : Nat} {cs : List Value} {xs : List (DataW H × List MemPlace)} (hf : ∀ (i : Nat) (f : Field), fs[i]? = some f → DataW.trod enc P w base spare held m f.type ((cs.drop f.offset).take (P.cellsOf f.type)) = xs[i]?)
    (i t o k : Nat) (h1 : (fs[i]?).map (fun f => (f.type, f.offset)) = some (t, o)) (hk : P.cellsOf t = k) {x : DataW H × List MemPlace} (hx : xs[i]? = some x) : DataW.trod enc P w base spare held m t ((cs.drop o).take k) = some x := by
  cases hi : fs[i]? with
  | none => rw [hi] at h1; cases h1
  | some f =>
    rw [hi] at h1
    simp only [Option.map_some, Option.some.injEq, Prod.mk.injEq] at h1
    have := hf i f hi
    rw [h1.1, h1.2, hk, hx] at this
    exact this
def In64 (n : Int) : Prop := -9223372036854775808 ≤ n ∧ n ≤ 9223372036854775807
theorem wf_In64 {n : Int} (h : (Lit.int .i64 n).wf = true) : In64 n := by
  simp only [Lit.wf, Bool.and_eq_true, decide_eq_true_eq] at h
  have h1 : IntKind.i64.min = -9223372036854775808 := rfl
  have h2 : IntKind.i64.max = 9223372036854775807 := rfl
  rw [h1, h2] at h
  exact h
theorem int_trod {base : Nat} {spare : Nat → Bool} {held : Bool} {t : TypeId} (ht : P.underlying t = some (.int .i64)) {n : Nat} {cs : List Value} {y : DataW H × List MemPlace} (h : DataW.trod enc P w base spare held n t cs = some y) : ∃ z : Int, In64 z ∧ cs = [.int .i64 z] := by
  obtain ⟨a0, e0, _, w0⟩ := DataW.trod_int ht h
  exact ⟨a0, wf_In64 w0, e0⟩
end
end Go.Eng
