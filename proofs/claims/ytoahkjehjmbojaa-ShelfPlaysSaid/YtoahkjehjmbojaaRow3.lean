/- A row's step: arguments opened, and shut again behind a walk that leaves all old blocks as they were. -/
import Derived.Below
import Derived.ChangeSame
import Derived.Deep.Slices
import Derived.WideKeyArgs
import Derived.WalkKit
import Derived.ProofKit
import Derived.OpenShut
import Derived.Test.YtoahkjehjmbojaaEng3
set_option linter.unusedVariables false
namespace Go.Eng
open Go Go.RowKit Go.WideShapes Go.ChangeShapes Go.Deep

section
variable {H : Type} {enc : TypeId × Value → H} {P : Program}
theorem post_below {f : Func} {s : ChangeSpec} {apart fresh handsOn again : Bool} {W W' : World} {args : Array Value} {v : Value} {ds gs : List (DataW H)} {before pa pv : List MemPlace}
    (hW : DataW.Whole enc P f.params.toList s.vars apart W args.toList ds gs before)
    (hres : ∀ (b : Nat) (sp : Nat → Bool) (hd : Bool), DataW.TrodAll enc P W' b sp hd f.resultTypes.toList (v.resultList f.resultTypes.size) (s.fn H (ds ++ gs)).results [])
    (hargs : ∀ sp : Nat → Bool, (∀ p ∈ before, sp p.block = true) → DataW.TrodAll enc P W' 0 sp true f.params.toList args.toList (s.fn H (ds ++ gs)).args pa)
    (hvars : ∀ sp : Nat → Bool, (∀ p ∈ before, sp p.block = true) → DataW.TrodVars enc P W' sp s.vars (s.fn H (ds ++ gs)).vars pv)
    (hps : before = pa ++ pv) (hb : Below W.heap.size W W')
    (hok : ∀ (j : Nat) (t : TypeId) (r : Value), f.resultTypes[j]? = some t → (v.resultList f.resultTypes.size)[j]? = some r → Value.okWide P W' .any 0 t r) :
    s.post enc P f apart fresh handsOn again W args v W' := by
  have hlt : ∀ p ∈ before, p.block < W.heap.size := fun p hp => hW.lt p hp
  have hold : ∀ p ∈ before, (fun b => decide (b < W.heap.size)) p.block = true := fun p hp => by simpa using hlt p hp
  refine ⟨ds, gs, before, [], pa, pv, hW, hres _ _ _, hargs _ hold, hvars _ hold, World.keptBut_mono (fun p hp => ⟨hp, ?_⟩) (hb.frame (· ∈ before)), fun _ => ?_⟩
  · rw [hps, List.mem_append] at hp
    exact Or.inr hp
  · obtain ⟨_, _, _, _, _, hz, hn⟩ := hW
    refine ⟨hok, _, _, ([] ++ pa) ++ pv, ⟨[] ++ pa, pv, trodAll_append (hargs _ (fun _ _ => rfl)) (hres _ _ _), hvars _ (fun _ _ => rfl), rfl, ?_, ?_⟩, ?_⟩
    · intro b off hp
      have hin : MemPlace.cell b off ∈ before := by rw [hps]; simpa using hp
      rw [hb.frozen (hlt _ hin)]
      exact hz b off hin
    · intro ha
      have := hn ha
      rw [hps] at this
      simpa using this
    · intro p hp _
      rw [hps]
      simpa using hp

/-- The arguments read as they did. -/
theorem args_below (hl : laidOutB P = true) {W W' : World} (hb : Below W.heap.size W W') : ∀ {ts : List TypeId} {vs : List Value} {ds : List (DataW H)} {ps : List MemPlace},
    ts.all (fun t => P.readableRec t && decide (t < P.types.size)) = true → DataW.TrodAll enc P W 0 (fun _ => true) true ts vs ds ps → (∀ x ∈ ps, x.block < W.heap.size) →
    ∀ sp : Nat → Bool, (∀ x ∈ ps, sp x.block = true) → DataW.TrodAll enc P W' 0 sp true ts vs ds ps
  | [], vs, ds, ps, _, h, _, sp, _ => by
    obtain ⟨rfl, rfl, rfl⟩ := trodAll_nil h
    exact trodAll_mk0
  | t :: ts, vs, ds, ps, ht, h, hlt, sp, hsp => by
    obtain ⟨v, vs1, d, ds1, a, b, rfl, rfl, rfl, h1, h2⟩ := trodAll_cons h
    simp only [List.all_cons, Bool.and_eq_true, decide_eq_true_eq] at ht
    obtain ⟨⟨hr, hrow⟩, hts⟩ := ht
    refine ⟨a, b, ?_, args_below hl hb (by simpa using hts) h2 (fun x hx => hlt x (by simp [hx])) sp (fun x hx => hsp x (by simp [hx])), rfl⟩
    exact WideElems.Trod_stays hl hr hrow h1 (fun x hx => hb.same (hlt x (by simp [hx]))) (fun x hx => hsp x (by simp [hx]))

/-- A slice that is handed in: what it reads. c: an element's cells; OK: what is known of an element. -/
theorem rd_of_trod {w : World} {t e : TypeId} (ht : P.underlying t = some (.slice e)) {α : Type} (c : α → List Value) {sz : Nat} (hsz : P.cellsOf e = sz) (h0 : 0 < sz) (OK : α → Prop)
    (hel : ∀ n cs y, DataW.trod enc P w 0 (fun _ => true) true n e cs = some y → ∃ x, OK x ∧ cs = c x) (hc : ∀ x, (c x).length = sz)
    {r : Reach} {b0 : Nat} {v : Value} {d : DataW H} {ps : List MemPlace} (hval : Value.okWide P w r b0 t v) (hd : DataW.Trod enc P w 0 (fun _ => true) true t v d ps) :
    ∃ (A : Option Addr) (cap : Nat) (L : List α), v = .slice A L.length cap ∧ Rd w A L.length sz (cellsOf c L) ∧ (∀ x ∈ L, OK x) ∧ L.length ≤ maxLen := by
  obtain ⟨a, len, cap, rfl⟩ := okWide_slice ht hval
  obtain ⟨fuel, hf⟩ := hd
  rcases open_slice ht hf with ⟨hcs, _⟩ | ⟨a', len', cap', m, n, D, Pl, hcs, _, hlc, hcm, hm, _, hx⟩
  · simp [Value.cells] at hcs
    obtain ⟨rfl, rfl, rfl⟩ := hcs
    exact ⟨none, 0, [], rfl, by simpa [cellsOf] using Rd.nil w none sz, by simp, by simp [maxLen]⟩
  · simp [Value.cells] at hcs
    obtain ⟨rfl, rfl, rfl⟩ := hcs
    simp only [if_true] at hm
    subst hm
    -- the elements, one by one
    have key : ∀ k, k ≤ len → ∃ L : List α, L.length = k ∧ (∀ x ∈ L, OK x) ∧ ∀ j v, (cellsOf c L)[j]? = some v → w.cell? (a'.add j) = some v := by
      intro k
      induction k with
      | zero => intro _; exact ⟨[], rfl, by simp, by simp [cellsOf]⟩
      | succ k ih =>
        intro hk
        obtain ⟨L, hL, hok, hcell⟩ := ih (by omega)
        obtain ⟨cs', h1, h2⟩ := hx k (by omega)
        obtain ⟨x, hxo, rfl⟩ := hel _ _ _ h2
        rw [hsz] at h1
        obtain ⟨_, hlen, hat⟩ := World.cells?_some h1
        refine ⟨L ++ [x], by simp [hL], ?_, ?_⟩
        · intro y hy
          rcases List.mem_append.1 hy with hy | hy
          · exact hok y hy
          · obtain rfl : y = x := by simpa using hy
            exact hxo
        · intro j v hj
          rw [cellsOf_append, cellsOf_one] at hj
          have hll : (cellsOf c L).length = k * sz := by rw [cellsOf_length hc, hL]
          rcases Nat.lt_or_ge j (k * sz) with hlt | hge
          · rw [List.getElem?_append_left (by omega)] at hj
            exact hcell j v hj
          · rw [List.getElem?_append_right (by omega), hll] at hj
            have hjl : j - k * sz < sz := by
              have := (List.getElem?_eq_some_iff.1 hj).1
              rw [hc] at this
              exact this
            have := hat (j - k * sz) hjl
            rw [add_add, show k * sz + (j - k * sz) = j by omega] at this
            rw [this, hj]
    obtain ⟨L, hL, hok, hcell⟩ := key len (Nat.le_refl _)
    subst hL
    refine ⟨some a', _, L, rfl, ⟨cellsOf_length hc L, fun hpos => ?_⟩, hok, by omega⟩
    have hll : (cellsOf c L).length = L.length * sz := cellsOf_length hc L
    have hpos' : 0 < L.length * sz := Nat.mul_pos hpos h0
    have h00 := hcell 0 _ (List.getElem?_eq_getElem (by omega))
    have ha0 : a'.add 0 = a' := by simp [Addr.add]
    rw [ha0] at h00
    obtain ⟨b, off, sp⟩ := a'
    have hsp : sp = none := by
      unfold World.cell? at h00
      cases sp with
      | none => rfl
      | some q => split at h00 <;> simp at h00
    subst hsp
    refine ⟨b, off, rfl, fun j v hj => ?_⟩
    have := hcell j v hj
    rwa [Addr.add_lit] at this
end
end Go.Eng
