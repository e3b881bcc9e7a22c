/- Elements of owned lists written over; lists of lists that are owned. -/
import Derived.Test.YtpdpfiaediadgaaDoorPool
set_option linter.unusedVariables false
namespace Go.Eng
open Go
def upd {α : Type} (L : List α) (i : Int) (x : α) : Option (List α) := if 0 ≤ i ∧ i.toNat < L.length then some (L.set i.toNat x) else none
theorem upd_spec {α : Type} {L M : List α} {i : Int} {x : α} (h : upd L i x = some M) : ∃ j : Nat, i = (j : Int) ∧ j < L.length ∧ M = L.set j x := by
  unfold upd at h
  obtain ⟨h0, h1⟩ := guard_some h
  exact ⟨i.toNat, by omega, h0.2, (some_eq h1).symm⟩
theorem upd_spec' {α : Type} {L M : List α} {i : Int} {j : Nat} {x : α} (h : upd L i x = some M) (hi : i = (j : Int)) : M = L.set j x := by
  obtain ⟨k, rfl, _, h2⟩ := upd_spec h
  rw [h2, show k = j by omega]
theorem upd_at {α : Type} {L : List α} {j : Nat} {x : α} (h : j < L.length) : upd L (j : Int) x = some (L.set j x) := by
  unfold upd
  rw [if_pos ⟨by omega, by simpa using h⟩]
  simp
section
variable {α : Type} {r : Rp α}
/-- One element apart. -/
theorem elemsO.at : ∀ {L : List α} {xs : List Value} {G : Grp} {j : Nat} {x : α}, elemsO r L xs G → L[j]? = some x →
    ∃ xa cs xb Ga Gn Gb, xs = xa ++ cs ++ xb ∧ xa.length = j * r.sz ∧ G = Ga ++ Gn ++ Gb ∧ r.own x cs Gn ∧ ∀ x' cs' Gn', r.own x' cs' Gn' → elemsO r (L.set j x') (xa ++ cs' ++ xb) (Ga ++ Gn' ++ Gb)
  | [], _, _, j, x, _, hj => by simp at hj
  | y :: L, _, _, 0, x, ⟨cs, ys, G1, G2, e, eG, h1, h2⟩, hj => by
    simp only [List.getElem?_cons_zero, Option.some.injEq] at hj
    subst hj; subst e; subst eG
    exact ⟨[], cs, ys, [], G1, G2, rfl, by simp, rfl, h1, fun x' cs' Gn' h => ⟨cs', ys, Gn', G2, rfl, rfl, h, h2⟩⟩
  | y :: L, _, _, j + 1, x, ⟨cs, ys, G1, G2, e, eG, h1, h2⟩, hj => by
    simp only [List.getElem?_cons_succ] at hj
    subst e; subst eG
    obtain ⟨xa, ds, xb, Ga, Gn, Gb, rfl, hl, rfl, k1, k2⟩ := elemsO.at h2 hj
    refine ⟨cs ++ xa, ds, xb, G1 ++ Ga, Gn, Gb, by simp, by rw [List.length_append, r.lenO h1, hl, Nat.add_mul, Nat.one_mul, Nat.add_comm], by simp, k1, fun x' cs' Gn' h => ?_⟩
    exact ⟨cs, xa ++ cs' ++ xb, G1, Ga ++ Gn' ++ Gb, by simp, by simp, h1, k2 x' cs' Gn' h⟩
variable {P : Program} {w w0 : World} {K : Nat → Prop} {Gs : List Grp} {G : Grp}
/-- An element of an owned list is written over. -/
theorem St.storeE {c : α → List Value} {sz : Nat} {h0 : ∀ x, (c x).length = sz} {h1 : ∀ x, (c x).all Value.oneCell' = true} (S : St w0 K w (G :: Gs)) {e T : TypeId} {A : Option Addr} {cap : Nat} {L : List α} (h : SlO e (Rp.plain c sz h0 h1) (.slice A L.length cap) L G)
    (hs : sizeT P T = some sz) {j : Nat} (hj : j < L.length) {b off : Nat} (eA : A = some ⟨b, off, none⟩) (y : α) {v : Value} (hv : v.cells.toList = c y) : ∃ w1 G',
    (∀ {N : Nat} {l : Fr} {p z : Operand} {dst : Option Tmp} {ty : TypeId} {pos : String} {aft : Array Edge} {g : Option (Nat × Bool)}, ev l p = some (.pointer (some ⟨b, off + j * sz, none⟩)) → ev l z = some v → GU P N l w ⟨dst, .store T p z, ty, pos, aft, g⟩ w1) ∧
    SlO e (Rp.plain c sz h0 h1) (.slice A (L.set j y).length cap) (L.set j y) G' ∧ St w0 K w1 (G' :: Gs) := by
  obtain ⟨xs, G0, G1, ⟨hl, hrow⟩, h2, rfl⟩ := h
  rcases hrow with ⟨A', hv', hz, _⟩ | ⟨b', off', cap', cur, hv', hpos, rfl, hnc, hcm, hfit, ht⟩
  · omega
  cases hv'
  cases eA
  obtain ⟨xa, cs, xb, Ga, Gn, Gb, rfl, hxa, rfl, hown, hset⟩ := h2.at (List.getElem?_eq_getElem hj)
  obtain ⟨rfl, rfl⟩ := hown
  have hset := hset y (c y) [] ⟨rfl, rfl⟩
  have S1 : St w0 K w ([(b, Obj.cells cur e (0, 0))] :: (Ga ++ [] ++ Gb) :: Gs) := S.split
  have hcs : (c L[j]).length = sz := h0 _
  have hcy : (c y).length = sz := h0 _
  have hxa' : xa.length = j * sz := hxa
  have hfit : off + cap * sz ≤ cur.size := hfit
  have hll : (xa ++ c L[j] ++ xb).length = L.length * sz := hl
  have hls : L.length * sz ≤ cap * sz := Nat.mul_le_mul_right _ hnc
  have hxl : xa.length + sz + xb.length = L.length * sz := by rw [← hll]; simp only [List.length_append, hcs]
  have hvs : v.cells.size = sz := by rw [← Array.length_toList, hv, hcy]
  have hroom : off + j * sz + v.cells.size ≤ cur.size := by omega
  obtain ⟨w1, hU, S2⟩ := St.store (P := P) S1 0 T v (off := off + j * sz) (cur' := over cur (off + j * sz) (c y)) rfl (by rw [hvs]; exact hs) (by simpa [Nat.ble_eq] using hroom) (by rw [hv]; exact h1 y) (by rw [hv])
  have hsz' : (over cur (off + j * sz) (c y)).size = cur.size := by simp [over]; omega
  refine ⟨w1, [(b, Obj.cells (over cur (off + j * sz) (c y)) e (0, 0))] ++ (Ga ++ [] ++ Gb), hU, ⟨xa ++ c y ++ xb, [(b, Obj.cells (over cur (off + j * sz) (c y)) e (0, 0))], Ga ++ [] ++ Gb, ⟨?_, .inr ⟨b, off, cap, _, by rw [List.length_set], hpos, rfl, by rw [List.length_set]; exact hnc, hcm, by rw [hsz']; exact hfit, ?_⟩⟩, hset, rfl⟩, St.join S2⟩
  · simp only [List.length_append, List.length_set, hcy]; exact hxl
  · have hcl : cur.toList.length = cur.size := Array.length_toList
    rw [List.length_set]
    -- the parts of what lay there
    have e1 : cur.toList = cur.toList.take off ++ (xa ++ c L[j] ++ xb) ++ cur.toList.drop (off + L.length * sz) := by
      have h3 := (List.take_append_drop off cur.toList).symm
      have h4 := (List.take_append_drop (L.length * sz) (cur.toList.drop off)).symm
      have h5 : (cur.toList.drop off).take (L.length * sz) = xa ++ c L[j] ++ xb := ht
      rw [h5, List.drop_drop] at h4
      rw [List.append_assoc, ← h4]
      exact h3
    have hto : (cur.toList.take off).length = off := by rw [List.length_take]; omega
    generalize cur.toList.take off = pa at e1 hto
    generalize cur.toList.drop (off + L.length * sz) = pz at e1
    have e2 : (over cur (off + j * sz) (c y)).toList = pa ++ (xa ++ c y ++ xb) ++ pz := by
      simp only [over]
      rw [e1]
      have t1 : List.take (off + j * sz) (pa ++ (xa ++ c L[j] ++ xb) ++ pz) = pa ++ xa := by
        have : pa ++ (xa ++ c L[j] ++ xb) ++ pz = (pa ++ xa) ++ (c L[j] ++ xb ++ pz) := by simp
        rw [this]
        exact List.take_left' (by rw [List.length_append, hto, hxa'])
      have t2 : List.drop (off + j * sz + (c y).length) (pa ++ (xa ++ c L[j] ++ xb) ++ pz) = xb ++ pz := by
        have : pa ++ (xa ++ c L[j] ++ xb) ++ pz = (pa ++ xa ++ c L[j]) ++ (xb ++ pz) := by simp
        rw [this]
        exact List.drop_left' (by simp only [List.length_append, hto, hxa', hcs, hcy])
      rw [t1, t2]
      simp
    rw [e2, List.append_assoc, List.drop_left' hto]
    exact List.take_left' (by simp only [List.length_append, hcy]; exact hxl)
/-- A list of an owned list of lists. -/
def SubOf (e e' : TypeId) (r : Rp α) (A : Option Addr) (cc : Nat) (LL : List (List α)) (G : Grp) (j : Nat) (x : List α) (A1 : Option Addr) (c1 : Nat) : Prop := ∃ Gn Gf : Grp, G.Perm (Gn ++ Gf) ∧ SlO e' r (.slice A1 x.length c1) x Gn ∧
  ∀ x' Gn', x'.length = x.length → SlO e' r (.slice A1 x'.length c1) x' Gn' → ∃ G' : Grp, G'.Perm (Gn' ++ Gf) ∧ SlO e (Rp.slice e' r) (.slice A (LL.set j x').length cc) (LL.set j x') G'
theorem keys_perm {G H : Grp} (h : G.Perm H) {b : Nat} : b ∈ keys G ↔ b ∈ keys H := (h.map Prod.fst).mem_iff
theorem SlO.sub {e e' : TypeId} {A : Option Addr} {cc : Nat} {LL : List (List α)} (h : SlO e (Rp.slice e' r) (.slice A LL.length cc) LL G) {j : Nat} {x : List α} (hj : LL[j]? = some x) :
    ∃ A1 c1, SlG r A1 c1 x G ∧ SubOf e e' r A cc LL G j x A1 c1 ∧ ∀ w : World, (∀ b o, (b, o) ∈ G → w.heap[b]? = some o) → ∃ b off, A = some ⟨b, off, none⟩ ∧ b ∈ keys G ∧ cellsAt w b (off + j * 1) [.slice A1 x.length c1] := by
  have hrd := h
  obtain ⟨xs, G0, G1, hrow, h2, rfl⟩ := h
  obtain ⟨xa, cs, xb, Ga, Gn, Gb, rfl, hxa, rfl, ⟨v, rfl, hown⟩, hset⟩ := h2.at hj
  obtain ⟨A1, c1, rfl⟩ := hown.shape
  have hp : (G0 ++ (Ga ++ Gn ++ Gb)).Perm (Gn ++ (G0 ++ (Ga ++ Gb))) := by
    have h1 : (G0 ++ (Ga ++ Gn ++ Gb)) = (G0 ++ Ga) ++ (Gn ++ Gb) := by simp
    have h2 : (Gn ++ (G0 ++ (Ga ++ Gb))) = Gn ++ ((G0 ++ Ga) ++ Gb) := by simp
    rw [h1, h2]
    exact (List.perm_append_comm_assoc _ _ _)
  refine ⟨A1, c1, fun w hG => ?_, ⟨Gn, G0 ++ (Ga ++ Gb), hp, hown, fun x' Gn' hl h' => ?_⟩, fun w hG => ?_⟩
  · have h3 := hown.rd (w := w) (fun b o hb => hG b o (by simp [hb]))
    exact h3.mono (fun b hb => by simp only [keys_append, List.mem_append]; exact .inr (.inl (.inr hb)))
  · refine ⟨G0 ++ (Ga ++ Gn' ++ Gb), ?_, xa ++ [.slice A1 x.length c1] ++ xb, G0, Ga ++ Gn' ++ Gb, by rw [List.length_set]; exact hrow, hset x' [.slice A1 x.length c1] Gn' ⟨_, by rw [hl], h'⟩, rfl⟩
    have h1 : (G0 ++ (Ga ++ Gn' ++ Gb)) = (G0 ++ Ga) ++ (Gn' ++ Gb) := by simp
    have h2 : (Gn' ++ (G0 ++ (Ga ++ Gb))) = Gn' ++ ((G0 ++ Ga) ++ Gb) := by simp
    rw [h1, h2]
    exact (List.perm_append_comm_assoc _ _ _)
  · obtain ⟨b, off, cs, k1, k2, k3, k4⟩ := SlR.at_ (hrd.rd hG) hj
    refine ⟨b, off, k1, k2, ?_⟩
    have h3 := elemsO.low (w := w) h2 (fun b o hb => hG b o (List.mem_append_right _ hb))
    have hlt : j < LL.length := (List.getElem?_eq_some_iff.1 hj).1
    obtain ⟨hl, hrow⟩ := hrow
    rcases hrow with ⟨A', hv', hz, _⟩ | ⟨b', off', cap', cur, hv', hpos, rfl, hnc, hcm, hfit, ht⟩
    · omega
    · cases hv'
      cases k1
      have hbw := hG b _ (List.mem_append_left _ (List.mem_singleton.2 rfl))
      have hc := cellsAt.of_blk (off := off) (cs := xa ++ [.slice A1 x.length c1] ++ xb) hbw (by rw [hl]; exact ht)
      intro i u hi
      have h5 : (xa ++ [Value.slice A1 x.length c1] ++ xb)[j * 1 + i]? = some u := by
        have hsz : (Rp.slice e' r).sz = 1 := rfl
        rw [hsz] at hxa
        cases i with
        | zero => rw [List.append_assoc, List.getElem?_append_right (by omega), hxa]; simpa using hi
        | succ i => simp at hi
      rw [Nat.add_assoc]
      exact hc _ _ h5
/-- An element of a list of an owned list of lists is written over. -/
theorem St.store2 {c : α → List Value} {sz : Nat} {h0 : ∀ x, (c x).length = sz} {h1 : ∀ x, (c x).all Value.oneCell' = true} (S : St w0 K w (G :: Gs)) {e e' T : TypeId} {A : Option Addr} {cc : Nat} {LL : List (List α)} {j : Nat} {x : List α} {A1 : Option Addr} {c1 : Nat}
    (h : SubOf e e' (Rp.plain c sz h0 h1) A cc LL G j x A1 c1) (hs : sizeT P T = some sz) {i : Nat} (hi : i < x.length) {b off : Nat} (eA : A1 = some ⟨b, off, none⟩) (y : α) {v : Value} (hv : v.cells.toList = c y) : ∃ w1 G',
    (∀ {N : Nat} {l : Fr} {p z : Operand} {dst : Option Tmp} {ty : TypeId} {pos : String} {aft : Array Edge} {g : Option (Nat × Bool)}, ev l p = some (.pointer (some ⟨b, off + i * sz, none⟩)) → ev l z = some v → GU P N l w ⟨dst, .store T p z, ty, pos, aft, g⟩ w1) ∧
    SlO e (Rp.slice e' (Rp.plain c sz h0 h1)) (.slice A (LL.set j (x.set i y)).length cc) (LL.set j (x.set i y)) G' ∧ St w0 K w1 (G' :: Gs) := by
  obtain ⟨Gn, Gf, hp, hO, hset⟩ := h
  have S1 : St w0 K w (Gn :: Gf :: Gs) := S.perm (by
    simp only [List.flatten_cons]
    have := hp.append_right Gs.flatten
    rw [List.append_assoc] at this
    exact this)
  obtain ⟨w1, Gn', hU, hO', S2⟩ := S1.storeE (P := P) hO hs hi eA y hv
  obtain ⟨G', hp', hO2⟩ := hset _ Gn' (List.length_set ..) hO'
  refine ⟨w1, G', hU, hO2, S2.perm ?_⟩
  simp only [List.flatten_cons]
  have := hp'.symm.append_right Gs.flatten
  rw [List.append_assoc] at this
  exact this
end
end Go.Eng
