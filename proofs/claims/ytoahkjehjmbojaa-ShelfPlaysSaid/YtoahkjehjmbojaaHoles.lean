/- An owned list with one element apart; arrays as owned lists; parts of owned lists. -/
import Derived.Test.YtoahkjehjmbojaaStores
set_option linter.unusedVariables false
set_option linter.unusedSimpArgs false
namespace Go.Eng
open Go
section
variable {α : Type} {r : Rp α} {P : Program} {w w0 : World} {K : Nat → Prop} {Gs : List Grp} {G Gn Gr : Grp} {e T : TypeId} {A : Option Addr} {c j : Nat} {L : List α} {x : α} {cs : List Value}
/-- An owned list, one element of which is apart: its cells are cs. -/
def SlH (e : TypeId) (r : Rp α) (A : Option Addr) (c : Nat) (L : List α) (j : Nat) (cs : List Value) (G : Grp) : Prop :=
  ∃ b off cur xa xb Ga Gb, A = some ⟨b, off, none⟩ ∧ j < L.length ∧ L.length ≤ c ∧ c ≤ maxLen ∧ 0 < c ∧ cs.length = r.sz ∧ G = [(b, Obj.cells cur e (0, 0))] ++ (Ga ++ Gb) ∧ off + c * r.sz ≤ cur.size ∧ xa.length = j * r.sz ∧ (xa ++ cs ++ xb).length = L.length * r.sz ∧
    (cur.toList.drop off).take (L.length * r.sz) = xa ++ cs ++ xb ∧ ∀ x' cs' Gn', r.own x' cs' Gn' → elemsO r (L.set j x') (xa ++ cs' ++ xb) (Ga ++ Gn' ++ Gb)
theorem SlO.hole (h : SlO e r (.slice A L.length c) L G) (hj : L[j]? = some x) : ∃ cs Gn Gr, r.own x cs Gn ∧ SlH e r A c L j cs Gr ∧ G.Perm (Gn ++ Gr) := by
  obtain ⟨xs, G0, G1, ⟨hl, hrow⟩, h2, rfl⟩ := h
  have hlt : j < L.length := (List.getElem?_eq_some_iff.1 hj).1
  rcases hrow with ⟨A', hv', hz, _⟩ | ⟨b, off, cap, cur, hv', hpos, rfl, hnc, hcm, hfit, ht⟩
  · omega
  cases hv'
  obtain ⟨xa, cs, xb, Ga, Gn, Gb, rfl, hxa, rfl, hown, hset⟩ := h2.at hj
  refine ⟨cs, Gn, [(b, Obj.cells cur e (0, 0))] ++ (Ga ++ Gb), hown, ⟨b, off, cur, xa, xb, Ga, Gb, rfl, hlt, hnc, hcm, hpos, r.lenO hown, rfl, hfit, hxa, hl, ht, hset⟩, ?_⟩
  have h1 : ([(b, Obj.cells cur e (0, 0))] ++ (Ga ++ Gn ++ Gb)) = ([(b, Obj.cells cur e (0, 0))] ++ Ga) ++ (Gn ++ Gb) := by simp
  have h2 : (Gn ++ ([(b, Obj.cells cur e (0, 0))] ++ (Ga ++ Gb))) = Gn ++ (([(b, Obj.cells cur e (0, 0))] ++ Ga) ++ Gb) := by simp
  rw [h1, h2]
  exact (List.perm_append_comm_assoc _ _ _)
theorem SlH.cap (h : SlH e r A c L j cs G) : L.length ≤ c := by
  obtain ⟨_, _, _, _, _, _, _, _, _, h, _⟩ := h
  exact h
theorem SlH.key (h : SlH e r A c L j cs G) {b off : Nat} (eA : A = some ⟨b, off, none⟩) : b ∈ keys G := by
  obtain ⟨b', off', cur, xa, xb, Ga, Gb, e1, _, _, _, _, _, rfl, _⟩ := h
  rw [e1] at eA
  cases eA
  simp [keys]
theorem SlH.cells (h : SlH e r A c L j cs G) (hG : ∀ b o, (b, o) ∈ G → w.heap[b]? = some o) {b off : Nat} (eA : A = some ⟨b, off, none⟩) : cellsAt w b (off + j * r.sz) cs := by
  obtain ⟨b', off', cur, xa, xb, Ga, Gb, e1, hj, hnc, hcm, hpos, hcs, rfl, hfit, hxa, hl, ht, hset⟩ := h
  rw [e1] at eA
  cases eA
  have hb := hG b _ (List.mem_append_left _ (List.mem_singleton.2 rfl))
  have hc := cellsAt.of_blk (off := off) (cs := xa ++ cs ++ xb) hb (by rw [hl]; exact ht)
  intro i u hi
  have : (xa ++ cs ++ xb)[j * r.sz + i]? = some u := by
    rw [List.append_assoc, List.getElem?_append_right (by omega), hxa, Nat.add_sub_cancel_left, List.getElem?_append_left (List.getElem?_eq_some_iff.1 hi).1]
    exact hi
  rw [Nat.add_assoc]
  exact hc _ _ this
/-- A part of the element that is apart is written over. -/
theorem St.storeH (S : St w0 K w (G :: Gs)) (h : SlH e r A c L j cs G) {m : Nat} (hs : sizeT P T = some m) {b off : Nat} (eA : A = some ⟨b, off, none⟩) {v : Value} (ca cm cb : List Value) (hc0 : cs = ca ++ cm ++ cb) (hm : v.cells.size = m) (hcm : cm.length = m) (hv1 : v.cells.toList.all Value.oneCell' = true) : ∃ w1 G',
    (∀ {N : FN} {l : Fr} {p z : Operand} {dst : Option Tmp} {ty : TypeId} {pos : String} {aft : Array Edge} {g : Option (Nat × Bool)}, ev l p = some (.pointer (some ⟨b, off + j * r.sz + ca.length, none⟩)) → ev l z = some v → GU P N l w ⟨dst, .store T p z, ty, pos, aft, g⟩ w1) ∧
    SlH e r A c L j (ca ++ v.cells.toList ++ cb) G' ∧ St w0 K w1 (G' :: Gs) := by
  obtain ⟨b', off', cur, xa, xb, Ga, Gb, e1, hj, hnc, hcx, hpos, hcs, rfl, hfit, hxa, hl, ht, hset⟩ := h
  rw [e1] at eA
  cases eA
  subst hc0
  have S1 : St w0 K w ([(b, Obj.cells cur e (0, 0))] :: (Ga ++ Gb) :: Gs) := S.split
  have hls : L.length * r.sz ≤ c * r.sz := Nat.mul_le_mul_right _ hnc
  have hvl : v.cells.toList.length = m := by rw [Array.length_toList, hm]
  have hsum : ca.length + m + cb.length = r.sz := by have := hcs; simp only [List.length_append] at this; omega
  have hxl : xa.length + r.sz + xb.length = L.length * r.sz := by rw [← hl, ← hcs]; simp only [List.length_append]
  have hroom : off + j * r.sz + ca.length + v.cells.size ≤ cur.size := by omega
  obtain ⟨w1, hU, S2⟩ := St.store (P := P) S1 0 T v (off := off + j * r.sz + ca.length) (cur' := over cur (off + j * r.sz + ca.length) v.cells.toList) rfl (by rw [hm]; exact hs) (by simpa [Nat.ble_eq] using hroom) hv1 rfl
  have hsz' : (over cur (off + j * r.sz + ca.length) v.cells.toList).size = cur.size := by simp [over]; omega
  refine ⟨w1, [(b, Obj.cells (over cur (off + j * r.sz + ca.length) v.cells.toList) e (0, 0))] ++ (Ga ++ Gb), hU, ⟨b, off, over cur (off + j * r.sz + ca.length) v.cells.toList, xa, xb, Ga, Gb, e1, hj, hnc, hcx, hpos, ?_, rfl, by rw [hsz']; exact hfit, hxa, ?_, ?_, hset⟩, St.join S2⟩
  · simp only [List.length_append, hvl]; omega
  · simp only [List.length_append, hvl]; omega
  · have hcl : cur.toList.length = cur.size := Array.length_toList
    have e1 : cur.toList = cur.toList.take off ++ (xa ++ (ca ++ cm ++ cb) ++ xb) ++ cur.toList.drop (off + L.length * r.sz) := by
      have h3 := (List.take_append_drop off cur.toList).symm
      have h4 := (List.take_append_drop (L.length * r.sz) (cur.toList.drop off)).symm
      have h5 : (cur.toList.drop off).take (L.length * r.sz) = xa ++ (ca ++ cm ++ cb) ++ xb := ht
      rw [h5, List.drop_drop] at h4
      rw [List.append_assoc, ← h4]
      exact h3
    have hto : (cur.toList.take off).length = off := by rw [List.length_take]; omega
    generalize cur.toList.take off = pa at e1 hto
    generalize cur.toList.drop (off + L.length * r.sz) = pz at e1
    have e2 : (over cur (off + j * r.sz + ca.length) v.cells.toList).toList = pa ++ (xa ++ (ca ++ v.cells.toList ++ cb) ++ xb) ++ pz := by
      simp only [over]
      rw [e1]
      have t1 : List.take (off + j * r.sz + ca.length) (pa ++ (xa ++ (ca ++ cm ++ cb) ++ xb) ++ pz) = pa ++ xa ++ ca := by
        have : pa ++ (xa ++ (ca ++ cm ++ cb) ++ xb) ++ pz = (pa ++ xa ++ ca) ++ (cm ++ cb ++ xb ++ pz) := by simp
        rw [this]
        exact List.take_left' (by simp only [List.length_append, hto, hxa])
      have t2 : List.drop (off + j * r.sz + ca.length + v.cells.toList.length) (pa ++ (xa ++ (ca ++ cm ++ cb) ++ xb) ++ pz) = cb ++ xb ++ pz := by
        have : pa ++ (xa ++ (ca ++ cm ++ cb) ++ xb) ++ pz = (pa ++ xa ++ ca ++ cm) ++ (cb ++ xb ++ pz) := by simp
        rw [this]
        exact List.drop_left' (by simp only [List.length_append, hto, hxa, hcm, hvl])
      rw [t1, t2]
      simp
    rw [e2, List.append_assoc, List.drop_left' hto]
    exact List.take_left' (by simp only [List.length_append, hvl]; omega)
theorem SlH.shut (h : SlH e r A c L j cs Gr) (ho : r.own x cs Gn) : ∃ G', SlO e r (.slice A (L.set j x).length c) (L.set j x) G' ∧ (Gn ++ Gr).Perm G' := by
  obtain ⟨b', off', cur, xa, xb, Ga, Gb, rfl, hj, hnc, hcm, hpos, hcs, rfl, hfit, hxa, hl, ht, hset⟩ := h
  have hE := hset x cs Gn ho
  refine ⟨[(b', Obj.cells cur e (0, 0))] ++ (Ga ++ Gn ++ Gb), ⟨xa ++ cs ++ xb, [(b', Obj.cells cur e (0, 0))], Ga ++ Gn ++ Gb, ⟨hE.len, .inr ⟨b', off', c, cur, by rw [List.length_set], hpos, rfl, by rw [List.length_set]; exact hnc, hcm, hfit, by rw [List.length_set]; exact ht⟩⟩, hE, rfl⟩, ?_⟩
  have h1 : ([(b', Obj.cells cur e (0, 0))] ++ (Ga ++ Gn ++ Gb)) = ([(b', Obj.cells cur e (0, 0))] ++ Ga) ++ (Gn ++ Gb) := by simp
  have h2 : (Gn ++ ([(b', Obj.cells cur e (0, 0))] ++ (Ga ++ Gb))) = Gn ++ (([(b', Obj.cells cur e (0, 0))] ++ Ga) ++ Gb) := by simp
  rw [h1, h2]
  exact (List.perm_append_comm_assoc _ _ _)
theorem St.focusL (S : St w0 K w (G :: Gs)) (h : SlO e r (.slice A L.length c) L G) (hj : L[j]? = some x) : ∃ cs Gn Gr, r.own x cs Gn ∧ SlH e r A c L j cs Gr ∧ St w0 K w (Gn :: Gr :: Gs) := by
  obtain ⟨cs, Gn, Gr, h1, h2, h3⟩ := h.hole hj
  exact ⟨cs, Gn, Gr, h1, h2, S.perm (by simp only [List.flatten_cons, ← List.append_assoc]; exact h3.append_right _)⟩
theorem St.shutL (S : St w0 K w (Gn :: Gr :: Gs)) (h : SlH e r A c L j cs Gr) (ho : r.own x cs Gn) : ∃ G', SlO e r (.slice A (L.set j x).length c) (L.set j x) G' ∧ St w0 K w (G' :: Gs) := by
  obtain ⟨G', h1, h2⟩ := h.shut ho
  exact ⟨G', h1, S.perm (by simp only [List.flatten_cons, ← List.append_assoc]; exact h2.append_right _)⟩
/-- A list of an owned list of lists, still in its place; it can be taken apart. -/
theorem SlO.subH {e' : TypeId} {LL : List (List α)} {x : List α} (h : SlO e (Rp.slice e' r) (.slice A LL.length c) LL G) (hj : LL[j]? = some x) :
    ∃ A1 c1, SlG r A1 c1 x G ∧ (∃ Gn Gr, SlO e' r (.slice A1 x.length c1) x Gn ∧ SlH e (Rp.slice e' r) A c LL j [.slice A1 x.length c1] Gr ∧ G.Perm (Gn ++ Gr)) ∧
      SubOf e e' r A c LL G j x A1 c1 ∧ ∀ w : World, (∀ b o, (b, o) ∈ G → w.heap[b]? = some o) → ∃ b off, A = some ⟨b, off, none⟩ ∧ b ∈ keys G ∧ cellsAt w b (off + j * 1) [.slice A1 x.length c1] := by
  obtain ⟨cs, Gn, Gr, ⟨v, rfl, hown⟩, hH, hp⟩ := h.hole hj
  obtain ⟨A1, c1, rfl⟩ := hown.shape
  have hG1 : ∀ {b o}, (b, o) ∈ Gn → (b, o) ∈ G := fun hb => hp.mem_iff.2 (List.mem_append_left _ hb)
  have hG2 : ∀ {b o}, (b, o) ∈ Gr → (b, o) ∈ G := fun hb => hp.mem_iff.2 (List.mem_append_right _ hb)
  refine ⟨A1, c1, fun w hG => ?_, ⟨Gn, Gr, hown, hH, hp⟩, ⟨Gn, Gr, hp, hown, fun x' Gn' hl h' => ?_⟩, fun w hG => ?_⟩
  · exact (hown.rd (w := w) (fun b o hb => hG b o (hG1 hb))).mono (fun b hb => by rw [keys_perm hp, keys_append]; exact List.mem_append_left _ hb)
  · have hH' : SlH e (Rp.slice e' r) A c LL j [.slice A1 x'.length c1] Gr := by rw [hl]; exact hH
    obtain ⟨G', k1, k2⟩ := hH'.shut (x := x') (Gn := Gn') ⟨_, rfl, h'⟩
    exact ⟨G', k2.symm, k1⟩
  · have hc := hH
    obtain ⟨b, off, cur, xa, xb, Ga, Gb, e1, _, _, _, _, _, eG, _⟩ := hc
    refine ⟨b, off, e1, ?_, hH.cells (fun b o hb => hG b o (hG2 hb)) e1⟩
    have : (b, Obj.cells cur e (0, 0)) ∈ G := hG2 (by rw [eG]; simp)
    exact mem_keys this
theorem St.focusS {e' : TypeId} {LL : List (List α)} {x : List α} {A1 : Option Addr} {c1 : Nat} (S : St w0 K w (G :: Gs)) (h : ∃ Gn Gr, SlO e' r (.slice A1 x.length c1) x Gn ∧ SlH e (Rp.slice e' r) A c LL j [.slice A1 x.length c1] Gr ∧ G.Perm (Gn ++ Gr)) : ∃ Gn Gr, SlO e' r (.slice A1 x.length c1) x Gn ∧ SlH e (Rp.slice e' r) A c LL j [.slice A1 x.length c1] Gr ∧ St w0 K w (Gn :: Gr :: Gs) := by
  obtain ⟨Gn, Gr, h1, h2, h3⟩ := h
  exact ⟨Gn, Gr, h1, h2, S.perm (by simp only [List.flatten_cons, ← List.append_assoc]; exact h3.append_right _)⟩
/-- What stands behind in an owned list; the list itself is given up. -/
theorem SlO.tail {i : Nat} (hf : ∀ {x cs Gx}, r.own x cs Gx → Gx = []) (h : SlO e r (.slice A L.length c) L G) (hi : i ≤ L.length) : ∃ G' H, SlO e r (.slice (if c = i then A else A.map (·.add (i * r.sz))) (L.drop i).length (c - i)) (L.drop i) G' ∧ G.Perm (G' ++ H) := by
  obtain ⟨xs, G0, G1, ⟨hl, hrow⟩, h2, rfl⟩ := h
  have hG1 : G1 = [] := by
    clear hl hrow hi
    induction L generalizing xs G1 with
    | nil => exact h2.2
    | cons y L ih =>
      obtain ⟨cs, ys, Ga, Gb, _, rfl, h3, h4⟩ := h2
      rw [hf h3, ih _ _ h4]
      rfl
  subst hG1
  have h2' : elemsO r (L.drop i) (xs.drop (i * r.sz)) [] := by
    clear hl hrow hi
    induction i generalizing L xs with
    | zero => simpa using h2
    | succ i ih =>
      cases L with
      | nil => obtain ⟨rfl, _⟩ := h2; exact ⟨by simp, rfl⟩
      | cons y L =>
        obtain ⟨cs, ys, Ga, Gb, rfl, hE, h3, h4⟩ := h2
        obtain ⟨rfl, rfl⟩ : Ga = [] ∧ Gb = [] := by simpa using hE
        have := ih _ h4
        rw [List.drop_succ_cons, Nat.add_mul, Nat.one_mul, Nat.add_comm (i * r.sz), ← List.drop_drop, ← r.lenO h3, List.drop_left, r.lenO h3]
        exact this
  rcases hrow with ⟨A', hv', hz, rfl⟩ | ⟨b, off, cap, cur, hv', hpos, rfl, hnc, hcm, hfit, ht⟩
  · obtain rfl : L = [] := List.eq_nil_of_length_eq_zero hz
    cases hv'
    obtain rfl : i = 0 := by simpa using hi
    exact ⟨[], [], by simpa using SlO.zero e r _, by simp⟩
  · cases hv'
    by_cases hci : c = i
    · subst hci
      obtain rfl : L.length = c := by omega
      refine ⟨[], [(b, Obj.cells cur e (0, 0))], ?_, by simp⟩
      simpa using SlO.zero e r _
    · refine ⟨[(b, Obj.cells cur e (0, 0))], [], ⟨xs.drop (i * r.sz), [(b, Obj.cells cur e (0, 0))], [], ⟨by rw [List.length_drop, hl, List.length_drop, Nat.sub_mul], .inr ⟨b, off + i * r.sz, c - i, cur, ?_, by omega, rfl, by rw [List.length_drop]; omega, by omega, ?_, ?_⟩⟩, h2', by simp⟩, by simp⟩
      · rw [if_neg hci]; simp [Addr.add_lit]
      · have : i * r.sz + (c - i) * r.sz = c * r.sz := by rw [← Nat.add_mul]; congr 1; omega
        omega
      · rw [List.length_drop, ← List.drop_drop, Nat.sub_mul]
        rw [← ht, List.drop_take]
/-- The beginning of an owned list; the list itself is given up. -/
theorem SlO.head {i : Nat} (hf : ∀ {x cs Gx}, r.own x cs Gx → Gx = []) (h : SlO e r (.slice A L.length c) L G) (hi : i ≤ L.length) : SlO e r (.slice A (L.take i).length c) (L.take i) G := by
  obtain ⟨xs, G0, G1, ⟨hl, hrow⟩, h2, rfl⟩ := h
  have key : G1 = [] ∧ elemsO r (L.take i) (xs.take (i * r.sz)) [] := by
    clear hl hrow hi
    induction L generalizing xs G1 i with
    | nil => obtain ⟨rfl, rfl⟩ := h2; exact ⟨rfl, by simp [elemsO]⟩
    | cons y L ih =>
      obtain ⟨cs, ys, Ga, Gb, rfl, rfl, h3, h4⟩ := h2
      have h5 := hf h3
      subst h5
      have h6 := (ih _ _ (i := 0) h4).1
      subst h6
      refine ⟨rfl, ?_⟩
      cases i with
      | zero => simp [elemsO]
      | succ i =>
        refine ⟨cs, ys.take (i * r.sz), [], [], ?_, rfl, h3, (ih _ _ (i := i) h4).2⟩
        rw [Nat.add_mul, Nat.one_mul, Nat.add_comm, ← r.lenO h3, List.take_length_add_append]
  obtain ⟨rfl, h3⟩ := key
  refine ⟨xs.take (i * r.sz), G0, [], ⟨h3.len, ?_⟩, h3, rfl⟩
  rcases hrow with ⟨A', hv', hz, rfl⟩ | ⟨b, off, cap, cur, hv', hpos, rfl, hnc, hcm, hfit, ht⟩
  · obtain rfl : L = [] := List.eq_nil_of_length_eq_zero hz
    cases hv'
    exact .inl ⟨A, by simp, by simp, rfl⟩
  · cases hv'
    refine .inr ⟨b, off, c, cur, rfl, hpos, rfl, by rw [List.length_take]; omega, hcm, hfit, ?_⟩
    rw [← ht, List.take_take, List.length_take, Nat.min_eq_left hi, Nat.min_eq_left (Nat.mul_le_mul_right _ hi)]
theorem SlO.cutO {i j : Int} {M : List α} (hf : ∀ {x cs Gx}, r.own x cs Gx → Gx = []) (h : SlO e r (.slice A L.length c) L G) (hc : cut L i j = some M) : ∃ G' H, SlO e r (.slice (subA A c i r.sz) M.length (c - i.toNat)) M G' ∧ G.Perm (G' ++ H) := by
  obtain ⟨a, b, rfl, rfl, hab, hb, hM⟩ := cut_spec hc
  have h1 := (h.head hf hb).tail hf (i := a) (by rw [List.length_take]; omega)
  rw [← hM] at h1
  exact h1
theorem St.cutO {i j : Int} {M : List α} (S : St w0 K w (G :: Gs)) (hf : ∀ {x cs Gx}, r.own x cs Gx → Gx = []) (h : SlO e r (.slice A L.length c) L G) (hc : cut L i j = some M) : ∃ G', SlO e r (.slice (subA A c i r.sz) M.length (c - i.toNat)) M G' ∧ St w0 K w (G' :: Gs) := by
  obtain ⟨G', H, h1, h2⟩ := h.cutO hf hc
  have S1 : St w0 K w ((G' ++ H) :: Gs) := S.perm (by simp only [List.flatten_cons]; exact h2.append_right _)
  have S2 : St w0 K w (H :: G' :: Gs) := S1.perm (by simp only [List.flatten_cons, ← List.append_assoc]; exact List.perm_append_comm.append_right _)
  exact ⟨G', h1, S2.drop⟩
theorem plain_own {β : Type} {cf : β → List Value} {sz : Nat} {h0 : ∀ x, (cf x).length = sz} {h1 : ∀ x, (cf x).all Value.oneCell' = true} {y : β} {cs : List Value} {Gx : Grp} (h : (Rp.plain cf sz h0 h1).own y cs Gx) : Gx = [] := h.2
/-- An element's address in an array. -/
theorem G.idxav {N : FN} {l : Fr} {dst : Option Tmp} {ty : TypeId} {pos : String} {aft : Array Edge} {g : Option (Nat × Bool)} {t : TypeId} {sz : Nat} {y i : Operand} {b b' o n j : Nat} {k : IntKind} {z : Int} (hT : arEl P t = some (n, sz)) (hx : ev l y = some (.pointer (some ⟨b, 0, none⟩))) (eA : (some ⟨b, 0, none⟩ : Option Addr) = some ⟨b', o, none⟩) (hi : ev l i = some (.int k z)) (hz : z = (j : Int)) (hj : j < n) :
    GP P N l ⟨dst, .indexAddr t y i, ty, pos, aft, g⟩ (.pointer (some ⟨b', o + j * sz, none⟩)) := by
  subst hz
  cases eA
  exact G.idxa hT hx hi hj rfl
end
end Go.Eng
