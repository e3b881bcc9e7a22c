/- Lists that are kept: as a field of a thing; given in rows; with those that their owner goes through. -/
import Derived.Test.YtoahkjehjmbojaaHands
set_option linter.unusedVariables false
set_option linter.unusedSimpArgs false
namespace Go.Eng
open Go
section
variable {α : Type} {e e' : TypeId} {r : Rp α} {A AD : Option Addr} {c cD n : Nat} {LL LD : List (List α)} {G M GD : Grp}
theorem elemsO.noGrp (hf : ∀ {x cs G}, r.own x cs G → G = []) : ∀ {L : List α} {xs : List Value} {G : Grp}, elemsO r L xs G → G = []
  | [], _, _, h => h.2
  | x :: L, _, _, ⟨cs, ys, Ga, Gb, _, eG, k1, k2⟩ => by rw [eG, hf k1, elemsO.noGrp hf k2]; rfl
/-- What is owned reads so, wherever its blocks stand. -/
theorem SlO.ent {A : Option Addr} {c : Nat} {L : List α} {G : Grp} (h : SlO e r (.slice A L.length c) L G) (hf : ∀ {x cs G}, r.own x cs G → G = []) (hM : ∀ p ∈ G, p ∈ M) : EntIn r e M ⟨A, c, L⟩ := by
  obtain ⟨xs, G0, G1, h1, h2, rfl⟩ := h
  obtain rfl := elemsO.noGrp hf h2
  obtain ⟨hl, h1⟩ := h1
  rcases h1 with ⟨A', hv, h0, rfl⟩ | ⟨b, off, cap, cur, hv, hpos, rfl, hnc, hcm, hfit, ht⟩
  · obtain rfl : L = [] := List.eq_nil_of_length_eq_zero h0
    cases hv
    exact ⟨Nat.le_refl _, by simp [maxLen], [], ⟨rfl, rfl⟩, fun hp => absurd hp (by simp)⟩
  · cases hv
    exact ⟨hnc, hcm, xs, h2, fun _ => ⟨b, off, cur, rfl, hM _ (by simp), ht⟩⟩
theorem PoolP.mono {M' : Grp} (h : PoolP e e' r A c LL G M none) (hM : ∀ p ∈ M, p ∈ M') : PoolP e e' r A c LL G M' none := by
  obtain ⟨ents, h1, h2, h3, _⟩ := h
  exact ⟨ents, h1, h2, fun y hy => (h3 y hy).mono hM, by simp⟩
/-- Kept lists, as one thing. -/
def PoolO (e e' : TypeId) (r : Rp α) (A : Option Addr) (c : Nat) (LL : List (List α)) (G : Grp) : Prop := ∃ G0 M, PoolP e e' r A c LL G0 M none ∧ G = G0 ++ M
theorem PoolO.nil : PoolO e e' r none 0 ([] : List (List α)) [] := ⟨[], [], PoolP.nil, rfl⟩
theorem entsR {w : World} : ∀ {ents : List (Ent α)} {xs : List Value} {F : Nat → Prop}, elems Ent.rp w F ents xs → (∀ y ∈ ents, EntIn r e' M y) → (∀ b o, (b, o) ∈ M → w.heap[b]? = some o) → elems (Rp.slice e' r) w (· ∈ keys M) (ents.map Ent.L) xs
  | [], _, _, h, _, _ => h
  | x :: L, _, _, ⟨cs, ys, e1, h1, h2⟩, h3, hM => by
    have h1' : cs = [x.v] := h1
    subst h1'
    exact ⟨[x.v], ys, e1, ⟨x.A, x.c, rfl, (h3 x (by simp)).rd hM⟩, entsR h2 (fun y hy => h3 y (by simp [hy])) hM⟩
theorem PoolP.rd {w : World} (h : PoolP e e' r A c LL G M none) (hG : ∀ b o, (b, o) ∈ G → w.heap[b]? = some o) (hM : ∀ b o, (b, o) ∈ M → w.heap[b]? = some o) : SlR (Rp.slice e' r) w (fun b => b ∈ keys G ∨ b ∈ keys M) A c LL := by
  obtain ⟨ents, rfl, h2, h3, _⟩ := h
  obtain ⟨k1, k2, xs, k3, k4⟩ := h2.rd hG
  refine ⟨by simpa using k1, k2, xs, (entsR k3 h3 hM).mono (fun b hb => .inr hb), fun hp => ?_⟩
  obtain ⟨b, off, e1, e2, e3⟩ := k4 (by simpa using hp)
  exact ⟨b, off, e1, .inl e2, e3⟩
theorem PoolO.rd {w : World} (h : PoolO e e' r A c LL G) (hG : ∀ b o, (b, o) ∈ G → w.heap[b]? = some o) : SlR (Rp.slice e' r) w (· ∈ keys G) A c LL := by
  obtain ⟨G0, M, h1, rfl⟩ := h
  exact (h1.rd (fun b o hb => hG b o (by simp [hb])) (fun b o hb => hG b o (by simp [hb]))).mono (fun b hb => by simpa [keys_append] using hb)
/-- One of the kept lists. -/
theorem PoolO.at_ (h : PoolO e e' r A c LL G) {j : Nat} {x : List α} (hx : LL[j]? = some x) :
    ∃ A1 c1, SlG r A1 c1 x G ∧ ∀ w : World, (∀ b o, (b, o) ∈ G → w.heap[b]? = some o) → ∃ b off, A = some ⟨b, off, none⟩ ∧ b ∈ keys G ∧ cellsAt w b (off + j * 1) [.slice A1 x.length c1] := by
  obtain ⟨G0, M, ⟨ents, rfl, k2, k3, _⟩, rfl⟩ := h
  rw [List.getElem?_map] at hx
  obtain ⟨y, hy, rfl⟩ := Option.map_eq_some_iff.1 hx
  refine ⟨y.A, y.c, fun w hM => ((k3 y (List.mem_of_getElem? hy)).rd (fun b o hb => hM b o (by simp [hb]))).mono (fun b hb => by simp [keys_append, hb]), fun w hG => ?_⟩
  obtain ⟨b, off, cs, g1, g2, g3, g4⟩ := SlR.at_ (k2.rd (fun b o hb => hG b o (by simp [hb]))) hy
  have : cs = [y.v] := g4
  subst this
  exact ⟨b, off, g1, by simp [keys_append, g2], g3⟩
theorem PoolP.atK {tip : Option (Ent α)} (hP : PoolP e e' r A c LL G M tip) {j : Nat} {x : List α} (hx : LL[j]? = some x) :
    ∃ A1 c1, SlG r A1 c1 x M ∧ ∀ w : World, (∀ b o, (b, o) ∈ G → w.heap[b]? = some o) → ∃ b off, A = some ⟨b, off, none⟩ ∧ b ∈ keys G ∧ cellsAt w b (off + j * 1) [.slice A1 x.length c1] := by
  obtain ⟨ents, rfl, k2, k3, _⟩ := hP
  rw [List.getElem?_map] at hx
  obtain ⟨y, hy, rfl⟩ := Option.map_eq_some_iff.1 hx
  refine ⟨y.A, y.c, fun w hM => (k3 y (List.mem_of_getElem? hy)).rd hM, fun w hG => ?_⟩
  obtain ⟨b, off, cs, g1, g2, g3, g4⟩ := SlR.at_ (k2.rd hG) hy
  have : cs = [y.v] := g4
  subst this
  exact ⟨b, off, g1, g2, g3⟩
variable {P : Program} {w w0 : World} {K : Nat → Prop} {Gs : List Grp}
theorem St.unpool (S : St w0 K w (G :: Gs)) (h : PoolO e e' r A c LL G) : ∃ G0 M, PoolP e e' r A c LL G0 M none ∧ St w0 K w (G0 :: M :: Gs) := by
  obtain ⟨G0, M, h1, rfl⟩ := h
  exact ⟨G0, M, h1, S.split⟩
theorem St.repool (S : St w0 K w (G :: M :: Gs)) (h : PoolP e e' r A c LL G M none) : ∃ G', PoolO e e' r A c LL G' ∧ St w0 K w (G' :: Gs) := ⟨G ++ M, ⟨G, M, h, rfl⟩, S.join⟩
/-- None are kept: a list of lists that is owned. -/
theorem St.poolEmp (S : St w0 K w (G :: Gs)) (h : PoolO e e' r A c ([] : List (List α)) G) : ∃ G', SlO e (Rp.slice e' r) (.slice A ([] : List (List α)).length c) [] G' ∧ St w0 K w (G' :: Gs) := by
  obtain ⟨G0, M, ⟨ents, h1, h2, _, _⟩, rfl⟩ := h
  obtain rfl : ents = [] := by simpa using h1
  obtain ⟨xs, Ga, Gb, k1, k2, rfl⟩ := h2
  obtain ⟨rfl, rfl⟩ := k2
  exact ⟨Ga, ⟨[], Ga, [], k1, ⟨rfl, rfl⟩, by simp⟩, (S.perm (by simp) : St w0 K w (Ga :: M :: Gs)).perm (by simp only [List.flatten_cons, List.cons_append]; exact List.perm_append_comm_assoc _ _ _) |>.drop⟩
/-- An owned list joins the kept ones' memory. -/
theorem St.give {L : List α} (S : St w0 K w (G :: M :: Gs)) (h : SlO e' r (.slice A L.length c) L G) (hf : ∀ {x cs G}, r.own x cs G → G = []) : ∃ M', EntIn r e' M' ⟨A, c, L⟩ ∧ (∀ p ∈ M, p ∈ M') ∧ St w0 K w (M' :: Gs) :=
  ⟨G ++ M, h.ent hf (fun p hp => by simp [hp]), fun p hp => by simp [hp], S.join⟩
/-- A row of them is kept. -/
theorem PoolP.putL {xs : List (Ent α)} {LM : List (List α)} {bytes n m : Nat} (S : St w0 K w (G :: Gs)) {t : TypeId} (hT : Elt P t e 1 bytes) (hb : (Nat.ble (n * bytes) 140737488355328 && Nat.ble n 140737488355328) = true) {B : Option Addr} {d : Nat} (hP : PoolP e e' r A c LL G M none) (hx : ∀ y ∈ xs, EntIn r e' M y) (hr : Rd w B m 1 (xs.map Ent.v)) (hm : xs.length = m) (hc : catN n LL (xs.map Ent.L) = some LM) :
    ∃ A' c' G' w1, (∀ {N : FN} {l : Fr} {p q : Operand} {dst : Option Tmp} {ty : TypeId} {pos : String} {aft : Array Edge} {g : Option (Nat × Bool)}, ev l p = some (.slice A LL.length c) → ev l q = some (.slice B m d) →
        GE P N l w ⟨dst, .call { callee := .builtin .append, args := #[p, q], argTypes := #[t, t] }, ty, pos, aft, g⟩ (.slice A' LM.length c') w1) ∧
      PoolP e e' r A' c' LM G' M none ∧ St w0 K w1 (G' :: Gs) := by
  obtain ⟨ents, rfl, k2, k3, k4⟩ := hP
  obtain ⟨hle, rfl⟩ := cat_spec hc
  have hlm : (ents.map Ent.L).length = ents.length := List.length_map ..
  have hlx : (xs.map Ent.L).length = xs.length := List.length_map ..
  rw [hlm, hlx] at hle
  have hel : elemsO Ent.rp xs (xs.map Ent.v) [] := by
    clear hx hr hm hc hle hlx
    induction xs with
    | nil => exact ⟨rfl, rfl⟩
    | cons x xs ih => exact ⟨[x.v], xs.map Ent.v, [], [], rfl, rfl, ⟨rfl, rfl⟩, ih⟩
  obtain ⟨A', c', G', w1, hE, hO, S1, _⟩ := St.appP (P := P) (r := Ent.rp) (M := xs) (n := n) S hT hb k2 hr hel hm (cat_at hle)
  have hll : (ents.map Ent.L ++ xs.map Ent.L).length = (ents ++ xs).length := by simp
  refine ⟨A', c', G', w1, ?_, ⟨ents ++ xs, by simp, hO, ?_, by simp⟩, S1⟩
  · rw [hll, hlm]; exact hE
  · intro y hy
    rcases List.mem_append.1 hy with hy | hy
    · exact k3 y hy
    · exact hx y hy
/-! ### the lists that their owner goes through, and those that are kept meanwhile -/
/-- The first n lists of LD were given away (gh); the others are owned. -/
def SlK (e e' : TypeId) (r : Rp α) (A : Option Addr) (c : Nat) (LL : List (List α)) (n : Nat) (gh : List (Ent α)) (G : Grp) : Prop :=
  ∃ xs G0 G1, RowG e 1 (.slice A LL.length c) LL.length xs G0 ∧ elemsO (Rp.slice e' r) (LL.drop n) (xs.drop n) G1 ∧ xs.take n = gh.map Ent.v ∧ LL.take n = gh.map Ent.L ∧ G = G0 ++ G1
def PoolK (e e' : TypeId) (r : Rp α) (A : Option Addr) (c : Nat) (LL : List (List α)) (G M : Grp) (gh : List (Ent α)) (tip : Option (Ent α)) : Prop :=
  ∃ ents : List (Ent α), ents.map Ent.L = LL ∧ SlO e Ent.rp (.slice A ents.length c) ents G ∧ (∀ y ∈ ents ++ gh, EntIn r e' M y) ∧ ∀ x, tip = some x → TipIn r e' M (ents ++ gh) x
def PoolJ (e e' : TypeId) (r : Rp α) (A : Option Addr) (c : Nat) (LL : List (List α)) (G M : Grp) (tip : Option (Ent α)) (AD : Option Addr) (cD : Nat) (LD : List (List α)) (n : Nat) (GD : Grp) : Prop :=
  ∃ gh, SlK e e' r AD cD LD n gh GD ∧ PoolK e e' r A c LL G M gh tip
variable {tip : Option (Ent α)}
theorem PoolJ.start (hP : PoolP e e' r A c LL G M none) (h : SlO e (Rp.slice e' r) (.slice AD LD.length cD) LD GD) : PoolJ e e' r A c LL G M none AD cD LD 0 GD := by
  obtain ⟨xs, G0, G1, h1, h2, rfl⟩ := h
  obtain ⟨ents, k1, k2, k3, _⟩ := hP
  exact ⟨[], ⟨xs, G0, G1, h1, by simpa using h2, by simp, by simp, rfl⟩, ⟨ents, k1, k2, by simpa using k3, by simp⟩⟩
theorem ObjO.cast {β : Type} {T : TypeId} {rp : Rp β} {p : Nat} {x y : β} {G : Grp} (h : ObjO T rp p x G) (e : x = y) : ObjO T rp p y G := e ▸ h
theorem PoolJ.max (h : PoolJ e e' r A c LL G M tip AD cD LD n GD) : LD.length ≤ maxLen := by
  obtain ⟨_, ⟨xs, G0, G1, h1, _⟩, _⟩ := h
  obtain ⟨A', c', hv, h2, h3⟩ := h1.shape
  cases hv
  exact Nat.le_trans h2 h3
theorem PoolJ.toNat_succ {i : Int} {x : List α} (h : PoolJ e e' r A c LL G M tip AD cD LD n GD) (hx : idx LD i = some x) : (w64 (i + 1)).toNat = i.toNat + 1 := by
  obtain ⟨j, rfl, _, hj⟩ := idx_spec hx
  have := h.max
  have hm : maxLen = 9223372036854775807 := rfl
  rw [w64_succ (by omega)]
  omega
theorem PoolJ.cast {m : Nat} (h : PoolJ e e' r A c LL G M tip AD cD LD n GD) (hm : m = n) : PoolJ e e' r A c LL G M tip AD cD LD m GD := hm ▸ h
theorem PoolJ.untip (h : PoolJ e e' r A c LL G M tip AD cD LD n GD) : PoolJ e e' r A c LL G M none AD cD LD n GD := by
  obtain ⟨gh, h1, ents, k1, k2, k3, _⟩ := h
  exact ⟨gh, h1, ents, k1, k2, k3, by simp⟩
theorem PoolJ.done (h : PoolJ e e' r A c LL G M tip AD cD LD n GD) (hn : LD.length ≤ n) : PoolP e e' r A c LL G M none ∧ PoolP e e' r AD cD LD GD M none := by
  obtain ⟨gh, ⟨xs, G0, G1, h1, h2, h3, h4, rfl⟩, ents, k1, k2, k3, k4⟩ := h
  clear k4
  refine ⟨⟨ents, k1, k2, fun y hy => k3 y (by simp [hy]), by simp⟩, ?_⟩
  have hx : xs.length = LD.length * 1 := h1.1
  rw [List.drop_eq_nil_of_le hn, List.drop_eq_nil_of_le (by omega)] at h2
  obtain ⟨_, rfl⟩ := h2
  rw [List.take_of_length_le (by omega)] at h3
  rw [List.take_of_length_le hn] at h4
  subst h3; subst h4
  rw [List.length_map] at h1
  refine ⟨gh, rfl, ⟨gh.map Ent.v, G0, [], h1, ?_, rfl⟩, fun y hy => k3 y (by simp [hy]), by simp⟩
  clear k3 h1 hn hx k2 k1
  induction gh with
  | nil => exact ⟨rfl, rfl⟩
  | cons x xs ih => exact ⟨[x.v], xs.map Ent.v, [], [], rfl, rfl, ⟨rfl, rfl⟩, ih⟩
/-- The next list comes to be grown. -/
theorem PoolJ.next {x : List α} (S : St w0 K w (GD :: M :: Gs)) (h : PoolJ e e' r A c LL G M tip AD cD LD n GD) (hf : ∀ {x cs G}, r.own x cs G → G = []) (hx : LD[n]? = some x) :
    ∃ A1 c1 GD' M', (∃ b off, AD = some ⟨b, off, none⟩ ∧ cellsAt w b (off + n * 1) [.slice A1 x.length c1]) ∧ PoolJ e e' r A c LL G M' (some ⟨A1, c1, x⟩) AD cD LD (n + 1) GD' ∧ St w0 K w (GD' :: M' :: Gs) := by
  obtain ⟨gh, ⟨xs, G0, G1, hrow, h2, h3, h4, rfl⟩, ents, k1, k2, k3, _⟩ := h
  have hlt : n < LD.length := (List.getElem?_eq_some_iff.1 hx).1
  have hdr : LD.drop n = x :: LD.drop (n + 1) := by rw [List.drop_eq_getElem_cons hlt]; rw [List.getElem?_eq_getElem hlt] at hx; rw [Option.some.inj hx]
  rw [hdr] at h2
  obtain ⟨cs, ys, Gx, Gy, e1, rfl, ⟨v, rfl, hown⟩, h5⟩ := h2
  obtain ⟨A1, c1, rfl⟩ := hown.shape
  have hys : ys = xs.drop (n + 1) := by
    rw [← List.drop_drop, e1]; rfl
  subst hys
  have hat : xs[n]? = some (.slice A1 x.length c1) := by
    have := congrArg (·[0]?) e1
    simpa [List.getElem?_drop] using this
  have S1 : St w0 K w ((G0 ++ Gy) :: (Gx ++ M) :: Gs) := S.perm (by
    simp only [List.flatten_cons]
    have h1 : G0 ++ (Gx ++ Gy) ++ (M ++ Gs.flatten) = G0 ++ (Gx ++ (Gy ++ (M ++ Gs.flatten))) := by simp
    have h2 : G0 ++ Gy ++ (Gx ++ M ++ Gs.flatten) = G0 ++ (Gy ++ (Gx ++ (M ++ Gs.flatten))) := by simp
    rw [h1, h2]
    exact (List.perm_append_comm_assoc _ _ _).append_left _)
  have hdis : ∀ b, b ∈ keys M → b ∉ keys Gx := by
    intro b hM hx
    have hnd := S.hp.nd
    simp only [List.flatten_cons, keys_append] at hnd
    rw [List.nodup_append] at hnd
    exact hnd.2.2 b (by simp [keys_append, hx]) b (by simp [keys_append, hM]) rfl
  have htip : TipIn r e' (Gx ++ M) (ents ++ gh) ⟨A1, c1, x⟩ := hown.tip hf k3 hdis
  have htk : xs.take (n + 1) = xs.take n ++ [.slice A1 x.length c1] := by rw [List.take_add_one, hat]; rfl
  have htl : LD.take (n + 1) = LD.take n ++ [x] := by rw [List.take_add_one, hx]; rfl
  refine ⟨A1, c1, G0 ++ Gy, Gx ++ M, ?_, ⟨gh ++ [⟨A1, c1, x⟩], ⟨xs, G0, Gy, hrow, h5, by rw [htk, h3]; simp [Ent.v], by rw [htl, h4]; simp, rfl⟩, ents, k1, k2, ?_, fun z hz => ?_⟩, S1⟩
  · obtain ⟨hl, hrow⟩ := hrow
    rcases hrow with ⟨A', hv', hz, _⟩ | ⟨b, off, cap', cur, hv', hpos, rfl, hnc, hcm, hfit, ht⟩
    · omega
    · cases hv'
      have hbw := S.grp 0 rfl (b := b) (o := .cells cur e (0, 0)) (by simp)
      have hc := cellsAt.of_blk (off := off) (cs := xs) hbw (by rw [hl]; exact ht)
      refine ⟨b, off, rfl, fun i u hi => ?_⟩
      cases i with
      | zero =>
        simp at hi
        subst hi
        rw [Nat.add_zero, Nat.mul_one]
        exact hc _ _ hat
      | succ i => simp at hi
  · intro y hy
    rw [← List.append_assoc] at hy
    rcases List.mem_append.1 hy with hy | hy
    · exact (k3 y hy).mono (by intro p hp; simp [hp])
    · obtain rfl : y = _ := by simpa using hy
      exact htip.1
  · obtain rfl := Option.some.inj hz
    obtain ⟨t1, t2⟩ := htip
    refine ⟨t1, ?_⟩
    rcases t2 with t2 | ⟨b, off, cur, f1, f2, f3, f4, f5⟩
    · exact .inl t2
    · refine .inr ⟨b, off, cur, f1, f2, f3, f4, fun y hy off' hA => ?_⟩
      rw [← List.append_assoc] at hy
      rcases List.mem_append.1 hy with hy | hy
      · exact f5 y hy off' hA
      · obtain rfl : y = _ := by simpa using hy
        rw [f1] at hA
        cases hA
        exact .inr ⟨rfl, Nat.le_refl _⟩
/-- It is kept as it is now. -/
theorem PoolJ.put {x : Ent α} {LM : List (List α)} {bytes n' : Nat} (S : St w0 K w (G :: Gs)) {t : TypeId} (hT : Elt P t e 1 bytes) (hb : (Nat.ble (n' * bytes) 140737488355328 && Nat.ble n' 140737488355328) = true) {B : Option Addr} {d : Nat} (hP : PoolJ e e' r A c LL G M (some x) AD cD LD n GD) (hr : Rd w B 1 1 [x.v]) (hc : catN n' LL [x.L] = some LM) :
    ∃ A' c' G' w1, (∀ {N : FN} {l : Fr} {p q : Operand} {dst : Option Tmp} {ty : TypeId} {pos : String} {aft : Array Edge} {g : Option (Nat × Bool)}, ev l p = some (.slice A LL.length c) → ev l q = some (.slice B 1 d) →
        GE P N l w ⟨dst, .call { callee := .builtin .append, args := #[p, q], argTypes := #[t, t] }, ty, pos, aft, g⟩ (.slice A' LM.length c') w1) ∧
      PoolJ e e' r A' c' LM G' M (some x) AD cD LD n GD ∧ St w0 K w1 (G' :: Gs) := by
  obtain ⟨gh, hK, ents, rfl, k2, k3, k4⟩ := hP
  obtain ⟨hle, rfl⟩ := cat_spec hc
  have hlm : (ents.map Ent.L).length = ents.length := List.length_map ..
  rw [hlm, List.length_singleton] at hle
  have htip := k4 x rfl
  obtain ⟨A', c', G', w1, hE, hO, S1, _⟩ := St.appP (P := P) (r := Ent.rp) (M := [x]) (n := n') S hT hb k2 hr (elemsO.single (r := Ent.rp) ⟨rfl, rfl⟩) rfl (cat_at (by rw [List.length_singleton]; exact hle))
  have hll : (ents.map Ent.L ++ [x.L]).length = (ents ++ [x]).length := by simp
  refine ⟨A', c', G', w1, ?_, ⟨gh, hK, ents ++ [x], by simp, hO, ?_, ?_⟩, S1⟩
  · rw [hll, hlm]; exact hE
  · intro y hy
    simp only [List.mem_append, List.mem_singleton] at hy
    rcases hy with (hy | rfl) | hy
    · exact k3 y (by simp [hy])
    · exact htip.1
    · exact k3 y (by simp [hy])
  · intro z hz
    obtain rfl := Option.some.inj hz
    obtain ⟨h1, h2⟩ := htip
    refine ⟨h1, ?_⟩
    rcases h2 with h | ⟨b, off, cur, e1, e2, e3, e4, e5⟩
    · exact .inl h
    · refine .inr ⟨b, off, cur, e1, e2, e3, e4, fun y hy off' hA => ?_⟩
      simp only [List.mem_append, List.mem_singleton] at hy
      rcases hy with (hy | rfl) | hy
      · exact e5 y (by simp [hy]) off' hA
      · rw [e1] at hA
        cases hA
        exact .inr ⟨rfl, Nat.le_refl _⟩
      · exact e5 y (by simp [hy]) off' hA
/-- It grows. -/
theorem PoolJ.grow {AT : Option Addr} {cT : Nat} {L LM : List α} (S : St w0 K w (M :: Gs)) {t : TypeId} {bytes : Nat} (hT : Elt P t e' r.sz bytes) (hb : Nat.ble bytes 2048 = true) {B : Option Addr} {d m : Nat} {Y : List α} {news : List Value} (hP : PoolJ e e' r A c LL G M (some ⟨AT, cT, L⟩) AD cD LD n GD)
    (hr : Rd w B m r.sz news) (hY : elemsO r Y news []) (hm : Y.length = m) (hc : cat L Y = some LM) :
    ∃ A' c' M' w1, (∀ {N : FN} {l : Fr} {p q : Operand} {dst : Option Tmp} {ty : TypeId} {pos : String} {aft : Array Edge} {g : Option (Nat × Bool)}, ev l p = some (.slice AT L.length cT) → ev l q = some (.slice B m d) →
        GE P N l w ⟨dst, .call { callee := .builtin .append, args := #[p, q], argTypes := #[t, t] }, ty, pos, aft, g⟩ (.slice A' LM.length c') w1) ∧
      PoolJ e e' r A c LL G M' (some ⟨A', c', LM⟩) AD cD LD n GD ∧ St w0 K w1 (M' :: Gs) := by
  obtain ⟨gh, hK, ents, k1, k2, k3, k4⟩ := hP
  obtain ⟨A', c', M', w1, hE, h1, h2, S1⟩ := S.poolApp (P := P) (x := ⟨AT, cT, L⟩) hT hb k3 (k4 _ rfl) hr hY hm hc
  exact ⟨A', c', M', w1, hE, ⟨gh, hK, ents, k1, k2, h1, fun z hz => by obtain rfl := Option.some.inj hz; exact h2⟩, S1⟩
/-- A list whose elements have memory, behind another one: both are handed over. -/
theorem St.appO {α : Type} {r : Rp α} {L MM LM : List α} {GB : Grp} {B : Option Addr} {d bytes n : Nat} (S : St w0 K w (G :: GB :: Gs)) {t : TypeId} (hT : Elt P t e r.sz bytes) (hb : (Nat.ble (n * bytes) 140737488355328 && Nat.ble n 140737488355328) = true)
    (h : SlO e r (.slice A L.length c) L G) (hB : SlO e r (.slice B MM.length d) MM GB) (hc : catN n L MM = some LM) :
    ∃ A' c' G' w1, (∀ {N : FN} {l : Fr} {x y : Operand} {dst : Option Tmp} {ty : TypeId} {pos : String} {aft : Array Edge} {g : Option (Nat × Bool)}, ev l x = some (.slice A L.length c) → ev l y = some (.slice B MM.length d) →
        GE P N l w ⟨dst, .call { callee := .builtin .append, args := #[x, y], argTypes := #[t, t] }, ty, pos, aft, g⟩ (.slice A' LM.length c') w1) ∧
      SlO e r (.slice A' LM.length c') LM G' ∧ St w0 K w1 (G' :: Gs) := by
  obtain ⟨xs, G0, G1, h1, h2, rfl⟩ := hB
  have S1 : St w0 K w (G :: G1 :: G0 :: Gs) := S.perm (by
    simp only [List.flatten_cons]
    have e1 : G ++ (G0 ++ G1 ++ Gs.flatten) = G ++ (G0 ++ (G1 ++ Gs.flatten)) := by simp
    rw [e1]
    exact (List.perm_append_comm_assoc _ _ _).append_left _)
  obtain ⟨hmn, hrd⟩ := h1.rd (w := w) (fun b o hb => S1.grp 2 rfl hb)
  obtain ⟨A', c', G', w1, hE, hO, S2, _⟩ := St.app (P := P) S1 hT hb h hrd h2 rfl hc
  exact ⟨A', c', G', w1, hE, hO, (S2.perm (Gs' := G0 :: G' :: Gs) (by simp only [List.flatten_cons]; exact List.perm_append_comm_assoc _ _ _)).drop⟩
end
end Go.Eng
namespace Go.Eng
/-- The groups in another order. -/
theorem St.reord {w0 w : World} {K : Nat → Prop} {Gs Gs' : List Grp} (S : St w0 K w Gs) (is : List Nat) (n : Nat) (hn : Gs.length = n) (hp : is.isPerm (List.range n) = true) (he : is.map (fun i => Gs.getD i []) = Gs') : St w0 K w Gs' := by
  subst he
  have h1 : (is.map (fun i => Gs.getD i [])).Perm ((List.range n).map (fun i => Gs.getD i [])) := (List.isPerm_iff.1 hp).map _
  have h2 : (List.range n).map (fun i => Gs.getD i []) = Gs := by
    subst hn
    apply List.ext_getElem
    · simp
    · intro i h1 h2
      simp [List.getD_eq_getElem?_getD, h2]
  rw [h2] at h1
  exact S.perm h1.symm.flatten
end Go.Eng
