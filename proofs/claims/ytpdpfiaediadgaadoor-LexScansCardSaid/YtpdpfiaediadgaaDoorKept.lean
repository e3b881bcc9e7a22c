/- Lists that are kept while their owner grows them: a list of them, and the one that is grown. -/
import Derived.Test.YtpdpfiaediadgaaDoorNest
set_option linter.unusedVariables false
set_option linter.unusedSimpArgs false
namespace Go.Eng
open Go
section
variable {α : Type}
/-- A list of lists; from n on, the lists are owned. -/
def SlD (e e' : TypeId) (r : Rp α) (A : Option Addr) (c : Nat) (LL : List (List α)) (n : Nat) (G : Grp) : Prop := ∃ xs G0 G1, RowG e 1 (.slice A LL.length c) LL.length xs G0 ∧ elemsO (Rp.slice e' r) (LL.drop n) (xs.drop n) G1 ∧ G = G0 ++ G1
/-- The kept lists; the one that is grown. -/
def PoolP (e e' : TypeId) (r : Rp α) (A : Option Addr) (c : Nat) (LL : List (List α)) (G M : Grp) (tip : Option (Ent α)) : Prop := ∃ ents : List (Ent α), ents.map Ent.L = LL ∧ SlO e Ent.rp (.slice A ents.length c) ents G ∧ (∀ y ∈ ents, EntIn r e' M y) ∧ ∀ x, tip = some x → TipIn r e' M ents x
variable {e e' : TypeId} {r : Rp α} {A : Option Addr} {c : Nat} {LL : List (List α)} {G M : Grp} {n : Nat}
theorem SlO.toD (h : SlO e (Rp.slice e' r) (.slice A LL.length c) LL G) : SlD e e' r A c LL 0 G := by
  obtain ⟨xs, G0, G1, h1, h2, rfl⟩ := h
  exact ⟨xs, G0, G1, h1, by simpa using h2, rfl⟩
theorem SlD.max (h : SlD e e' r A c LL n G) : LL.length ≤ maxLen := by
  obtain ⟨xs, G0, G1, h1, _, _⟩ := h
  obtain ⟨A', c', hv, h2, h3⟩ := h1.shape
  cases hv
  exact Nat.le_trans h2 h3
theorem toNat_succ {i : Int} {x : List α} (h : SlD e e' r A c LL n G) (hx : idx LL i = some x) : (w64 (i + 1)).toNat = i.toNat + 1 := by
  obtain ⟨j, rfl, _, hj⟩ := idx_spec hx
  have := h.max
  have hm : maxLen = 9223372036854775807 := rfl
  rw [w64_succ (by omega)]
  omega
theorem SlD.cast {m : Nat} (h : SlD e e' r A c LL n G) (hm : m = n) : SlD e e' r A c LL m G := hm ▸ h
theorem PoolP.nil : PoolP e e' r none 0 ([] : List (List α)) [] [] none := ⟨[], rfl, SlO.nil _ _, by simp, by simp⟩
theorem PoolP.untip {tip : Option (Ent α)} (h : PoolP e e' r A c LL G M tip) : PoolP e e' r A c LL G M none := by
  obtain ⟨ents, h1, h2, h3, _⟩ := h
  exact ⟨ents, h1, h2, h3, by simp⟩
variable {P : Program} {w w0 : World} {K : Nat → Prop} {Gs : List Grp}
/-- The next list comes to be grown. -/
theorem PoolP.next {GD : Grp} {AD : Option Addr} {cD : Nat} {LD : List (List α)} {x : List α} {tip : Option (Ent α)} (S : St w0 K w (GD :: M :: Gs)) (hD : SlD e e' r AD cD LD n GD) (hP : PoolP e e' r A c LL G M tip) (hf : ∀ {x cs G}, r.own x cs G → G = []) (hx : LD[n]? = some x) :
    ∃ A1 c1 GD' M', (∃ b off, AD = some ⟨b, off, none⟩ ∧ cellsAt w b (off + n * 1) [.slice A1 x.length c1]) ∧ SlD e e' r AD cD LD (n + 1) GD' ∧ PoolP e e' r A c LL G M' (some ⟨A1, c1, x⟩) ∧ St w0 K w (GD' :: M' :: Gs) := by
  obtain ⟨xs, G0, G1, hrow, h2, rfl⟩ := hD
  obtain ⟨ents, k1, k2, k3, _⟩ := hP
  have hlt : n < LD.length := (List.getElem?_eq_some_iff.1 hx).1
  have hdr : LD.drop n = x :: LD.drop (n + 1) := by rw [List.drop_eq_getElem_cons hlt]; rw [List.getElem?_eq_getElem hlt] at hx; rw [Option.some.inj hx]
  rw [hdr] at h2
  obtain ⟨cs, ys, Gx, Gy, e1, rfl, ⟨v, rfl, hown⟩, h3⟩ := h2
  obtain ⟨A1, c1, rfl⟩ := hown.shape
  have hys : ys = xs.drop (n + 1) := by
    rw [← List.drop_drop, e1]; rfl
  subst hys
  have hat : xs[n]? = some (.slice A1 x.length c1) := by
    have := congrArg (·[0]?) e1
    simpa [List.getElem?_drop] using this
  have S1 : St w0 K w ((G0 ++ Gy) :: (Gx ++ M) :: Gs) := S.perm (by
    simp only [List.flatten_cons]
    have h1 : G0 ++ (Gx ++ Gy) ++ (M ++ Gs.flatten) = G0 ++ (Gx ++ (Gy ++ (M ++ Gs.flatten))) := by simp
    have h2 : G0 ++ Gy ++ (Gx ++ M ++ Gs.flatten) = G0 ++ (Gy ++ (Gx ++ (M ++ Gs.flatten))) := by simp
    rw [h1, h2]
    exact (List.perm_append_comm_assoc _ _ _).append_left _)
  have hdis : ∀ b, b ∈ keys M → b ∉ keys Gx := by
    intro b hM hx
    have hnd := S.hp.nd
    simp only [List.flatten_cons, keys_append] at hnd
    rw [List.nodup_append] at hnd
    exact hnd.2.2 b (by simp [keys_append, hx]) b (by simp [keys_append, hM]) rfl
  refine ⟨A1, c1, G0 ++ Gy, Gx ++ M, ?_, ⟨xs, G0, Gy, hrow, h3, rfl⟩, ⟨ents, k1, k2, fun y hy => (k3 y hy).mono (by intro p hp; simp [hp]), fun z hz => ?_⟩, S1⟩
  · obtain ⟨hl, hrow⟩ := hrow
    rcases hrow with ⟨A', hv', hz, _⟩ | ⟨b, off, cap', cur, hv', hpos, rfl, hnc, hcm, hfit, ht⟩
    · omega
    · cases hv'
      have hbw := S.grp 0 rfl (b := b) (o := .cells cur e (0, 0)) (by simp)
      have hc := cellsAt.of_blk (off := off) (cs := xs) hbw (by rw [hl]; exact ht)
      refine ⟨b, off, rfl, fun i u hi => ?_⟩
      cases i with
      | zero =>
        simp at hi
        subst hi
        rw [Nat.add_zero, Nat.mul_one]
        exact hc _ _ hat
      | succ i => simp at hi
  · obtain rfl := Option.some.inj hz
    exact hown.tip hf k3 hdis
/-- It is kept as it is now. -/
theorem PoolP.put {x : Ent α} {LM : List (List α)} (S : St w0 K w (G :: Gs)) {t : TypeId} {bytes : Nat} (hT : Elt P t e 1 bytes) (hb : Nat.ble bytes 2048 = true) {B : Option Addr} {d : Nat} (hP : PoolP e e' r A c LL G M (some x)) (hr : Rd w B 1 1 [x.v]) (hc : cat LL [x.L] = some LM) :
    ∃ A' c' G' w1, (∀ {N : Nat} {l : Fr} {p q : Operand} {dst : Option Tmp} {ty : TypeId} {pos : String} {aft : Array Edge} {g : Option (Nat × Bool)}, ev l p = some (.slice A LL.length c) → ev l q = some (.slice B 1 d) →
        GE P N l w ⟨dst, .call { callee := .builtin .append, args := #[p, q], argTypes := #[t, t] }, ty, pos, aft, g⟩ (.slice A' LM.length c') w1) ∧
      PoolP e e' r A' c' LM G' M (some x) ∧ St w0 K w1 (G' :: Gs) := by
  obtain ⟨ents, rfl, k2, k3, k4⟩ := hP
  obtain ⟨hle, rfl⟩ := cat_spec hc
  have hlm : (ents.map Ent.L).length = ents.length := List.length_map ..
  rw [hlm, List.length_singleton] at hle
  have htip := k4 x rfl
  obtain ⟨A', c', G', w1, hE, hO, S1, _⟩ := St.appP (P := P) (r := Ent.rp) (M := [x]) S hT hb k2 hr (elemsO.single (r := Ent.rp) ⟨rfl, rfl⟩) rfl (cat_at (by rw [List.length_singleton]; exact hle))
  have hll : (ents.map Ent.L ++ [x.L]).length = (ents ++ [x]).length := by simp
  refine ⟨A', c', G', w1, ?_, ⟨ents ++ [x], by simp, hO, ?_, ?_⟩, S1⟩
  · rw [hll, hlm]; exact hE
  · intro y hy
    rcases List.mem_append.1 hy with hy | hy
    · exact k3 y hy
    · obtain rfl : y = x := by simpa using hy
      exact htip.1
  · intro z hz
    obtain rfl := Option.some.inj hz
    obtain ⟨h1, h2⟩ := htip
    refine ⟨h1, ?_⟩
    rcases h2 with h | ⟨b, off, cur, e1, e2, e3, e4, e5⟩
    · exact .inl h
    · refine .inr ⟨b, off, cur, e1, e2, e3, e4, fun y hy off' hA => ?_⟩
      rcases List.mem_append.1 hy with hy | hy
      · exact e5 y hy off' hA
      · obtain rfl : y = x := by simpa using hy
        rw [e1] at hA
        cases hA
        exact .inr ⟨rfl, Nat.le_refl _⟩
/-- It grows. -/
theorem PoolP.grow {AT : Option Addr} {cT : Nat} {L LM : List α} (S : St w0 K w (M :: Gs)) {t : TypeId} {bytes : Nat} (hT : Elt P t e' r.sz bytes) (hb : Nat.ble bytes 2048 = true) {B : Option Addr} {d m : Nat} {Y : List α} {news : List Value} (hP : PoolP e e' r A c LL G M (some ⟨AT, cT, L⟩))
    (hr : Rd w B m r.sz news) (hY : elemsO r Y news []) (hm : Y.length = m) (hc : cat L Y = some LM) :
    ∃ A' c' M' w1, (∀ {N : Nat} {l : Fr} {p q : Operand} {dst : Option Tmp} {ty : TypeId} {pos : String} {aft : Array Edge} {g : Option (Nat × Bool)}, ev l p = some (.slice AT L.length cT) → ev l q = some (.slice B m d) →
        GE P N l w ⟨dst, .call { callee := .builtin .append, args := #[p, q], argTypes := #[t, t] }, ty, pos, aft, g⟩ (.slice A' LM.length c') w1) ∧
      PoolP e e' r A c LL G M' (some ⟨A', c', LM⟩) ∧ St w0 K w1 (M' :: Gs) := by
  obtain ⟨ents, k1, k2, k3, k4⟩ := hP
  obtain ⟨A', c', M', w1, hE, h1, h2, S1⟩ := S.poolApp (P := P) (x := ⟨AT, cT, L⟩) hT hb k3 (k4 _ rfl) hr hY hm hc
  exact ⟨A', c', M', w1, hE, ⟨ents, k1, k2, h1, fun z hz => by obtain rfl := Option.some.inj hz; exact h2⟩, S1⟩
/-- One of the kept lists. -/
theorem PoolP.at_ {tip : Option (Ent α)} (hP : PoolP e e' r A c LL G M tip) {j : Nat} {x : List α} (hx : LL[j]? = some x) :
    ∃ A1 c1, SlG r A1 c1 x M ∧ ∀ w : World, (∀ b o, (b, o) ∈ G → w.heap[b]? = some o) → ∃ b off, A = some ⟨b, off, none⟩ ∧ cellsAt w b (off + j * 1) [.slice A1 x.length c1] := by
  obtain ⟨ents, rfl, k2, k3, _⟩ := hP
  rw [List.getElem?_map] at hx
  obtain ⟨y, hy, rfl⟩ := Option.map_eq_some_iff.1 hx
  refine ⟨y.A, y.c, fun w hM => (k3 y (List.mem_of_getElem? hy)).rd hM, fun w hG => ?_⟩
  obtain ⟨b, off, cs, g1, g2, g3, g4⟩ := SlR.at_ (k2.rd hG) hy
  have : cs = [y.v] := g4
  subst this
  exact ⟨b, off, g1, g3⟩
end
end Go.Eng
