/- ShelfPlays: two shelves, the program's and the document's, over one list of pairs. -/
import Derived.Test.YtoahkjehjmbojaaPF
import Derived.Test.YtoahkjehjmbojaaOpen3
set_option linter.unusedVariables false
set_option linter.unusedSimpArgs false
namespace Go.Proofs.Ytoahkjehjmbojaa
open Go Go.Eng
theorem Ev.unf {α : Type} {f : Nat → Option α} {r : α} (h : Ev (fun k => f (k + 1)) r) : Ev f r := Ev.step h (fun _ => rfl)
abbrev KV := KeyS × Int
def toK (x : KV) : Key__int_ := ⟨x.1, x.2⟩
def toR (x : KV) : Pair := ⟨x.1, x.2⟩
abbrev shK (m : Int) (L : List KV) : ShK := ⟨m, L.map toK⟩
abbrev shR (m : Int) (L : List KV) : ShR := ⟨m, L.map toR⟩
def top : Nat := 1048576
/-- Where a key stands first. -/
def posF : List KV → KeyS → Nat → Int
  | [], _, _ => -1
  | x :: L, k, i => if x.1 = k then (i : Int) else posF L k (i + 1)
theorem posF_spec {k : KeyS} : ∀ {L : List KV} {n : Nat}, posF L k n = -1 ∨ ∃ (i : Nat) (x : KV), posF L k n = ((n + i : Nat) : Int) ∧ L[i]? = some x ∧ x.1 = k
  | [], n => .inl rfl
  | x :: L, n => by
    unfold posF
    by_cases h : x.1 = k
    · rw [if_pos h]
      exact .inr ⟨0, x, by simp, rfl, h⟩
    · rw [if_neg h]
      rcases posF_spec (k := k) (L := L) (n := n + 1) with h1 | ⟨i, y, h1, h2, h3⟩
      · exact .inl h1
      · exact .inr ⟨i + 1, y, by rw [h1]; congr 1; omega, by simpa using h2, h3⟩
theorem pos_cases (L : List KV) (k : KeyS) : posF L k 0 = -1 ∨ ∃ (i : Nat) (x : KV), posF L k 0 = (i : Int) ∧ L[i]? = some x ∧ x.1 = k := by
  rcases posF_spec (k := k) (L := L) (n := 0) with h | ⟨i, x, h1, h2, h3⟩
  · exact .inl h
  · exact .inr ⟨i, x, by rw [h1]; congr 1; omega, h2, h3⟩
variable {m : Int} {L : List KV} {k : KeyS} {v : Int}
theorem idx_mapAt {β : Type} {f : KV → β} {a b : List KV} {x : KV} (h : L = a ++ x :: b) : idx (L.map f) (a.length : Int) = some (f x) := by
  subst h
  rw [idx_at rfl (by simp)]
  simp
theorem idx_map {β : Type} {f : KV → β} {i : Nat} {x : KV} (h : L[i]? = some x) : idx (L.map f) (i : Int) = some (f x) := by
  obtain ⟨h1, h2⟩ := List.getElem?_eq_some_iff.1 h
  rw [idx_at rfl (by simpa using h1), List.getElem_map, h2]
theorem sk_pos_l1 (hL : L.length ≤ top) : ∀ (b a : List KV), L = a ++ b → Ev (fun f => sk_idx.l1 f (L.map toK) k (a.length : Int)) (posF b k a.length)
  | [], a, h => by
    refine Ev.unf ?_
    simp only [sk_idx.l1]
    exact Ev.neg (by subst h; simp) Ev.ret
  | x :: b, a, h => by
    have ih := sk_pos_l1 hL b (a ++ [x]) (by rw [h]; simp)
    have hle : L.length = a.length + (b.length + 1) := by rw [h]; simp
    refine Ev.unf ?_
    simp only [sk_idx.l1]
    refine Ev.pos (by rw [List.length_map]; omega) ?_
    refine Ev.bindc (idx_mapAt h) ?_
    refine Ev.bindc (r := decide (x.1 = k)) rfl ?_
    unfold posF
    by_cases hx : x.1 = k
    · rw [if_pos hx]
      exact Ev.pos (decide_eq_true hx) Ev.ret
    · rw [if_neg hx]
      refine Ev.neg (by simp [hx]) ?_
      rw [w64_succ (by unfold top at hL; omega)]
      simpa using ih
theorem sk_pos (hL : L.length ≤ top) : Ev (fun f => sk_place f (shK m L) k) (posF L k 0) := by
  unfold sk_place sk_idx
  exact Ev.bind (sk_pos_l1 hL L [] rfl) Ev.ret
theorem rk_pos_l1 (hL : L.length ≤ top) : ∀ (b a : List KV), L = a ++ b → Ev (fun f => rk_find.l1 f (shR m L) k (a.length : Int)) (posF b k a.length)
  | [], a, h => by
    refine Ev.unf ?_
    simp only [rk_find.l1]
    exact Ev.neg (by subst h; simp) Ev.ret
  | x :: b, a, h => by
    have ih := rk_pos_l1 hL b (a ++ [x]) (by rw [h]; simp)
    have hle : L.length = a.length + (b.length + 1) := by rw [h]; simp
    refine Ev.unf ?_
    simp only [rk_find.l1]
    refine Ev.pos (by rw [List.length_map]; omega) ?_
    refine Ev.bindc (idx_mapAt h) ?_
    unfold posF
    by_cases hx : x.1 = k
    · rw [if_pos hx]
      exact Ev.pos hx Ev.ret
    · rw [if_neg hx]
      refine Ev.neg hx ?_
      rw [w64_succ (by unfold top at hL; omega)]
      simpa using ih
theorem rk_pos (hL : L.length ≤ top) : Ev (fun f => rk_find f (shR m L) k) (posF L k 0) := rk_pos_l1 hL L [] rfl
theorem upd_map {β : Type} {f : KV → β} {i : Nat} {x y : KV} (h : L[i]? = some x) {z : β} (hz : z = f y) : upd (L.map f) (i : Int) z = some ((L.set i y).map f) := by
  obtain ⟨h1, _⟩ := List.getElem?_eq_some_iff.1 h
  rw [upd_at (by simpa using h1), hz, List.map_set]
/-- A shelf that may be. -/
structure Fits (m : Int) (L : List KV) : Prop where
  le : (L.length : Int) ≤ m
  tp : m ≤ 1048576
theorem Fits.top (h : Fits m L) : L.length ≤ top := by have := h.le; have := h.tp; unfold Go.Proofs.Ytoahkjehjmbojaa.top; omega
theorem put_rel (h : Fits m L) : ∃ e L', Fits m L' ∧ Ev (fun f => sk_Put f (shK m L) k v) (e, shK m L') ∧ Ev (fun f => rk_Put f (shR m L) k v) (e, shR m L') := by
  unfold sk_Put rk_Put
  have hs := sk_pos (m := m) (k := k) h.top
  have hr := rk_pos (m := m) (k := k) h.top
  rcases pos_cases L k with hp | ⟨i, x, hp, hx, hk⟩
  · rw [hp] at hs hr
    by_cases hf : (L.length : Int) = m
    · refine ⟨140, L, h, Ev.bind hs (Ev.neg (by decide) (Ev.pos (by rw [List.length_map]; exact hf) Ev.ret)), Ev.bind hr (Ev.neg (by decide) (Ev.pos (by show m ≤ ((L.map toR).length : Int); rw [List.length_map]; omega) Ev.ret))⟩
    · have := h.le
      have ht := h.tp
      refine ⟨0, L ++ [(k, v)], ⟨by simp; omega, ht⟩, Ev.bind hs (Ev.neg (by decide) (Ev.neg (by rw [List.length_map]; exact hf) (Ev.bindc (cat_at (by simp; omega)) ?_))), Ev.bind hr (Ev.neg (by decide) (Ev.neg (by show ¬ m ≤ ((L.map toR).length : Int); rw [List.length_map]; omega) (Ev.bindc (cat_at (by simp; omega)) ?_)))⟩
      · exact Ev.cast Ev.ret (by simp [toK])
      · exact Ev.cast Ev.ret (by simp [toR])
  · rw [hp] at hs hr
    refine ⟨0, L.set i (x.1, v), ⟨by rw [List.length_set]; exact h.le, h.tp⟩, Ev.bind hs (Ev.pos (by omega) (Ev.bindc (idx_map hx) (Ev.bindc (upd_map (y := (x.1, v)) hx rfl) Ev.ret))), Ev.bind hr (Ev.pos (by omega) (Ev.bindc (idx_map hx) (Ev.bindc (upd_map (y := (x.1, v)) hx rfl) Ev.ret)))⟩
theorem get_rel (h : Fits m L) : ∃ g : Int × Bool, Ev (fun f => sk_Get f (shK m L) k) g ∧ Ev (fun f => rk_Get f (shR m L) k) g := by
  unfold sk_Get rk_Get
  have hs := sk_pos (m := m) (k := k) h.top
  have hr := rk_pos (m := m) (k := k) h.top
  rcases pos_cases L k with hp | ⟨i, x, hp, hx, hk⟩
  · rw [hp] at hs hr
    exact ⟨(0, false), Ev.bind hs (Ev.neg (by decide) Ev.ret), Ev.bind hr (Ev.pos (by decide) Ev.ret)⟩
  · rw [hp] at hs hr
    exact ⟨(x.2, true), Ev.bind hs (Ev.pos (by omega) (Ev.bindc (idx_map hx) Ev.ret)), Ev.bind hr (Ev.neg (by omega) (Ev.bindc (idx_map hx) Ev.ret))⟩
theorem del_ok {i : Nat} (ht : L.length ≤ top) (hi : i < L.length) (f : Nat) : sk_del f (L.map toK) (i : Int) ((i + 1 : Nat) : Int) = some ((L.take i ++ L.drop (i + 1)).map toK) := by
  unfold top at ht
  unfold sk_del
  have hc : cat ((L.map toK).take i) ((L.map toK).drop (i + 1)) = some ((L.map toK).take i ++ (L.map toK).drop (i + 1)) := cat_at (by simp; omega)
  rw [cut_at (a := i) (b := i + 1) rfl rfl (by omega) (by rw [List.length_map]; omega), Option.bind_some, if_neg (by omega), cut_to rfl (by simp; omega), Option.bind_some, cut_from rfl (by simp; omega), Option.bind_some, hc, Option.bind_some, if_pos (by omega), if_pos (by simp; omega)]
  simp [List.map_take, List.map_drop]
theorem all_ok (ht : L.length ≤ top) (f : Nat) : rk_All f (shR m L) = some (L.map toR) := by
  unfold top at ht
  unfold rk_All
  have hc : cat ([] : List Pair) (L.map toR) = some ([] ++ L.map toR) := cat_at (by simp; omega)
  rw [show (shR m L).L = L.map toR from rfl, hc]
  rfl
theorem clone_ok (ht : L.length ≤ top) (f : Nat) : sk_Clone f (L.map toK) = some (L.map toK) := by
  unfold top at ht
  unfold sk_Clone
  have hc : cat ([] : List Key__int_) (L.map toK) = some ([] ++ L.map toK) := cat_at (by simp; omega)
  rw [hc]
  rfl
theorem drop_rel (h : Fits m L) : ∃ e L', Fits m L' ∧ Ev (fun f => sk_Drop f (shK m L) k) (e, shK m L') ∧ Ev (fun f => rk_Drop f (shR m L) k) (e, shR m L') := by
  unfold sk_Drop rk_Drop
  have hs := sk_pos (m := m) (k := k) h.top
  have hr := rk_pos (m := m) (k := k) h.top
  rcases pos_cases L k with hp | ⟨i, x, hp, hx, hk⟩
  · rw [hp] at hs hr
    exact ⟨141, L, h, Ev.bind hs (Ev.pos (by decide) Ev.ret), Ev.bind hr (Ev.pos (by decide) Ev.ret)⟩
  · rw [hp] at hs hr
    have hi := (List.getElem?_eq_some_iff.1 hx).1
    have ht := h.top
    unfold top at ht
    have hw : w64 ((i : Int) + 1) = ((i + 1 : Nat) : Int) := w64_succ (by omega)
    have hlen : ((L.take i).length + (L.drop (i + 1)).length) = L.length - 1 := by simp; omega
    refine ⟨0, L.take i ++ L.drop (i + 1), ⟨by have := h.le; simp; omega, h.tp⟩, Ev.bind hs (Ev.neg (by omega) ?_), Ev.bind hr (Ev.neg (by omega) ?_)⟩
    · rw [hw]
      exact Ev.bind (Ev.all fun f => del_ok h.top hi f) Ev.ret
    · refine Ev.bindc (cut_to rfl (by simp; omega)) ?_
      refine Ev.bindc (cat_at (L := []) (by simp; omega)) ?_
      rw [hw]
      refine Ev.bindc (cut_from rfl (by simp; omega)) ?_
      refine Ev.bindc (cat_at (by simp; omega)) ?_
      exact Ev.cast Ev.ret (by simp [List.map_take, List.map_drop])
theorem sk_keys_l1 (hL : L.length ≤ top) : ∀ (b a : List KV), L = a ++ b → Ev (fun f => sk_Keys.l1 f (shK m L) (a.map (·.1)) (a.length : Int)) (L.map (·.1))
  | [], a, h => by
    refine Ev.unf ?_
    simp only [sk_Keys.l1]
    refine Ev.neg (by subst h; simp) (Ev.cast Ev.ret (by rw [h]; simp))
  | x :: b, a, h => by
    have ih := sk_keys_l1 hL b (a ++ [x]) (by rw [h]; simp)
    have hle : L.length = a.length + (b.length + 1) := by rw [h]; simp
    unfold top at hL
    refine Ev.unf ?_
    simp only [sk_Keys.l1]
    refine Ev.pos (by rw [List.length_map]; omega) (Ev.bindc (idx_mapAt h) (Ev.bindc (cat_at (by simp; omega)) ?_))
    rw [w64_succ (by omega)]
    simpa [toK] using ih
theorem sk_keys_ok (hL : L.length ≤ top) : Ev (fun f => sk_Keys f (shK m L)) (L.map (·.1)) := by
  unfold sk_Keys
  exact Ev.pos (by omega) (Ev.pos (by rw [List.length_map]; unfold top at hL; omega) (sk_keys_l1 hL L [] rfl))
theorem rk_keys_l1 (hL : L.length ≤ top) : ∀ (b a : List KV), L = a ++ b → Ev (fun f => rk_Keys.l1 f (shR m L) (a.map (·.1)) (a.length : Int)) (L.map (·.1))
  | [], a, h => by
    refine Ev.unf ?_
    simp only [rk_Keys.l1]
    refine Ev.neg (by subst h; simp) (Ev.cast Ev.ret (by rw [h]; simp))
  | x :: b, a, h => by
    have ih := rk_keys_l1 hL b (a ++ [x]) (by rw [h]; simp)
    have hle : L.length = a.length + (b.length + 1) := by rw [h]; simp
    unfold top at hL
    refine Ev.unf ?_
    simp only [rk_Keys.l1]
    refine Ev.pos (by rw [List.length_map]; omega) (Ev.bindc (idx_mapAt h) (Ev.bindc (cat_at (by simp; omega)) ?_))
    rw [w64_succ (by omega)]
    simpa [toR] using ih
theorem rk_keys_ok (hL : L.length ≤ top) : Ev (fun f => rk_Keys f (shR m L)) (L.map (·.1)) := rk_keys_l1 hL L [] rfl
theorem keys_l1 {l : List KeyS} (hl : l.length ≤ 2 * top) : ∀ (b a : List KeyS), l = a ++ b → Ev (fun f => sh_keys.l1 f l l (a.length : Int)) true
  | [], a, h => by
    refine Ev.unf ?_
    simp only [sh_keys.l1]
    exact Ev.neg (by subst h; simp) Ev.ret
  | x :: b, a, h => by
    have ih := keys_l1 hl b (a ++ [x]) (by rw [h]; simp)
    have hle : l.length = a.length + (b.length + 1) := by rw [h]; simp
    have hx : idx l (a.length : Int) = some x := by rw [idx_at rfl (by omega)]; simp [h]
    unfold top at hl
    refine Ev.unf ?_
    simp only [sh_keys.l1]
    refine Ev.pos (by omega) (Ev.bindc hx (Ev.bindc hx (Ev.pos rfl ?_)))
    rw [w64_succ (by omega)]
    simpa using ih
theorem keys_ok {l : List KeyS} (hl : l.length ≤ 2 * top) : Ev (fun f => sh_keys f l l) true := by
  unfold sh_keys
  exact Ev.pos rfl (keys_l1 hl l [] rfl)
theorem pick_any (a : Int) {b : Int} (hb : ¬ b = 0) : ∃ p, ∀ f, sh_pick f a b = some p := by
  by_cases h : a < 0
  · exact ⟨_, fun f => by unfold sh_pick; rw [if_pos h, if_neg hb]⟩
  · exact ⟨_, fun f => by unfold sh_pick; rw [if_neg h, if_neg hb]⟩
theorem busy_any (a b : Int) : ∃ p, ∀ f, sh_busy f a b = some p := by
  obtain ⟨p, hp⟩ := pick_any a (b := 6) (by decide)
  obtain ⟨q, hq⟩ := pick_any (w64 (b + a)) (b := 9) (by decide)
  exact ⟨_, fun f => by unfold sh_busy; rw [hp, Option.bind_some, hq, Option.bind_some]⟩
theorem wanted_any (k : KeyS) (v : Int) : ∃ p, ∀ f, sh_wanted f k v = some p := by
  obtain ⟨p, hp⟩ := pick_any v (b := 3) (by decide)
  by_cases h : 0 < p
  · exact ⟨true, fun f => by unfold sh_wanted; rw [hp, Option.bind_some, if_pos h]⟩
  · exact ⟨_, fun f => by unfold sh_wanted; rw [hp, Option.bind_some, if_neg h]⟩
/-! ### taking away -/
/-- Both take away what is said: as many, and the same is left. -/
theorem takes_rel {out : List KeyS} (ho : out.length ≤ top) : ∀ (b a : List KeyS), out = a ++ b → ∀ (L : List KV) (n : Nat), Fits m L → n ≤ a.length → ∃ (n' : Nat) (L' : List KV), n' ≤ out.length ∧ Fits m L' ∧ Ev (fun f => rk_Takes.l1 f out (n : Int) (a.length : Int) m (L.map toR)) ((n' : Int), shR m L') ∧ Ev (fun f => sk_PruneW.l2 f out (n : Int) (a.length : Int) m (L.map toK)) ((n' : Int), shK m L') ∧
      ∀ o x28 l31 l42 l47, Ev (fun f => sk_PruneK.l2 f o out x28 l31 l42 l47 (n : Int) (a.length : Int) m (L.map toK)) ((n' : Int), shK m L', ⟨x28, l31⟩, l42, l47)
  | [], a, h, L, n, hF, hn => by
    have hl : out.length = a.length := by rw [h]; simp
    refine ⟨n, L, by omega, hF, ?_, ?_, fun o x28 l31 l42 l47 => ?_⟩
    · refine Ev.unf ?_; simp only [rk_Takes.l1]; exact Ev.neg (by omega) Ev.ret
    · refine Ev.unf ?_; simp only [sk_PruneW.l2]; exact Ev.neg (by omega) Ev.ret
    · refine Ev.unf ?_; simp only [sk_PruneK.l2]; exact Ev.neg (by omega) Ev.ret
  | x :: b, a, h, L, n, hF, hn => by
    have hle : out.length = a.length + (b.length + 1) := by rw [h]; simp
    have hx : idx out (a.length : Int) = some x := by rw [idx_at rfl (by omega)]; simp [h]
    obtain ⟨e, L1, hF1, k1, k2⟩ := drop_rel (k := x) hF
    unfold top at ho
    have hw : w64 ((a.length : Int) + 1) = ((a.length + 1 : Nat) : Int) := w64_succ (by omega)
    have hwn : w64 ((n : Int) + 1) = ((n + 1 : Nat) : Int) := w64_succ (by omega)
    by_cases he : e = 0
    · obtain ⟨n', L', h1, h2, h3, h4, h5⟩ := takes_rel ho b (a ++ [x]) (by rw [h]; simp) L1 (n + 1) hF1 (by simp; omega)
      simp only [List.length_append, List.length_singleton] at h3 h4 h5
      refine ⟨n', L', h1, h2, ?_, ?_, fun o x28 l31 l42 l47 => ?_⟩
      · refine Ev.unf ?_; simp only [rk_Takes.l1]; refine Ev.pos (by omega) (Ev.bindc hx (Ev.bind k2 (Ev.pos he ?_))); rw [hw, hwn]; exact h3
      · refine Ev.unf ?_; simp only [sk_PruneW.l2]; refine Ev.pos (by omega) (Ev.bindc hx (Ev.bind k1 (Ev.pos he ?_))); rw [hw, hwn]; exact h4
      · refine Ev.unf ?_; simp only [sk_PruneK.l2]; refine Ev.pos (by omega) (Ev.bindc hx (Ev.bind k1 (Ev.pos he ?_))); rw [hw, hwn]; exact h5 o x28 l31 l42 l47
    · obtain ⟨n', L', h1, h2, h3, h4, h5⟩ := takes_rel ho b (a ++ [x]) (by rw [h]; simp) L1 n hF1 (by simp; omega)
      simp only [List.length_append, List.length_singleton] at h3 h4 h5
      refine ⟨n', L', h1, h2, ?_, ?_, fun o x28 l31 l42 l47 => ?_⟩
      · refine Ev.unf ?_; simp only [rk_Takes.l1]; refine Ev.pos (by omega) (Ev.bindc hx (Ev.bind k2 (Ev.neg he ?_))); rw [hw]; exact h3
      · refine Ev.unf ?_; simp only [sk_PruneW.l2]; refine Ev.pos (by omega) (Ev.bindc hx (Ev.bind k1 (Ev.neg he ?_))); rw [hw]; exact h4
      · refine Ev.unf ?_; simp only [sk_PruneK.l2]; refine Ev.pos (by omega) (Ev.bindc hx (Ev.bind k1 (Ev.neg he ?_))); rw [hw]; exact h5 o x28 l31 l42 l47
/-! ### what is not wanted goes -/
theorem prunew_rel {T : List KV} (hT : T.length ≤ top) : ∀ (b a : List KV), T = a ++ b → ∀ (L : List KV) (out : List KeyS), Fits m L → out.length ≤ a.length → ∃ (n' : Nat) (L' : List KV), Fits m L' ∧ Ev (fun f => sk_PruneW.l1 f (shK m L) (T.map toK) out (a.length : Int)) ((n' : Int), shK m L') ∧
      ∀ s A o v W R, Ev (fun f => sd_would.j4 f s A o v W m (L'.map toR)) R → Ev (fun f => sd_would.l1 f s (shR m L) A o v W (T.map toR) out (a.length : Int)) R
  | [], a, h, L, out, hF, ho => by
    have hl : T.length = a.length := by rw [h]; simp
    unfold top at hT
    obtain ⟨n', L', h1, h2, h3, h4, _⟩ := takes_rel (out := out) (by unfold top; omega) out [] rfl L 0 hF (by simp)
    refine ⟨n', L', h2, ?_, fun s A o v W R hR => ?_⟩
    · refine Ev.unf ?_; simp only [sk_PruneW.l1, sk_PruneW.j1]; exact Ev.neg (by rw [List.length_map]; omega) h4
    · refine Ev.unf ?_
      simp only [sd_would.l1, sd_would.j5]
      refine Ev.neg (by rw [List.length_map]; omega) ?_
      refine Ev.bind (f := fun f => rk_Takes f (shR m L) out) h3 hR
  | x :: b, a, h, L, out, hF, ho => by
    have hle : T.length = a.length + (b.length + 1) := by rw [h]; simp
    unfold top at hT
    have hw : w64 ((a.length : Int) + 1) = ((a.length + 1 : Nat) : Int) := w64_succ (by omega)
    obtain ⟨p, hp⟩ := wanted_any x.1 x.2
    cases p with
    | true =>
      obtain ⟨n', L', h2, h3, h4⟩ := prunew_rel hT b (a ++ [x]) (by rw [h]; simp) L out hF (by simp; omega)
      simp only [List.length_append, List.length_singleton] at h3 h4
      refine ⟨n', L', h2, ?_, fun s A o v W R hR => ?_⟩
      · refine Ev.unf ?_; simp only [sk_PruneW.l1]; refine Ev.pos (by rw [List.length_map]; omega) (Ev.bindc (idx_mapAt h) (Ev.bind (Ev.all hp) (Ev.pos rfl ?_))); rw [hw]; exact h3
      · refine Ev.unf ?_; simp only [sd_would.l1]; refine Ev.pos (by rw [List.length_map]; omega) (Ev.bindc (idx_mapAt h) (Ev.bindc (idx_mapAt h) (Ev.bind (Ev.all hp) (Ev.pos rfl ?_)))); rw [hw]; exact h4 s A o v W R hR
    | false =>
      obtain ⟨n', L', h2, h3, h4⟩ := prunew_rel hT b (a ++ [x]) (by rw [h]; simp) L (out ++ [x.1]) hF (by simp; omega)
      simp only [List.length_append, List.length_singleton] at h3 h4
      refine ⟨n', L', h2, ?_, fun s A o v W R hR => ?_⟩
      · refine Ev.unf ?_; simp only [sk_PruneW.l1]; refine Ev.pos (by rw [List.length_map]; omega) (Ev.bindc (idx_mapAt h) (Ev.bind (Ev.all hp) (Ev.neg (by decide) (Ev.bindc (cat_at (by simp; omega)) ?_)))); rw [hw]; exact h3
      · refine Ev.unf ?_; simp only [sd_would.l1]; refine Ev.pos (by rw [List.length_map]; omega) (Ev.bindc (idx_mapAt h) (Ev.bindc (idx_mapAt h) (Ev.bind (Ev.all hp) (Ev.neg (by decide) (Ev.bindc (idx_mapAt h) (Ev.bindc (cat_at (by simp; omega)) ?_)))))); rw [hw]; exact h4 s A o v W R hR
/-! ### one question -/
def Step (m : Int) (o : OpS) (k : KeyS) (v : Int) (L : List KV) (A : List Asked) (b : Bool) (L' : List KV) (A' : List Asked) : Prop :=
  (∀ r W, Ev (fun f => sd_keeps f (shK m L) r A W o k v) (b, shK m L', r, A', W)) ∧ ∀ s B, Ev (fun f => sd_would f s (shR m L) B A o k v) (b, s, shR m L', B, A')
theorem step_rel (h : Fits m L) (o : OpS) (A : List Asked) (hA : A.length ≤ top) : ∃ b L' a, Fits m L' ∧ Step m o k v L A b L' (A ++ [a]) := by
  obtain ⟨p, hp⟩ := busy_any o.M (w64 ((A.length : Int) + 1))
  obtain ⟨g, hg1, hg2⟩ := get_rel (k := p.2) h
  obtain ⟨q, hq⟩ := pick_any (w64 ((w64 (o.N + v)) + ((A.length + 1 : Nat) : Int))) (b := 3) (by decide)
  unfold top at hA
  -- the last branches, the same for both
  have key : ∀ x99 : Int, ∃ L', Fits m L' ∧ (∀ r W, Ev (fun f => sd_keeps.j3 f (shK m L) r A W o k v p.1 p.2.S p.2.N (L.length : Int) x99) (decide (0 < q), shK m L', r, A ++ [⟨k, v, (L.length : Int), x99⟩], W)) ∧
      ∀ s B, Ev (fun f => sd_would.j3 f s (shR m L) B A o k v p.1 p.2.S p.2.N (L.length : Int) x99) (decide (0 < q), s, shR m L', B, A ++ [⟨k, v, (L.length : Int), x99⟩]) := by
    intro x99
    have hc : cat A [(⟨k, v, (L.length : Int), x99⟩ : Asked)] = some (A ++ [⟨k, v, (L.length : Int), x99⟩]) := cat_at (by simp; omega)
    have e1 : ∀ (L' : List KV) r W, Ev (fun f => sd_keeps.j4 f r W o v (A ++ [⟨k, v, (L.length : Int), x99⟩]) m (L'.map toK)) (decide (0 < q), shK m L', r, A ++ [⟨k, v, (L.length : Int), x99⟩], W) := fun L' r W => by
      unfold sd_keeps.j4
      rw [List.length_append, List.length_singleton]
      exact Ev.bind (Ev.all hq) Ev.ret
    have e2 : ∀ (L' : List KV) s B, Ev (fun f => sd_would.j4 f s B o v (A ++ [⟨k, v, (L.length : Int), x99⟩]) m (L'.map toR)) (decide (0 < q), s, shR m L', B, A ++ [⟨k, v, (L.length : Int), x99⟩]) := fun L' s B => by
      unfold sd_would.j4
      rw [List.length_append, List.length_singleton]
      exact Ev.bind (Ev.all hq) Ev.ret
    by_cases h1 : p.1 = 1
    · obtain ⟨e, L', hF, k1, k2⟩ := put_rel (k := p.2) (v := w64 (-v)) h
      refine ⟨L', hF, fun r W => ?_, fun s B => ?_⟩
      · unfold sd_keeps.j3; exact Ev.bindc hc (Ev.pos h1 (Ev.bind k1 (e1 L' r W)))
      · unfold sd_would.j3; exact Ev.bindc hc (Ev.pos h1 (Ev.bind k2 (e2 L' s B)))
    by_cases h2 : p.1 = 2
    · obtain ⟨e, L', hF, k1, k2⟩ := drop_rel (k := p.2) h
      refine ⟨L', hF, fun r W => ?_, fun s B => ?_⟩
      · unfold sd_keeps.j3; exact Ev.bindc hc (Ev.neg h1 (Ev.pos h2 (Ev.bind k1 (e1 L' r W))))
      · unfold sd_would.j3; exact Ev.bindc hc (Ev.neg h1 (Ev.pos h2 (Ev.bind k2 (e2 L' s B))))
    by_cases h3 : p.1 = 3
    · obtain ⟨n', L', hF, k1, k2⟩ := prunew_rel h.top L [] rfl L [] h (by simp)
      have ht := h.top
      unfold top at ht
      refine ⟨L', hF, fun r W => ?_, fun s B => ?_⟩
      · unfold sd_keeps.j3
        refine Ev.bindc hc (Ev.neg h1 (Ev.neg h2 (Ev.pos h3 (Ev.bind (r := ((n' : Int), shK m L')) ?_ (e1 L' r W)))))
        unfold sk_PruneW
        exact Ev.bind (Ev.all fun f => clone_ok h.top f) k1
      · unfold sd_would.j3
        exact Ev.bindc hc (Ev.neg h1 (Ev.neg h2 (Ev.pos h3 (Ev.bind (Ev.all fun f => all_ok h.top f) (k2 s B o v _ _ (e2 L' s B))))))
    · refine ⟨L, h, fun r W => ?_, fun s B => ?_⟩
      · unfold sd_keeps.j3; exact Ev.bindc hc (Ev.neg h1 (Ev.neg h2 (Ev.neg h3 (e1 L r W))))
      · unfold sd_would.j3; exact Ev.bindc hc (Ev.neg h1 (Ev.neg h2 (Ev.neg h3 (e2 L s B))))
  have hlK : (L.map toK).length = L.length := List.length_map ..
  have hlR : (L.map toR).length = L.length := List.length_map ..
  by_cases hg : g.2 = true
  · obtain ⟨L', hF, k1, k2⟩ := key g.1
    refine ⟨decide (0 < q), L', ⟨k, v, (L.length : Int), g.1⟩, hF, fun r W => ?_, fun s B => ?_⟩
    · unfold sd_keeps sd_keeps.j1 sd_keeps.j2 sk_Len
      refine Ev.bind (Ev.all hp) (Ev.bind hg1 (Ev.bindc rfl (Ev.pos hg ?_)))
      rw [hlK]; exact k1 r W
    · unfold sd_would sd_would.j1 sd_would.j2 rk_Len
      refine Ev.bind (Ev.all hp) (Ev.bind hg2 (Ev.bindc rfl (Ev.pos hg ?_)))
      rw [hlR]; exact k2 s B
  · obtain ⟨L', hF, k1, k2⟩ := key 0
    refine ⟨decide (0 < q), L', ⟨k, v, (L.length : Int), 0⟩, hF, fun r W => ?_, fun s B => ?_⟩
    · unfold sd_keeps sd_keeps.j1 sd_keeps.j2 sk_Len
      refine Ev.bind (Ev.all hp) (Ev.bind hg1 (Ev.bindc rfl (Ev.neg hg ?_)))
      rw [hlK]; exact k1 r W
    · unfold sd_would sd_would.j1 sd_would.j2 rk_Len
      refine Ev.bind (Ev.all hp) (Ev.bind hg2 (Ev.bindc rfl (Ev.neg hg ?_)))
      rw [hlR]; exact k2 s B
/-! ### all questions -/
theorem prunes_loop {T : List KV} (hT : T.length ≤ top) (o : OpS) : ∀ (b a : List KV), T = a ++ b → ∀ (L : List KV) (A : List Asked) (out : List KeyS), Fits m L → A.length = a.length → out.length ≤ a.length → ∃ (L' : List KV) (A' : List Asked) (out' : List KeyS), Fits m L' ∧ A'.length ≤ T.length ∧ out'.length ≤ T.length ∧
      (∀ x69 l72 l88 R, Ev (fun f => sk_PruneK.j1 f o out' x69 l72 m (L'.map toK) A' l88) R → Ev (fun f => sk_PruneK.l1 f o (T.map toK) out (a.length : Int) x69 l72 m (L.map toK) A l88) R) ∧
      ∀ t51 x144 l147 l152 R, Ev (fun f => sd_prunes.j1 f t51 out' m (L'.map toR) x144 l147 l152 A') R → Ev (fun f => sd_prunes.l1 f o t51 (T.map toR) out (a.length : Int) m (L.map toR) x144 l147 l152 A) R
  | [], a, h, L, A, out, hF, hA, ho => by
    have hl : T.length = a.length := by rw [h]; simp
    refine ⟨L, A, out, hF, by omega, by omega, fun x69 l72 l88 R hR => ?_, fun t51 x144 l147 l152 R hR => ?_⟩
    · refine Ev.unf ?_; simp only [sk_PruneK.l1]; exact Ev.neg (by rw [List.length_map]; omega) hR
    · refine Ev.unf ?_; simp only [sd_prunes.l1]; exact Ev.neg (by rw [List.length_map]; omega) hR
  | x :: b, a, h, L, A, out, hF, hA, ho => by
    have hle : T.length = a.length + (b.length + 1) := by rw [h]; simp
    unfold top at hT
    have hw : w64 ((a.length : Int) + 1) = ((a.length + 1 : Nat) : Int) := w64_succ (by omega)
    obtain ⟨p, L1, q, hF1, hS1, hS2⟩ := step_rel (k := x.1) (v := x.2) hF o A (by unfold top; omega)
    have hclo : ∀ r W, Ev (fun f => sd_clo f (toK x).key (toK x).value (shK m L) r A W o) (p, shK m L1, r, A ++ [q], W) := fun r W => by
      unfold sd_clo
      exact Ev.bind (hS1 r W) Ev.ret
    cases p with
    | true =>
      obtain ⟨L', A', out', g1, g2, g3, g4, g5⟩ := prunes_loop hT o b (a ++ [x]) (by rw [h]; simp) L1 (A ++ [q]) out hF1 (by simp; omega) (by simp; omega)
      simp only [List.length_append, List.length_singleton] at g4 g5
      refine ⟨L', A', out', g1, g2, g3, fun x69 l72 l88 R hR => ?_, fun t51 x144 l147 l152 R hR => ?_⟩
      · refine Ev.unf ?_; simp only [sk_PruneK.l1]; refine Ev.pos (by rw [List.length_map]; omega) (Ev.bindc (idx_mapAt h) (Ev.bind (hclo ⟨x69, l72⟩ l88) (Ev.pos rfl ?_))); rw [hw]; exact g4 x69 l72 l88 R hR
      · refine Ev.unf ?_; simp only [sd_prunes.l1]; refine Ev.pos (by rw [List.length_map]; omega) (Ev.bindc (idx_mapAt h) (Ev.bindc (idx_mapAt h) (Ev.bind (hS2 ⟨x144, l147⟩ l152) (Ev.pos rfl ?_)))); rw [hw]; exact g5 t51 x144 l147 l152 R hR
    | false =>
      obtain ⟨L', A', out', g1, g2, g3, g4, g5⟩ := prunes_loop hT o b (a ++ [x]) (by rw [h]; simp) L1 (A ++ [q]) (out ++ [x.1]) hF1 (by simp; omega) (by simp; omega)
      simp only [List.length_append, List.length_singleton] at g4 g5
      refine ⟨L', A', out', g1, g2, g3, fun x69 l72 l88 R hR => ?_, fun t51 x144 l147 l152 R hR => ?_⟩
      · refine Ev.unf ?_; simp only [sk_PruneK.l1]; refine Ev.pos (by rw [List.length_map]; omega) (Ev.bindc (idx_mapAt h) (Ev.bind (hclo ⟨x69, l72⟩ l88) (Ev.neg Bool.false_ne_true (Ev.bindc (cat_at (by simp; omega)) ?_)))); rw [hw]; exact g4 x69 l72 l88 R hR
      · refine Ev.unf ?_; simp only [sd_prunes.l1]; refine Ev.pos (by rw [List.length_map]; omega) (Ev.bindc (idx_mapAt h) (Ev.bindc (idx_mapAt h) (Ev.bind (hS2 ⟨x144, l147⟩ l152) (Ev.neg Bool.false_ne_true (Ev.bindc (idx_mapAt h) (Ev.bindc (cat_at (by simp; omega)) ?_)))))); rw [hw]; exact g5 t51 x144 l147 l152 R hR
theorem prunes_l2 {A : List Asked} (hA : A.length ≤ top) {t51 : Int × ShK × ShR × (List Asked) × (List Asked)} {l103 : List KeyS} {x106 : Int} {l109 : List Pair} {x112 : Int} {l115 : List Key__int_} {R} (hR : Ev (fun f => sd_prunes.j2 f t51 l103 x106 l109 x112 l115 A A) R) :
    ∀ (b a : List Asked), A = a ++ b → Ev (fun f => sd_prunes.l2 f t51 l103 x106 l109 x112 l115 A A (a.length : Int)) R
  | [], a, h => by
    refine Ev.unf ?_; simp only [sd_prunes.l2]; exact Ev.neg (by subst h; simp) hR
  | x :: b, a, h => by
    have hle : A.length = a.length + (b.length + 1) := by rw [h]; simp
    have hx : idx A (a.length : Int) = some x := by rw [idx_at rfl (by omega)]; simp [h]
    have ih := prunes_l2 hA hR b (a ++ [x]) (by rw [h]; simp)
    unfold top at hA
    refine Ev.unf ?_
    simp only [sd_prunes.l2]
    refine Ev.pos (by omega) (Ev.bindc hx (Ev.bindc hx (Ev.pos rfl ?_)))
    rw [w64_succ (by omega)]
    simpa using ih
theorem prunes_ok (h : Fits m L) (o : OpS) (a2 a3 : List Asked) : ∃ L' A', Fits m L' ∧ Ev (fun f => sd_prunes f (shK m L) (shR m L) a2 a3 o) (true, shK m L', shR m L', A', A') := by
  obtain ⟨L1, A', out, hF1, hA', hout, k1, k2⟩ := prunes_loop h.top o L [] rfl L [] [] h rfl (by simp)
  have ht := h.top
  obtain ⟨n', L', hn', hF', t1, _, t3⟩ := takes_rel (out := out) (by omega) out [] rfl L1 0 hF1 (by simp)
  refine ⟨L', A', hF', ?_⟩
  unfold sd_prunes sk_PruneK
  refine Ev.bind (r := ((n' : Int), shK m L', shR m L, A', [])) ?_ ?_
  · refine Ev.bind (Ev.all fun f => clone_ok h.top f) ?_
    refine k1 m (L.map toR) [] _ ?_
    unfold sk_PruneK.j1
    exact t3 o m (L.map toR) A' []
  · refine Ev.bind (Ev.all fun f => all_ok (m := m) h.top f) ?_
    refine k2 _ m (L'.map toK) A' _ ?_
    unfold sd_prunes.j1
    refine Ev.pos rfl ?_
    refine prunes_l2 (by omega) ?_ A' [] rfl
    unfold sd_prunes.j2 rk_Takes
    refine Ev.bind t1 ?_
    exact Ev.cast Ev.ret (by simp)
end Go.Proofs.Ytoahkjehjmbojaa
