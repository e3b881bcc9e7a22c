/- CacheRooms in plain words: a client that keeps to its window. -/
import Derived.Test.YtpdpfiaediadgaaCQ
import Derived.Test.YtpdpfiaediadgaaRG
import Derived.Test.YtpdpfiaediadgaaOpen3
set_option linter.unusedVariables false
set_option linter.unusedSimpArgs false
namespace Go.Proofs.Ytpdpfiaediadgaa
open Go Go.Eng
theorem pick_ok {a b : Int} (ha : In64 a) (hb : 0 < b) : ∃ p, 0 ≤ p ∧ p < b ∧ ∀ k, ca_pick k a b = some p := by
  obtain ⟨h0, h1⟩ := ha
  by_cases h : a < 0
  · refine ⟨Int.tmod (-(a + 1)) b, Int.tmod_nonneg _ (by omega), Int.tmod_lt_of_pos _ hb, fun k => ?_⟩
    unfold ca_pick
    rw [if_pos h, if_neg (by omega), w64_of (n := a + 1) (by omega) (by omega), w64_of (by omega) (by omega)]
  · refine ⟨Int.tmod a b, Int.tmod_nonneg _ (by omega), Int.tmod_lt_of_pos _ hb, fun k => ?_⟩
    unfold ca_pick
    rw [if_neg h, if_neg (by omega)]
theorem Ev.unf {α : Type} {f : Nat → Option α} {r : α} (h : Ev (fun k => f (k + 1)) r) : Ev f r := Ev.step h (fun _ => rfl)
def whoN (j : Nat) : WhoC := ⟨65536 + (j : Int) / 2, 1 + (j : Int) % 2⟩
theorem who_at : ∀ j : Nat, j < 8 → ∀ k, ca_who k (j : Int) = some (whoN j)
  | 0, _, k => by kernel_rfl
  | 1, _, k => by kernel_rfl
  | 2, _, k => by kernel_rfl
  | 3, _, k => by kernel_rfl
  | 4, _, k => by kernel_rfl
  | 5, _, k => by kernel_rfl
  | 6, _, k => by kernel_rfl
  | 7, _, k => by kernel_rfl
  | j + 8, h, k => by omega
theorem whoN_inj {i j : Nat} (h : whoN i = whoN j) : i = j := by
  unfold whoN at h
  simp only [WhoC.mk.injEq] at h
  omega
theorem whoN_good {j : Nat} (h : j < 8) : goodWho (whoN j) := by unfold goodWho whoN; simp only; omega
/-! ### counting -/
theorem nodup_len {α : Type} [DecidableEq α] : ∀ {l m : List α}, l.Nodup → (∀ x ∈ l, x ∈ m) → l.length ≤ m.length
  | [], m, _, _ => by simp
  | a :: l, m, hn, hs => by
    obtain ⟨A, B, rfl⟩ := List.append_of_mem (hs a (by simp))
    have hn' := List.nodup_cons.1 hn
    have := nodup_len (l := l) (m := A ++ B) hn'.2 fun x hx => by
      have h1 := hs x (by simp [hx])
      simp only [List.mem_append, List.mem_cons] at h1 ⊢
      rcases h1 with h1 | h1 | h1
      · exact .inl h1
      · subst h1; exact absurd hx hn'.1
      · exact .inr h1
    simp only [List.length_append, List.length_cons] at this ⊢
    omega
theorem window_len {l : List Int} {a b : Int} (hn : l.Nodup) (hab : a ≤ b) (h : ∀ x ∈ l, a ≤ x ∧ x < b) : (l.length : Int) ≤ b - a := by
  have := nodup_len (m := (List.range (b - a).toNat).map fun i : Nat => a + (i : Int)) hn fun x hx => by
    have := h x hx
    exact List.mem_map.2 ⟨(x - a).toNat, List.mem_range.2 (by omega), by omega⟩
  rw [List.length_map, List.length_range] at this
  omega
variable {g : CacheConfig} {X X' : Clis} {kn : Known} {w : WhoC} {s wa : Int}
theorem riseK_water : kn.water ≤ (riseK kn wa).water := by unfold riseK; split <;> simp <;> omega
theorem riseK_at (h : kn.water ≤ wa) : (riseK kn wa).water = wa := by
  unfold riseK
  split
  · rfl
  · omega
theorem riseK_get (hs : (riseK kn wa).water ≤ s) : mget (riseK kn wa).calls s = mget kn.calls s := by
  unfold riseK at *
  split
  · rename_i h
    rw [if_pos h] at hs
    simp only at hs ⊢
    rw [mget_keep, if_neg (by omega)]
  · rfl
theorem riseK_mem {x : Int × Entry} (h : x ∈ (riseK kn wa).calls) : x ∈ kn.calls := by
  unfold riseK at h
  split at h
  · exact (keep_mem.1 h).1
  · exact h
/-- One client: what waits, which call is next, what the cache has of it. -/
def Cl (most : Int) (W : List Int) (N : Int) (o : Option Known) : Prop :=
  (N = 0 ∧ W = [] ∧ o = none) ∨ ∃ kn, o = some kn ∧ 1 ≤ N ∧ kn.water ≤ N ∧ N - kn.water ≤ most ∧ (∀ s ∈ W, s < N ∧ kn.water ≤ s ∧ ∃ e, mget kn.calls s = some e) ∧ W.Pairwise (· < ·) ∧ ∀ x ∈ kn.calls, x.1 < N
structure RB (n : Nat) (most : Int) (g : CacheConfig) (X : Clis) : Prop where
  hG : GOk g
  hX : XInv g X
  n8 : n ≤ 8
  c : g.Clients = n
  e : g.Entries = most
  r : g.Reserve = 64
  b : g.Bytes = 64 * n * most
  ks : ∀ x ∈ X, ∃ j, j < n ∧ x.1 = whoN j
variable {n j : Nat} {most N : Int} {W : List Int}
theorem RB.bK (h : RB n most g X) {k : Known} (hk : KInv g k) : bK g.Reserve k.calls ≤ 64 * k.calls.length := by
  unfold Go.Proofs.Ytpdpfiaediadgaa.bK
  refine (sum_bnd (M := 64) fun x hx => ?_).2
  have h2 := (hk.ent x hx).2
  rw [h.r] at h2 ⊢
  unfold szE
  split <;> omega
theorem sum_le {β : Type} {l : List β} {f g : β → Int} (h : ∀ x ∈ l, f x ≤ g x) : (l.map f).sum ≤ (l.map g).sum := by
  induction l with
  | nil => simp
  | cons a l ih =>
    have h1 := h a (by simp)
    have h2 := ih fun x hx => h x (by simp [hx])
    simp only [List.map_cons, List.sum_cons]
    omega
theorem sum_mul {β : Type} {l : List β} {f : β → Int} {c : Int} : (l.map fun x => c * f x).sum = c * (l.map f).sum := by
  induction l with
  | nil => simp
  | cons a l ih => simp only [List.map_cons, List.sum_cons, ih, Int.mul_add]
theorem RB.bSum (h : RB n most g X) : bSum g.Reserve X ≤ 64 * eSum X := by
  unfold Go.Proofs.Ytpdpfiaediadgaa.bSum eSum
  rw [← sum_mul]
  exact sum_le fun x hx => h.bK (h.hX.who x hx).2
theorem eSum_le (h : ∀ x ∈ X, KInv g x.2) : eSum X ≤ g.Entries * X.length := by
  unfold eSum
  exact (sum_bnd fun x hx => ⟨by omega, (h x hx).len⟩).2
theorem RB.room (h : RB n most g X) (hk : mget X w = some kn) (hl : (kn.calls.length : Int) < most) : ¬ g.Bytes < Go.Proofs.Ytpdpfiaediadgaa.bSum g.Reserve X + g.Reserve := by
  obtain ⟨A, B, rfl, _⟩ := mget_split hk h.hX.nd
  have h1 := h.bSum
  have h2 : eSum A ≤ g.Entries * A.length := eSum_le fun x hx => (h.hX.who x (by simp [hx])).2
  have h3 : eSum B ≤ g.Entries * B.length := eSum_le fun x hx => (h.hX.who x (by simp [hx])).2
  have h4 := h.hX.len
  have h5 : eSum (A ++ (w, kn) :: B) = eSum A + (kn.calls.length + eSum B) := by unfold eSum; simp
  rw [h5] at h1
  rw [h.r] at *
  rw [h.b]
  rw [h.c] at h4
  rw [h.e] at h2 h3
  simp only [List.length_append, List.length_cons] at h4
  have h6 : most * ((A.length : Int) + B.length + 1) ≤ most * n := Int.mul_le_mul_of_nonneg_left (by omega) (by omega)
  have h7 : most * ((A.length : Int) + B.length + 1) = most * A.length + most * B.length + most := by rw [Int.mul_add, Int.mul_add, Int.mul_one]
  have h8 : 64 * (n : Int) * most = 64 * (most * n) := by rw [Int.mul_assoc, Int.mul_comm (n : Int)]
  omega
theorem RB.len (h : RB n most g X) (hj : j < n) (hk : mget X (whoN j) = none) : X.length < n := by
  have h0 : ((whoN j) :: X.map (·.1)).Nodup := List.nodup_cons.2 ⟨fun hm => by
    obtain ⟨x, hx, e⟩ := List.mem_map.1 hm
    have := (mfind_none (mfind_of_none hk)).2 x hx
    exact this e, h.hX.nd⟩
  have := nodup_len (m := (List.range n).map whoN) h0 fun x hx => by
    rcases List.mem_cons.1 hx with rfl | hx
    · exact List.mem_map.2 ⟨j, List.mem_range.2 hj, rfl⟩
    · obtain ⟨y, hy, rfl⟩ := List.mem_map.1 hx
      obtain ⟨i, hi, e⟩ := h.ks y hy
      exact List.mem_map.2 ⟨i, List.mem_range.2 hi, e.symm⟩
  simp only [List.length_cons, List.length_map, List.length_range] at this
  omega
theorem RB.room0 (h : RB n most g X) (hj : j < n) (hk : mget X (whoN j) = none) : ¬ g.Bytes < Go.Proofs.Ytpdpfiaediadgaa.bSum g.Reserve X + g.Reserve := by
  have h1 := h.bSum
  have h2 : eSum X ≤ g.Entries * X.length := eSum_le fun x hx => (h.hX.who x hx).2
  have h3 := h.len hj hk
  have h4 := h.hG.e1
  rw [h.r] at *
  rw [h.b]
  rw [h.e] at h2 h4
  have h6 : most * ((X.length : Int) + 1) ≤ most * n := Int.mul_le_mul_of_nonneg_left (by omega) (by omega)
  have h7 : most * ((X.length : Int) + 1) = most * X.length + most := by rw [Int.mul_add, Int.mul_one]
  have h8 : 64 * (n : Int) * most = 64 * (most * n) := by rw [Int.mul_assoc, Int.mul_comm (n : Int)]
  omega
theorem RB.put (h : RB n most g X) (hj : j < n) (hX : XInv g (mput X (whoN j) kn)) : RB n most g (mput X (whoN j) kn) :=
  ⟨h.hG, hX, h.n8, h.c, h.e, h.r, h.b, fun x hx => by
    rcases mem_mput h.hX.nd hx with rfl | ⟨hx, _⟩
    · exact ⟨j, hj, rfl⟩
    · exact h.ks x hx⟩
/-- What stands of the others. -/
def Others (X X' : Clis) (j : Nat) : Prop := ∀ i, i ≠ j → mget X' (whoN i) = mget X (whoN i)
theorem others_put (h : XInv g X) : Others X (mput X (whoN j) kn) j := fun i hi => by rw [mget_mput h.nd, if_neg fun e => hi (whoN_inj e)]
theorem Others.trans {X1 X2 X3 : Clis} (h1 : Others X1 X2 j) (h2 : Others X2 X3 j) : Others X1 X3 j := fun i hi => (h2 i hi).trans (h1 i hi)
/-- The water that is said. -/
def waterOf (W : List Int) (N : Int) : Int := match W with | [] => N | x :: _ => x
theorem Cl.water (h : ∀ s ∈ W, s < N ∧ kn.water ≤ s ∧ ∃ e, mget kn.calls s = some e) (hp : W.Pairwise (· < ·)) (hN : kn.water ≤ N) : kn.water ≤ waterOf W N ∧ waterOf W N ≤ N ∧ ∀ s ∈ W, waterOf W N ≤ s := by
  cases W with
  | nil => exact ⟨hN, Int.le_refl _, by simp⟩
  | cons x W =>
    have h1 := h x (by simp)
    refine ⟨h1.2.1, by have := h1.1; show x ≤ N; omega, fun s hs => ?_⟩
    rcases List.mem_cons.1 hs with rfl | hs
    · exact Int.le_refl _
    · have := (List.pairwise_cons.1 hp).1 s hs
      show x ≤ s
      omega
/-- A call that waits is asked again. -/
theorem ask_again (h : RB n most g X) (hj : j < n) (hc : Cl most W N (mget X (whoN j))) (hs : s ∈ W) (hN : N ≤ 4294967295) :
    ∃ v r X', askP g X (whoN j) s (waterOf W N) = (v, r, X') ∧ (v = 2 ∨ v = 3) ∧ RB n most g X' ∧ Others X X' j ∧ Cl most W N (mget X' (whoN j)) ∧ (v = 2 → ∃ e, look X' (whoN j) s = some e ∧ ¬ e.done = true) := by
  rcases hc with ⟨_, rfl, _⟩ | ⟨kn, hk, h1, h2, h3, h4, h5, h6⟩
  · simp at hs
  obtain ⟨w1, w2, w3⟩ := Cl.water h4 h5 h2
  obtain ⟨a1, a2, e, a3⟩ := h4 s hs
  obtain ⟨hgw, hK⟩ := h.hX.get hk
  have hr := riseK_at w1
  have hgwa : goodWord (waterOf W N) := ⟨Int.le_trans hK.wat.1 w1, by omega⟩
  have hgs : goodWord s := ⟨Int.le_trans hK.wat.1 a2, by omega⟩
  have hg : goodWho (whoN j) ∧ goodWord s ∧ goodWord (waterOf W N) := ⟨hgw, hgs, hgwa⟩
  have hX' := h.hX.rise (wa := waterOf W N) h.hG hk hgwa
  have hget : mget (riseK kn (waterOf W N)).calls s = some e := by rw [riseK_get (by rw [hr]; exact w3 s hs), a3]
  have hmg : mget (mput X (whoN j) (riseK kn (waterOf W N))) (whoN j) = some (riseK kn (waterOf W N)) := by rw [mget_mput h.hX.nd, if_pos rfl]
  have hask : askP g X (whoN j) s (waterOf W N) = if e.done = true then (3, e.reply, mput X (whoN j) (riseK kn (waterOf W N))) else (2, [], mput X (whoN j) (riseK kn (waterOf W N))) := by
    unfold askP
    rw [if_pos hg, hk]
    simp only
    rw [if_neg (by rw [hr]; have := w3 s hs; omega), hget]
  have hcl : Cl most W N (mget (mput X (whoN j) (riseK kn (waterOf W N))) (whoN j)) := by
    rw [hmg]
    refine .inr ⟨_, rfl, h1, by rw [hr]; exact w2, by rw [hr]; omega, fun q hq => ?_, h5, fun x hx => h6 x (riseK_mem hx)⟩
    obtain ⟨b1, b2, e', b3⟩ := h4 q hq
    exact ⟨b1, by rw [hr]; exact w3 q hq, e', by rw [riseK_get (by rw [hr]; exact w3 q hq), b3]⟩
  by_cases hd : e.done = true
  · rw [if_pos hd] at hask
    exact ⟨_, _, _, hask, .inr rfl, h.put hj hX', others_put h.hX, hcl, fun e => by cases e⟩
  · rw [if_neg hd] at hask
    exact ⟨_, _, _, hask, .inl rfl, h.put hj hX', others_put h.hX, hcl, fun _ => ⟨e, by unfold look; rw [hmg]; exact hget, hd⟩⟩
/-- A new call. -/
theorem ask_new (h : RB n most g X) (hj : j < n) (hc : Cl most W N (mget X (whoN j)) ∨ N = 1 ∧ W = [] ∧ mget X (whoN j) = none) (h0 : 1 ≤ N) (hw : N - waterOf W N < most) (hN : N ≤ 4294967295) :
    ∃ r X', askP g X (whoN j) N (waterOf W N) = (1, r, X') ∧ RB n most g X' ∧ Others X X' j ∧ Cl most (W ++ [N]) (N + 1) (mget X' (whoN j)) ∧ ∃ e, look X' (whoN j) N = some e ∧ ¬ e.done = true := by
  have hinv := ask_inv (w := whoN j) (s := N) (wa := waterOf W N) h.hG h.hX
  have hcase : (N = 1 ∧ W = [] ∧ mget X (whoN j) = none) ∨ ∃ kn, mget X (whoN j) = some kn ∧ 1 ≤ N ∧ kn.water ≤ N ∧ N - kn.water ≤ most ∧ (∀ s ∈ W, s < N ∧ kn.water ≤ s ∧ ∃ e, mget kn.calls s = some e) ∧ W.Pairwise (· < ·) ∧ ∀ x ∈ kn.calls, x.1 < N := by
    rcases hc with (⟨e, _⟩ | h) | h
    · omega
    · exact .inr h
    · exact .inl h
  rcases hcase with ⟨rfl, rfl, hk⟩ | ⟨kn, hk, h1, h2, h3, h4, h5, h6⟩
  · have hg : goodWho (whoN j) ∧ goodWord 1 ∧ goodWord (waterOf [] 1) := ⟨whoN_good (by have := h.n8; omega), ⟨by omega, by omega⟩, ⟨by show (1 : Int) ≤ 1; omega, by show (1 : Int) ≤ _; omega⟩⟩
    have hlen := h.len hj hk
    have hask : askP g X (whoN j) 1 (waterOf [] 1) = (1, [], mput X (whoN j) ⟨1, [(1, ⟨false, []⟩)]⟩) := by
      unfold askP
      rw [if_pos hg, hk]
      simp only
      rw [if_neg (by show ¬ (1 : Int) < 1; omega), if_neg]
      · rfl
      · rintro (hb | hb)
        · exact h.room0 hj hk hb
        · rw [h.c] at hb; omega
    rw [hask] at hinv
    have hmg : mget (mput X (whoN j) ⟨1, [(1, ⟨false, []⟩)]⟩) (whoN j) = some ⟨1, [(1, ⟨false, []⟩)]⟩ := by rw [mget_mput h.hX.nd, if_pos rfl]
    refine ⟨_, _, hask, h.put hj hinv, others_put h.hX, ?_, ⟨⟨false, []⟩, by unfold look; rw [hmg]; rfl, by simp⟩⟩
    rw [hmg]
    refine .inr ⟨_, rfl, by omega, by show (1 : Int) ≤ 1 + 1; omega, ?_, ?_, by simp, by simp⟩
    · have := h.hG.e1
      rw [h.e] at this
      show (1 : Int) + 1 - 1 ≤ most
      omega
    · intro q hq
      simp only [List.nil_append, List.mem_singleton] at hq
      subst hq
      exact ⟨by omega, by show (1 : Int) ≤ 1; omega, _, rfl⟩
  · obtain ⟨w1, w2, w3⟩ := Cl.water h4 h5 h2
    obtain ⟨hgw, hK⟩ := h.hX.get hk
    have hr := riseK_at w1
    have hgwa : goodWord (waterOf W N) := ⟨Int.le_trans hK.wat.1 w1, by omega⟩
    have hg : goodWho (whoN j) ∧ goodWord N ∧ goodWord (waterOf W N) := ⟨hgw, ⟨h0, hN⟩, hgwa⟩
    have hX' := h.hX.rise (wa := waterOf W N) h.hG hk hgwa
    have hRB' := h.put hj hX'
    have hK' := hK.rise (wa := waterOf W N) hgwa
    have hmg : mget (mput X (whoN j) (riseK kn (waterOf W N))) (whoN j) = some (riseK kn (waterOf W N)) := by rw [mget_mput h.hX.nd, if_pos rfl]
    have hnone : mget (riseK kn (waterOf W N)).calls N = none := by
      rcases Option.eq_none_or_eq_some (mget (riseK kn (waterOf W N)).calls N) with e | ⟨e, he⟩
      · exact e
      · have := h6 _ (riseK_mem (mget_mem he))
        simp only at this
        omega
    have hlen : ((riseK kn (waterOf W N)).calls.length : Int) < most := by
      have := window_len (l := (riseK kn (waterOf W N)).calls.map (·.1)) (a := waterOf W N) (b := N) hK'.nd w2 fun x hx => by
        obtain ⟨y, hy, rfl⟩ := List.mem_map.1 hx
        have := (hK'.low y hy).1
        rw [hr] at this
        exact ⟨this, h6 y (riseK_mem hy)⟩
      rw [List.length_map] at this
      omega
    have hask : askP g X (whoN j) N (waterOf W N) = (1, [], mput X (whoN j) ⟨(riseK kn (waterOf W N)).water, mput (riseK kn (waterOf W N)).calls N ⟨false, []⟩⟩) := by
      unfold askP
      rw [if_pos hg, hk]
      simp only
      rw [if_neg (by rw [hr]; omega), hnone]
      simp only
      rw [if_neg]
      rintro (hb | hb)
      · exact hRB'.room hmg hlen hb
      · rw [h.e] at hb; omega
    rw [hask] at hinv
    have hmg2 : mget (mput X (whoN j) ⟨(riseK kn (waterOf W N)).water, mput (riseK kn (waterOf W N)).calls N ⟨false, []⟩⟩) (whoN j) = some ⟨(riseK kn (waterOf W N)).water, mput (riseK kn (waterOf W N)).calls N ⟨false, []⟩⟩ := by rw [mget_mput h.hX.nd, if_pos rfl]
    refine ⟨_, _, hask, h.put hj hinv, others_put h.hX, ?_, ⟨⟨false, []⟩, by unfold look; rw [hmg2]; show mget (mput _ _ _) _ = _; rw [mget_mput hK'.nd, if_pos rfl], by simp⟩⟩
    rw [hmg2]
    refine .inr ⟨_, rfl, by omega, by simp only [hr]; omega, by simp only [hr]; omega, fun q hq => ?_, ?_, fun x hx => ?_⟩
    · simp only [hr]
      rw [mget_mput hK'.nd]
      rcases List.mem_append.1 hq with hq | hq
      · obtain ⟨b1, b2, e', b3⟩ := h4 q hq
        refine ⟨by omega, w3 q hq, e', ?_⟩
        rw [if_neg (by omega), riseK_get (by rw [hr]; exact w3 q hq), b3]
      · rw [List.mem_singleton] at hq
        subst hq
        exact ⟨by omega, w2, _, if_pos rfl⟩
    · refine List.pairwise_append.2 ⟨h5, by simp, fun a ha b hb => ?_⟩
      rw [List.mem_singleton] at hb
      subst hb
      exact (h4 a ha).1
    · rcases mem_mput hK'.nd hx with rfl | ⟨hx, _⟩
      · show N < N + 1; omega
      · have := h6 x (riseK_mem hx); omega
/-- Its answer is kept. -/
theorem done_ok (h : RB n most g X) (hj : j < n) (hc : Cl most W N (mget X (whoN j))) {e : Entry} (he : look X (whoN j) s = some e) (hd : ¬ e.done = true) {r : List UInt8} (hr : r.length ≤ 64) :
    ∃ X', doneP g X (whoN j) s r = (0, X') ∧ RB n most g X' ∧ Others X X' j ∧ Cl most W N (mget X' (whoN j)) := by
  have hinv := done_inv (w := whoN j) (s := s) (r := r) h.hG h.hX
  rcases hc with ⟨_, _, hk⟩ | ⟨kn, hk, h1, h2, h3, h4, h5, h6⟩
  · unfold look at he
    rw [hk] at he
    cases he
  · have hcs : mget kn.calls s = some e := by unfold look at he; rw [hk] at he; exact he
    have hdone : doneP g X (whoN j) s r = (0, mput X (whoN j) ⟨kn.water, mput kn.calls s ⟨true, r⟩⟩) := by
      unfold doneP
      rw [hk]
      simp only
      rw [hcs]
      simp only
      rw [if_neg hd, if_neg (by rw [h.r]; omega)]
    rw [hdone] at hinv
    have hnd := (h.hX.get hk).2.nd
    refine ⟨_, hdone, h.put hj hinv, others_put h.hX, ?_⟩
    rw [mget_mput h.hX.nd, if_pos rfl]
    refine .inr ⟨_, rfl, h1, h2, h3, fun q hq => ?_, h5, fun x hx => ?_⟩
    · obtain ⟨b1, b2, e', b3⟩ := h4 q hq
      refine ⟨b1, b2, ?_⟩
      simp only
      rw [mget_mput hnd]
      split
      · exact ⟨_, rfl⟩
      · exact ⟨e', b3⟩
    · rcases mem_mput hnd hx with rfl | ⟨hx, _⟩
      · have := h6 _ (mget_mem hcs)
        exact this
      · exact h6 x hx
end Go.Proofs.Ytpdpfiaediadgaa
