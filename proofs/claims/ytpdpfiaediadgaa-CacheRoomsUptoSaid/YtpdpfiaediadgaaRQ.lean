/- CacheRooms answers true. -/
import Derived.Test.YtpdpfiaediadgaaRP
set_option linter.unusedVariables false
set_option linter.unusedSimpArgs false
namespace Go.Proofs.Ytpdpfiaediadgaa
open Go Go.Eng
variable {g : CacheConfig} {X X' : Clis} {kn : Known} {s wa : Int} {n j : Nat} {most N : Int} {W : List Int} {a2 : List Sent} {t6 t11 : Int}
def RGoes (a2 : List Sent) (t6 t11 : Int) (g : CacheConfig) (X : Clis) (waits : List (List Int)) (next : List Int) (i : Int) : Prop :=
  Ev (fun k => law_Rooms.l1 k a2 t6 t11 waits next i g.Clients g.Entries g.Bytes g.Reserve X (eSum X) (bSum g.Reserve X)) true
abbrev ans : List UInt8 := [97, 110, 115, 119, 101, 114]
theorem rooms_j7 {i : Int} {waits : List (List Int)} {next : List Int} {v : Int} {r : List UInt8} {b : Bool} (hG : GOk g) (hX : XInv g X) (hj : j < 8)
    (H : b = false → RGoes a2 t6 t11 g X waits next (w64 (i + 1))) (H2 : b = true → ∃ X', doneP g X (whoN j) s ans = (0, X') ∧ RGoes a2 t6 t11 g X' waits next (w64 (i + 1))) :
    Ev (fun k => law_Rooms.j7 k a2 t6 t11 i (j : Int) waits next s (v, r, mk g X) b) true := by
  refine Ev.unf ?_
  simp only [law_Rooms.j7]
  cases b with
  | true =>
    obtain ⟨X', h1, h2⟩ := H2 rfl
    refine Ev.pos (by first | trivial | rfl) ?_
    refine Ev.bind (Ev.all (who_at j hj)) ?_
    refine Ev.bind (Ev.all fun k => done_eq hG hX k) ?_
    rw [h1]
    exact Ev.pos rfl h2
  | false =>
    refine Ev.neg (by decide) ?_
    exact H rfl
theorem rooms_j6 {i : Int} {o : Sent} {waits : List (List Int)} {next : List Int} {v : Int} {r : List UInt8} (hG : GOk g) (hX : XInv g X) (hj : j < 8) (hi : idx a2 i = some o)
    (H : RGoes a2 t6 t11 g X waits next (w64 (i + 1))) (H2 : v ≠ 3 → ∃ X', doneP g X (whoN j) s ans = (0, X') ∧ RGoes a2 t6 t11 g X' waits next (w64 (i + 1))) :
    Ev (fun k => law_Rooms.j6 k a2 t6 t11 i (j : Int) waits next s (v, r, mk g X)) true := by
  refine Ev.unf ?_
  simp only [law_Rooms.j6]
  refine Ev.bindc hi ?_
  by_cases ho : o.Answer = true
  · refine Ev.pos ho ?_
    exact rooms_j7 hG hX hj (fun _ => H) fun hb => H2 (by simpa using hb)
  · refine Ev.neg ho ?_
    exact rooms_j7 hG hX hj (fun _ => H) fun hb => by cases hb
theorem rooms_j4 {i : Int} {o : Sent} {waits : List (List Int)} {next : List Int} {v : Int} {r : List UInt8} (hG : GOk g) (hX : XInv g X) (hj : j < 8) (hi : idx a2 i = some o)
    (hask : askP g X (whoN j) s wa = (v, r, X')) (hv : v = 1 ∨ v = 2 ∨ v = 3)
    (H : RGoes a2 t6 t11 g X' waits next (w64 (i + 1))) (H2 : v ≠ 3 → ∃ X2, doneP g X' (whoN j) s ans = (0, X2) ∧ RGoes a2 t6 t11 g X2 waits next (w64 (i + 1))) :
    Ev (fun k => law_Rooms.j4 k a2 t6 t11 i g.Clients g.Entries g.Bytes g.Reserve X (eSum X) (bSum g.Reserve X) (j : Int) wa waits next s) true := by
  have hX' := ask_inv (w := whoN j) (s := s) (wa := wa) hG hX
  refine Ev.unf ?_
  simp only [law_Rooms.j4]
  refine Ev.bind (Ev.all (who_at j hj)) ?_
  refine Ev.bind (Ev.all fun k => ask_eq hG hX k) ?_
  rw [hask] at hX' ⊢
  have h6 := rooms_j6 (v := v) (r := r) hG hX' hj hi H H2
  rcases hv with rfl | rfl | rfl
  · exact Ev.pos rfl h6
  · exact Ev.neg (show ¬ (2 : Int) = 1 by decide) (Ev.pos rfl h6)
  · exact Ev.neg (show ¬ (3 : Int) = 1 by decide) (Ev.neg (show ¬ (3 : Int) = 2 by decide) (Ev.pos rfl h6))
/-- All clients. -/
structure RI (n : Nat) (most : Int) (g : CacheConfig) (X : Clis) (waits : List (List Int)) (next : List Int) (i : Nat) : Prop where
  rb : RB n most g X
  lw : waits.length = 8
  ln : next.length = 8
  cl : ∀ (j : Nat) W N, waits[j]? = some W → next[j]? = some N → Cl most W N (mget X (whoN j))
  bd : ∀ N ∈ next, N ≤ i + 1
theorem RI.put {waits : List (List Int)} {next : List Int} {i : Nat} (h : RI n most g X waits next i) (hj : j < n) (hB : RB n most g X') (hO : Others X X' j) {W : List Int} {N : Int} (hc : Cl most W N (mget X' (whoN j))) (hN : N ≤ i + 2) {waits' : List (List Int)} {next' : List Int} (hw : waits' = waits.set j W) (hn : next' = next.set j N) : RI n most g X' waits' next' (i + 1) := by
  subst hw; subst hn
  have hj8 : j < 8 := by have := h.rb.n8; omega
  refine ⟨hB, by rw [List.length_set, h.lw], by rw [List.length_set, h.ln], fun q W' N' h1 h2 => ?_, fun M hM => ?_⟩
  · rw [List.getElem?_set] at h1 h2
    by_cases e : j = q
    · subst e
      rw [if_pos rfl, if_pos (by rw [h.lw]; exact hj8), Option.some.injEq] at h1
      rw [if_pos rfl, if_pos (by rw [h.ln]; exact hj8), Option.some.injEq] at h2
      subst h1; subst h2
      exact hc
    · rw [if_neg e] at h1 h2
      rw [hO q (Ne.symm e)]
      exact h.cl q W' N' h1 h2
  · rcases List.mem_or_eq_of_mem_set hM with hM | rfl
    · have := h.bd M hM; omega
    · omega
theorem set_same {α : Type} {l : List α} {j : Nat} {x : α} (h : l[j]? = some x) : l = l.set j x := by
  obtain ⟨h1, h2⟩ := List.getElem?_eq_some_iff.1 h
  subst h2
  rw [List.set_getElem_self]
theorem upd_j {α : Type} {L : List α} {x : α} (h : j < L.length) : upd L (j : Int) x = some (L.set j x) := upd_at h
/-- One step, behind 'next': the water is known. -/
theorem rooms_j3 {i : Nat} {o : Sent} {waits : List (List Int)} {next : List Int} (h : RI n most g X waits next i ∨ next[j]? = some 1 ∧ RI n most g X waits (next.set j 0) i ∧ waits[j]? = some []) (hj : j < n) (ho : idx a2 (i : Int) = some o) (hoN : In64 o.N) (hW : waits[j]? = some W) (hN : next[j]? = some N) (h1 : 1 ≤ N) (hm : w64 (1 + t11) = most) (hlen : i < 1048576)
    (H : ∀ X' waits' next', RI n most g X' waits' next' (i + 1) → RGoes a2 t6 t11 g X' waits' next' ((i + 1 : Nat) : Int)) :
    Ev (fun k => law_Rooms.j3 k a2 t6 t11 waits (i : Int) g.Clients g.Entries g.Bytes g.Reserve X (eSum X) (bSum g.Reserve X) (j : Int) next (waterOf W N)) true := by
  -- the world ahead of the step, with this client's row as it stands now
  have hrb : RB n most g X := by rcases h with h | ⟨_, h, _⟩ <;> exact h.rb
  have hj8 : j < 8 := by have := hrb.n8; omega
  have hlw : waits.length = 8 := by rcases h with h | ⟨_, h, _⟩ <;> exact h.lw
  have hln : next.length = 8 := by
    rcases h with h | ⟨_, h, _⟩
    · exact h.ln
    · have := h.ln; rwa [List.length_set] at this
  have hcl : Cl most W N (mget X (whoN j)) ∨ N = 1 ∧ W = [] ∧ mget X (whoN j) = none := by
    rcases h with h | ⟨e1, h, e2⟩
    · exact .inl (h.cl j W N hW hN)
    · rw [e1, Option.some.injEq] at hN
      rw [e2, Option.some.injEq] at hW
      subst hN; subst hW
      have := h.cl j [] 0 e2 (by rw [List.getElem?_set, if_pos rfl, if_pos (by rw [hln]; exact hj8)])
      rcases this with ⟨_, _, e⟩ | ⟨kn, _, e, _⟩
      · exact .inr ⟨rfl, rfl, e⟩
      · omega
  have hNb : N ≤ i + 1 := by
    rcases h with h | ⟨e1, _, _⟩
    · exact h.bd N (List.mem_of_getElem? hN)
    · rw [e1, Option.some.injEq] at hN; omega
  have hset : ∀ {X' : Clis} {W' : List Int} {N' : Int} {waits' : List (List Int)} {next' : List Int}, RB n most g X' → Others X X' j → Cl most W' N' (mget X' (whoN j)) → N' ≤ i + 2 → waits' = waits.set j W' → next' = next.set j N' → RI n most g X' waits' next' (i + 1) := by
    intro X' W' N' waits' next' b1 b2 b3 b4 b5 b6
    rcases h with h | ⟨_, h, _⟩
    · exact h.put hj b1 b2 b3 b4 b5 b6
    · exact h.put hj b1 b2 b3 b4 b5 (by rw [b6, List.set_set])
  have hw64 : w64 ((i : Int) + 1) = ((i + 1 : Nat) : Int) := w64_succ (by omega)
  have iW : idx waits (j : Int) = some W := by
    rw [idx_at rfl (by omega)]
    obtain ⟨_, e⟩ := List.getElem?_eq_some_iff.1 hW
    rw [e]
  have iN : idx next (j : Int) = some N := by
    rw [idx_at rfl (by omega)]
    obtain ⟨_, e⟩ := List.getElem?_eq_some_iff.1 hN
    rw [e]
  -- what Done does behind an Ask
  have hdone : ∀ {X' : Clis} {W' : List Int} {N' s' : Int} {waits' : List (List Int)} {next' : List Int}, RB n most g X' → Others X X' j → Cl most W' N' (mget X' (whoN j)) → N' ≤ i + 2 → waits' = waits.set j W' → next' = next.set j N' → (∃ e, look X' (whoN j) s' = some e ∧ ¬ e.done = true) → ∃ X2, doneP g X' (whoN j) s' ans = (0, X2) ∧ RGoes a2 t6 t11 g X2 waits' next' (w64 ((i : Int) + 1)) := by
    intro X' W' N' s' waits' next' b1 b2 b3 b4 b5 b6 ⟨e, b7, b8⟩
    obtain ⟨X2, d1, d2, d3, d4⟩ := done_ok b1 hj b3 b7 b8 (r := ans) (by decide)
    refine ⟨X2, d1, ?_⟩
    rw [hw64]
    exact H _ _ _ (hset d2 (b2.trans d3) d4 b4 b5 b6)
  -- the two ways
  have hnew : N - waterOf W N < most → Ev (fun k => law_Rooms.j4 k a2 t6 t11 (i : Int) g.Clients g.Entries g.Bytes g.Reserve X (eSum X) (bSum g.Reserve X) (j : Int) (waterOf W N) (waits.set j (W ++ [N])) (next.set j (N + 1)) N) true := by
    intro hwin
    obtain ⟨r, X', k1, k2, k3, k4, k5⟩ := ask_new hrb hj hcl h1 hwin (by omega)
    refine rooms_j4 hrb.hG hrb.hX hj8 ho k1 (.inl rfl) ?_ fun _ => hdone k2 k3 k4 (by omega) rfl rfl k5
    rw [hw64]
    exact H _ _ _ (hset k2 k3 k4 (by omega) rfl rfl)
  have hbW : waterOf W N ≤ N ∧ 0 ≤ waterOf W N := by
    rcases hcl with (⟨e, _⟩ | ⟨kn, hk, c1, c2, c3, c4, c5, c6⟩) | ⟨rfl, rfl, _⟩
    · omega
    · obtain ⟨d1, d2, d3⟩ := Cl.water c4 c5 c2
      have := (hrb.hX.get hk).2.wat.1
      exact ⟨d2, by omega⟩
    · exact ⟨Int.le_refl _, by show (0 : Int) ≤ 1; omega⟩
  have hself : RI n most g X waits next (i + 1) ∨ mget X (whoN j) = none := by
    rcases hcl with hcl | ⟨_, _, e⟩
    · exact .inl (hset hrb (fun _ _ => rfl) hcl (by omega) (set_same hW) (set_same hN))
    · exact .inr e
  have hn5 : Ev (fun k => law_Rooms.j5 k a2 t6 t11 waits (i : Int) g.Clients g.Entries g.Bytes g.Reserve X (eSum X) (bSum g.Reserve X) (j : Int) next (waterOf W N) true) true := by
    refine Ev.unf ?_
    simp only [law_Rooms.j5]
    refine Ev.pos (by first | trivial | rfl) ?_
    refine Ev.bindc iN ?_
    rw [hm, w64_of (n := N - waterOf W N) (by omega) (by omega)]
    by_cases hwin : most ≤ N - waterOf W N
    · refine Ev.pos hwin ?_
      rcases hself with hs | hk
      · rw [hw64]; exact H _ _ _ hs
      · -- a client that is not known has its whole window
        exfalso
        rcases hcl with (⟨e, _⟩ | ⟨kn, hk', _⟩) | ⟨rfl, rfl, _⟩
        · omega
        · rw [hk] at hk'; cases hk'
        · have := hrb.hG.e1
          rw [hrb.e] at this
          have : most ≤ 1 - 1 := hwin
          omega
    · refine Ev.neg hwin ?_
      refine Ev.bindc iN ?_
      refine Ev.bindc iN ?_
      refine Ev.bindc iN ?_
      rw [w64_of (n := N + 1) (by omega) (by omega)]
      refine Ev.bindc (upd_j (by omega)) ?_
      refine Ev.bindc iW ?_
      have hWl : W.length ≤ 64 := by
        rcases hcl with (⟨_, rfl, _⟩ | ⟨kn, hk, c1, c2, c3, c4, c5, c6⟩) | ⟨_, rfl, _⟩
        · simp
        · have hnd : W.Nodup := c5.imp fun h => by omega
          have := window_len (a := kn.water) (b := N) hnd c2 fun x hx => ⟨(c4 x hx).2.1, (c4 x hx).1⟩
          have h2 := hrb.hG.e2
          rw [hrb.e] at h2
          omega
        · simp
      refine Ev.bindc (cat_at (by simp; omega)) ?_
      refine Ev.bindc (upd_j (by omega)) ?_
      exact hnew (by omega)
  refine Ev.unf ?_
  simp only [law_Rooms.j3]
  refine Ev.bindc ho ?_
  by_cases hNew : o.New = true
  · refine Ev.pos hNew ?_
    exact hn5
  · refine Ev.neg hNew ?_
    refine Ev.bindc iW ?_
    by_cases hE : W = []
    · have : decide ((W.length : Int) = 0) = true := by subst hE; rfl
      rw [this]
      exact hn5
    · have hpos : 0 < W.length := List.length_pos_iff.2 hE
      have : decide ((W.length : Int) = 0) = false := decide_eq_false (by omega)
      rw [this]
      refine Ev.unf ?_
      simp only [law_Rooms.j5]
      refine Ev.neg (by decide) ?_
      refine Ev.bindc iW ?_
      refine Ev.bindc ho ?_
      refine Ev.bindc iW ?_
      obtain ⟨p, p0, p1, hp⟩ := pick_ok hoN (b := (W.length : Int)) (by omega)
      refine Ev.bind (Ev.all hp) ?_
      obtain ⟨q, rfl⟩ : ∃ q : Nat, p = (q : Int) := ⟨p.toNat, by omega⟩
      have hq : q < W.length := by omega
      refine Ev.bindc (idx_at rfl hq) ?_
      have hcl' : Cl most W N (mget X (whoN j)) := by
        rcases hcl with hcl | ⟨_, e, _⟩
        · exact hcl
        · exact absurd e hE
      obtain ⟨v, r, X', k1, k2, k3, k4, k5, k6⟩ := ask_again (s := W[q]) hrb hj hcl' (List.getElem_mem hq) (by omega)
      refine rooms_j4 hrb.hG hrb.hX hj8 ho k1 (by rcases k2 with h | h <;> simp [h]) ?_ fun hv => hdone k3 k4 k5 (by omega) (set_same hW) (set_same hN) (k6 (by rcases k2 with h | h; exact h; exact absurd h hv))
      rw [hw64]
      exact H _ _ _ (hset k3 k4 k5 (by omega) (set_same hW) (set_same hN))
theorem rooms_j1 {i : Nat} {o : Sent} {waits : List (List Int)} {next : List Int} (h : RI n most g X waits next i ∨ next[j]? = some 1 ∧ RI n most g X waits (next.set j 0) i ∧ waits[j]? = some []) (hj : j < n) (ho : idx a2 (i : Int) = some o) (hoN : In64 o.N) (hW : waits[j]? = some W) (hN : next[j]? = some N) (h1 : 1 ≤ N) (hm : w64 (1 + t11) = most) (hlen : i < 1048576)
    (H : ∀ X' waits' next', RI n most g X' waits' next' (i + 1) → RGoes a2 t6 t11 g X' waits' next' ((i + 1 : Nat) : Int)) :
    Ev (fun k => law_Rooms.j1 k a2 t6 t11 waits (i : Int) g.Clients g.Entries g.Bytes g.Reserve X (eSum X) (bSum g.Reserve X) (j : Int) next) true := by
  have h3 := rooms_j3 h hj ho hoN hW hN h1 hm hlen H
  have hrb : RB n most g X := by rcases h with h | ⟨_, h, _⟩ <;> exact h.rb
  have hj8 : j < 8 := by have := hrb.n8; omega
  have iW : idx waits (j : Int) = some W := by
    obtain ⟨e1, e⟩ := List.getElem?_eq_some_iff.1 hW
    rw [idx_at rfl e1, e]
  have iN : idx next (j : Int) = some N := by
    obtain ⟨e1, e⟩ := List.getElem?_eq_some_iff.1 hN
    rw [idx_at rfl e1, e]
  have h2 : Ev (fun k => law_Rooms.j2 k a2 t6 t11 waits (i : Int) g.Clients g.Entries g.Bytes g.Reserve X (eSum X) (bSum g.Reserve X) (j : Int) next (waterOf W N)) true := by
    refine Ev.unf ?_
    simp only [law_Rooms.j2]
    refine Ev.bindc ho ?_
    by_cases hE : o.Ends = true
    · refine Ev.pos hE ?_
      refine Ev.bindc iW ?_
      by_cases hp : 0 < (W.length : Int)
      · refine Ev.pos hp ?_
        refine Ev.bindc iW ?_
        refine Ev.bindc (cut_from (a := 1) rfl (by omega)) ?_
        refine Ev.bindc iW ?_
        have hwl := (List.getElem?_eq_some_iff.1 hW).1
        refine Ev.bindc (upd_j hwl) ?_
        rw [w64_succ (by omega)]
        refine H _ _ _ ?_
        have hRI : RI n most g X waits next i := by
          rcases h with h | ⟨_, _, e⟩
          · exact h
          · rw [e, Option.some.injEq] at hW
            subst hW
            simp at hp
        have hc := hRI.cl j W N hW hN
        refine hRI.put hj hrb (fun _ _ => rfl) (W := W.drop 1) (N := N) ?_ (by have := hRI.bd N (List.mem_of_getElem? hN); omega) rfl (set_same hN)
        rcases hc with ⟨_, rfl, _⟩ | ⟨kn, hk, c1, c2, c3, c4, c5, c6⟩
        · simp at hp
        · exact .inr ⟨kn, hk, c1, c2, c3, fun s hs => c4 s (List.mem_of_mem_drop hs), c5.sublist (List.drop_sublist _ _), c6⟩
      · refine Ev.neg hp ?_
        exact h3
    · refine Ev.neg hE ?_
      exact h3
  refine Ev.unf ?_
  simp only [law_Rooms.j1]
  refine Ev.bindc iN ?_
  refine Ev.bindc iW ?_
  by_cases hp : 0 < (W.length : Int)
  · refine Ev.pos hp ?_
    refine Ev.bindc iW ?_
    refine Ev.bindc (idx_at (i := 0) (j := 0) rfl (by omega)) ?_
    refine h2.fn fun k => ?_
    congr 1
    cases W with
    | nil => simp at hp
    | cons x W => rfl
  · refine Ev.neg hp ?_
    refine h2.fn fun k => ?_
    congr 1
    cases W with
    | nil => rfl
    | cons x W => simp at hp
theorem rooms_l1 (ha : a2.length ≤ 1048576) (hok : ∀ o ∈ a2, In64 o.Who ∧ In64 o.N) (hm : w64 (1 + t11) = most) (hn : w64 (1 + t6) = (n : Int)) (hn1 : 1 ≤ n) : ∀ (b a : List Sent), a2 = a ++ b → ∀ X waits next, RI n most g X waits next a.length → RGoes a2 t6 t11 g X waits next (a.length : Int)
  | [], a, e, X, waits, next, h => by
    unfold RGoes
    refine Ev.unf ?_
    simp only [law_Rooms.l1]
    have : a2.length = a.length := by rw [e]; simp
    exact Ev.neg (by omega) Ev.ret
  | o :: b, a, e, X, waits, next, h => by
    have ih := fun X' waits' next' (h' : RI n most g X' waits' next' (a.length + 1)) => rooms_l1 ha hok hm hn hn1 b (a ++ [o]) (by rw [e]; simp) X' waits' next' (by simpa using h')
    simp only [List.length_append, List.length_singleton] at ih
    have hl : a2.length = a.length + (b.length + 1) := by rw [e]; simp
    have ho : idx a2 (a.length : Int) = some o := by rw [idx_at rfl (by omega)]; simp [e]
    obtain ⟨ho1, ho2⟩ := hok o (by rw [e]; simp)
    unfold RGoes
    refine Ev.unf ?_
    simp only [law_Rooms.l1]
    refine Ev.pos (by omega) ?_
    refine Ev.bindc ho ?_
    rw [hn]
    obtain ⟨p, p0, p1, hp⟩ := pick_ok ho1 (b := (n : Int)) (by omega)
    refine Ev.bind (Ev.all hp) ?_
    obtain ⟨j, rfl⟩ : ∃ j : Nat, p = (j : Int) := ⟨p.toNat, by omega⟩
    have hj : j < n := by omega
    have hj8 : j < 8 := by have := h.rb.n8; omega
    have hWl : j < waits.length := by rw [h.lw]; exact hj8
    have hNl : j < next.length := by rw [h.ln]; exact hj8
    refine Ev.bindc (idx_at rfl hNl) ?_
    by_cases hz : next[j] = 0
    · refine Ev.pos hz ?_
      refine Ev.bindc (idx_at rfl hNl) ?_
      refine Ev.bindc (upd_j hNl) ?_
      have hc := h.cl j waits[j] next[j] (List.getElem?_eq_getElem hWl) (List.getElem?_eq_getElem hNl)
      have hWe : waits[j] = [] := by
        rcases hc with ⟨_, e, _⟩ | ⟨kn, _, e, _⟩
        · exact e
        · omega
      have hs0 : (next.set j 1).set j 0 = next := by
        rw [List.set_set, ← hz]
        exact List.set_getElem_self _
      refine rooms_j1 (W := []) (N := 1) (.inr ⟨by rw [List.getElem?_set, if_pos rfl, if_pos hNl], by rw [hs0]; exact h, by rw [List.getElem?_eq_getElem hWl, hWe]⟩) hj ho ho2 (by rw [List.getElem?_eq_getElem hWl, hWe]) (by rw [List.getElem?_set, if_pos rfl, if_pos hNl]) (by omega) hm (by omega) ih
    · refine Ev.neg hz ?_
      have hc := h.cl j waits[j] next[j] (List.getElem?_eq_getElem hWl) (List.getElem?_eq_getElem hNl)
      refine rooms_j1 (.inl h) hj ho ho2 (List.getElem?_eq_getElem hWl) (List.getElem?_eq_getElem hNl) ?_ hm (by omega) ih
      rcases hc with ⟨e, _⟩ | ⟨kn, _, e, _⟩
      · exact absurd e hz
      · exact e
theorem known_ok (k : Nat) : ca_known k = some true := by kernel_rfl
theorem new_ok (hG : GOk g) (k : Nat) : ca_New k g = some (some (mk g []), 0) := by
  obtain ⟨c1, c2, e1, e2, r1, r2, b1, b2⟩ := hG
  unfold ca_New ca_New.j1
  rw [if_neg (by omega), if_neg (by omega), if_neg (by omega), if_neg (by simp; omega), if_neg (by omega), if_neg (by omega), if_neg (by omega), if_neg (by omega)]
  rfl
theorem rooms_true (a0 a1 : Int) (a2 : List Sent) (h0 : In64 a0) (h1 : In64 a1) (ha : a2.length ≤ 1048576) (hok : ∀ o ∈ a2, In64 o.Who ∧ In64 o.N) : ∃ k, law_Rooms k a0 a1 a2 = some true := by
  refine Ev.get ?_
  unfold law_Rooms
  refine Ev.bind (Ev.all known_ok) ?_
  obtain ⟨p0, l0, u0, e0⟩ := pick_ok h0 (b := 8) (by decide)
  obtain ⟨p1, l1, u1, e1⟩ := pick_ok h1 (b := 64) (by decide)
  refine Ev.bind (Ev.all e0) ?_
  refine Ev.bind (Ev.all e1) ?_
  obtain ⟨m, rfl⟩ : ∃ m : Nat, p0 = (m : Int) := ⟨p0.toNat, by omega⟩
  have w1 : w64 (1 + (m : Int)) = ((m + 1 : Nat) : Int) := by rw [w64_of (by omega) (by omega)]; omega
  have w2 : w64 (1 + p1) = 1 + p1 := w64_of (by omega) (by omega)
  have hml : 64 * ((m + 1 : Nat) : Int) * (1 + p1) ≤ 64 * 8 * 64 := Int.mul_le_mul (by omega) (by omega) (by omega) (by omega)
  have hmg : 64 * ((m + 1 : Nat) : Int) * 1 ≤ 64 * ((m + 1 : Nat) : Int) * (1 + p1) := Int.mul_le_mul_of_nonneg_left (by omega) (by omega)
  have w3 : w64 (64 * ((m + 1 : Nat) : Int)) = 64 * ((m + 1 : Nat) : Int) := w64_of (by omega) (by omega)
  have w4 : w64 (64 * ((m + 1 : Nat) : Int) * (1 + p1)) = 64 * ((m + 1 : Nat) : Int) * (1 + p1) := w64_of (by omega) (by omega)
  have hG : GOk ⟨((m + 1 : Nat) : Int), 1 + p1, 64 * ((m + 1 : Nat) : Int) * (1 + p1), 64⟩ := by
    refine ⟨?_, ?_, ?_, ?_, ?_, ?_, ?_, ?_⟩ <;> simp only <;> omega
  simp only [w1, w2, w3, w4]
  refine Ev.bind (Ev.all (new_ok hG)) ?_
  refine Ev.pos (by first | trivial | rfl) ?_
  refine Ev.pos (by first | trivial | rfl) ?_
  refine Ev.bindc (r := mk _ []) rfl ?_
  refine Ev.pos (by first | trivial | rfl) ?_
  have hX : XInv ⟨((m + 1 : Nat) : Int), 1 + p1, 64 * ((m + 1 : Nat) : Int) * (1 + p1), 64⟩ [] := ⟨by simp, by simp, by simp only [List.length_nil]; omega, by show (0 : Int) ≤ 64 * ((m + 1 : Nat) : Int) * (1 + p1); omega⟩
  exact rooms_l1 (n := m + 1) (most := 1 + p1) ha hok w2 w1 (by omega) a2 [] rfl [] _ _ ⟨⟨hG, hX, by omega, rfl, rfl, rfl, rfl, by simp⟩, rfl, rfl, fun j W N hW hN => .inl (by
    have hj : j < 8 := (List.getElem?_eq_some_iff.1 hW).1
    have hW' := List.mem_of_getElem? hW
    have hN' := List.mem_of_getElem? hN
    simp only [List.mem_cons, List.not_mem_nil, or_false, or_self] at hW' hN'
    exact ⟨hN', hW', rfl⟩), by simp⟩
end Go.Proofs.Ytpdpfiaediadgaa
