/- CacheOnce answers true: its loop. -/
import Derived.Test.YtpdpfiaediadgaaCR
set_option linter.unusedVariables false
set_option linter.unusedSimpArgs false
namespace Go.Proofs.Ytpdpfiaediadgaa
open Go Go.Eng
theorem Ev.unf {α : Type} {f : Nat → Option α} {r : α} (h : Ev (fun k => f (k + 1)) r) : Ev f r := Ev.step h (fun _ => rfl)
variable {g : CacheConfig} {X X' : Clis} {kn : Known} {w : WhoC} {s wa : Int} {l : List Seen} {a1 : List OpC}
/-- the loop goes on with this. -/
def Goes (a1 : List OpC) (g : CacheConfig) (i : Int) (l : List Seen) (c0 : Int) (X : Clis) : Prop :=
  Ev (fun k => law_Once.l1 k a1 g l c0 i g.Clients g.Entries g.Bytes g.Reserve X (eSum X) (bSum g.Reserve X)) true
def big : Nat := 2932031007402
theorem once_l2 {c0 i : Int} {o : OpC} {t : WhoC × Int × Int} (hb : l.length ≤ big)
    (H : ∀ at_, AtIs l t.1 t.2.1 at_ → Ev (fun k => law_Once.j1 k a1 g l c0 i g.Clients g.Entries g.Bytes g.Reserve X (eSum X) (bSum g.Reserve X) o t at_) true) :
    ∀ (b a : List Seen), l = a ++ b → ∀ at_, AtIs a t.1 t.2.1 at_ → Ev (fun k => law_Once.l2 k a1 g l c0 i g.Clients g.Entries g.Bytes g.Reserve X (eSum X) (bSum g.Reserve X) o t at_ (a.length : Int)) true
  | [], a, e, at_, ha => by
    refine Ev.unf ?_
    simp only [law_Once.l2]
    have hl : l.length = a.length := by rw [e]; simp
    refine Ev.neg (by omega) ?_
    exact H at_ (by rw [show l = a by rw [e]; simp]; exact ha)
  | x :: b, a, e, at_, ha => by
    refine Ev.unf ?_
    simp only [law_Once.l2]
    have hl : l.length = a.length + (b.length + 1) := by rw [e]; simp
    refine Ev.pos (by omega) ?_
    rw [w64_succ (by unfold big at hb; omega)]
    have hidx : idx l (a.length : Int) = some x := by
      rw [idx_at rfl (by omega)]
      simp [e]
    have ih := once_l2 hb H b (a ++ [x]) (by rw [e]; simp)
    rw [List.length_append, List.length_singleton] at ih
    have hno : ¬ (x.w = t.1 ∧ x.sequence = t.2.1) → AtIs (a ++ [x]) t.1 t.2.1 at_ := fun hx => by
      rcases ha with ⟨h1, h2⟩ | ⟨j, y, h1, h2, h3⟩
      · refine .inl ⟨h1, fun y hy => ?_⟩
        rcases List.mem_append.1 hy with hy | hy
        · exact h2 y hy
        · rw [List.mem_singleton] at hy
          subst hy
          exact hx
      · exact .inr ⟨j, y, h1, by rw [List.getElem?_append_left (List.getElem?_eq_some_iff.1 h2).1]; exact h2, h3⟩
    refine Ev.bindc hidx ?_
    by_cases hw : x.w = t.1
    · refine Ev.pos hw ?_
      refine Ev.bindc hidx ?_
      by_cases hs : x.sequence = t.2.1
      · refine Ev.pos hs ?_
        exact ih _ (.inr ⟨a.length, x, rfl, by simp, hw, hs⟩)
      · refine Ev.neg hs ?_
        exact ih _ (hno fun h => hs h.2)
    · refine Ev.neg hw ?_
      exact ih _ (hno fun h => hw h.1)
theorem catN_app {n : Nat} {x : Seen} (h : l.length + 1 ≤ n) : catN n l [x] = some (l ++ [x]) := by
  unfold catN
  rw [if_pos (by simpa using h)]
/-- The last branches. -/
theorem once_j6 {c0 i c' : Int} {t : WhoC × Int × Int} {at_ v now : Int} {r : List UInt8} {x351 x353 x355 x357 x358 x359 : Int} {b352 b354 b356 b360 b361 b : Bool}
    (hb : (b = true ∧ (v = 2 ∨ v = 3) ∧ ∃ (j : Nat) (x : Seen), at_ = (j : Int) ∧ l[j]? = some x ∧ x.done = decide (v = 3) ∧ r = x.reply ∧ now ≤ t.2.1) ∨ (b = false ∧ v = 5 ∧ at_ < 0) ∨ (b = false ∧ v = 4 ∧ ¬ (0 < now ∧ now ≤ t.2.1 ∧ 1 ≤ t.2.1 ∧ t.2.1 < 4294967296 ∧ 1 ≤ t.2.2 ∧ t.2.2 < 4294967296)))
    (H : Goes a1 g (w64 (i + 1)) l c' X') :
    Ev (fun k => law_Once.j6 k a1 g l c0 i t at_ (v, r, mk g X') now x351 b352 x353 b354 x355 b356 x357 x358 x359 b360 b361 c' b) true := by
  refine Ev.unf ?_
  simp only [law_Once.j6]
  rcases hb with ⟨rfl, hv, j, x, rfl, hj, hd, hr, hs⟩ | ⟨rfl, rfl, h0⟩ | ⟨rfl, rfl, h0⟩
  · obtain ⟨hjl, hje⟩ := List.getElem?_eq_some_iff.1 hj
    have hidx : idx l (j : Int) = some x := by rw [idx_at rfl hjl, hje]
    refine Ev.pos rfl ?_
    refine Ev.neg (by omega) ?_
    refine Ev.bindc hidx ?_
    refine Ev.pos (by rw [hd]; simp) ?_
    refine Ev.bindc hidx ?_
    refine Ev.pos hr ?_
    refine Ev.neg (by omega) ?_
    exact H
  · refine Ev.neg (by simp) ?_
    refine Ev.pos rfl ?_
    refine Ev.neg (by omega) ?_
    exact H
  · refine Ev.neg (by simp) ?_
    refine Ev.neg (by omega) ?_
    refine Ev.pos rfl ?_
    by_cases h1 : 0 < now
    · refine Ev.pos h1 ?_
      by_cases h2 : now ≤ t.2.1
      · refine Ev.pos h2 ?_
        by_cases h3 : 1 ≤ t.2.1
        · refine Ev.pos h3 ?_
          by_cases h4 : t.2.1 < 4294967296
          · refine Ev.pos h4 ?_
            by_cases h5 : 1 ≤ t.2.2
            · refine Ev.pos h5 ?_
              refine Ev.neg (fun h6 => h0 ⟨h1, h2, h3, h4, h5, h6⟩) ?_
              exact H
            · exact Ev.neg h5 H
          · exact Ev.neg h4 H
        · exact Ev.neg h3 H
      · exact Ev.neg h2 H
    · exact Ev.neg h1 H
/-- What a call answers, and what is in the book then. -/
def Fair (l : List Seen) (t : WhoC × Int × Int) (at_ v now : Int) (r : List UInt8) (X' : Clis) : Prop :=
  (v = 1 ∧ r = [] ∧ at_ < 0 ∧ now ≤ t.2.1 ∧ t.2.2 ≤ now ∧ Book (l ++ [⟨t.1, t.2.1, false, []⟩]) X') ∨
  ((v = 2 ∨ v = 3) ∧ (v = 2 → r = []) ∧ Book l X' ∧ ∃ (j : Nat) (x : Seen), at_ = (j : Int) ∧ l[j]? = some x ∧ x.done = decide (v = 3) ∧ r = x.reply ∧ now ≤ t.2.1) ∨
  (v = 5 ∧ r = [] ∧ at_ < 0 ∧ Book l X') ∨
  (v = 4 ∧ r = [] ∧ Book l X' ∧ ¬ (0 < now ∧ now ≤ t.2.1 ∧ 1 ≤ t.2.1 ∧ t.2.1 < 4294967296 ∧ 1 ≤ t.2.2 ∧ t.2.2 < 4294967296))
theorem once_j5 {c0 i : Int} {t : WhoC × Int × Int} {at_ v now : Int} {r : List UInt8} {x351 x353 x355 x357 x358 x359 : Int} {b352 b354 b356 b360 b361 : Bool} (hb : l.length < big) (hF : Fair l t at_ v now r X')
    (H : ∀ l' , Book l' X' → l'.length ≤ l.length + 1 → Goes a1 g (w64 (i + 1)) l' X'.length X') :
    Ev (fun k => law_Once.j5 k a1 g l c0 i t at_ (v, r, mk g X') now x351 b352 x353 b354 x355 b356 x357 x358 x359 b360 b361) true := by
  refine Ev.unf ?_
  simp only [law_Once.j5]
  refine Ev.bind (r := (X'.length : Int)) (Ev.all fun k => rfl) ?_
  rcases hF with ⟨rfl, rfl, h0, h1, h2, hB⟩ | ⟨hv, hr, hB, hx⟩ | ⟨rfl, rfl, h0, hB⟩ | ⟨rfl, rfl, hB, h0⟩
  · refine Ev.pos rfl ?_
    refine Ev.neg (by omega) ?_
    refine Ev.neg (by omega) ?_
    refine Ev.neg (by omega) ?_
    refine Ev.bindc (catN_app (by unfold big at hb; omega)) ?_
    exact H _ hB (by simp)
  · refine Ev.neg (by omega) ?_
    rcases hv with rfl | rfl
    · refine Ev.pos rfl ?_
      exact once_j6 (.inl ⟨rfl, .inl rfl, hx⟩) (H l hB (by omega))
    · refine Ev.neg (by omega) ?_
      exact once_j6 (.inl ⟨rfl, .inr rfl, hx⟩) (H l hB (by omega))
  · refine Ev.neg (by omega) ?_
    refine Ev.neg (by omega) ?_
    exact once_j6 (.inr (.inl ⟨rfl, rfl, h0⟩)) (H l hB (by omega))
  · refine Ev.neg (by omega) ?_
    refine Ev.neg (by omega) ?_
    exact once_j6 (.inr (.inr ⟨rfl, rfl, h0⟩)) (H l hB (by omega))
theorem waterP_put (hn : (X.map (·.1)).Nodup) : waterP (mput X w kn) w = kn.water := by
  unfold waterP
  rw [mget_mput hn, if_pos rfl]
theorem AtIs.neg {at_ : Int} (ha : AtIs l w s at_) (h : ∀ x ∈ l, ¬ (x.w = w ∧ x.sequence = s)) : at_ < 0 := by
  rcases ha with ⟨h1, _⟩ | ⟨j, x, _, hj, hx⟩
  · omega
  · exact absurd hx (h x (List.mem_of_getElem? hj))
theorem AtIs.there {at_ : Int} (ha : AtIs l w s at_) {y : Seen} (hy : y ∈ l) (h : y.w = w ∧ y.sequence = s) : ∃ (j : Nat) (x : Seen), at_ = (j : Int) ∧ l[j]? = some x ∧ x.w = w ∧ x.sequence = s := by
  rcases ha with ⟨_, h1⟩ | h1
  · exact absurd h (h1 y hy)
  · exact h1
theorem ask_fair {t : WhoC × Int × Int} {at_ : Int} (hG : GOk g) (h : XInv g X) (B : Book l X) (ha : AtIs l t.1 t.2.1 at_) :
    Fair l t at_ (askP g X t.1 t.2.1 t.2.2).1 (waterP (askP g X t.1 t.2.1 t.2.2).2.2 t.1) (askP g X t.1 t.2.1 t.2.2).2.1 (askP g X t.1 t.2.1 t.2.2).2.2 ∧ waterP X t.1 ≤ waterP (askP g X t.1 t.2.1 t.2.2).2.2 t.1 ∧ X.length ≤ (askP g X t.1 t.2.1 t.2.2).2.2.length := by
  obtain ⟨w, s, wa⟩ := t
  simp only at ha ⊢
  unfold askP
  by_cases hg : goodWho w ∧ goodWord s ∧ goodWord wa
  · rw [if_pos hg]
    cases hk : mget X w with
    | some kn =>
      have hB := B.rise (wa := wa) h hk
      have hR := h.rise (wa := wa) hG hk hg.2.2
      have hkr : mget (mput X w (riseK kn wa)) w = some (riseK kn wa) := by rw [mget_mput h.nd, if_pos rfl]
      have hw0 : waterP X w = kn.water := by unfold waterP; rw [hk]
      have hwp : ∀ kn', waterP (mput X w kn') w = kn'.water := fun kn' => waterP_put h.nd
      have hlen : ∀ kn', (mput X w kn').length = X.length := fun kn' => len_mput_some hk h.nd
      have hge := riseK_water (kn := kn) (wa := wa)
      have hwa := riseK_wa (kn := kn) (wa := wa)
      simp only
      by_cases hs : s < (riseK kn wa).water
      · rw [if_pos hs]
        refine ⟨.inr (.inr (.inr ⟨rfl, rfl, hB, ?_⟩)), ?_, ?_⟩
        · simp only [hwp]; omega
        · simp only [hwp]; omega
        · simp only [hlen]; omega
      · rw [if_neg hs]
        have hnone : mget (riseK kn wa).calls s = none → ∀ x ∈ l, ¬ (x.w = w ∧ x.sequence = s) := fun hc x hx hxx => by
          obtain ⟨kx, k1, k2⟩ := hB.seen x hx
          rw [hxx.1, hkr, Option.some.injEq] at k1
          subst k1
          rw [hxx.2, hc] at k2
          cases k2 (by omega)
        cases hc : mget (riseK kn wa).calls s with
        | some e =>
          obtain ⟨y, hy, hyy⟩ := hB.book w s e (by unfold look; rw [hkr]; exact hc)
          obtain ⟨j, x, hat, hj, x1, x2⟩ := ha.there hy hyy
          obtain ⟨kx, k1, k2⟩ := hB.seen x (List.mem_of_getElem? hj)
          rw [x1, hkr, Option.some.injEq] at k1
          subst k1
          rw [x2, hc] at k2
          have k3 := Option.some.inj (k2 (by omega))
          have hent := ((hR.get hkr).2.ent _ (mget_mem hc)).1
          simp only
          by_cases hd : e.done = true
          · rw [if_pos hd]
            refine ⟨.inr (.inl ⟨.inr rfl, fun h => by simp at h, hB, j, x, hat, hj, ?_, ?_, ?_⟩), ?_, ?_⟩
            · rw [k3] at hd; simpa using hd
            · rw [k3]
            · simp only [hwp]; omega
            · simp only [hwp]; omega
            · simp only [hlen]; omega
          · rw [if_neg hd]
            refine ⟨.inr (.inl ⟨.inl rfl, fun _ => rfl, hB, j, x, hat, hj, ?_, ?_, ?_⟩), ?_, ?_⟩
            · rw [k3] at hd; simpa using hd
            · have := hent (by simpa using hd)
              rw [k3] at this
              exact this.symm
            · simp only [hwp]; omega
            · simp only [hwp]; omega
            · simp only [hlen]; omega
        | none =>
          have hat := ha.neg (hnone hc)
          simp only
          split
          · refine ⟨.inr (.inr (.inl ⟨rfl, rfl, hat, hB⟩)), ?_, ?_⟩
            · simp only [hwp]; omega
            · simp only [hlen]; omega
          · refine ⟨.inl ⟨rfl, rfl, hat, ?_, ?_, ?_⟩, ?_, ?_⟩
            · simp only [hwp]; omega
            · simp only [hwp]; omega
            · have := hB.add hR hkr hc (hnone hc)
              rwa [mput_mput h.nd] at this
            · simp only [hwp]; omega
            · simp only [hlen]; omega
    | none =>
      have hw0 : waterP X w = 0 := by unfold waterP; rw [hk]
      have hno : ∀ x ∈ l, ¬ (x.w = w ∧ x.sequence = s) := fun x hx hxx => by
        obtain ⟨kx, k1, _⟩ := B.seen x hx
        rw [hxx.1, hk] at k1
        cases k1
      have hat := ha.neg hno
      have hwa := hg.2.2.1
      simp only
      split
      · exact ⟨.inr (.inr (.inr ⟨rfl, rfl, B, by rw [hw0]; omega⟩)), Int.le_refl _, Nat.le_refl _⟩
      · split
        · exact ⟨.inr (.inr (.inl ⟨rfl, rfl, hat, B⟩)), Int.le_refl _, Nat.le_refl _⟩
        · refine ⟨.inl ⟨rfl, rfl, hat, ?_, ?_, B.new h hk⟩, ?_, ?_⟩
          · rw [waterP_put h.nd]; simp only; omega
          · rw [waterP_put h.nd]; exact Int.le_refl _
          · rw [waterP_put h.nd, hw0]; simp only; omega
          · simp only [len_mput_none hk]; omega
  · rw [if_neg hg]
    refine ⟨.inr (.inr (.inr ⟨rfl, rfl, B, fun hc => hg ?_⟩)), Int.le_refl _, Nat.le_refl _⟩
    simp only at hc
    unfold waterP at hc
    cases hk : mget X w with
    | none => rw [hk] at hc; simp at hc
    | some kn => exact ⟨(h.get hk).1, ⟨hc.2.2.1, by omega⟩, ⟨hc.2.2.2.2.1, by omega⟩⟩
theorem once_ask {c0 i : Int} {o : OpC} {t : WhoC × Int × Int} {at_ : Int} (hG : GOk g) (h : XInv g X) (B : Book l X) (hb : l.length < big) (ha : AtIs l t.1 t.2.1 at_) (hc0 : c0 ≤ X.length)
    (H : ∀ l' X' c', XInv g X' → Book l' X' → l'.length ≤ l.length + 1 → c' ≤ (X'.length : Int) → Goes a1 g (w64 (i + 1)) l' c' X') :
    Ev (fun k => law_Once.j2 k a1 g l c0 i g.Clients g.Entries g.Bytes g.Reserve X (eSum X) (bSum g.Reserve X) o t at_ false) true := by
  obtain ⟨hF, hw, hl⟩ := ask_fair hG h B ha
  have hI := ask_inv (w := t.1) (s := t.2.1) (wa := t.2.2) hG h
  refine Ev.unf ?_
  simp only [law_Once.j2]
  refine Ev.neg (by simp) ?_
  refine Ev.bind (r := waterP X t.1) (Ev.all fun k => water_eq k) ?_
  refine Ev.bind (r := ((askP g X t.1 t.2.1 t.2.2).1, (askP g X t.1 t.2.1 t.2.2).2.1, mk g (askP g X t.1 t.2.1 t.2.2).2.2)) (Ev.all fun k => ask_eq hG h k) ?_
  generalize askP g X t.1 t.2.1 t.2.2 = A at hF hw hl hI ⊢
  obtain ⟨v, r, X'⟩ := A
  simp only at hF hw hl hI ⊢
  refine Ev.bind (r := waterP X' t.1) (Ev.all fun k => water_eq k) ?_
  refine Ev.neg (by omega) ?_
  refine Ev.bind (r := (X'.length : Int)) (Ev.all fun k => rfl) ?_
  refine Ev.neg (by omega) ?_
  refine Ev.bind (r := (X'.length : Int)) (Ev.all fun k => rfl) ?_
  refine Ev.neg (by have := hI.len; omega) ?_
  refine Ev.bind (r := bSum g.Reserve X') (Ev.all fun k => rfl) ?_
  refine Ev.neg (by have := hI.max; omega) ?_
  refine Ev.bind (r := eSum X') (Ev.all fun k => rfl) ?_
  refine Ev.bind (r := (X'.length : Int)) (Ev.all fun k => rfl) ?_
  have hm : w64 ((X'.length : Int) * g.Entries) = g.Entries * X'.length := by
    rw [Int.mul_comm]
    have h1 := hI.len; have h2 := hG.c2; have h3 := hG.e2; have h4 := hG.e1
    have h5 : g.Entries * (X'.length : Int) ≤ 64 * 64 := Int.mul_le_mul h3 (by omega) (by omega) (by omega)
    have h6 : 0 ≤ g.Entries * (X'.length : Int) := Int.mul_nonneg (by omega) (by omega)
    exact w64_of (by omega) (by omega)
  refine Ev.neg (by have := (hI.eb hG).2; omega) ?_
  have HH : ∀ l' , Book l' X' → l'.length ≤ l.length + 1 → Goes a1 g (w64 (i + 1)) l' X'.length X' := fun l' hB hl' => H l' X' _ hI hB hl' (Int.le_refl _)
  by_cases hv : v = 3
  · refine Ev.pos hv ?_
    exact once_j5 hb hF HH
  · refine Ev.neg hv ?_
    refine Ev.pos ?_ ?_
    · rcases hF with ⟨_, h, _⟩ | ⟨h1, h2, _⟩ | ⟨_, h, _⟩ | ⟨_, h, _⟩
      · exact h
      · exact h2 (by omega)
      · exact h
      · exact h
    · exact once_j5 hb hF HH
theorem once_done {c0 i : Int} {o : OpC} {t : WhoC × Int × Int} {at_ : Int} (hG : GOk g) (h : XInv g X) (B : Book l X) (hb : l.length < big) (ha : AtIs l t.1 t.2.1 at_) (hc0 : c0 ≤ X.length)
    (H : ∀ l' X' c', XInv g X' → Book l' X' → l'.length ≤ l.length + 1 → c' ≤ (X'.length : Int) → Goes a1 g (w64 (i + 1)) l' c' X') :
    Ev (fun k => law_Once.j2 k a1 g l c0 i g.Clients g.Entries g.Bytes g.Reserve X (eSum X) (bSum g.Reserve X) o t at_ true) true := by
  refine Ev.unf ?_
  simp only [law_Once.j2]
  refine Ev.pos trivial ?_
  refine Ev.bind (r := ((doneP g X t.1 t.2.1 o.Reply).1, mk g (doneP g X t.1 t.2.1 o.Reply).2)) (Ev.all fun k => done_eq hG h k) ?_
  have hI := done_inv (w := t.1) (s := t.2.1) hG h (r := o.Reply)
  have hj3 : ∀ l' , Book l' (doneP g X t.1 t.2.1 o.Reply).2 → l'.length ≤ l.length + 1 → c0 ≤ ((doneP g X t.1 t.2.1 o.Reply).2.length : Int) → Ev (fun k => law_Once.j3 k a1 g c0 i ((doneP g X t.1 t.2.1 o.Reply).1, mk g (doneP g X t.1 t.2.1 o.Reply).2) l') true := fun l' hB hl hc => by
    refine Ev.unf ?_
    simp only [law_Once.j3]
    exact H l' _ c0 hI hB hl hc
  cases hk : mget X t.1 with
  | none =>
    have hd : doneP g X t.1 t.2.1 o.Reply = (151, X) := by unfold doneP; rw [hk]
    rw [hd] at hj3 ⊢
    refine Ev.neg (by simp) ?_
    exact hj3 l B (by omega) hc0
  | some kn =>
    cases hc : mget kn.calls t.2.1 with
    | none =>
      have hd : doneP g X t.1 t.2.1 o.Reply = (151, X) := by unfold doneP; rw [hk]; simp only [hc]
      rw [hd] at hj3 ⊢
      refine Ev.neg (by simp) ?_
      exact hj3 l B (by omega) hc0
    | some e =>
      by_cases hdn : e.done = true
      · have hd : doneP g X t.1 t.2.1 o.Reply = (151, X) := by unfold doneP; rw [hk]; simp only [hc, if_pos hdn]
        rw [hd] at hj3 ⊢
        refine Ev.neg (by simp) ?_
        exact hj3 l B (by omega) hc0
      · by_cases hr : g.Reserve < (o.Reply.length : Int)
        · have hd : doneP g X t.1 t.2.1 o.Reply = (152, X) := by unfold doneP; rw [hk]; simp only [hc, if_neg hdn, if_pos hr]
          rw [hd] at hj3 ⊢
          refine Ev.neg (by simp) ?_
          exact hj3 l B (by omega) hc0
        · have hd : doneP g X t.1 t.2.1 o.Reply = (0, mput X t.1 ⟨kn.water, mput kn.calls t.2.1 ⟨true, o.Reply⟩⟩) := by unfold doneP; rw [hk]; simp only [hc, if_neg hdn, if_neg hr]
          rw [hd] at hj3 hI ⊢
          refine Ev.pos rfl ?_
          have hK := (h.get hk).2
          have hlow := (hK.low _ (mget_mem hc)).1
          obtain ⟨y, hy, y1, y2⟩ := B.book t.1 t.2.1 e (by unfold look; rw [hk]; exact hc)
          rcases ha with ⟨_, hno⟩ | ⟨j, x, rfl, hj, x1, x2⟩
          · exact absurd ⟨y1, y2⟩ (hno y hy)
          · obtain ⟨hjl, hje⟩ := List.getElem?_eq_some_iff.1 hj
            have hidx : idx l (j : Int) = some x := by rw [idx_at rfl hjl, hje]
            obtain ⟨kx, k1, k2⟩ := B.seen x (List.mem_of_getElem? hj)
            rw [x1, hk, Option.some.injEq] at k1
            subst k1
            rw [x2] at k2
            have k3 := k2 hlow
            rw [hc, Option.some.injEq] at k3
            subst k3
            refine Ev.neg (by omega) ?_
            refine Ev.bindc hidx ?_
            refine Ev.neg hdn ?_
            refine Ev.neg hr ?_
            refine Ev.bind (r := waterP (mput X t.1 ⟨kn.water, mput kn.calls t.2.1 ⟨true, o.Reply⟩⟩) t.1) (Ev.all fun k => water_eq k) ?_
            have hwt : waterP (mput X t.1 ⟨kn.water, mput kn.calls t.2.1 ⟨true, o.Reply⟩⟩) t.1 = kn.water := by unfold waterP; rw [mget_mput h.nd, if_pos rfl]
            rw [hwt]
            refine Ev.unf ?_
            simp only [law_Once.j4]
            refine Ev.neg (by simp; omega) ?_
            refine Ev.bindc hidx ?_
            refine Ev.bindc (upd_at hjl) ?_
            refine Ev.bindc (idx_at rfl (by simpa using hjl)) ?_
            refine Ev.bindc (upd_at (by simpa using hjl)) ?_
            have hset : ∀ z : Seen, (l.set j z)[j]'(by simpa using hjl) = z := fun z => by simp
            rw [hset]
            rw [List.set_set]
            refine hj3 _ ?_ (by simp) (by rw [len_mput_some hk h.nd]; exact hc0)
            show Book (l.set j ⟨x.w, x.sequence, true, o.Reply⟩) _
            exact B.fin (x := x) h hk hj x1 x2
end Go.Proofs.Ytpdpfiaediadgaa
