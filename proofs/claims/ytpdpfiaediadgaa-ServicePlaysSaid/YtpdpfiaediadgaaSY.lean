/- ServicePlays answers true. -/
import Derived.Test.YtpdpfiaediadgaaSX
import Derived.Test.YtpdpfiaediadgaaSG
set_option linter.unusedVariables false
set_option linter.unusedSimpArgs false
namespace Go.Proofs.Ytpdpfiaediadgaa
open Go Go.Eng
abbrev NI : Nat := 17592186044416
abbrev NB : Nat := 140737488355328
def toR (s : Service) : Service111 := ⟨s.Prog, s.Vers, s.Procs⟩
/-- Both registries have the same. -/
structure Both (l : List Service) (r : List Service111) : Prop where
  eq : r = l.map toR
  all : ∀ s ∈ l, s.Handle = true ∧ s.Procs.length ≤ NI ∧ 0 ≤ s.Vers
  len : l.length ≤ 16
theorem Both.short {l : List Service} {r : List Service111} (h : Both l r) : short l := ⟨Nat.le_trans h.len (by decide), fun s hs => Nat.le_trans (h.all s hs).2.1 (by decide)⟩
/-! ### the document's -/
theorem rmay_l1 (s : Service111) (hb : s.Procs.length ≤ big) : ∀ (b a : List Int) (m : Int), s.Procs = a ++ b → 0 ≤ m → Ev (fun k => rv_May.l1 k s m (a.length : Int)) (rising m b)
  | [], a, m, e, hm => by
    refine Ev.unf ?_
    simp only [rv_May.l1]
    have hl : s.Procs.length = a.length := by rw [e]; simp
    exact Ev.neg (by omega) Ev.ret
  | n :: b, a, m, e, hm => by
    refine Ev.unf ?_
    simp only [rv_May.l1]
    have hl : s.Procs.length = a.length + (b.length + 1) := by rw [e]; simp
    have hx : s.Procs[a.length]'(by omega) = n := by simp [e]
    have hat := idx_at (L := s.Procs) (j := a.length) (i := (a.length : Int)) rfl (by omega)
    rw [hx] at hat
    refine Ev.pos (by omega) ?_
    refine Ev.bindc hat ?_
    simp only [rising]
    by_cases h : n ≤ m
    · refine Ev.pos h (Ev.cast Ev.ret ?_)
      simp [show ¬ m < n by omega]
    refine Ev.neg h ?_
    refine Ev.bindc hat ?_
    rw [show decide (m < n) = true from decide_eq_true (by omega)]
    by_cases h2 : 4294967295 < n
    · refine Ev.pos h2 (Ev.cast Ev.ret ?_)
      simp [isW, show ¬ n ≤ 4294967295 by omega]
    refine Ev.neg h2 ?_
    refine Ev.bindc hat ?_
    rw [w64_succ (by unfold big at hb; omega)]
    have := rmay_l1 s hb b (a ++ [n]) n (by rw [e]; simp) (by omega)
    rw [List.length_append, List.length_singleton] at this
    refine Ev.cast this ?_
    simp [isW, show 0 ≤ n by omega, show n ≤ 4294967295 by omega]
def rmay (s : Service111) : Bool := isW s.Prog && (isW s.Vers && rising 0 s.Procs)
theorem rmay_ev (s : Service111) (hb : s.Procs.length ≤ big) : Ev (fun k => rv_May k s) (rmay s) := by
  have hl := rmay_l1 s hb s.Procs [] 0 rfl (by omega)
  have hj : ∀ b : Bool, Ev (fun k => rv_May.j1 k s b) (!b && rising 0 s.Procs) := by
    intro b
    simp only [rv_May.j1]
    cases b
    · exact Ev.neg (by simp) (Ev.cast hl (by simp))
    · exact Ev.pos rfl (Ev.cast Ev.ret (by simp))
  simp only [rv_May]
  by_cases h1 : s.Prog < 0
  · refine Ev.pos h1 (Ev.cast (hj true) ?_)
    simp [rmay, isW, show ¬ 0 ≤ s.Prog by omega]
  refine Ev.neg h1 ?_
  by_cases h2 : 4294967295 < s.Prog
  · refine Ev.pos h2 (Ev.cast (hj true) ?_)
    simp [rmay, isW, show ¬ s.Prog ≤ 4294967295 by omega]
  refine Ev.neg h2 ?_
  by_cases h3 : s.Vers < 0
  · refine Ev.pos h3 (Ev.cast (hj true) ?_)
    simp [rmay, isW, show ¬ 0 ≤ s.Vers by omega]
  refine Ev.neg h3 (Ev.cast (hj _) ?_)
  simp only [rmay, isW, show 0 ≤ s.Prog by omega, show s.Prog ≤ 4294967295 by omega, show 0 ≤ s.Vers by omega, decide_true, Bool.true_and]
  by_cases h4 : s.Vers ≤ 4294967295
  · simp [h4]
  · simp [h4]
theorem may_rmay (s : Service) : may s = (rmay (toR s) && s.Handle) := by
  unfold may rmay toR
  cases rising 0 s.Procs <;> cases isW s.Prog <;> cases isW s.Vers <;> simp
theorem roffer_l1 (r : List Service111) (s : Service111) (hb : r.length ≤ 16) (hs : s.Procs.length ≤ NI) : ∀ (b a : List Service111), r = a ++ b →
    Ev (fun k => rv_Offer.l1 k ⟨r⟩ s (a.length : Int)) (if ∃ x ∈ b, x.Prog = s.Prog ∧ x.Vers = s.Vers then (181, ⟨r⟩) else if r.length = 16 then (182, ⟨r⟩) else (0, ⟨r ++ [s]⟩))
  | [], a, e => by
    refine Ev.unf ?_
    simp only [rv_Offer.l1]
    have hl : r.length = a.length := by rw [e]; simp
    refine Ev.neg (show ¬ (a.length : Int) < (r.length : Int) by omega) ?_
    rw [if_neg (by simp)]
    simp only [rv_Offer.j2]
    by_cases h : r.length = 16
    · rw [if_pos h]; exact Ev.pos (show (r.length : Int) = 16 by omega) Ev.ret
    · rw [if_neg h]
      refine Ev.neg (show ¬ (r.length : Int) = 16 by omega) ?_
      refine Ev.bindc (cat_at (by simpa using hs)) ?_
      exact Ev.bindc (cat_at (by simp; omega)) Ev.ret
  | x :: b, a, e => by
    refine Ev.unf ?_
    simp only [rv_Offer.l1]
    have hl : r.length = a.length + (b.length + 1) := by rw [e]; simp
    have hx : r[a.length]'(by omega) = x := by simp [e]
    have hat := idx_at (L := r) (j := a.length) (i := (a.length : Int)) rfl (by omega)
    rw [hx] at hat
    refine Ev.pos (show (a.length : Int) < (r.length : Int) by omega) ?_
    refine Ev.bindc hat ?_
    have ih := roffer_l1 r s hb hs b (a ++ [x]) (by rw [e]; simp)
    rw [List.length_append, List.length_singleton] at ih
    rw [w64_succ (by omega)]
    by_cases h1 : x.Prog = s.Prog
    · refine Ev.pos h1 ?_
      refine Ev.bindc hat ?_
      by_cases h2 : x.Vers = s.Vers
      · rw [if_pos ⟨x, by simp, h1, h2⟩]
        exact Ev.pos h2 Ev.ret
      · refine Ev.neg h2 (Ev.cast ih ?_)
        simp [h2]
    · refine Ev.neg h1 (Ev.cast ih ?_)
      simp [h1]
theorem Both.there {l : List Service} {r : List Service111} (h : Both l r) (p v : Int) : (∃ x ∈ r, x.Prog = p ∧ x.Vers = v) ↔ place l p v < l.length := by
  rw [h.eq]
  unfold place
  rw [List.findIdx_lt_length]
  constructor
  · rintro ⟨x, hx, h1, h2⟩
    obtain ⟨s, hs, rfl⟩ := List.mem_map.1 hx
    exact ⟨s, hs, by simp only [is, Bool.and_eq_true, decide_eq_true_eq]; exact ⟨h1, h2⟩⟩
  · rintro ⟨s, hs, he⟩
    simp only [is, Bool.and_eq_true, decide_eq_true_eq] at he
    exact ⟨toR s, List.mem_map.2 ⟨s, hs, rfl⟩, he⟩
/-- Both take a service, or not. -/
theorem both_offer {l : List Service} {r : List Service111} (h : Both l r) (s : Service) (hs : s.Procs.length ≤ NI) :
    ∃ e l' r', Both l' r' ∧ offer l s = (e, ⟨l'⟩) ∧ Ev (fun k => rv_Offer k ⟨r⟩ (toR s) s.Handle) (e, ⟨r'⟩) := by
  have hlen : r.length = l.length := by rw [h.eq]; exact List.length_map ..
  have hl1 := roffer_l1 r (toR s) (by rw [hlen]; exact h.len) hs r [] rfl
  have hj : ∀ b : Bool, Ev (fun k => rv_Offer.j1 k ⟨r⟩ (toR s) b) (if b = true then (180, ⟨r⟩) else (if ∃ x ∈ r, x.Prog = s.Prog ∧ x.Vers = s.Vers then (181, ⟨r⟩) else if r.length = 16 then (182, ⟨r⟩) else (0, ⟨r ++ [toR s]⟩))) := by
    intro b
    simp only [rv_Offer.j1]
    cases b
    · exact Ev.neg (by simp) (Ev.cast hl1 (by rw [if_neg (show ¬ (false = true) by simp)]; rfl))
    · exact Ev.pos rfl (Ev.cast Ev.ret (by simp))
  have hr : ∀ x, (if may s = true then (if ∃ x ∈ r, x.Prog = s.Prog ∧ x.Vers = s.Vers then (181, ⟨r⟩) else if r.length = 16 then (182, ⟨r⟩) else (0, ⟨r ++ [toR s]⟩)) else (180, ⟨r⟩)) = x → Ev (fun k => rv_Offer k ⟨r⟩ (toR s) s.Handle) x := by
    intro x hx
    subst hx
    simp only [rv_Offer]
    refine Ev.bind (rmay_ev _ (Nat.le_trans hs (by decide))) ?_
    rw [may_rmay]
    cases rmay (toR s)
    · exact Ev.neg (by simp) (Ev.cast (hj true) (by simp))
    · refine Ev.pos rfl (Ev.cast (hj _) ?_)
      cases s.Handle <;> simp
  unfold offer
  by_cases h1 : may s = true
  · rw [if_pos h1]
    rw [if_pos h1] at hr
    by_cases h2 : place l s.Prog s.Vers < l.length
    · rw [if_pos h2]
      rw [if_pos ((h.there _ _).2 h2)] at hr
      exact ⟨181, l, r, h, rfl, hr _ rfl⟩
    · rw [if_neg h2]
      rw [if_neg (fun k => h2 ((h.there _ _).1 k))] at hr
      by_cases h3 : l.length = 16
      · rw [if_pos (by omega)]
        rw [if_pos (by omega)] at hr
        exact ⟨182, l, r, h, rfl, hr _ rfl⟩
      · rw [if_neg (by have := h.len; omega)]
        rw [if_neg (by omega)] at hr
        refine ⟨0, l ++ [s], r ++ [toR s], ⟨by rw [h.eq]; simp, fun x hx => ?_, by have := h.len; simp; omega⟩, rfl, hr _ rfl⟩
        rcases List.mem_append.1 hx with hx | hx
        · exact h.all x hx
        · obtain rfl := List.mem_singleton.1 hx
          unfold may at h1
          simp only [Bool.and_eq_true, isW, decide_eq_true_eq] at h1
          exact ⟨h1.2.2.2, hs, h1.2.2.1.1⟩
  · rw [if_neg h1]
    rw [if_neg h1] at hr
    exact ⟨180, l, r, h, rfl, hr _ rfl⟩
/-! ### Find -/
theorem has_l1 (s : Service111) (c : Int) (hb : s.Procs.length ≤ big) : ∀ (b a : List Int), s.Procs = a ++ b → Ev (fun k => rv_has.l1 k s c (a.length : Int)) (decide (c ∈ b) || decide (c = 0))
  | [], a, e => by
    refine Ev.unf ?_
    simp only [rv_has.l1]
    have hl : s.Procs.length = a.length := by rw [e]; simp
    exact Ev.neg (by omega) (Ev.cast Ev.ret (by simp))
  | n :: b, a, e => by
    refine Ev.unf ?_
    simp only [rv_has.l1]
    have hl : s.Procs.length = a.length + (b.length + 1) := by rw [e]; simp
    have hx : s.Procs[a.length]'(by omega) = n := by simp [e]
    have hat := idx_at (L := s.Procs) (j := a.length) (i := (a.length : Int)) rfl (by omega)
    rw [hx] at hat
    refine Ev.pos (by omega) ?_
    refine Ev.bindc hat ?_
    by_cases h : n = c
    · exact Ev.pos h (Ev.cast Ev.ret (by simp [h]))
    · refine Ev.neg h ?_
      rw [w64_succ (by unfold big at hb; omega)]
      have := has_l1 s c hb b (a ++ [n]) (by rw [e]; simp)
      rw [List.length_append, List.length_singleton] at this
      refine Ev.cast this ?_
      simp [show ¬ c = n by omega]
/-- The least and the greatest version so far. -/
def lowhigh : List Int → Int × Int
  | [] => (-1, -1)
  | x :: r => (r.foldl min x, r.foldl max x)
theorem foldl_min_nonneg (r : List Int) : ∀ x : Int, 0 ≤ x → (∀ y ∈ r, 0 ≤ y) → 0 ≤ r.foldl min x := by
  induction r with
  | nil => intro x h _; exact h
  | cons y r ih => intro x h hr; exact ih _ (by have := hr y (by simp); omega) (fun z hz => hr z (by simp [hz]))
theorem lowhigh_snoc (L : List Int) (v : Int) (h : ∀ y ∈ L, 0 ≤ y) (hv : 0 ≤ v) : lowhigh (L ++ [v]) = (if (lowhigh L).1 < 0 ∨ v < (lowhigh L).1 then v else (lowhigh L).1, max (lowhigh L).2 v) := by
  cases L with
  | nil => simp [lowhigh]; omega
  | cons x r =>
    have h0 := foldl_min_nonneg r x (h x (by simp)) (fun y hy => h y (by simp [hy]))
    have e1 : lowhigh (x :: r ++ [v]) = ((r ++ [v]).foldl min x, (r ++ [v]).foldl max x) := rfl
    rw [e1, List.foldl_append, List.foldl_append]
    show (min (r.foldl min x) v, max (r.foldl max x) v) = (if r.foldl min x < 0 ∨ v < r.foldl min x then v else r.foldl min x, max (r.foldl max x) v)
    generalize r.foldl min x = m at h0 ⊢
    congr 1
    by_cases h1 : v < m
    · rw [if_pos (Or.inr h1)]; omega
    · rw [if_neg (by omega)]; omega
theorem rfind_l1 {l : List Service} {r : List Service111} (h : Both l r) (p v c : Int) : ∀ (b a : List Service), l = a ++ b → (∀ s ∈ a, is p v s = false) →
    Ev (fun k => rv_Find.l1 k ⟨r⟩ p v c (lowhigh (vs a p)).1 (lowhigh (vs a p)).2 (a.length : Int)) (find l p v c)
  | [], a, e, hn => by
    refine Ev.unf ?_
    simp only [rv_Find.l1]
    have hl : l.length = a.length := by rw [e]; simp
    have hlen : r.length = l.length := by rw [h.eq]; exact List.length_map ..
    refine Ev.neg (show ¬ (a.length : Int) < (r.length : Int) by omega) ?_
    have ea : a = l := by rw [e]; simp
    rw [ea] at hn ⊢
    have hp : ¬ place l p v < l.length := by
      unfold place
      rw [List.findIdx_lt_length]
      rintro ⟨s, hs, he⟩
      rw [hn s hs] at he
      cases he
    unfold find
    have hnn : ∀ y ∈ vs l p, 0 ≤ y := fun y hy => by
      obtain ⟨s, hs, rfl⟩ := List.mem_map.1 hy
      exact (h.all s (List.mem_filter.1 hs).1).2.2
    generalize vs l p = L at hnn ⊢
    cases L with
    | nil => exact Ev.pos (by simp [lowhigh]) Ev.ret
    | cons x q =>
      have h0 := foldl_min_nonneg q x (hnn x (by simp)) (fun y hy => hnn y (by simp [hy]))
      refine Ev.neg (by simp only [lowhigh]; omega) ?_
      rw [if_pos (show (versL (x :: q)).2.2 = true from rfl), dif_neg hp]
      exact Ev.ret
  | s :: b, a, e, hn => by
    have hl : l.length = a.length + (b.length + 1) := by rw [e]; simp
    have hlen : r.length = l.length := by rw [h.eq]; exact List.length_map ..
    have hll := h.len
    have hx : r[a.length]'(by omega) = toR s := by simp only [h.eq]; simp [e]
    have hat := idx_at (L := r) (j := a.length) (i := (a.length : Int)) rfl (by omega)
    rw [hx] at hat
    have hsl : s ∈ l := by rw [e]; simp
    have hs := h.all s hsl
    refine Ev.unf ?_
    simp only [rv_Find.l1]
    refine Ev.pos (show (a.length : Int) < (r.length : Int) by omega) ?_
    refine Ev.bindc hat ?_
    have ih := fun hn' => rfind_l1 h p v c b (a ++ [s]) (by rw [e]; simp) hn'
    simp only [List.length_append, List.length_singleton] at ih
    rw [w64_succ (by omega)]
    by_cases h1 : s.Prog = p
    · refine Ev.pos h1 ?_
      by_cases h2 : s.Vers = v
      · refine Ev.pos h2 ?_
        have hpl : place l p v = a.length := by
          have : place l p v = a.length + place (s :: b) p v := by
            unfold place
            rw [e]
            have : ∀ (a : List Service), (∀ s ∈ a, is p v s = false) → List.findIdx (is p v) (a ++ s :: b) = a.length + List.findIdx (is p v) (s :: b) := by
              intro a
              induction a with
              | nil => intro _; simp
              | cons x a ih => intro hx; rw [List.cons_append, List.findIdx_cons, hx x (by simp), cond_false, ih (fun y hy => hx y (by simp [hy])), List.length_cons]; omega
            exact this a hn
          rw [this]
          unfold place
          rw [List.findIdx_cons, show is p v s = true by simp [is, h1, h2]]
          rfl
        refine Ev.bind (r := (decide (c ∈ s.Procs) || decide (c = 0))) ?_ ?_
        · simp only [rv_has]
          exact has_l1 (toR s) c (Nat.le_trans hs.2.1 (by decide)) s.Procs [] rfl
        have hv : s.Vers ∈ vs l p := List.mem_map.2 ⟨s, List.mem_filter.2 ⟨hsl, by simpa using h1⟩, rfl⟩
        unfold find
        rw [if_pos (versL_some (by intro k; rw [k] at hv; cases hv)), dif_pos (by rw [hpl]; omega)]
        have hg : l[place l p v]'(by rw [hpl]; omega) = s := by simp only [hpl]; simp [e]
        rw [hg]
        by_cases h3 : c = 0
        · rw [if_pos h3]
          exact Ev.pos (by simp [h3]) Ev.ret
        · rw [if_neg h3]
          by_cases h4 : c ∈ s.Procs
          · rw [if_pos h4]; exact Ev.pos (by simp [h4]) Ev.ret
          · rw [if_neg h4]; exact Ev.neg (by simp [h3, h4]) Ev.ret
      · refine Ev.neg h2 ?_
        have hi : is p v s = false := by simp [is, h2]
        have ih := ih (fun x hx => by
          rcases List.mem_append.1 hx with hx | hx
          · exact hn x hx
          · obtain rfl := List.mem_singleton.1 hx; exact hi)
        have hvs : vs (a ++ [s]) p = vs a p ++ [s.Vers] := by simp [vs, h1]
        have hnn : ∀ y ∈ vs a p, 0 ≤ y := fun y hy => by
          obtain ⟨x, hx, rfl⟩ := List.mem_map.1 hy
          exact (h.all x (by rw [e]; simp [(List.mem_filter.1 hx).1])).2.2
        rw [hvs, lowhigh_snoc _ _ hnn hs.2.2] at ih
        have hj : ∀ bb : Bool, (bb = true ↔ ((lowhigh (vs a p)).1 < 0 ∨ s.Vers < (lowhigh (vs a p)).1)) → Ev (fun k => rv_Find.j1 k ⟨r⟩ p v c (lowhigh (vs a p)).1 (lowhigh (vs a p)).2 (a.length : Int) (toR s) bb) (find l p v c) := by
          intro bb hbb
          refine Ev.unf ?_
          simp only [rv_Find.j1]
          rw [w64_succ (by omega)]
          by_cases hc : (lowhigh (vs a p)).1 < 0 ∨ s.Vers < (lowhigh (vs a p)).1
          · rw [if_pos hc] at ih
            exact Ev.pos (hbb.2 hc) ih
          · rw [if_neg hc] at ih
            exact Ev.neg (fun k => hc (hbb.1 k)) ih
        by_cases hc : (lowhigh (vs a p)).1 < 0
        · exact Ev.pos hc (hj true (by simp [hc]))
        · refine Ev.neg hc (hj _ ?_)
          constructor
          · intro h; exact .inr (of_decide_eq_true h)
          · rintro (h | h)
            · exact absurd h hc
            · exact decide_eq_true h
    · refine Ev.neg h1 ?_
      have hi : is p v s = false := by simp [is, h1]
      have ih := ih (fun x hx => by
        rcases List.mem_append.1 hx with hx | hx
        · exact hn x hx
        · obtain rfl := List.mem_singleton.1 hx; exact hi)
      have hvs : vs (a ++ [s]) p = vs a p := by simp [vs, h1]
      rw [hvs] at ih
      exact ih
theorem rfind_ev {l : List Service} {r : List Service111} (h : Both l r) (p v c : Int) : Ev (fun k => rv_Find k ⟨r⟩ p v c) (find l p v c) := by
  simp only [rv_Find]
  exact rfind_l1 h p v c l [] rfl (by simp)
/-! ### Run -/
theorem tells_ev (c : Int) (args : List UInt8) (hb : args.length + 2040 ≤ NB) (h : breaks args = false) : ∃ t, Ev (fun k => sv_tells k c args) t := by
  have hj2 : ∀ x : Int, ∃ t, Ev (fun k => sv_tells.j2 k args x) t := by
    intro x
    by_cases h1 : 1 < args.length
    · have hu : (args[1].toNat : Int) < 256 := u8_lt _
      refine ⟨(x, args ++ List.replicate (w64 ((args[1].toNat : Int) * 8)).toNat 0), ?_⟩
      simp only [sv_tells.j2]
      refine Ev.pos (by omega) ?_
      refine Ev.bindc (idx_at (j := 1) rfl h1) ?_
      rw [w64_of (by omega) (by omega)]
      refine Ev.pos (by omega) (Ev.pos (by omega) ?_)
      refine Ev.bindc (cat_at ?_) Ev.ret
      rw [List.length_replicate]
      unfold NB at hb
      omega
    · refine ⟨(x, args ++ []), ?_⟩
      simp only [sv_tells.j2]
      refine Ev.neg (by omega) ?_
      exact Ev.bindc (cat_at (by unfold NB at hb; simp; omega)) Ev.ret
  have hj1 : ∀ u : UInt8, ∃ t, Ev (fun k => sv_tells.j1 k c args u) t := by
    intro u
    by_cases h1 : (u.toNat : Int) = 255
    · obtain ⟨t, ht⟩ := hj2 c
      exact ⟨t, by simp only [sv_tells.j1]; exact Ev.pos h1 ht⟩
    · obtain ⟨t, ht⟩ := hj2 (u.toNat : Int)
      exact ⟨t, by simp only [sv_tells.j1]; exact Ev.neg h1 ht⟩
  cases args with
  | nil => exact ⟨_, by simp only [sv_tells]; exact Ev.pos trivial Ev.ret⟩
  | cons u rest =>
    obtain ⟨t, ht⟩ := hj1 u
    refine ⟨t, ?_⟩
    simp only [sv_tells]
    refine Ev.neg (by simp) ?_
    refine Ev.bindc (r := u) rfl ?_
    by_cases h1 : 200 ≤ (u.toNat : Int)
    · refine Ev.pos h1 ?_
      refine Ev.neg ?_ ht
      simp only [breaks, Bool.and_eq_false_iff, decide_eq_false_iff_not] at h
      omega
    · exact Ev.neg h1 ht
def told (t : Int × List UInt8) : Int × List UInt8 := if t.1 = 4 then (4, []) else if t.1 = 0 then (if (t.2.length : Int) ≤ 1000 then (if Int.tmod (t.2.length : Int) 4 = 0 then (0, t.2) else (5, [])) else (5, [])) else (5, [])
theorem told_ev (a : Int) (s : List UInt8) : Ev (fun k => rv_Told k a s) (told (a, s)) := by
  have hj : ∀ b : Bool, (b = true ↔ a = 4 ∨ a = 5) → Ev (fun k => rv_Told.j1 k a s b) (told (a, s)) := by
    intro b hb
    simp only [rv_Told.j1]
    by_cases h1 : b = true
    · refine Ev.pos h1 (Ev.cast Ev.ret ?_)
      rcases hb.1 h1 with rfl | rfl <;> simp [told]
    · refine Ev.neg h1 ?_
      have h4 : ¬ a = 4 := fun e => h1 (hb.2 (.inl e))
      by_cases h0 : a = 0
      · refine Ev.pos h0 ?_
        by_cases h2 : (s.length : Int) ≤ 1000
        · refine Ev.pos h2 ?_
          by_cases h3 : Int.tmod (s.length : Int) 4 = 0
          · exact Ev.pos h3 (Ev.cast Ev.ret (by unfold told; rw [if_neg h4, if_pos h0, if_pos h2, if_pos h3, h0]))
          · exact Ev.neg h3 (Ev.cast Ev.ret (by unfold told; rw [if_neg h4, if_pos h0, if_pos h2, if_neg h3]))
        · exact Ev.neg h2 (Ev.cast Ev.ret (by unfold told; rw [if_neg h4, if_pos h0, if_neg h2]))
      · exact Ev.neg h0 (Ev.cast Ev.ret (by unfold told; rw [if_neg h4, if_neg h0]))
  simp only [rv_Told]
  by_cases h : a = 4
  · exact Ev.pos h (hj _ (by simp [h]))
  · exact Ev.neg h (hj _ (by simp [h]))
theorem would_ev (c : Int) (args : List UInt8) (hb : args.length + 2040 ≤ NB) : ∃ t, Ev (fun k => sv_would k c args) (told t) ∧ Ev (fun k => sv_handled k true c args) t := by
  by_cases h : breaks args = true
  · refine ⟨(5, []), ?_, Ev.all fun k => by simp only [sv_handled]; rw [if_pos trivial, if_pos h]⟩
    cases args with
    | nil => cases h
    | cons u rest =>
      simp only [breaks, Bool.and_eq_true, decide_eq_true_eq] at h
      simp only [sv_would]
      refine Ev.pos (by simp) ?_
      refine Ev.bindc (r := u) rfl (Ev.pos h.1 (Ev.bindc (r := u) rfl (Ev.pos h.2 (Ev.cast Ev.ret (by simp [told])))))
  · have h' : breaks args = false := by simpa using h
    obtain ⟨t, ht⟩ := tells_ev c args hb h'
    refine ⟨t, ?_, Ev.fn ht fun k => by simp only [sv_handled]; rw [if_pos trivial, if_neg h]⟩
    have hj : Ev (fun k => sv_would.j1 k c args) (told t) := by
      simp only [sv_would.j1]
      refine Ev.bind ht ?_
      refine Ev.bind (told_ev _ _) Ev.ret
    simp only [sv_would]
    cases args with
    | nil => exact Ev.neg (by simp) hj
    | cons u rest =>
      simp only [breaks, Bool.and_eq_false_iff, decide_eq_false_iff_not] at h'
      refine Ev.pos (by simp) ?_
      refine Ev.bindc (r := u) rfl ?_
      by_cases h1 : 200 ≤ (u.toNat : Int)
      · exact Ev.pos h1 (Ev.bindc (r := u) rfl (Ev.neg (by omega) hj))
      · exact Ev.neg h1 hj
theorem both_run {l : List Service} {r : List Service111} (h : Both l r) (o : Op) (hb : o.Args.length + 2040 ≤ NB) :
    ∃ t, Ev (fun k => sv_Run k ⟨l⟩ o.Prog o.Vers o.Proc o.Args) t ∧ Ev (fun k => sv_run k ⟨r⟩ o) t := by
  by_cases h0 : (find l o.Prog o.Vers o.Proc).1 = 0
  · by_cases hc : o.Proc = 0
    · refine ⟨(if o.Args = [] then 0 else 4, []), ?_, ?_⟩
      · simp only [sv_Run]
        refine Ev.bind (find_ev l _ _ _ h.short) ?_
        refine Ev.pos h0 (Ev.pos hc ?_)
        simp only [sv_Run.j1]
        by_cases ha : o.Args = []
        · exact Ev.neg (by simp [ha]) (Ev.pos hc (Ev.cast Ev.ret (by rw [if_pos ha])))
        · exact Ev.pos (by simp [ha]) (Ev.cast Ev.ret (by rw [if_neg ha]))
      · simp only [sv_run]
        refine Ev.bind (rfind_ev h _ _ _) ?_
        refine Ev.pos h0 (Ev.pos hc ?_)
        simp only [rv_Null]
        by_cases ha : o.Args = []
        · exact Ev.bind (r := 0) (Ev.pos ha Ev.ret) (Ev.cast Ev.ret (by rw [if_pos ha]))
        · exact Ev.bind (r := 4) (Ev.neg ha Ev.ret) (Ev.cast Ev.ret (by rw [if_neg ha]))
    · obtain ⟨t, h1, h2⟩ := would_ev o.Proc o.Args hb
      refine ⟨told t, ?_, ?_⟩
      · simp only [sv_Run]
        refine Ev.bind (find_ev l _ _ _ h.short) ?_
        refine Ev.pos h0 (Ev.neg hc ?_)
        simp only [sv_Run.j1]
        refine Ev.neg (by simp) (Ev.neg hc ?_)
        refine Ev.bind (place_ev l _ _ h.short.1) ?_
        have hp : place l o.Prog o.Vers < l.length := by
          unfold find at h0
          by_cases k1 : (versL (vs l o.Prog)).2.2 = true
          · rw [if_pos k1] at h0
            by_cases k2 : place l o.Prog o.Vers < l.length
            · exact k2
            · rw [dif_neg k2] at h0; cases h0
          · rw [if_neg k1] at h0; cases h0
        unfold placeI
        rw [if_pos hp]
        refine Ev.bindc (idx_at rfl hp) ?_
        rw [(h.all _ (List.getElem_mem hp)).1]
        refine Ev.bind h2 ?_
        by_cases k1 : t.1 = 4
        · exact Ev.pos k1 (Ev.cast Ev.ret (by unfold told; rw [if_pos k1]))
        refine Ev.neg k1 ?_
        by_cases k2 : t.1 = 0
        · refine Ev.pos k2 ?_
          by_cases k3 : (t.2.length : Int) ≤ 1000
          · refine Ev.neg (by omega) ?_
            by_cases k4 : Int.tmod (t.2.length : Int) 4 = 0
            · exact Ev.pos k4 (Ev.cast Ev.ret (by unfold told; rw [if_neg k1, if_pos k2, if_pos k3, if_pos k4, k2]))
            · exact Ev.neg k4 (Ev.cast Ev.ret (by unfold told; rw [if_neg k1, if_pos k2, if_pos k3, if_neg k4]))
          · exact Ev.pos (by omega) (Ev.cast Ev.ret (by unfold told; rw [if_neg k1, if_pos k2, if_neg k3]))
        · exact Ev.neg k2 (Ev.cast Ev.ret (by unfold told; rw [if_neg k1, if_neg k2]))
      · simp only [sv_run]
        refine Ev.bind (rfind_ev h _ _ _) ?_
        refine Ev.pos h0 (Ev.neg hc ?_)
        exact Ev.bind h1 Ev.ret
  · refine ⟨((find l o.Prog o.Vers o.Proc).1, []), ?_, ?_⟩
    · simp only [sv_Run]
      refine Ev.bind (find_ev l _ _ _ h.short) ?_
      exact Ev.neg h0 Ev.ret
    · simp only [sv_run]
      refine Ev.bind (rfind_ev h _ _ _) ?_
      exact Ev.neg h0 Ev.ret
/-! ### offer -/
/-- What the owner finds, and has written, so far. -/
def ownP (P : List Int) (i : Nat) : List Int := (List.range i).map (fun j => ((1 + j : Nat) : Int)) ++ (P ++ [0, 0, 0, 0]).drop i
theorem own_len (P : List Int) (i : Nat) (hi : i ≤ P.length + 4) : (Ytpdpfiaediadgaa.ownP P i).length = P.length + 4 := by
  unfold Ytpdpfiaediadgaa.ownP
  simp
  omega
theorem own_at (P : List Int) (i : Nat) (hi : i < P.length + 4) : (Ytpdpfiaediadgaa.ownP P i)[i]? = (P ++ [0, 0, 0, 0])[i]? := by
  unfold Ytpdpfiaediadgaa.ownP
  rw [List.getElem?_append_right (by simp), List.getElem?_drop]
  simp
theorem own_set (P : List Int) (i : Nat) (hi : i < P.length + 4) : (Ytpdpfiaediadgaa.ownP P i).set i ((1 + i : Nat) : Int) = Ytpdpfiaediadgaa.ownP P (i + 1) := by
  unfold Ytpdpfiaediadgaa.ownP
  have hl : i < (P ++ [0, 0, 0, 0]).length := by simp; omega
  rw [List.set_append_right _ _ (by simp), List.range_succ, List.map_append, List.length_map, List.length_range, Nat.sub_self]
  have e1 : (P ++ [0, 0, 0, 0]).drop i = (P ++ [0, 0, 0, 0])[i] :: (P ++ [0, 0, 0, 0]).drop (i + 1) := List.drop_eq_getElem_cons hl
  rw [e1, List.set_cons_zero, List.append_assoc]
  rfl
theorem offer_l1 (o : Op) (t1 : Int × Registry) (t2 : Int × Registry71) (hb : o.Procs.length + 4 ≤ NI) : ∀ (d i : Nat), o.Procs.length + 4 = i + d →
    Ev (fun k => sv_offer.l1 k o t1 t2 (Ytpdpfiaediadgaa.ownP o.Procs i) true (i : Int)) (true, t1.2, t2.2)
  | 0, i, e => by
    refine Ev.unf ?_
    simp only [sv_offer.l1]
    exact Ev.neg (by rw [own_len _ _ (by omega)]; omega) Ev.ret
  | d + 1, i, e => by
    refine Ev.unf ?_
    simp only [sv_offer.l1]
    have hl := own_len o.Procs i (by omega)
    have hi : i < (Ytpdpfiaediadgaa.ownP o.Procs i).length := by omega
    refine Ev.pos (by omega) ?_
    have ih := offer_l1 o t1 t2 hb d (i + 1) (by omega)
    have hat := own_at o.Procs i (by omega)
    rw [List.getElem?_eq_getElem hi] at hat
    have key : ∀ x : Int, (Ytpdpfiaediadgaa.ownP o.Procs i)[i] = x → Ev (fun k => sv_offer.j2 k o t1 t2 (Ytpdpfiaediadgaa.ownP o.Procs i) true (i : Int) x) (true, t1.2, t2.2) := by
      intro x hx
      refine Ev.unf ?_
      simp only [sv_offer.j2]
      refine Ev.pos trivial ?_
      refine Ev.bindc (idx_at rfl hi) (Ev.bindc (idx_at rfl hi) ?_)
      rw [w64_of (by omega) (by unfold NI at hb; omega), w64_succ (by unfold NI at hb; omega)]
      refine Ev.bindc (r := Ytpdpfiaediadgaa.ownP o.Procs (i + 1)) ?_ ?_
      · rw [← own_set _ _ (by omega)]
        have := upd_at (x := ((1 + i : Nat) : Int)) hi
        rw [← this]
        congr 1
      · rw [show decide ((Ytpdpfiaediadgaa.ownP o.Procs i)[i] = x) = true by simp [hx]]
        exact ih
    by_cases h : i < o.Procs.length
    · refine Ev.pos (by omega) ?_
      refine Ev.bindc (idx_at rfl h) ?_
      refine key _ ?_
      rw [List.getElem?_append_left h, List.getElem?_eq_getElem h] at hat
      exact Option.some.inj hat
    · refine Ev.neg (by omega) ?_
      refine key _ ?_
      rw [List.getElem?_append_right (by omega)] at hat
      have : ∀ j, j < 4 → ([0, 0, 0, 0] : List Int)[j]? = some 0 := by decide
      rw [this _ (by omega)] at hat
      exact Option.some.inj hat
theorem offer_both {l : List Service} {r : List Service111} (h : Both l r) (o : Op) (hb : o.Procs.length + 4 ≤ NI) :
    ∃ l' r', Both l' r' ∧ Ev (fun k => sv_offer k ⟨l⟩ ⟨r⟩ o) (true, ⟨l'⟩, ⟨r'⟩) := by
  obtain ⟨e, l', r', h', h1, h2⟩ := both_offer h ⟨o.Prog, o.Vers, o.Procs, !o.None⟩ (show o.Procs.length ≤ NI by omega)
  refine ⟨l', r', h', ?_⟩
  have hown : cpy (List.replicate (w64 ((o.Procs.length : Int) + 4)).toNat (0 : Int)) o.Procs = Ytpdpfiaediadgaa.ownP o.Procs 0 := by
    rw [w64_of (by omega) (by unfold NI at hb; omega)]
    unfold cpy Ytpdpfiaediadgaa.ownP
    rw [show ((o.Procs.length : Int) + 4).toNat = o.Procs.length + 4 by omega, List.length_replicate, List.take_of_length_le (by omega), List.drop_replicate, show o.Procs.length + 4 - o.Procs.length = 4 by omega]
    rfl
  have hcut : cut (cpy (List.replicate (w64 ((o.Procs.length : Int) + 4)).toNat (0 : Int)) o.Procs) 0 (o.Procs.length : Int) = some o.Procs := by
    rw [hown, cut_to rfl (by rw [own_len _ _ (by omega)]; omega)]
    unfold Ytpdpfiaediadgaa.ownP
    simp
  have hj : ∀ b : Bool, b = (!o.None) → Ev (fun k => sv_offer.j1 k ⟨l⟩ ⟨r⟩ o o.Procs b) (true, ⟨l'⟩, ⟨r'⟩) := by
    intro b hbb
    subst hbb
    simp only [sv_offer.j1]
    have h3 := offer_ev l ⟨o.Prog, o.Vers, o.Procs, !o.None⟩ h.short.1 (show o.Procs.length ≤ 17592186044416 by unfold NI at hb; omega)
    rw [h1] at h3
    refine Ev.bind h3 ?_
    refine Ev.bind h2 ?_
    rw [hown]
    have := offer_l1 o (e, ⟨l'⟩) (e, ⟨r'⟩) hb (o.Procs.length + 4) 0 (by omega)
    simpa using this
  simp only [sv_offer]
  refine Ev.pos ?_ (Ev.pos ?_ ?_)
  · rw [w64_of (by omega) (by unfold NI at hb; omega)]; omega
  · rw [w64_of (by omega) (by unfold NI at hb; omega)]; unfold NI at hb; omega
  refine Ev.bindc hcut ?_
  cases hN : o.None
  · exact Ev.neg (by simp) (hj true (by simp [hN]))
  · exact Ev.pos rfl (hj false (by simp [hN]))
/-! ### near -/
theorem near_l1 (o : Op) (x y z : Int) (hb : o.Procs.length + 4 ≤ NI) : ∀ (d i : Nat) (L : List Int) (m : Int), o.Procs.length = i + d → L.length = i →
    ∃ L' : List Int, L'.length = o.Procs.length ∧ Ev (fun k => sv_near.l1 k o x y z L m (i : Int)) ⟨o.Other, o.Near, o.None, o.What, x, y, z, L', o.Args⟩
  | 0, i, L, m, e, hL => by
    refine ⟨L, by omega, Ev.unf ?_⟩
    simp only [sv_near.l1]
    exact Ev.neg (by omega) Ev.ret
  | d + 1, i, L, m, e, hL => by
    have hi : i < o.Procs.length := by omega
    obtain ⟨L', h1, h2⟩ := near_l1 o x y z hb d (i + 1) (L ++ [w64 (w64 (m + 1) + pk o.Procs[i] 3)]) (w64 (w64 (m + 1) + pk o.Procs[i] 3)) (by omega) (by simp; omega)
    refine ⟨L', h1, Ev.unf ?_⟩
    simp only [sv_near.l1]
    refine Ev.pos (by omega) ?_
    refine Ev.bindc (idx_at rfl hi) ?_
    refine Ev.bind (pick_ev (by decide)) ?_
    refine Ev.bindc (cat_at (by unfold NI at hb; simp; omega)) ?_
    rw [w64_succ (by unfold NI at hb; omega)]
    exact h2
theorem near_ev (o : Op) (hb : o.Procs.length + 4 ≤ NI) : ∃ o' : Op, o'.Procs.length = o.Procs.length ∧ o'.Args = o.Args ∧ Ev (fun k => sv_near k o) o' := by
  obtain ⟨L', h1, h2⟩ := near_l1 o (pk o.Prog 3) (pk o.Vers 4) (pk o.Proc 6) hb o.Procs.length 0 [] 0 (by omega) rfl
  refine ⟨⟨o.Other, o.Near, o.None, o.What, pk o.Prog 3, pk o.Vers 4, pk o.Proc 6, L', o.Args⟩, h1, rfl, ?_⟩
  simp only [sv_near]
  refine Ev.bind (pick_ev (by decide)) (Ev.bind (pick_ev (by decide)) (Ev.bind (pick_ev (by decide)) ?_))
  exact h2
/-! ### the law -/
def okOp (o : Op) : Prop := o.Procs.length + 4 ≤ NI ∧ o.Args.length + 2040 ≤ NB
theorem plays_j2 {sc : List Op} {i : Nat} {la lb : List Service} {ra rb : List Service111} (hi : i < 9000000000000000000) (ha : Both la ra) (hb : Both lb rb) (o : Op) (ho : okOp o)
    (H : ∀ la' ra' lb' rb', Both la' ra' → Both lb' rb' → Ev (fun k => law_Plays.l1 k sc ((i + 1 : Nat) : Int) rb' ra' lb' la') true) :
    Ev (fun k => law_Plays.j2 k sc (i : Int) rb ra lb la o.Other o.Near o.None o.What o.Prog o.Vers o.Proc o.Procs o.Args) true := by
  have e : (⟨o.Other, o.Near, o.None, o.What, o.Prog, o.Vers, o.Proc, o.Procs, o.Args⟩ : Op) = o := rfl
  have hj5 : ∀ (n : Int), (n = 0 ∨ n = 1) → ∀ b : Bool, Ev (fun k => law_Plays.j5 k sc (i : Int) rb ra lb la o.Other o.Near o.None o.What o.Prog o.Vers o.Proc o.Procs o.Args n b) true := by
    intro n hn b
    refine Ev.unf ?_
    simp only [law_Plays.j5, e]
    rw [w64_succ (by omega)]
    have HH := H _ _ _ _ ha hb
    cases b
    · refine Ev.neg (by simp) ?_
      rcases hn with rfl | rfl
      · refine Ev.pos rfl ?_
        obtain ⟨t, h1, h2⟩ := both_run ha o ho.2
        exact Ev.bind h1 (Ev.bind h2 (Ev.pos rfl (Ev.pos rfl HH)))
      · refine Ev.neg (by decide) (Ev.pos rfl ?_)
        obtain ⟨t, h1, h2⟩ := both_run hb o ho.2
        exact Ev.bind h1 (Ev.bind h2 (Ev.pos rfl (Ev.pos rfl HH)))
    · refine Ev.pos rfl ?_
      rcases hn with rfl | rfl
      · refine Ev.pos rfl ?_
        exact Ev.bind (find_ev la _ _ _ ha.short) (Ev.bind (rfind_ev ha _ _ _) (Ev.pos rfl (Ev.pos rfl (Ev.pos rfl HH))))
      · refine Ev.neg (by decide) (Ev.pos rfl ?_)
        exact Ev.bind (find_ev lb _ _ _ hb.short) (Ev.bind (rfind_ev hb _ _ _) (Ev.pos rfl (Ev.pos rfl (Ev.pos rfl HH))))
  have hj4 : ∀ (n : Int), (n = 0 ∨ n = 1) → ∀ b : Bool, Ev (fun k => law_Plays.j4 k sc (i : Int) rb ra lb la o.Other o.Near o.None o.What o.Prog o.Vers o.Proc o.Procs o.Args n b) true := by
    intro n hn b
    refine Ev.unf ?_
    simp only [law_Plays.j4, e]
    rw [w64_succ (by omega)]
    cases b
    · refine Ev.neg (by simp) ?_
      by_cases h2 : o.What = 2
      · exact Ev.pos h2 (hj5 n hn _)
      · exact Ev.neg h2 (hj5 n hn _)
    · refine Ev.pos rfl ?_
      rcases hn with rfl | rfl
      · refine Ev.pos rfl ?_
        obtain ⟨l', r', h', h1⟩ := offer_both ha o ho.1
        exact Ev.bind h1 (Ev.pos rfl (H _ _ _ _ h' hb))
      · refine Ev.neg (by decide) (Ev.pos rfl ?_)
        obtain ⟨l', r', h', h1⟩ := offer_both hb o ho.1
        exact Ev.bind h1 (Ev.pos rfl (H _ _ _ _ ha h'))
  have hj3 : ∀ (n : Int), (n = 0 ∨ n = 1) → Ev (fun k => law_Plays.j3 k sc (i : Int) rb ra lb la o.Other o.Near o.None o.What o.Prog o.Vers o.Proc o.Procs o.Args n) true := by
    intro n hn
    refine Ev.unf ?_
    simp only [law_Plays.j3]
    by_cases h0 : o.What = 0
    · exact Ev.pos h0 (hj4 n hn _)
    · exact Ev.neg h0 (hj4 n hn _)
  refine Ev.unf ?_
  simp only [law_Plays.j2]
  by_cases hO : o.Other = true
  · exact Ev.pos hO (hj3 1 (.inr rfl))
  · exact Ev.neg hO (hj3 0 (.inl rfl))
theorem plays_l1 {sc : List Op} (hsc : ∀ o ∈ sc, okOp o) (hlen : sc.length ≤ 9000000000000000000) : ∀ (d i : Nat) la ra lb rb, sc.length = i + d → Both la ra → Both lb rb → Ev (fun k => law_Plays.l1 k sc (i : Int) rb ra lb la) true
  | 0, i, la, ra, lb, rb, e, ha, hb => by
    refine Ev.unf ?_
    simp only [law_Plays.l1]
    exact Ev.neg (by omega) Ev.ret
  | d + 1, i, la, ra, lb, rb, e, ha, hb => by
    refine Ev.unf ?_
    simp only [law_Plays.l1]
    have hi : i < sc.length := by omega
    have ho := hsc _ (List.getElem_mem hi)
    have H := fun la' ra' lb' rb' (h1 : Both la' ra') (h2 : Both lb' rb') => plays_l1 hsc hlen d (i + 1) la' ra' lb' rb' (by omega) h1 h2
    refine Ev.pos (by omega) ?_
    refine Ev.bindc (idx_at rfl hi) ?_
    by_cases h : sc[i].Near = true
    · refine Ev.pos h ?_
      obtain ⟨o', h1, h2, h3⟩ := near_ev sc[i] ho.1
      refine Ev.bind h3 ?_
      exact plays_j2 (by omega) ha hb o' ⟨by rw [h1]; exact ho.1, by rw [h2]; exact ho.2⟩ H
    · exact Ev.neg h (plays_j2 (by omega) ha hb sc[i] ho H)
theorem plays_true (sc : List Op) (hsc : ∀ o ∈ sc, okOp o) (hlen : sc.length ≤ 9000000000000000000) : ∃ k, law_Plays k sc = some true := by
  refine Ev.get (f := fun k => law_Plays k sc) ?_
  simp only [law_Plays]
  refine Ev.bind known_ev ?_
  refine Ev.bind (r := ⟨[]⟩) (Ev.all fun k => rfl) (Ev.bind (r := ⟨[]⟩) (Ev.all fun k => rfl) ?_)
  refine Ev.pos rfl ?_
  simp only [law_Plays.j1]
  refine Ev.neg (by simp) ?_
  exact plays_l1 hsc hlen sc.length 0 [] [] [] [] (by omega) ⟨rfl, by simp, by simp⟩ ⟨rfl, by simp, by simp⟩
end Go.Proofs.Ytpdpfiaediadgaa
