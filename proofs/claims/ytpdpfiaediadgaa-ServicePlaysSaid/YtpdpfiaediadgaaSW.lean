/- Services: what the plain functions come to. -/
import Derived.Test.YtpdpfiaediadgaaSF
import Derived.Test.YtpdpfiaediadgaaOpen3
set_option linter.unusedVariables false
set_option linter.unusedSimpArgs false
namespace Go.Proofs.Ytpdpfiaediadgaa
open Go Go.Eng
theorem Ev.unf {α : Type} {f : Nat → Option α} {r : α} (h : Ev (fun k => f (k + 1)) r) : Ev f r := Ev.step h (fun _ => rfl)
abbrev big : Nat := 9223372036854775807
theorem at_mid {α : Type} {a b : List α} {x : α} : (a ++ x :: b)[a.length]'(by simp) = x := by simp
/-! ### pick -/
def pk (a n : Int) : Int := Int.tmod (if a < 0 then w64 (-(w64 (a + 1))) else a) n
theorem pick_ev {a n : Int} (hn : 0 < n) : Ev (fun k => sv_pick k a n) (pk a n) := by
  simp only [sv_pick, pk]
  by_cases h : a < 0
  · simp only [if_pos h]; exact Ev.neg (by omega) Ev.ret
  · simp only [if_neg h]; exact Ev.neg (by omega) Ev.ret
theorem pk_in {a n : Int} (ha : In64 a) (hn : 0 < n) : 0 ≤ pk a n ∧ pk a n < n := by
  unfold pk
  obtain ⟨h1, h2⟩ := ha
  have h0 : 0 ≤ (if a < 0 then w64 (-(w64 (a + 1))) else a) := by
    by_cases h : a < 0
    · rw [if_pos h, w64_of (n := a + 1) (by omega) (by omega), w64_of (by omega) (by omega)]; omega
    · rw [if_neg h]; omega
  exact ⟨Int.tmod_nonneg _ h0, Int.tmod_lt_of_pos _ hn⟩
/-! ### numbers -/
def isW (n : Int) : Bool := decide (0 ≤ n) && decide (n ≤ 4294967295)
theorem isWord_ev (n : Int) : Ev (fun k => sv_isWord k n) (isW n) := by
  simp only [sv_isWord, isW]
  by_cases h : 0 ≤ n
  · refine Ev.pos h ?_
    refine Ev.cast Ev.ret ?_
    simp [h]
  · refine Ev.neg h ?_
    refine Ev.cast Ev.ret ?_
    simp [h]
/-- Do they rise, and are they words? -/
def rising : Int → List Int → Bool
  | _, [] => true
  | m, n :: l => decide (m < n) && (isW n && rising n l)
def may (s : Service) : Bool := rising 0 s.Procs && (isW s.Prog && (isW s.Vers && s.Handle))
theorem may_l1 (s : Service) (hb : s.Procs.length ≤ big) : ∀ (b a : List Int) (m : Int), s.Procs = a ++ b → Ev (fun k => sv_may.l1 k s m (a.length : Int)) (rising m b && (isW s.Prog && (isW s.Vers && s.Handle)))
  | [], a, m, e => by
    refine Ev.unf ?_
    simp only [sv_may.l1]
    have hl : s.Procs.length = a.length := by rw [e]; simp
    refine Ev.neg (by omega) ?_
    simp only [sv_may.j1, rising, Bool.true_and]
    refine Ev.bind (isWord_ev _) ?_
    cases isW s.Prog
    · exact Ev.neg (by simp) Ev.ret
    refine Ev.pos rfl ?_
    refine Ev.bind (isWord_ev _) ?_
    cases isW s.Vers
    · exact Ev.neg (by simp) Ev.ret
    exact Ev.pos rfl Ev.ret
  | n :: b, a, m, e => by
    refine Ev.unf ?_
    simp only [sv_may.l1]
    have hl : s.Procs.length = a.length + (b.length + 1) := by rw [e]; simp
    refine Ev.pos (by omega) ?_
    refine Ev.bindc (idx_at (j := a.length) rfl (by omega)) ?_
    have hx : s.Procs[a.length]'(by omega) = n := by simp [e]
    rw [hx]
    simp only [rising]
    by_cases h : n ≤ m
    · refine Ev.pos h ?_
      refine Ev.cast Ev.ret ?_
      simp [show ¬ m < n by omega]
    refine Ev.neg h ?_
    refine Ev.bind (isWord_ev _) ?_
    rw [show decide (m < n) = true from decide_eq_true (by omega)]
    cases isW n
    · exact Ev.neg (by simp) Ev.ret
    refine Ev.pos rfl ?_
    rw [w64_succ (by unfold big at hb; omega)]
    have := may_l1 s hb b (a ++ [n]) n (by rw [e]; simp)
    rw [List.length_append, List.length_singleton] at this
    simpa using this
theorem may_ev (s : Service) (hb : s.Procs.length ≤ big) : Ev (fun k => sv_may k s) (may s) := by
  simp only [sv_may]
  exact may_l1 s hb s.Procs [] 0 rfl
/-! ### lists of numbers -/
theorem index_l1 (x : Int) (L : List Int) (hb : L.length ≤ big) : ∀ (b a : List Int), L = a ++ b → Ev (fun k => sv_Index.l1 k L x (a.length : Int)) (if x ∈ b then ((a.length + b.findIdx (fun y => decide (x = y)) : Nat) : Int) else -1)
  | [], a, e => by
    refine Ev.unf ?_
    simp only [sv_Index.l1]
    have hl : L.length = a.length := by rw [e]; simp
    exact Ev.neg (by omega) (Ev.cast Ev.ret (by simp))
  | n :: b, a, e => by
    refine Ev.unf ?_
    simp only [sv_Index.l1]
    have hl : L.length = a.length + (b.length + 1) := by rw [e]; simp
    refine Ev.pos (by omega) ?_
    refine Ev.bindc (idx_at (j := a.length) rfl (by omega)) ?_
    have hx : L[a.length]'(by omega) = n := by simp [e]
    rw [hx]
    by_cases h : x = n
    · refine Ev.pos h (Ev.cast Ev.ret ?_)
      rw [if_pos (by simp [h]), List.findIdx_cons]
      simp [h]
    refine Ev.neg h ?_
    rw [w64_succ (by unfold big at hb; omega)]
    have := index_l1 x L hb b (a ++ [n]) (by rw [e]; simp)
    rw [List.length_append, List.length_singleton] at this
    refine Ev.cast this ?_
    rw [List.findIdx_cons]
    simp only [h, decide_false, cond_false, List.mem_cons, false_or]
    by_cases h2 : x ∈ b
    · rw [if_pos h2, if_pos h2]; congr 1; omega
    · rw [if_neg h2, if_neg h2]
theorem contains_ev (L : List Int) (x : Int) (hb : L.length ≤ big) : Ev (fun k => sv_Contains k L x) (decide (x ∈ L)) := by
  simp only [sv_Contains, sv_Index]
  refine Ev.bind (index_l1 x L hb L [] rfl) ?_
  refine Ev.cast Ev.ret ?_
  by_cases h : x ∈ L
  · rw [if_pos h]; simp [h]
  · rw [if_neg h]; simp [h]
theorem min_l1 (L : List Int) (hb : L.length ≤ big) : ∀ (b a : List Int) (m : Int), L = a ++ b → Ev (fun k => sv_Min.l1 k L m (a.length : Int)) (b.foldl min m)
  | [], a, m, e => by
    refine Ev.unf ?_
    simp only [sv_Min.l1]
    have hl : L.length = a.length := by rw [e]; simp
    exact Ev.neg (by omega) Ev.ret
  | n :: b, a, m, e => by
    refine Ev.unf ?_
    simp only [sv_Min.l1]
    have hl : L.length = a.length + (b.length + 1) := by rw [e]; simp
    refine Ev.pos (by omega) ?_
    refine Ev.bindc (idx_at (j := a.length) rfl (by omega)) ?_
    have hx : L[a.length]'(by omega) = n := by simp [e]
    rw [hx, w64_succ (by unfold big at hb; omega)]
    have := min_l1 L hb b (a ++ [n]) (min m n) (by rw [e]; simp)
    rw [List.length_append, List.length_singleton] at this
    simpa using this
theorem max_l1 (L : List Int) (hb : L.length ≤ big) : ∀ (b a : List Int) (m : Int), L = a ++ b → Ev (fun k => sv_Max.l1 k L m (a.length : Int)) (b.foldl max m)
  | [], a, m, e => by
    refine Ev.unf ?_
    simp only [sv_Max.l1]
    have hl : L.length = a.length := by rw [e]; simp
    exact Ev.neg (by omega) Ev.ret
  | n :: b, a, m, e => by
    refine Ev.unf ?_
    simp only [sv_Max.l1]
    have hl : L.length = a.length + (b.length + 1) := by rw [e]; simp
    refine Ev.pos (by omega) ?_
    refine Ev.bindc (idx_at (j := a.length) rfl (by omega)) ?_
    have hx : L[a.length]'(by omega) = n := by simp [e]
    rw [hx, w64_succ (by unfold big at hb; omega)]
    have := max_l1 L hb b (a ++ [n]) (max m n) (by rw [e]; simp)
    rw [List.length_append, List.length_singleton] at this
    simpa using this
/-! ### the registry -/
def versL : List Int → Int × Int × Bool
  | [] => (0, 0, false)
  | x :: r => (r.foldl min x, r.foldl max x, true)
def vs (l : List Service) (p : Int) : List Int := (l.filter fun s => decide (s.Prog = p)).map (·.Vers)
theorem versions_j1 (l : List Service) (L : List Int) (hb : L.length ≤ big) : Ev (fun k => sv_versions.j1 k ⟨l⟩ L) (versL L) := by
  simp only [sv_versions.j1]
  cases L with
  | nil => exact Ev.pos rfl Ev.ret
  | cons x r =>
    refine Ev.neg (by simp; omega) ?_
    have h1 : Ev (fun k => sv_Min k (x :: r)) (r.foldl min x) := by
      simp only [sv_Min]
      refine Ev.neg (by simp; omega) ?_
      refine Ev.bindc (idx_at (j := 0) rfl (by simp)) ?_
      exact min_l1 (x :: r) hb r [x] x rfl
    have h2 : Ev (fun k => sv_Max k (x :: r)) (r.foldl max x) := by
      simp only [sv_Max]
      refine Ev.neg (by simp; omega) ?_
      refine Ev.bindc (idx_at (j := 0) rfl (by simp)) ?_
      exact max_l1 (x :: r) hb r [x] x rfl
    exact Ev.bind h1 (Ev.bind h2 Ev.ret)
theorem versions_l1 (l : List Service) (p : Int) (hb : l.length ≤ 1000) : ∀ (b a : List Service), l = a ++ b → Ev (fun k => sv_versions.l1 k ⟨l⟩ p (vs a p) (a.length : Int)) (versL (vs l p))
  | [], a, e => by
    refine Ev.unf ?_
    simp only [sv_versions.l1]
    have hl : l.length = a.length := by rw [e]; simp
    refine Ev.neg (show ¬ (a.length : Int) < (l.length : Int) by omega) ?_
    rw [show a = l by rw [e]; simp]
    refine versions_j1 l _ ?_
    unfold vs big
    rw [List.length_map]
    have := List.length_filter_le (fun s : Service => decide (s.Prog = p)) l
    omega
  | s :: b, a, e => by
    refine Ev.unf ?_
    simp only [sv_versions.l1]
    have hl : l.length = a.length + (b.length + 1) := by rw [e]; simp
    refine Ev.pos (show (a.length : Int) < (l.length : Int) by omega) ?_
    refine Ev.bindc (idx_at (j := a.length) rfl (by omega)) ?_
    have hx : l[a.length]'(by omega) = s := by simp [e]
    rw [hx, w64_succ (by omega)]
    have := versions_l1 l p hb b (a ++ [s]) (by rw [e]; simp)
    rw [List.length_append, List.length_singleton] at this
    by_cases h : s.Prog = p
    · refine Ev.pos h ?_
      have h0 := List.length_filter_le (fun s : Service => decide (s.Prog = p)) a
      refine Ev.bindc (cat_at (by unfold vs; simp; omega)) ?_
      have e2 : vs (a ++ [s]) p = vs a p ++ [s.Vers] := by simp [vs, h]
      rw [← e2]; exact this
    · refine Ev.neg h ?_
      have e2 : vs (a ++ [s]) p = vs a p := by simp [vs, h]
      rw [e2] at this; exact this
theorem versions_ev (l : List Service) (p : Int) (hb : l.length ≤ 1000) : Ev (fun k => sv_versions k ⟨l⟩ p) (versL (vs l p)) := by
  simp only [sv_versions]
  exact versions_l1 l p hb l [] rfl
def is (p v : Int) (s : Service) : Bool := decide (s.Prog = p) && decide (s.Vers = v)
def place (l : List Service) (p v : Int) : Nat := l.findIdx (is p v)
theorem idx_l1 (l : List Service) (p v : Int) (hb : l.length ≤ 1000) : ∀ (b a : List Service), l = a ++ b → Ev (fun k => sv_idx.l1 k l p v (a.length : Int)) (if place b p v < b.length then ((a.length + place b p v : Nat) : Int) else -1)
  | [], a, e => by
    refine Ev.unf ?_
    simp only [sv_idx.l1]
    have hl : l.length = a.length := by rw [e]; simp
    exact Ev.neg (by omega) (Ev.cast Ev.ret (by simp))
  | s :: b, a, e => by
    refine Ev.unf ?_
    simp only [sv_idx.l1]
    have hl : l.length = a.length + (b.length + 1) := by rw [e]; simp
    refine Ev.pos (by omega) ?_
    refine Ev.bindc (idx_at (j := a.length) rfl (by omega)) ?_
    have hx : l[a.length]'(by omega) = s := by simp [e]
    rw [hx]
    refine Ev.bind (r := is p v s) ?_ ?_
    · simp only [sv_clo, is]
      by_cases h : s.Prog = p
      · exact Ev.pos h (Ev.cast Ev.ret (by simp [h]))
      · exact Ev.neg h (Ev.cast Ev.ret (by simp [h]))
    have hc : place (s :: b) p v = bif is p v s then 0 else place b p v + 1 := by unfold place; rw [List.findIdx_cons]
    by_cases h : is p v s = true
    · refine Ev.pos h (Ev.cast Ev.ret ?_)
      rw [hc, h]; simp
    · refine Ev.neg h ?_
      rw [w64_succ (by omega)]
      have := idx_l1 l p v hb b (a ++ [s]) (by rw [e]; simp)
      rw [List.length_append, List.length_singleton] at this
      refine Ev.cast this ?_
      have h' : is p v s = false := by simpa using h
      rw [hc, h', cond_false, List.length_cons]
      by_cases h2 : place b p v < b.length
      · rw [if_pos h2, if_pos (by omega)]; congr 1; omega
      · rw [if_neg h2, if_neg (by omega)]
def placeI (l : List Service) (p v : Int) : Int := if place l p v < l.length then (place l p v : Int) else -1
theorem place_ev (l : List Service) (p v : Int) (hb : l.length ≤ 1000) : Ev (fun k => sv_place k ⟨l⟩ p v) (placeI l p v) := by
  simp only [sv_place, sv_idx]
  refine Ev.bind (idx_l1 l p v hb l [] rfl) ?_
  refine Ev.cast Ev.ret ?_
  simp [placeI]
def find (l : List Service) (p v c : Int) : Int × Int × Int :=
  if (versL (vs l p)).2.2 = true then (if h : place l p v < l.length then (if c = 0 then (0, 0, 0) else if c ∈ l[place l p v].Procs then (0, 0, 0) else (3, 0, 0)) else (2, (versL (vs l p)).1, (versL (vs l p)).2.1)) else (1, 0, 0)
def short (l : List Service) : Prop := l.length ≤ 1000 ∧ ∀ s ∈ l, s.Procs.length ≤ big
theorem find_ev (l : List Service) (p v c : Int) (hb : short l) : Ev (fun k => sv_Find k ⟨l⟩ p v c) (find l p v c) := by
  simp only [sv_Find]
  refine Ev.bind (versions_ev l p hb.1) ?_
  refine Ev.bind (place_ev l p v hb.1) ?_
  unfold find placeI
  by_cases h1 : (versL (vs l p)).2.2 = true
  · rw [if_pos h1]
    refine Ev.pos h1 ?_
    by_cases h2 : place l p v < l.length
    · rw [if_pos h2, dif_pos h2]
      refine Ev.neg (by omega) ?_
      by_cases h3 : c = 0
      · rw [if_pos h3]; exact Ev.pos h3 Ev.ret
      · rw [if_neg h3]
        refine Ev.neg h3 ?_
        refine Ev.bindc (idx_at rfl h2) ?_
        refine Ev.bind (contains_ev _ _ (hb.2 _ (List.getElem_mem _))) ?_
        by_cases h4 : c ∈ l[place l p v].Procs
        · rw [if_pos h4]; exact Ev.pos (by simpa using h4) Ev.ret
        · rw [if_neg h4]; exact Ev.neg (by simpa using h4) Ev.ret
    · rw [if_neg h2, dif_neg h2]
      exact Ev.pos (by decide) Ev.ret
  · rw [if_neg h1]
    exact Ev.neg h1 Ev.ret
def offer (l : List Service) (s : Service) : Int × Registry :=
  if may s = true then (if place l s.Prog s.Vers < l.length then (181, ⟨l⟩) else if 16 ≤ l.length then (182, ⟨l⟩) else (0, ⟨l ++ [s]⟩)) else (180, ⟨l⟩)
theorem offer_ev (l : List Service) (s : Service) (hb : l.length ≤ 1000) (hs : s.Procs.length ≤ 17592186044416) : Ev (fun k => sv_Offer k ⟨l⟩ s) (offer l s) := by
  simp only [sv_Offer]
  refine Ev.bind (may_ev s (Nat.le_trans hs (by decide))) ?_
  unfold offer
  by_cases h1 : may s = true
  · rw [if_pos h1]
    refine Ev.pos h1 ?_
    refine Ev.bind (place_ev l _ _ hb) ?_
    unfold placeI
    by_cases h2 : place l s.Prog s.Vers < l.length
    · rw [if_pos h2, if_pos h2]
      exact Ev.pos (by omega) Ev.ret
    · rw [if_neg h2, if_neg h2]
      refine Ev.neg (by decide) ?_
      by_cases h3 : 16 ≤ l.length
      · rw [if_pos h3]; exact Ev.pos (show (16 : Int) ≤ (l.length : Int) by omega) Ev.ret
      · rw [if_neg h3]
        refine Ev.neg (show ¬ (16 : Int) ≤ (l.length : Int) by omega) ?_
        refine Ev.bind (r := s.Procs) (Ev.all fun k => ?_) ?_
        · simp only [sv_Clone]; rw [cat_at (by simpa using hs)]; rfl
        exact Ev.bindc (cat_at (by simp; omega)) Ev.ret
  · rw [if_neg h1]
    exact Ev.neg h1 Ev.ret
theorem known_ev : Ev (fun k => sv_known k) true := ⟨40, fun k hk => by
  obtain ⟨m, rfl⟩ : ∃ m, k = m + 40 := ⟨k - 40, by omega⟩
  kernel_rfl⟩
end Go.Proofs.Ytpdpfiaediadgaa
