/- ServiceFinds answers true. -/
import Derived.Test.YtpdpfiaediadgaaSW
set_option linter.unusedVariables false
set_option linter.unusedSimpArgs false
namespace Go.Proofs.Ytpdpfiaediadgaa
open Go Go.Eng
structure Good (p : Int) (l : List Service) : Prop where
  all : ∀ s ∈ l, s.Prog = p ∧ s.Handle = true ∧ 1000000 ∈ s.Procs ∧ 1000001 ∉ s.Procs ∧ s.Procs.length = 2 ∧ 0 ≤ s.Vers ∧ s.Vers < 4294967296
  len : l.length ≤ 16
def vl (l : List Service) : List Int := l.map (·.Vers)
theorem Good.vs {p : Int} {l : List Service} (h : Good p l) : vs l p = vl l := by
  unfold Ytpdpfiaediadgaa.vs vl
  rw [List.filter_eq_self.2 (fun s hs => by simpa using (h.all s hs).1)]
theorem Good.vs_other {p q : Int} {l : List Service} (h : Good p l) (hq : q ≠ p) : Ytpdpfiaediadgaa.vs l q = [] := by
  unfold Ytpdpfiaediadgaa.vs
  rw [List.filter_eq_nil_iff.2 (fun s hs => by have := (h.all s hs).1; simp; omega)]
  rfl
theorem Good.place {p v : Int} {l : List Service} (h : Good p l) : place l p v < l.length ↔ v ∈ vl l := by
  unfold Ytpdpfiaediadgaa.place vl
  rw [List.findIdx_lt_length]
  constructor
  · rintro ⟨s, hs, he⟩
    simp only [is, Bool.and_eq_true, decide_eq_true_eq] at he
    exact List.mem_map.2 ⟨s, hs, he.2⟩
  · intro hv
    obtain ⟨s, hs, he⟩ := List.mem_map.1 hv
    exact ⟨s, hs, by simp [is, he, (h.all s hs).1]⟩
theorem Good.short {p : Int} {l : List Service} (h : Good p l) : short l := ⟨Nat.le_trans h.len (by decide), fun s hs => by rw [(h.all s hs).2.2.2.2.1]; decide⟩
theorem versL_some {L : List Int} (h : L ≠ []) : (versL L).2.2 = true := by cases L with | nil => exact absurd rfl h | cons => rfl
theorem Good.find_in {p v c : Int} {l : List Service} (h : Good p l) (hv : v ∈ vl l) : find l p v c = if c = 0 then (0, 0, 0) else if c ∈ (l[Ytpdpfiaediadgaa.place l p v]'(h.place.2 hv)).Procs then (0, 0, 0) else (3, 0, 0) := by
  unfold find
  rw [h.vs, if_pos (versL_some (by intro e; rw [e] at hv; cases hv)), dif_pos (h.place.2 hv)]
theorem Good.find_out {p v c : Int} {l : List Service} (h : Good p l) (hv : v ∉ vl l) (h0 : l ≠ []) : find l p v c = (2, (versL (vl l)).1, (versL (vl l)).2.1) := by
  unfold find
  rw [h.vs, if_pos (versL_some (by unfold vl; simpa using h0)), dif_neg (fun k => hv (h.place.1 k))]
theorem find_none {p v c : Int} {l : List Service} (h : vs l p = []) : find l p v c = (1, 0, 0) := by
  unfold find
  rw [h, if_neg (by simp [versL])]
/-- A search through numbers, whatever is found goes on. -/
theorem finds_l2 {a1 : List Int} {a2 a3 p : Int} {L : List Int} {i : Int} {l : List Service} {t : Int} (hb : L.length ≤ big) (H : Ev (fun k => law_Finds.j3 k a1 a2 a3 p L i l t (decide (t ∈ L))) true) :
    ∀ (b a : List Int), L = a ++ b → Ev (fun k => law_Finds.l2 k a1 a2 a3 p L i l t (decide (t ∈ a)) (a.length : Int)) true
  | [], a, e => by
    refine Ev.unf ?_
    simp only [law_Finds.l2]
    have hl : L.length = a.length := by rw [e]; simp
    refine Ev.neg (by omega) ?_
    rw [show a = L by rw [e]; simp]
    exact H
  | x :: b, a, e => by
    refine Ev.unf ?_
    simp only [law_Finds.l2]
    have hl : L.length = a.length + (b.length + 1) := by rw [e]; simp
    refine Ev.pos (by omega) ?_
    rw [w64_succ (by unfold big at hb; omega)]
    have ih := finds_l2 hb H b (a ++ [x]) (by rw [e]; simp)
    rw [List.length_append, List.length_singleton] at ih
    by_cases h : t ∈ a
    · refine Ev.pos (by simpa using h) ?_
      rw [show decide (t ∈ a ++ [x]) = true by simp [h]] at ih
      exact ih
    · refine Ev.neg (by simpa using h) ?_
      refine Ev.bindc (idx_at (j := a.length) rfl (by omega)) ?_
      have hx : L[a.length]'(by omega) = x := by simp [e]
      rw [hx]
      rw [show decide (t ∈ a ++ [x]) = decide (x = t) by simp [h, eq_comm]] at ih
      exact ih
theorem run_null {l : List Service} {p v c : Int} (hb : short l) (h : (find l p v c).1 ≠ 0) : Ev (fun k => sv_Run k ⟨l⟩ p v c []) ((find l p v c).1, []) := by
  simp only [sv_Run]
  refine Ev.bind (find_ev l p v c hb) ?_
  exact Ev.neg h Ev.ret
theorem foldl_min_le (L : List Int) : ∀ m : Int, L.foldl min m ≤ m := by
  induction L with
  | nil => intro m; exact Int.le_refl _
  | cons x L ih => intro m; exact Int.le_trans (ih _) (Int.min_le_left _ _)
theorem min_fold {x : Int} {L : List Int} (h : x ≤ 4294967296) : (x :: L).foldl min 4294967296 = L.foldl min x := by
  rw [List.foldl_cons, Int.min_eq_right h]
theorem max_fold {x : Int} {L : List Int} (h : -1 ≤ x) : (x :: L).foldl max (-1) = L.foldl max x := by
  rw [List.foldl_cons, Int.max_eq_right h]
theorem finds_j5 {a3 p : Int} {l : List Service} {v lo hi : Int} (h : Good p l) (hp : 0 ≤ p ∧ p < 4294967296) (hlo : lo = (vl l).foldl min 4294967296) (hhi : hi = (vl l).foldl max (-1)) :
    Ev (fun k => law_Finds.j5 k a3 p (vl l) l lo hi v (decide (v ∈ vl l))) true := by
  simp only [law_Finds.j5]
  refine Ev.bind (find_ev l p v a3 h.short) ?_
  have hother : pk (w64 (p + 1)) 4294967296 ≠ p := by
    unfold pk
    rw [w64_of (by omega) (by omega), if_neg (by omega)]
    by_cases e : p + 1 = 4294967296
    · rw [e, show Int.tmod 4294967296 4294967296 = 0 by decide]; omega
    · rw [Int.tmod_eq_of_lt (by omega) (by omega)]; omega
  have hnone : ∀ (f : Nat → Option Bool), Ev f true → ∀ t : Int, Ev (fun k => (sv_pick k (w64 (p + 1)) 4294967296).bind fun t385 => (sv_Find k ⟨l⟩ t385 v a3).bind fun t390 => if t390.1 = 1 then f k else some false) true := by
    intro f hf _
    refine Ev.bind (pick_ev (by decide)) ?_
    refine Ev.bind (find_ev l _ v a3 h.short) ?_
    rw [find_none (h.vs_other hother)]
    exact Ev.pos rfl hf
  by_cases hv : v ∈ vl l
  · have hrun : ∃ r, Ev (fun k => sv_Run k ⟨l⟩ p v a3 []) r := by
      by_cases h0 : (find l p v a3).1 = 0
      · by_cases hc : a3 = 0
        · refine ⟨(0, []), ?_⟩
          simp only [sv_Run]
          refine Ev.bind (find_ev l p v a3 h.short) ?_
          refine Ev.pos h0 (Ev.pos hc ?_)
          simp only [sv_Run.j1]
          exact Ev.neg (by simp) (Ev.pos hc Ev.ret)
        · refine ⟨(0, [110, 111, 110, 101]), ?_⟩
          simp only [sv_Run]
          refine Ev.bind (find_ev l p v a3 h.short) ?_
          refine Ev.pos h0 (Ev.neg hc ?_)
          simp only [sv_Run.j1]
          refine Ev.neg (by simp) (Ev.neg hc ?_)
          refine Ev.bind (place_ev l p v h.short.1) ?_
          unfold placeI
          rw [if_pos (h.place.2 hv)]
          refine Ev.bindc (idx_at rfl (h.place.2 hv)) ?_
          refine Ev.bind (r := (0, [110, 111, 110, 101])) (Ev.all fun k => ?_) ?_
          · simp only [sv_handled]
            rw [if_pos (h.all _ (List.getElem_mem _)).2.1, if_neg (by simp [breaks])]
            rfl
          · exact Ev.neg (by decide) (Ev.pos rfl (Ev.neg (by decide) (Ev.pos (by decide) Ev.ret)))
      · exact ⟨_, run_null h.short h0⟩
    obtain ⟨r, hr⟩ := hrun
    refine Ev.bind hr ?_
    exact hnone _ (Ev.pos (by simpa using hv) Ev.ret) 0
  · have hf1 : (find l p v a3).1 ≠ 0 := by
      by_cases h0 : l = []
      · subst h0; rw [find_none (by simp [vs])]; simp
      · rw [h.find_out hv h0]; simp
    refine Ev.bind (run_null h.short hf1) ?_
    refine hnone _ (Ev.neg (by simpa using hv) ?_) 0
    by_cases h0 : l = []
    · subst h0
      refine Ev.pos (by simp [vl]) ?_
      rw [find_none (by simp [vs])]
      exact Ev.pos rfl (Ev.pos rfl (Ev.pos rfl (Ev.pos rfl Ev.ret)))
    · refine Ev.neg (by unfold vl; cases l with | nil => exact absurd rfl h0 | cons => simp; omega) ?_
      rw [h.find_out hv h0]
      have hne : vl l ≠ [] := by unfold vl; simpa using h0
      obtain ⟨x, L, e⟩ : ∃ x L, vl l = x :: L := by cases hh : vl l with | nil => exact absurd hh hne | cons x L => exact ⟨x, L, rfl⟩
      have hx : 0 ≤ x ∧ x < 4294967296 := by
        have : x ∈ vl l := by rw [e]; simp
        obtain ⟨s, hs, rfl⟩ := List.mem_map.1 this
        exact ⟨(h.all s hs).2.2.2.2.2.1, (h.all s hs).2.2.2.2.2.2⟩
      rw [e, min_fold (by omega)] at hlo
      rw [e, max_fold (by omega)] at hhi
      rw [e]
      refine Ev.pos rfl (Ev.pos hlo.symm (Ev.pos hhi.symm (Ev.pos rfl (Ev.cast Ev.ret ?_))))
      rfl
theorem finds_l4 {a3 p : Int} {l : List Service} {v lo hi : Int} (h : Good p l) (hp : 0 ≤ p ∧ p < 4294967296) (hlo : lo = (vl l).foldl min 4294967296) (hhi : hi = (vl l).foldl max (-1)) :
    ∀ (b a : List Int), vl l = a ++ b → Ev (fun k => law_Finds.l4 k a3 p (vl l) l lo hi v (decide (v ∈ a)) (a.length : Int)) true
  | [], a, e => by
    refine Ev.unf ?_
    simp only [law_Finds.l4]
    have hl : (vl l).length = a.length := by rw [e]; simp
    refine Ev.neg (by omega) ?_
    have := finds_j5 (a3 := a3) (v := v) h hp hlo hhi
    rw [show a = vl l by rw [e]; simp]
    exact this
  | x :: b, a, e => by
    refine Ev.unf ?_
    simp only [law_Finds.l4]
    have hl : (vl l).length = a.length + (b.length + 1) := by rw [e]; simp
    have hll : (vl l).length ≤ 16 := by unfold vl; rw [List.length_map]; exact h.len
    refine Ev.pos (by omega) ?_
    rw [w64_succ (by omega)]
    have ih := finds_l4 (a3 := a3) (v := v) h hp hlo hhi b (a ++ [x]) (by rw [e]; simp)
    rw [List.length_append, List.length_singleton] at ih
    by_cases hv : v ∈ a
    · refine Ev.pos (by simpa using hv) ?_
      rw [show decide (v ∈ a ++ [x]) = true by simp [hv]] at ih
      exact ih
    · refine Ev.neg (by simpa using hv) ?_
      refine Ev.bindc (idx_at (j := a.length) rfl (by omega)) ?_
      have hx : (vl l)[a.length]'(by omega) = x := by simp [e]
      rw [hx]
      rw [show decide (v ∈ a ++ [x]) = decide (x = v) by simp [hv, eq_comm]] at ih
      exact ih
theorem finds_l3 {a2 a3 p : Int} {l : List Service} (h : Good p l) (hp : 0 ≤ p ∧ p < 4294967296) :
    ∀ (b a : List Int), vl l = a ++ b → Ev (fun k => law_Finds.l3 k a2 a3 p (vl l) l (a.foldl min 4294967296) (a.foldl max (-1)) (a.length : Int)) true
  | [], a, e => by
    refine Ev.unf ?_
    simp only [law_Finds.l3]
    have hl : (vl l).length = a.length := by rw [e]; simp
    refine Ev.neg (by omega) ?_
    simp only [law_Finds.j4]
    refine Ev.bind (pick_ev (by decide)) ?_
    exact finds_l4 h hp (by rw [e]; simp) (by rw [e]; simp) (vl l) [] rfl
  | x :: b, a, e => by
    refine Ev.unf ?_
    simp only [law_Finds.l3]
    have hl : (vl l).length = a.length + (b.length + 1) := by rw [e]; simp
    have hll : (vl l).length ≤ 16 := by unfold vl; rw [List.length_map]; exact h.len
    have hx : (vl l)[a.length]'(by omega) = x := by simp [e]
    have hm : x ∈ vl l := by rw [e]; simp
    have hat := idx_at (L := vl l) (j := a.length) (i := (a.length : Int)) rfl (by omega)
    rw [hx] at hat
    refine Ev.pos (by omega) ?_
    refine Ev.bindc hat (Ev.bindc hat (Ev.bindc hat ?_))
    refine Ev.bind (find_ev l p x 0 h.short) ?_
    refine Ev.bindc hat ?_
    refine Ev.bind (find_ev l p x 1000000 h.short) ?_
    refine Ev.bindc hat ?_
    refine Ev.bind (find_ev l p x 1000001 h.short) ?_
    have hs := h.all _ (List.getElem_mem (h.place.2 hm))
    rw [h.find_in hm, h.find_in hm, h.find_in hm]
    rw [if_pos rfl, if_neg (by decide), if_pos hs.2.2.1, if_neg (by decide), if_neg hs.2.2.2.1]
    refine Ev.pos rfl (Ev.pos rfl (Ev.pos rfl (Ev.pos rfl (Ev.pos rfl ?_))))
    rw [w64_succ (by omega)]
    have := finds_l3 (a2 := a2) (a3 := a3) h hp b (a ++ [x]) (by rw [e]; simp)
    rw [List.length_append, List.length_singleton, List.foldl_append, List.foldl_append] at this
    exact this
theorem finds_l1 {a1 : List Int} {a2 a3 p : Int} (hp : 0 ≤ p ∧ p < 4294967296) (h64 : ∀ x ∈ a1, In64 x) (hlen : a1.length ≤ big) :
    ∀ (d i : Nat) (l : List Service), a1.length = i + d → Good p l → Ev (fun k => law_Finds.l1 k a1 a2 a3 p (vl l) (i : Int) l) true
  | 0, i, l, e, h => by
    refine Ev.unf ?_
    simp only [law_Finds.l1]
    refine Ev.neg (by omega) ?_
    simp only [law_Finds.j2]
    exact finds_l3 h hp (vl l) [] rfl
  | d + 1, i, l, e, h => by
    refine Ev.unf ?_
    simp only [law_Finds.l1]
    refine Ev.pos (by omega) ?_
    refine Ev.bindc (idx_at rfl (by omega)) ?_
    refine Ev.bind (pick_ev (by decide)) ?_
    have hv := pk_in (h64 _ (List.getElem_mem (show i < a1.length by omega))) (n := 4294967296) (by decide)
    generalize pk a1[i] 4294967296 = v at hv ⊢
    have hll : (vl l).length = l.length := by unfold vl; exact List.length_map ..
    refine finds_l2 (by unfold big; have := h.len; omega) ?_ (vl l) [] rfl
    refine Ev.unf ?_
    simp only [law_Finds.j3]
    have ht : 0 ≤ Int.tmod (i : Int) 1000 ∧ Int.tmod (i : Int) 1000 < 1000 := ⟨Int.tmod_nonneg _ (by omega), Int.tmod_lt_of_pos _ (by decide)⟩
    rw [w64_of (by omega) (by omega)]
    generalize Int.tmod (i : Int) 1000 = q at ht
    have hmay : may ⟨p, v, [1 + q, 1000000], true⟩ = true := by
      simp [may, rising, isW]
      omega
    refine Ev.bind (offer_ev l _ h.short.1 (by simp)) ?_
    unfold offer
    rw [if_pos hmay]
    rw [w64_succ (by unfold big at hlen; omega)]
    by_cases hin : v ∈ vl l
    · refine Ev.pos (by simpa using hin) ?_
      rw [if_pos (h.place.2 hin)]
      refine Ev.pos rfl ?_
      exact finds_l1 hp h64 hlen d (i + 1) l (by omega) h
    · refine Ev.neg (by simpa using hin) ?_
      rw [if_neg (fun k => hin (h.place.1 k))]
      by_cases h16 : l.length = 16
      · rw [if_pos (by omega)]
        refine Ev.pos (by omega) (Ev.pos rfl ?_)
        exact finds_l1 hp h64 hlen d (i + 1) l (by omega) h
      · rw [if_neg (by have := h.len; omega)]
        refine Ev.neg (by omega) (Ev.pos rfl ?_)
        refine Ev.bindc (cat_at (by have := h.len; simp; omega)) ?_
        have := finds_l1 (a2 := a2) (a3 := a3) hp h64 hlen d (i + 1) (l ++ [⟨p, v, [1 + q, 1000000], true⟩]) (by omega) ⟨fun s hs => by
          rcases List.mem_append.1 hs with hs | hs
          · exact h.all s hs
          · obtain rfl := List.mem_singleton.1 hs
            refine ⟨rfl, rfl, by simp, ?_, rfl, hv.1, hv.2⟩
            simp; omega, by have := h.len; simp; omega⟩
        unfold vl at this ⊢
        rw [List.map_append] at this
        exact this
theorem finds_true (a0 : Int) (a1 : List Int) (a2 a3 : Int) (h0 : In64 a0) (h1 : ∀ x ∈ a1, In64 x) (hlen : a1.length ≤ big) : ∃ k, law_Finds k a0 a1 a2 a3 = some true := by
  refine Ev.get (f := fun k => law_Finds k a0 a1 a2 a3) ?_
  simp only [law_Finds]
  refine Ev.bind known_ev ?_
  refine Ev.bind (r := ⟨[]⟩) (Ev.all fun k => rfl) ?_
  refine Ev.pos rfl ?_
  simp only [law_Finds.j1]
  refine Ev.neg (by simp) ?_
  refine Ev.bind (pick_ev (by decide)) ?_
  exact finds_l1 (pk_in h0 (by decide)) h1 hlen a1.length 0 [] (by omega) ⟨by simp, by simp⟩
end Go.Proofs.Ytpdpfiaediadgaa
