/- What a rise of the water takes out of a client's calls: plain words and laws. -/
import Derived.Test.YtpdpfiaediadgaaCA
set_option linter.unusedVariables false
set_option linter.unusedSimpArgs false
namespace Go.Proofs.Ytpdpfiaediadgaa
open Go Go.Eng
def szE (res : Int) (e : Entry) : Int := if e.done = true then (e.reply.length : Int) else res
def subs (l : List Int) (e : Int) : Int := if l = [] then e else w64 (e - l.sum)
abbrev Calls' := List (Int × Entry)
def mR (m : Calls') (wa : Int) (D : List Int) : Calls' := m.filter fun x => decide (x.1 < wa) && decide (x.1 ∈ D)
def mC (m : Calls') (wa : Int) (D : List Int) : Calls' := m.filter fun x => !(decide (x.1 < wa) && decide (x.1 ∈ D))
def keepM (m : Calls') (wa : Int) : Calls' := m.filter fun x => !decide (x.1 < wa)
def outM (m : Calls') (wa : Int) : Calls' := m.filter fun x => decide (x.1 < wa)
def mLeft (m : Calls') (D : List Int) : Nat := (m.filter fun x => decide (x.1 ∉ D)).length
variable {m : Calls'} {wa res : Int} {D : List Int} {q : Int × Entry}
theorem mC_nil : mC m wa [] = m := by unfold mC; simp
theorem mR_nil : mR m wa [] = [] := by unfold mR; simp
theorem w64_sub (a b : Int) : w64 (w64 a - b) = w64 (a - b) := by
  have h : ∀ n : Int, w64 n = if 9223372036854775808 ≤ n % 18446744073709551616 then n % 18446744073709551616 - 18446744073709551616 else n % 18446744073709551616 := fun n => by
    show IntKind.wrap .i64 n = _
    simp only [IntKind.wrap, show IntKind.i64.bits = 64 from rfl, show IntKind.i64.signed = true from rfl, Bool.true_and, decide_eq_true_eq, ge_iff_le, show (2 : Int) ^ 64 = 18446744073709551616 from rfl, show (2 : Int) ^ (64 - 1) = 9223372036854775808 from rfl]
  rw [h, h, h]
  omega
theorem mem_mC (h : q ∈ mC m wa D) : q ∈ m := (List.mem_filter.1 h).1
theorem left_lt (hq : q ∈ m) (hD : q.1 ∉ D) : mLeft m (q.1 :: D) < mLeft m D := by
  unfold mLeft
  refine filter_lt _ _ (fun x hx => ?_) q (by simpa using hD) (by simp) m hq
  simp only [decide_eq_true_eq, List.mem_cons, not_or] at hx ⊢
  exact hx.2
theorem split_at (hq : q ∈ m) (hn : (m.map (·.1)).Nodup) : ∃ A B, m = A ++ q :: B ∧ (∀ x ∈ A, x.1 ≠ q.1) ∧ ∀ x ∈ B, x.1 ≠ q.1 := by
  obtain ⟨A, B, rfl⟩ := List.append_of_mem hq
  refine ⟨A, B, rfl, ?_, ?_⟩
  all_goals simp only [List.map_append, List.map_cons, List.nodup_append, List.nodup_cons, List.mem_map, List.mem_cons] at hn
  · exact fun x hx e => hn.2.2 x.1 ⟨x, hx, rfl⟩ q.1 (.inl rfl) e
  · exact fun x hx e => hn.2.1.1 ⟨x, hx, e⟩
theorem filter_same {A : Calls'} (f : Bool → Bool) (hA : ∀ x ∈ A, x.1 ≠ q.1) : A.filter (fun x => f (decide (x.1 < wa) && decide (x.1 ∈ q.1 :: D))) = A.filter fun x => f (decide (x.1 < wa) && decide (x.1 ∈ D)) := by
  refine List.filter_congr fun x hx => ?_
  simp [hA x hx]
theorem mC_keep (hn : (m.map (·.1)).Nodup) (hq : q ∈ m) (hw : ¬ q.1 < wa) : mC m wa (q.1 :: D) = mC m wa D := by
  obtain ⟨A, B, rfl, hA, hB⟩ := split_at hq hn
  unfold mC
  rw [List.filter_append, List.filter_append, List.filter_cons, List.filter_cons, filter_same (!·) hA, filter_same (!·) hB]
  simp [hw]
theorem mR_keep (hn : (m.map (·.1)).Nodup) (hq : q ∈ m) (hw : ¬ q.1 < wa) : mR m wa (q.1 :: D) = mR m wa D := by
  obtain ⟨A, B, rfl, hA, hB⟩ := split_at hq hn
  unfold mR
  have ha := filter_same (wa := wa) (D := D) id hA
  have hb := filter_same (wa := wa) (D := D) id hB
  simp only [id] at ha hb
  rw [List.filter_append, List.filter_append, List.filter_cons, List.filter_cons, ha, hb]
  simp [hw]
theorem erase_mid {β : Type} (A : List β) (x : β) (B : List β) : (A ++ x :: B).eraseIdx A.length = A ++ B := by
  induction A with
  | nil => rfl
  | cons a A ih => simp [ih]
theorem mC_del (hn : (m.map (·.1)).Nodup) (hq : q ∈ m) (hD : q.1 ∉ D) (hw : q.1 < wa) : mC m wa (q.1 :: D) = mdel (mC m wa D) q.1 := by
  have hn' : ((mC m wa D).map (·.1)).Nodup := List.Nodup.sublist (List.filter_sublist.map _) hn
  obtain ⟨A, B, rfl, hA, hB⟩ := split_at hq hn
  have e1 : mC (A ++ q :: B) wa D = mC A wa D ++ q :: mC B wa D := by
    unfold mC
    rw [List.filter_append, List.filter_cons]
    simp [hD]
  have e2 : mC (A ++ q :: B) wa (q.1 :: D) = mC A wa D ++ mC B wa D := by
    unfold mC
    rw [List.filter_append, List.filter_cons, filter_same (!·) hA, filter_same (!·) hB]
    simp [hw]
  rw [e1] at hn' ⊢
  rw [e2]
  unfold mdel
  rw [mfind_at (i := (mC A wa D).length) hn' (by simp) (by simp)]
  exact (erase_mid _ _ _).symm
theorem mR_add (hn : (m.map (·.1)).Nodup) (hq : q ∈ m) (hD : q.1 ∉ D) (hw : q.1 < wa) (g : Int × Entry → Int) (e : Int) :
    w64 (subs ((mR m wa D).map g) e - g q) = subs ((mR m wa (q.1 :: D)).map g) e := by
  obtain ⟨A, B, rfl, hA, hB⟩ := split_at hq hn
  have e1 : mR (A ++ q :: B) wa D = mR A wa D ++ mR B wa D := by
    unfold mR
    rw [List.filter_append, List.filter_cons]
    simp [hD]
  have e2 : mR (A ++ q :: B) wa (q.1 :: D) = mR A wa D ++ q :: mR B wa D := by
    unfold mR
    rw [List.filter_append, List.filter_cons]
    have ha := filter_same (wa := wa) (D := D) id hA
    have hb := filter_same (wa := wa) (D := D) id hB
    simp only [id] at ha hb
    rw [ha, hb]
    simp [hw]
  rw [e1, e2]
  unfold subs
  rw [if_neg (c := (List.map g (mR A wa D ++ q :: mR B wa D)) = []) (by simp)]
  split
  · rename_i h0
    have h0' : mR A wa D = [] ∧ mR B wa D = [] := by simpa using h0
    rw [h0'.1, h0'.2]
    simp
  · rw [w64_sub]
    congr 1
    simp only [List.map_append, List.map_cons, List.sum_append, List.sum_cons]
    omega
theorem all_out (h : ∀ x ∈ mC m wa D, x.1 ∈ D) : mC m wa D = keepM m wa ∧ mR m wa D = outM m wa := by
  have : ∀ x ∈ m, x.1 < wa → x.1 ∈ D := fun x hx hw => by
    by_cases hd : x.1 ∈ D
    · exact hd
    · exact h x (List.mem_filter.2 ⟨hx, by simp [hd]⟩)
  constructor
  · refine List.filter_congr fun x hx => ?_
    by_cases hw : x.1 < wa
    · simp [hw, this x hx hw]
    · simp [hw]
  · refine List.filter_congr fun x hx => ?_
    by_cases hw : x.1 < wa
    · simp [hw, this x hx hw]
    · simp [hw]
theorem _root_.Go.Eng.IterO.none {κ ν : Type} [DecidableEq κ] {kv : κ → Value} {vv : ν → Value} {r b : Nat} {m : List (κ × ν)} {D : List κ} {last : Option (κ × ν)} {GI G : Grp} (h : IterO kv vv r b m D last GI G) : IterO kv vv r b m D Option.none GI G := by
  obtain ⟨hn, es, clock, since, seen, c0, h1, h2, h3, h4, h5, h6, h7, h8, h9, _⟩ := h
  exact ⟨hn, es, clock, since, seen, c0, h1, h2, h3, h4, h5, h6, h7, h8, h9, fun x hx => by cases hx⟩
end Go.Proofs.Ytpdpfiaediadgaa
