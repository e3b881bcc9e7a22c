/- The cache in plain words. -/
import Derived.Test.YtpdpfiaediadgaaCE
set_option linter.unusedVariables false
set_option linter.unusedSimpArgs false
namespace Go.Proofs.Ytpdpfiaediadgaa
open Go Go.Eng
/-! ### maps -/
section
variable {κ ν : Type} [DecidableEq κ] {m : List (κ × ν)} {k k' : κ} {v v' : ν}
theorem mfind_of_none (h : mget m k = none) : mfind m k = none := by
  cases hf : mfind m k with
  | none => rfl
  | some i => obtain ⟨q, _, _, g3⟩ := mfind_some hf; rw [g3] at h; cases h
theorem mget_mem (h : mget m k = some v) : (k, v) ∈ m := by
  obtain ⟨i, hi, _, he⟩ := mget_find h
  exact he ▸ List.getElem_mem hi
theorem mget_split (h : mget m k = some v) (hn : (m.map (·.1)).Nodup) : ∃ A B, m = A ++ (k, v) :: B ∧ mfind m k = some A.length ∧ (∀ x ∈ A, x.1 ≠ k) ∧ ∀ x ∈ B, x.1 ≠ k := by
  obtain ⟨i, hi, hf, he⟩ := mget_find h
  have hsp : m = m.take i ++ m[i] :: m.drop (i + 1) := by
    conv => lhs; rw [← List.take_append_drop i m]
    rw [List.drop_eq_getElem_cons hi]
  rw [he] at hsp
  refine ⟨m.take i, m.drop (i + 1), hsp, by rw [hf, List.length_take, Nat.min_eq_left (by omega)], ?_, ?_⟩
  all_goals
    rw [hsp] at hn
    simp only [List.map_append, List.map_cons, List.nodup_append, List.nodup_cons, List.mem_map, List.mem_cons] at hn
  · exact fun x hx e => hn.2.2 x.1 ⟨x, hx, rfl⟩ k (.inl rfl) e
  · exact fun x hx e => hn.2.1.1 ⟨x, hx, e⟩
theorem mget_skip {A B : List (κ × ν)} (hA : ∀ x ∈ A, x.1 ≠ k) : mget (A ++ B) k = mget B k := by
  unfold mget
  rw [List.find?_append, List.find?_eq_none.2 (fun x hx => by simpa using hA x hx)]
  rfl
theorem mget_here {B : List (κ × ν)} : mget ((k, v) :: B) k = some v := by simp [mget]
theorem mget_other {B : List (κ × ν)} (h : k' ≠ k) : mget ((k', v) :: B) k = mget B k := by simp [mget, h]
theorem mget_of_mem (hn : (m.map (·.1)).Nodup) (h : (k, v) ∈ m) : mget m k = some v := by
  obtain ⟨A, B, rfl⟩ := List.append_of_mem h
  simp only [List.map_append, List.map_cons, List.nodup_append, List.mem_map, List.mem_cons] at hn
  rw [mget_skip (fun x hx e => hn.2.2 x.1 ⟨x, hx, rfl⟩ k (.inl rfl) e), mget_here]
theorem mput_some (h : mget m k = some v) (hn : (m.map (·.1)).Nodup) : ∃ A B, m = A ++ (k, v) :: B ∧ (∀ v', mput m k v' = A ++ (k, v') :: B) ∧ (∀ x ∈ A, x.1 ≠ k) ∧ ∀ x ∈ B, x.1 ≠ k := by
  obtain ⟨A, B, hm, hf, hA, hB⟩ := mget_split h hn
  refine ⟨A, B, hm, fun v' => ?_, hA, hB⟩
  unfold mput
  rw [hf]
  subst hm
  exact set_mid _ _ _ _
theorem mput_none (h : mget m k = none) : mput m k v = m ++ [(k, v)] := by unfold mput; rw [mfind_of_none h]
theorem mput_id (h : mget m k = some v) (hn : (m.map (·.1)).Nodup) : mput m k v = m := by
  obtain ⟨A, B, hm, hp, _⟩ := mput_some h hn
  rw [hp, hm]
theorem mput_nodup (hn : (m.map (·.1)).Nodup) : ((mput m k v).map (·.1)).Nodup := by
  cases h : mget m k with
  | none =>
    rw [mput_none h]
    simp only [List.map_append, List.map_cons, List.map_nil, List.nodup_append]
    refine ⟨hn, by simp, fun a ha c hc e => ?_⟩
    obtain ⟨q, hq, rfl⟩ := List.mem_map.1 ha
    simp only [List.mem_singleton] at hc
    subst hc
    exact (mfind_none (mfind_of_none h)).2 q hq e
  | some w =>
    obtain ⟨A, B, hm, hp, _⟩ := mput_some h hn
    rw [hp]
    rw [hm] at hn
    simpa using hn
theorem mget_mput (hn : (m.map (·.1)).Nodup) : mget (mput m k v) k' = if k' = k then some v else mget m k' := by
  cases h : mget m k with
  | none =>
    rw [mput_none h]
    by_cases e : k' = k
    · subst e
      rw [if_pos rfl, mget_skip (mfind_none (mfind_of_none h)).2, mget_here]
    · rw [if_neg e]
      unfold mget
      rw [List.find?_append]
      cases List.find? (fun x => decide (x.1 = k')) m with
      | some x => rfl
      | none => simp [Ne.symm e]
  | some w =>
    obtain ⟨A, B, hm, hp, hA, hB⟩ := mput_some h hn
    rw [hp]
    by_cases e : k' = k
    · subst e
      rw [if_pos rfl, mget_skip hA, mget_here]
    · rw [if_neg e, hm]
      unfold mget
      rw [List.find?_append, List.find?_append, List.find?_cons, List.find?_cons]
      simp [Ne.symm e]
theorem mem_mput (hn : (m.map (·.1)).Nodup) {x : κ × ν} (h : x ∈ mput m k v) : x = (k, v) ∨ (x ∈ m ∧ x.1 ≠ k) := by
  cases hg : mget m k with
  | none =>
    rw [mput_none hg] at h
    rcases List.mem_append.1 h with h | h
    · exact .inr ⟨h, (mfind_none (mfind_of_none hg)).2 x h⟩
    · exact .inl (List.mem_singleton.1 h)
  | some w =>
    obtain ⟨A, B, hm, hp, hA, hB⟩ := mput_some hg hn
    rw [hp] at h
    rcases List.mem_append.1 h with h | h
    · exact .inr ⟨by rw [hm]; simp [h], hA x h⟩
    · rcases List.mem_cons.1 h with h | h
      · exact .inl h
      · exact .inr ⟨by rw [hm]; simp [h], hB x h⟩
theorem sum_mput_some (h : mget m k = some v) (hn : (m.map (·.1)).Nodup) (f : κ × ν → Int) : ((mput m k v').map f).sum = (m.map f).sum - f (k, v) + f (k, v') := by
  obtain ⟨A, B, hm, hp, _⟩ := mput_some h hn
  rw [hp, hm]
  simp only [List.map_append, List.map_cons, List.sum_append, List.sum_cons]
  omega
theorem sum_mput_none (h : mget m k = none) (f : κ × ν → Int) : ((mput m k v).map f).sum = (m.map f).sum + f (k, v) := by
  rw [mput_none h]
  simp
theorem len_mput_some (h : mget m k = some v) (hn : (m.map (·.1)).Nodup) : (mput m k v').length = m.length := by
  obtain ⟨A, B, hm, hp, _⟩ := mput_some h hn
  rw [hp, hm]
  simp
theorem len_mput_none (h : mget m k = none) : (mput m k v).length = m.length + 1 := by rw [mput_none h]; simp
theorem mput_mput (hn : (m.map (·.1)).Nodup) : mput (mput m k v) k v' = mput m k v' := by
  cases h : mget m k with
  | none =>
    have h1 : mget (mput m k v) k = some v := by rw [mget_mput hn, if_pos rfl]
    obtain ⟨A, B, hm, hp, hA, hB⟩ := mput_some h1 (mput_nodup hn)
    rw [hp]
    rw [mput_none h] at hm ⊢
    have : A = m ∧ B = [] := by
      have hl := congrArg List.length hm
      rw [List.append_eq_append_iff] at hm
      rcases hm with ⟨C, e1, e2⟩ | ⟨C, e1, e2⟩
      · cases C with
        | nil => simp only [List.nil_append, List.cons.injEq] at e2; exact ⟨by simpa using e1, e2.2.symm⟩
        | cons c C => simp at e2
      · cases C with
        | nil => simp only [List.nil_append, List.cons.injEq] at e2; exact ⟨by simpa using e1.symm, e2.2⟩
        | cons c C =>
          simp only [List.cons_append, List.cons.injEq] at e2
          obtain ⟨rfl, _⟩ := e2
          exact absurd rfl ((mfind_none (mfind_of_none h)).2 (k, v) (by rw [e1]; simp))
    rw [this.1, this.2]
  | some w =>
    obtain ⟨A, B, hm, hp, hA, hB⟩ := mput_some h hn
    have h1 : mget (mput m k v) k = some v := by rw [mget_mput hn, if_pos rfl]
    have hf : mfind (mput m k v) k = some A.length := by
      rw [hp]
      refine mfind_at ?_ (by simp) (by simp)
      have := mput_nodup (k := k) (v := v) hn
      rwa [hp] at this
    rw [hp v']
    rw [show mput (mput m k v) k v' = (match mfind (mput m k v) k with | some i => (mput m k v).set i (k, v') | none => mput m k v ++ [(k, v')]) from rfl, hf, hp]
    exact set_mid _ _ _ _
end
/-! ### a client's calls below a water go -/
variable {m : Calls'} {wa res s : Int}
theorem keep_nodup (hn : (m.map (·.1)).Nodup) : ((keepM m wa).map (·.1)).Nodup := List.Nodup.sublist (List.filter_sublist.map _) hn
theorem mget_keep : mget (keepM m wa) s = if s < wa then none else mget m s := by
  unfold mget keepM
  induction m with
  | nil => simp
  | cons x m ih =>
    rw [List.filter_cons, List.find?_cons]
    by_cases hx : x.1 = s
    · subst hx
      by_cases hw : x.1 < wa
      · simp only [hw, decide_true, Bool.not_true, Bool.false_eq_true, if_false, if_true] at ih ⊢
        exact ih
      · simp [hw]
    · by_cases hw : x.1 < wa
      · simp only [hw, hx, decide_true, decide_false, Bool.not_true, Bool.false_eq_true, if_false]
        exact ih
      · simp only [hw, decide_false, Bool.not_false, if_true, List.find?_cons, hx]
        exact ih
theorem keep_sum (f : Int × Entry → Int) : ((keepM m wa).map f).sum + ((outM m wa).map f).sum = (m.map f).sum := by
  unfold keepM outM
  induction m with
  | nil => simp
  | cons x m ih =>
    rw [List.filter_cons, List.filter_cons]
    by_cases hw : x.1 < wa
    · simp only [hw, decide_true, Bool.not_true, Bool.false_eq_true, if_false, if_true, List.map_cons, List.sum_cons]
      omega
    · simp only [hw, decide_false, Bool.not_false, Bool.false_eq_true, if_false, if_true, List.map_cons, List.sum_cons]
      omega
theorem keep_len : ((keepM m wa).length : Int) + ((outM m wa).map fun _ => (1 : Int)).sum = m.length := by
  have := keep_sum (m := m) (wa := wa) fun _ => (1 : Int)
  have h : ∀ l : Calls', (l.map fun _ => (1 : Int)).sum = (l.length : Int) := fun l => by
    induction l with
    | nil => rfl
    | cons x l ih => simp only [List.map_cons, List.sum_cons, List.length_cons, ih]; omega
  rw [h, h, h] at this
  rw [h]
  exact this
theorem subs_of {l : List Int} {e : Int} (h0 : -9223372036854775808 ≤ e - l.sum) (h1 : e - l.sum ≤ 9223372036854775807) : subs l e = e - l.sum := by
  unfold subs
  split
  · rename_i h; subst h; simp
  · exact w64_of h0 h1
/-! ### the cache -/
def goodWho (w : WhoC) : Prop := 1 ≤ w.Address ∧ w.Address ≤ 16777215 ∧ 1 ≤ w.Instance ∧ w.Instance ≤ 4611686018427387904
def goodWord (n : Int) : Prop := 1 ≤ n ∧ n ≤ 4294967295
instance (w : WhoC) : Decidable (goodWho w) := by unfold goodWho; infer_instance
instance (n : Int) : Decidable (goodWord n) := by unfold goodWord; infer_instance
structure GOk (g : CacheConfig) : Prop where
  c1 : 1 ≤ g.Clients
  c2 : g.Clients ≤ 64
  e1 : 1 ≤ g.Entries
  e2 : g.Entries ≤ 64
  r1 : 64 ≤ g.Reserve
  r2 : g.Reserve ≤ 1100
  b1 : g.Reserve ≤ g.Bytes
  b2 : g.Bytes ≤ 1048576
structure KInv (g : CacheConfig) (kn : Known) : Prop where
  nd : (kn.calls.map (·.1)).Nodup
  wat : goodWord kn.water
  low : ∀ x ∈ kn.calls, kn.water ≤ x.1 ∧ goodWord x.1
  len : (kn.calls.length : Int) ≤ g.Entries
  ent : ∀ x ∈ kn.calls, (x.2.done = false → x.2.reply = []) ∧ (x.2.reply.length : Int) ≤ g.Reserve
abbrev Clis := List (WhoC × Known)
def eSum (X : Clis) : Int := (X.map fun x => (x.2.calls.length : Int)).sum
def bK (res : Int) (l : Calls') : Int := (l.map fun x => szE res x.2).sum
def bSum (res : Int) (X : Clis) : Int := (X.map fun x => bK res x.2.calls).sum
def mk (g : CacheConfig) (X : Clis) : Cache := ⟨g, X, eSum X, bSum g.Reserve X⟩
structure XInv (g : CacheConfig) (X : Clis) : Prop where
  nd : (X.map (·.1)).Nodup
  who : ∀ x ∈ X, goodWho x.1 ∧ KInv g x.2
  len : (X.length : Int) ≤ g.Clients
  max : bSum g.Reserve X ≤ g.Bytes
variable {g : CacheConfig} {X : Clis} {kn : Known} {w : WhoC}
theorem szE_bnd (hG : GOk g) {e : Entry} (h : (e.reply.length : Int) ≤ g.Reserve) : 0 ≤ szE g.Reserve e ∧ szE g.Reserve e ≤ 1100 := by
  have := hG.r1; have := hG.r2
  unfold szE
  split <;> omega
theorem sum_bnd {β : Type} {l : List β} {f : β → Int} {M : Int} (h : ∀ x ∈ l, 0 ≤ f x ∧ f x ≤ M) : 0 ≤ (l.map f).sum ∧ (l.map f).sum ≤ M * l.length := by
  induction l with
  | nil => simp
  | cons x l ih =>
    have h1 := h x (by simp)
    have h2 := ih fun y hy => h y (by simp [hy])
    simp only [List.map_cons, List.sum_cons, List.length_cons]
    rw [show M * ((l.length + 1 : Nat) : Int) = M * l.length + M by rw [Int.natCast_add, Int.mul_add]; simp]
    omega
theorem KInv.bnd (hG : GOk g) (h : KInv g kn) : 0 ≤ bK g.Reserve kn.calls ∧ bK g.Reserve kn.calls ≤ 70400 := by
  have h1 := sum_bnd (l := kn.calls) (f := fun x => szE g.Reserve x.2) (M := 1100) fun x hx => szE_bnd hG (h.ent x hx).2
  have h2 := h.len; have h3 := hG.e2
  unfold bK
  omega
theorem XInv.eb (hG : GOk g) (h : XInv g X) : 0 ≤ eSum X ∧ eSum X ≤ g.Entries * X.length := by
  have := sum_bnd (l := X) (f := fun x => (x.2.calls.length : Int)) (M := g.Entries) fun x hx => ⟨by omega, (h.who x hx).2.len⟩
  exact this
theorem XInv.eb' (hG : GOk g) (h : XInv g X) : 0 ≤ eSum X ∧ eSum X ≤ 4096 := by
  have := sum_bnd (l := X) (f := fun x => (x.2.calls.length : Int)) (M := 64) fun x hx => ⟨by omega, by have := (h.who x hx).2.len; have := hG.e2; omega⟩
  have h2 := h.len; have := hG.c2
  unfold eSum
  omega
theorem XInv.bb (hG : GOk g) (h : XInv g X) : 0 ≤ bSum g.Reserve X ∧ bSum g.Reserve X ≤ 1048576 := by
  have := sum_bnd (l := X) (f := fun x => bK g.Reserve x.2.calls) (M := 70400) fun x hx => (h.who x hx).2.bnd hG
  have h1 := h.max; have h2 := hG.b2
  exact ⟨this.1, by omega⟩
theorem bK_ge (hG : GOk g) (h : KInv g kn) : 0 ≤ bK g.Reserve kn.calls := (h.bnd hG).1
theorem bSum_ge (hG : GOk g) (h : XInv g X) (hk : mget X w = some kn) : bK g.Reserve kn.calls ≤ bSum g.Reserve X := by
  obtain ⟨A, B, hm, _⟩ := mput_some hk h.nd
  have ha := sum_bnd (l := A) (f := fun x : WhoC × Known => bK g.Reserve x.2.calls) (M := 70400) fun x hx => (h.who x (by rw [hm]; simp [hx])).2.bnd hG
  have hb := sum_bnd (l := B) (f := fun x : WhoC × Known => bK g.Reserve x.2.calls) (M := 70400) fun x hx => (h.who x (by rw [hm]; simp [hx])).2.bnd hG
  unfold bSum
  rw [hm]
  simp only [List.map_append, List.map_cons, List.sum_append, List.sum_cons]
  omega
theorem XInv.get (h : XInv g X) (hk : mget X w = some kn) : goodWho w ∧ KInv g kn := h.who _ (mget_mem hk)
theorem XInv.put (hG : GOk g) (h : XInv g X) (hk : mget X w = some kn) {kn' : Known} (hn : KInv g kn') (hb : bSum g.Reserve (mput X w kn') ≤ g.Bytes) : XInv g (mput X w kn') where
  nd := mput_nodup h.nd
  who x hx := by
    rcases mem_mput h.nd hx with rfl | hx
    · exact ⟨(h.get hk).1, hn⟩
    · exact h.who x hx.1
  len := by rw [len_mput_some hk h.nd]; exact h.len
  max := hb
theorem XInv.new (h : XInv g X) (hk : mget X w = none) (hw : goodWho w) (hn : KInv g kn) (hl : (X.length : Int) < g.Clients) (hb : bSum g.Reserve (mput X w kn) ≤ g.Bytes) : XInv g (mput X w kn) where
  nd := mput_nodup h.nd
  who x hx := by
    rcases mem_mput h.nd hx with rfl | hx
    · exact ⟨hw, hn⟩
    · exact h.who x hx.1
  len := by rw [len_mput_none hk]; omega
  max := hb
theorem bSum_put (h : XInv g X) (hk : mget X w = some kn) (kn' : Known) : bSum g.Reserve (mput X w kn') = bSum g.Reserve X - bK g.Reserve kn.calls + bK g.Reserve kn'.calls := sum_mput_some hk h.nd _
theorem eSum_put (h : XInv g X) (hk : mget X w = some kn) (kn' : Known) : eSum (mput X w kn') = eSum X - kn.calls.length + kn'.calls.length := sum_mput_some hk h.nd _
theorem bSum_new (hk : mget X w = none) : bSum g.Reserve (mput X w kn) = bSum g.Reserve X + bK g.Reserve kn.calls := sum_mput_none hk _
theorem eSum_new (hk : mget X w = none) : eSum (mput X w kn) = eSum X + kn.calls.length := sum_mput_none hk _
/-- A client's water rises. -/
def riseK (kn : Known) (wa : Int) : Known := if kn.water < wa then ⟨wa, keepM kn.calls wa⟩ else kn
theorem keep_mem {x : Int × Entry} : x ∈ keepM m wa ↔ x ∈ m ∧ ¬ x.1 < wa := by unfold keepM; simp
theorem KInv.rise (h : KInv g kn) (hw : goodWord wa) : KInv g (riseK kn wa) := by
  unfold riseK
  split
  · refine ⟨keep_nodup h.nd, hw, fun x hx => ?_, ?_, fun x hx => h.ent x (keep_mem.1 hx).1⟩
    · have := keep_mem.1 hx
      exact ⟨by show wa ≤ x.1; omega, (h.low x this.1).2⟩
    · show ((keepM kn.calls wa).length : Int) ≤ g.Entries
      have h1 := List.length_filter_le (fun x : Int × Entry => !decide (x.1 < wa)) kn.calls
      have h2 := h.len
      unfold keepM
      omega
  · exact h
theorem KInv.add (h : KInv g kn) {s : Int} (hs : kn.water ≤ s) (hg : goodWord s) (hn : mget kn.calls s = none) (hl : (kn.calls.length : Int) < g.Entries) (hr : 0 ≤ g.Reserve) : KInv g ⟨kn.water, mput kn.calls s ⟨false, []⟩⟩ where
  nd := mput_nodup h.nd
  wat := h.wat
  low x hx := by
    rcases mem_mput h.nd hx with rfl | hx
    · exact ⟨hs, hg⟩
    · exact h.low x hx.1
  len := by rw [len_mput_none hn]; omega
  ent x hx := by
    rcases mem_mput h.nd hx with rfl | hx
    · exact ⟨fun _ => rfl, by simpa using hr⟩
    · exact h.ent x hx.1
theorem KInv.fin (h : KInv g kn) {s : Int} {e : Entry} {rep : List UInt8} (hn : mget kn.calls s = some e) (hr : (rep.length : Int) ≤ g.Reserve) : KInv g ⟨kn.water, mput kn.calls s ⟨true, rep⟩⟩ where
  nd := mput_nodup h.nd
  wat := h.wat
  low x hx := by
    rcases mem_mput h.nd hx with hx | hx
    · rw [hx]; exact h.low (s, e) (mget_mem hn)
    · exact h.low x hx.1
  len := by rw [len_mput_some hn h.nd]; exact h.len
  ent x hx := by
    rcases mem_mput h.nd hx with hx | hx
    · rw [hx]; exact ⟨fun hc => by simp at hc, hr⟩
    · exact h.ent x hx.1
end Go.Proofs.Ytpdpfiaediadgaa
