/- Ranges over maps; maps of pointers to things. -/
import Derived.Test.YtoahkjehjmbojaaMaps
set_option linter.unusedVariables false
set_option linter.unusedSimpArgs false
set_option linter.unusedSectionVars false
namespace Go.Eng
open Go
theorem checkKey_int {P : Program} {t : TypeId} {k : IntKind} (hd : P.underlying t = some (.int k)) (w : World) (e : Bool) (n : Nat) (v : Value) : (Instr.checkKey e (n + 1) t v).run P w = .ok () w := by
  unfold Instr.checkKey
  simp [run_underlying hd]
theorem nodup_ix {α : Type} {l : List α} (h : l.Nodup) {i j : Nat} (hi : i < l.length) (hj : j < l.length) (e : l[i] = l[j]) : i = j := by
  unfold List.Nodup at h
  rw [List.pairwise_iff_getElem] at h
  rcases Nat.lt_trichotomy i j with h1 | h1 | h1
  · exact absurd e (h i j hi hj h1)
  · exact h1
  · exact absurd e.symm (h j i hj hi h1)
section
variable {P : Program} {κ ν : Type} [DecidableEq κ] {kt : TypeId} {kv : κ → Value} {vv : ν → Value}
variable {N : FN} {l : Fr} {w w0 w1 : World} {dst : Option Tmp} {ty : TypeId} {pos : String} {aft : Array Edge} {g : Option (Nat × Bool)} {t e : TypeId} {x y z : Operand} {b r : Nat} {m : List (κ × ν)} {k : κ} {v : ν} {K : Nat → Prop} {Gs : List Grp} {G GI : Grp} {D : List κ} {last : Option (κ × ν)}
/-- A map over which a loop goes: which keys came out, and which was last. -/
def IterO (kv : κ → Value) (vv : ν → Value) (r b : Nat) (m : List (κ × ν)) (D : List κ) (last : Option (κ × ν)) (GI G : Grp) : Prop :=
  (m.map (·.1)).Nodup ∧ ∃ es clock since seen c0, G = [(b, .map es clock)] ∧ GI = [(r, .mapIter (some b) since seen c0)] ∧ es.toList.map (·.key) = m.map (fun x => kv x.1) ∧ es.toList.map (·.val) = m.map (fun x => vv x.2) ∧ (es.toList.map (·.born)).Nodup ∧ (∀ e ∈ es.toList, e.born < since) ∧ since ≤ c0 ∧ since ≤ clock ∧
  (∀ (i : Nat) (e : MapEntry) (x : κ × ν), es.toList[i]? = some e → m[i]? = some x → (seen.contains e.born = true ↔ x.1 ∈ D)) ∧ (∀ x, last = some x → c0 = clock ∧ ∃ e ∈ es.toList, seen.back? = some e.born ∧ e.key = kv x.1 ∧ e.val = vv x.2)
theorem IterO.out (h : IterO kv vv r b m D last GI G) : MapO kv vv b m G := by
  obtain ⟨hn, es, clock, since, seen, c0, rfl, rfl, h1, h2, h3, h4, h5, h6, _⟩ := h
  exact ⟨hn, es, clock, rfl, h1, h2, h3, fun e he => Nat.lt_of_lt_of_le (h4 e he) h6⟩
theorem St.range (S : St w0 K w (G :: Gs)) (ht : P.underlying t = some (.map kt e)) (h : MapO kv vv b m G) : ∃ r GI w1, (∀ {N : FN} {l : Fr} {x : Operand} {dst : Option Tmp} {ty : TypeId} {pos : String} {aft : Array Edge} {g : Option (Nat × Bool)}, ev l x = some (.map (some b)) → GE P N l w ⟨dst, .range t x, ty, pos, aft, g⟩ (.pointer (some ⟨r, 0, none⟩)) w1) ∧
    IterO kv vv r b m [] none GI G ∧ St w0 K w1 (GI :: G :: Gs) := by
  obtain ⟨hn, es, clock, rfl, h1, h2, h3, h4⟩ := h
  have hb := S.blk 0 rfl
  refine ⟨w.heap.size, _, w.alloc (.mapIter (some b) clock #[] clock), fun hx a ha => ?_, ⟨hn, es, clock, clock, #[], clock, rfl, rfl, h1, h2, h3, h4, Nat.le_refl _, Nat.le_refl _, fun i e x _ _ => by simp, fun x hx => by cases hx⟩, S.alloc _⟩
  unfold execOp
  simp [ha.ev hx, run_range_map w t kt e b es clock ht hb]
theorem setObj_iter {since c0 since' c0' : Nat} {seen seen' : Array Nat} {Gs : List Grp} (S : St w0 K w ([(r, .mapIter (some b) since seen c0)] :: Gs)) : St w0 K { w with heap := w.heap.setIfInBounds r (.mapIter (some b) since' seen' c0') } ([(r, .mapIter (some b) since' seen' c0')] :: Gs) ∧ (setObj r (.mapIter (some b) since' seen' c0')).run P w = .ok () { w with heap := w.heap.setIfInBounds r (.mapIter (some b) since' seen' c0') } := by
  have hb := S.blk 0 rfl
  obtain ⟨h1, h2⟩ := MapKept.heap_set (o' := .mapIter (some b) since' seen' c0') hb
  refine ⟨S.upd ?_ (by simp [keys]) (fun b' hb' => .inl (by simpa [keys] using hb')) ?_ (by simp) ⟨rfl, rfl, rfl⟩, ?_⟩
  · intro b' o hb'
    simp only [List.mem_singleton, Prod.mk.injEq] at hb'
    obtain ⟨rfl, rfl⟩ := hb'
    exact h1
  · intro b' _ hn
    exact h2 b' (fun e => hn (by simp [keys, e]))
  · simp only [setObj, Sem.run]
    rw [hb]
theorem St.next (S : St w0 K w (GI :: G :: Gs)) (h : IterO kv vv r b m D last GI G) :
    ((∀ x ∈ m, x.1 ∈ D) ∧ ∃ w1, (∀ {N : FN} {l : Fr} {x : Operand} {dst : Option Tmp} {ty : TypeId} {pos : String} {aft : Array Edge} {g : Option (Nat × Bool)}, ev l x = some (.pointer (some ⟨r, 0, none⟩)) → GE P N l w ⟨dst, .next x false, ty, pos, aft, g⟩ (.tuple #[.bool false]) w1) ∧ St w0 K w1 (GI :: G :: Gs)) ∨
    ∃ q ∈ m, q.1 ∉ D ∧ ∃ GI' w1, (∀ {N : FN} {l : Fr} {x : Operand} {dst : Option Tmp} {ty : TypeId} {pos : String} {aft : Array Edge} {g : Option (Nat × Bool)}, ev l x = some (.pointer (some ⟨r, 0, none⟩)) → GE P N l w ⟨dst, .next x false, ty, pos, aft, g⟩ (.tuple #[.bool true, kv q.1, vv q.2]) w1) ∧ IterO kv vv r b m (q.1 :: D) (some q) GI' G ∧ St w0 K w1 (GI' :: G :: Gs) := by
  obtain ⟨hn, es, clock, since, seen, c0, rfl, rfl, h1, h2, h3, h4, h5, h6, h7, h8⟩ := h
  have hr := S.blk 0 rfl
  have hb := S.blk 1 rfl
  have hlen : es.toList.length = m.length := by have := congrArg List.length h1; simpa using this
  have htest := next_test_false seen es since c0 h4 h5
  have hL : (es.filter fun e => !seen.contains e.born) = leftOf es seen := rfl
  have e1 : (leftOf es seen).filter (fun x => decide (x.born < since)) = leftOf es seen := Array.filter_eq_self.2 (fun x hx => by simpa using h4 x (mem_left (Array.mem_toList_iff.2 hx)).1)
  have e2 : (leftOf es seen).filter (fun x => decide (x.born ≥ since)) = #[] := by
    rw [Array.filter_eq_empty_iff]
    intro x hx
    have := h4 x (mem_left (Array.mem_toList_iff.2 hx)).1
    simp
    omega
  by_cases h0 : (leftOf es seen).size = 0
  · left
    refine ⟨fun q hq => ?_, w, fun hx a ha => ?_, S⟩
    · obtain ⟨i, hi, rfl⟩ := List.getElem_of_mem hq
      have hi' : i < es.toList.length := by omega
      exact (h7 i _ _ (List.getElem?_eq_getElem hi') (List.getElem?_eq_getElem hi)).1 (all_seen es seen h0 _ (List.getElem_mem hi'))
    · have he : leftOf es seen = #[] := Array.eq_empty_of_size_eq_zero h0
      have hnx : ∀ ty, (Instr.next (.pointer (some ⟨r, 0, none⟩)) false ty).run P w = .ok (.tuple #[.bool false]) w := fun ty => by
        simp only [Instr.next, getObj, Sem.run_bind, Sem.run, hr, hb, Result.andThen, htest, Bool.false_eq_true, if_false]
        rw [hL]
        simp only [e1, e2, he]
        simp [choose, Sem.run, Question.forced]
      unfold execOp
      simp [ha.ev hx, hnx]
  · right
    have hch : ∃ (j : Nat) (w1 : World), j < (leftOf es seen).size ∧ (w1 = w ∨ w1 = w.drew) ∧ (choose (Question.mapNext (leftOf es seen).size)).run P w = .ok j w1 := by
      by_cases hf : (leftOf es seen).size ≤ 1
      · exact ⟨0, w, by omega, .inl rfl, by simp [choose, Sem.run, Question.forced, hf]⟩
      · exact ⟨_, w.drew, Nat.mod_lt _ (by omega), .inr rfl, by
          simp only [choose, Sem.run, Question.forced, decide_eq_true_eq, hf, if_false, Question.cut]
          rfl⟩
    obtain ⟨j, w1, hj, hal, hrun⟩ := hch
    have hm := mem_left (Array.getElem_mem_toList hj)
    generalize he : (leftOf es seen)[j] = E at hm
    obtain ⟨hm1, hm2⟩ := hm
    obtain ⟨i, hi, hiE⟩ := List.getElem_of_mem hm1
    have hi' : i < m.length := by omega
    have hk : E.key = kv m[i].1 := by
      have := congrArg (fun L => L[i]?) h1
      simp only [List.getElem?_map, List.getElem?_eq_getElem hi, List.getElem?_eq_getElem hi', Option.map_some, Option.some.injEq, hiE] at this
      exact this
    have hv : E.val = vv m[i].2 := by
      have := congrArg (fun L => L[i]?) h2
      simp only [List.getElem?_map, List.getElem?_eq_getElem hi, List.getElem?_eq_getElem hi', Option.map_some, Option.some.injEq, hiE] at this
      exact this
    have S1 : St w0 K w1 ([(r, .mapIter (some b) since seen c0)] :: [(b, .map es clock)] :: Gs) := by
      rcases hal with h | h <;> rw [h]
      · exact S
      · exact S.drew
    obtain ⟨S2, hset⟩ := setObj_iter (P := P) (since' := since) (seen' := seen.push E.born) (c0' := clock) S1
    refine ⟨m[i], List.getElem_mem hi', fun hd => ?_, _, _, fun hx a ha => ?_, ⟨hn, es, clock, since, seen.push E.born, clock, rfl, rfl, h1, h2, h3, h4, h6, h6, ?_, ?_⟩, S2⟩
    · have := (h7 i _ _ (List.getElem?_eq_getElem hi) (List.getElem?_eq_getElem hi')).2 hd
      rw [hiE, hm2] at this
      cases this
    · have hne : (leftOf es seen).isEmpty = false := by simp [Array.isEmpty, h0]
      have hnx : ∀ ty, (Instr.next (.pointer (some ⟨r, 0, none⟩)) false ty).run P w = .ok (.tuple #[.bool true, kv m[i].1, vv m[i].2]) { w1 with heap := w1.heap.setIfInBounds r (.mapIter (some b) since (seen.push E.born) clock) } := fun ty => by
        simp only [Instr.next, getObj, Sem.run_bind, Sem.run, hr, hb, Result.andThen, htest, Bool.false_eq_true, if_false]
        rw [hL]
        simp only [e1, e2, hne, Bool.false_eq_true, if_false, Array.append_empty, Array.empty_append, Array.size_map, hrun, Array.getElem?_map, Array.getElem?_eq_getElem hj, he, Option.map_some, Sem.run_bind, hset, Result.andThen, hk, hv]
        rfl
      unfold execOp
      simp [ha.ev hx, hnx]
    · intro i2 e2' x2 g1 g2
      rw [contains_push]
      have := h7 i2 e2' x2 g1 g2
      by_cases hbe : e2'.born = E.born
      · have : e2' = E := born_inj h3 (List.mem_of_getElem? g1) hm1 hbe
        subst this
        have hii : i2 = i := by
          have a1 := (List.getElem?_eq_some_iff.1 g1)
          exact nodup_ix h3 (by simpa using a1.1) (by simpa using hi) (by rw [List.getElem_map, List.getElem_map, a1.2, hiE])
        subst hii
        rw [List.getElem?_eq_getElem hi', Option.some.injEq] at g2
        subst g2
        simp
      · have hbe' : (e2'.born == E.born) = false := by simpa using hbe
        rw [hbe', Bool.or_false, this, List.mem_cons]
        refine ⟨.inr, fun h => h.resolve_left fun hc => hbe ?_⟩
        have hii : i2 = i := by
          have a1 := (List.getElem?_eq_some_iff.1 g2)
          exact nodup_ix hn (by simpa using a1.1) (by simpa using hi') (by rw [List.getElem_map, List.getElem_map, a1.2, hc])
        subst hii
        rw [List.getElem?_eq_getElem hi, Option.some.injEq] at g1
        rw [← g1, hiE]
    · intro x hx
      cases hx
      exact ⟨rfl, E, hm1, by simp, hk, hv⟩
theorem G.entry {q : κ × ν} (S : St w0 K w (GI :: G :: Gs)) (h : IterO kv vv r b m D (some q) GI G) (hx : ev l x = some (.pointer (some ⟨r, 0, none⟩))) :
    GR P N l w ⟨dst, .entry x, ty, pos, aft, g⟩ (.tuple #[kv q.1, vv q.2]) := fun w' hE a ha => by
  obtain ⟨hn, es, clock, since, seen, c0, rfl, rfl, h1, h2, h3, h4, h5, h6, h7, h8⟩ := h
  obtain ⟨rfl, E, hm, hb1, hk, hv⟩ := h8 _ rfl
  have hr := (hE.2 _ (lt_of_blk (S.blk 0 rfl))).trans (S.blk 0 rfl)
  have hb := (hE.2 _ (lt_of_blk (S.blk 1 rfl))).trans (S.blk 1 rfl)
  have hf : es.find? (·.born == E.born) = some E := by rw [← Array.find?_toList]; exact find_born E es.toList h3 hm
  unfold execOp
  simp [ha.ev hx, Instr.entry, getObj, Sem.run_bind, Sem.run, hr, hb, hb1, hf, hk, hv, Result.andThen]
/-- A key is taken out while the loop goes on. -/
theorem St.iterDel (S : St w0 K w (GI :: G :: Gs)) (hK : KeyOk P kt kv) (ht : P.underlying t = some (.map kt e)) (h : IterO kv vv r b m D last GI G) (k : κ) : ∃ G' w1,
    (∀ {N : FN} {l : Fr} {x y : Operand} {dst : Option Tmp} {ty : TypeId} {pos : String} {aft : Array Edge} {g : Option (Nat × Bool)}, ev l x = some (.map (some b)) → ev l y = some (kv k) → GE P N l w ⟨dst, .call { callee := .builtin .delete, args := #[x, y], argTypes := #[t, kt] }, ty, pos, aft, g⟩ (.tuple #[]) w1) ∧
    IterO kv vv r b (mdel m k) D none GI G' ∧ St w0 K w1 (GI :: G' :: Gs) := by
  obtain ⟨hn, es, clock, since, seen, c0, rfl, rfl, h1, h2, h3, h4, h5, h6, h7, h8⟩ := h
  have hb := S.blk 1 rfl
  have hf := run_find (P := P) hK w k h1 h2
  have S0 : St w0 K w ([(b, .map es clock)] :: [(r, .mapIter (some b) since seen c0)] :: Gs) := S.perm (by simp only [List.flatten_cons, ← List.append_assoc]; exact (List.perm_append_comm).append_right _)
  cases hi : mfind m k with
  | none =>
    rw [hi] at hf
    obtain ⟨S1, hr⟩ := setObj_map (P := P) (es' := es) (clock' := clock) S0
    have hd : mdel m k = m := by unfold mdel; rw [hi]
    rw [hd]
    refine ⟨[(b, .map es clock)], _, fun hx hy a ha => ?_, ⟨hn, es, clock, since, seen, c0, rfl, rfl, h1, h2, h3, h4, h5, h6, h7, fun x hx => by cases hx⟩, S1.perm (by simp only [List.flatten_cons, ← List.append_assoc]; exact (List.perm_append_comm).append_right _)⟩
    unfold execOp
    simp [resolve, invoke, builtin, ha.ev hx, ha.ev hy, Builtin.delete_, run_underlying ht, MapKept.run_getObj_map hb, hK.chk, hf, hr]
  | some i =>
    rw [hi] at hf
    obtain ⟨q, g1, g2, g3⟩ := mfind_some hi
    have hlen : es.toList.length = m.length := by have := congrArg List.length h1; simpa using this
    have hil : i < es.size := by have := (List.getElem?_eq_some_iff.1 g1).1; rw [← Array.length_toList]; omega
    obtain ⟨S1, hr⟩ := setObj_map (P := P) (es' := es.eraseIdxIfInBounds i) (clock' := clock) S0
    have hset : (es.eraseIdxIfInBounds i).toList = es.toList.eraseIdx i := by simp [Array.eraseIdxIfInBounds, hil]
    have hd : mdel m k = m.eraseIdx i := by unfold mdel; rw [hi]
    rw [hd]
    refine ⟨[(b, .map (es.eraseIdxIfInBounds i) clock)], _, fun hx hy a ha => ?_, ⟨?_, es.eraseIdxIfInBounds i, clock, since, seen, c0, rfl, rfl, ?_, ?_, ?_, ?_, h5, h6, ?_, fun x hx => by cases hx⟩, S1.perm (by simp only [List.flatten_cons, ← List.append_assoc]; exact (List.perm_append_comm).append_right _)⟩
    · unfold execOp
      simp [resolve, invoke, builtin, ha.ev hx, ha.ev hy, Builtin.delete_, run_underlying ht, MapKept.run_getObj_map hb, hK.chk, hf, hr]
    · exact List.Nodup.sublist ((List.eraseIdx_sublist _ _).map _) hn
    · rw [hset, map_erase, map_erase, h1]
    · rw [hset, map_erase, map_erase, h2]
    · rw [hset]
      exact List.Nodup.sublist ((List.eraseIdx_sublist _ _).map _) h3
    · intro q hq
      rw [hset] at hq
      exact h4 q (List.mem_of_mem_eraseIdx hq)
    · intro j e' x' a1 a2
      rw [hset, List.getElem?_eraseIdx] at a1
      rw [List.getElem?_eraseIdx] at a2
      split at a1
      · rename_i hji; rw [if_pos hji] at a2; exact h7 j e' x' a1 a2
      · rename_i hji; rw [if_neg hji] at a2; exact h7 (j + 1) e' x' a1 a2
end
/-! ### maps of pointers to things -/
abbrev ptv (p : Nat) : Value := .pointer (some ⟨p, 0, none⟩)
/-- A key, a thing's block, the thing, what it has. -/
structure Ph (κ α : Type) where
  k : κ
  p : Nat
  x : α
  G : Grp
section
variable {P : Program} {κ α : Type} [DecidableEq κ] {kt T : TypeId} {kv : κ → Value} {rp : Rp α} {w w' w0 : World} {K : Nat → Prop} {Gs : List Grp} {G Gr Gk : Grp} {F F' : Nat → Prop} {b p : Nat} {X : List (κ × α)} {k : κ} {x : α} {t e : TypeId}
def CliO (kv : κ → Value) (T : TypeId) (rp : Rp α) (b : Nat) (X : List (κ × α)) (G : Grp) : Prop :=
  ∃ Q : List (Ph κ α), ∃ G1, X = Q.map (fun q => (q.k, q.x)) ∧ MapO kv ptv b (Q.map fun q => (q.k, q.p)) G1 ∧ (∀ q ∈ Q, ObjO T rp q.p q.x q.G) ∧ G = G1 ++ (Q.map (·.G)).flatten
def CliR (kv : κ → Value) (T : TypeId) (rp : Rp α) (w : World) (F : Nat → Prop) (b : Nat) (X : List (κ × α)) : Prop :=
  F b ∧ ∃ Q : List (κ × Nat × α), X = Q.map (fun q => (q.1, q.2.2)) ∧ MapR kv ptv w b (Q.map fun q => (q.1, q.2.1)) ∧ ∀ q ∈ Q, PtR T rp w F q.2.1 q.2.2
/-- One thing is out. -/
structure CliF (kv : κ → Value) (T : TypeId) (rp : Rp α) (b : Nat) (X : List (κ × α)) (k : κ) (p : Nat) (Gr : Grp) : Prop where
  map : ∃ Y G1 G2, MapO kv ptv b Y G1 ∧ mget Y k = some p ∧ Gr = G1 ++ G2
  close : ∀ x Gk, ObjO T rp p x Gk → ∃ G', CliO kv T rp b (mput X k x) G' ∧ (Gr ++ Gk).Perm G'
theorem CliO.nil (h : MapO kv ptv b ([] : List (κ × Nat)) G) : CliO kv T rp b ([] : List (κ × α)) G := ⟨[], G, rfl, h, by simp, by simp⟩
theorem mfind_at {ν : Type} {m : List (κ × ν)} (hn : (m.map (·.1)).Nodup) {i : Nat} (hi : i < m.length) (hk : m[i].1 = k) : mfind m k = some i := by
  unfold mfind
  rw [List.findIdx?_eq_some_iff_getElem]
  refine ⟨hi, by simpa using hk, fun j hj => ?_⟩
  have : m[j].1 ≠ k := fun hc => absurd (nodup_ix hn (by simpa using Nat.lt_trans hj hi) (by simpa using hi) (by rw [List.getElem_map, List.getElem_map, hc, hk])) (by omega)
  simpa using this
theorem mget_at {ν : Type} {m : List (κ × ν)} {i : Nat} (h : mfind m k = some i) (hi : i < m.length) : mget m k = some m[i].2 := by
  obtain ⟨q, h1, h2, h3⟩ := mfind_some h
  rw [List.getElem?_eq_getElem hi, Option.some.injEq] at h1
  rw [h3, h1]
theorem mget_find {ν : Type} {m : List (κ × ν)} {v : ν} (h : mget m k = some v) : ∃ i, ∃ hi : i < m.length, mfind m k = some i ∧ m[i] = (k, v) := by
  cases hf : mfind m k with
  | none => rw [(mfind_none hf).1] at h; cases h
  | some i =>
    obtain ⟨q, h1, h2, h3⟩ := mfind_some hf
    obtain ⟨hi, he⟩ := List.getElem?_eq_some_iff.1 h1
    rw [h3, Option.some.injEq] at h
    exact ⟨i, hi, rfl, by rw [he, ← h2, ← h]⟩
theorem mfind_congr {ν μ : Type} {m : List (κ × ν)} {n : List (κ × μ)} (h : m.map (·.1) = n.map (·.1)) : mfind m k = mfind n k := by
  rw [← idx_map (α := κ), ← idx_map (α := κ), h]
theorem set_mid {β : Type} (A : List β) (x y : β) (B : List β) : (A ++ x :: B).set A.length y = A ++ y :: B := by
  induction A with
  | nil => rfl
  | cons a A ih => simp [ih]
theorem CliO.focus (h : CliO kv T rp b X G) (hx : mget X k = some x) : ∃ p Gk Gr, ObjO T rp p x Gk ∧ CliF kv T rp b X k p Gr ∧ G.Perm (Gk ++ Gr) := by
  obtain ⟨Q, G1, rfl, hM, hO, rfl⟩ := h
  obtain ⟨i, hi, hf, he⟩ := mget_find hx
  have hi' : i < Q.length := by simpa using hi
  rw [List.getElem_map] at he
  have hsp : Q = Q.take i ++ Q[i] :: Q.drop (i + 1) := by
    conv => lhs; rw [← List.take_append_drop i Q]
    rw [List.drop_eq_getElem_cons hi']
  have hlen : (Q.take i).length = i := by simp; omega
  generalize Q.take i = A at hsp hlen
  generalize Q.drop (i + 1) = B at hsp
  generalize Q[i] = q at hsp he
  obtain ⟨hk, hx'⟩ := Prod.mk.inj he
  subst hk
  subst hx'
  subst hsp
  refine ⟨q.p, q.G, G1 ++ ((A.map (·.G)).flatten ++ (B.map (·.G)).flatten), hO q (by simp), ⟨⟨_, G1, _, hM, ?_, rfl⟩, fun x Gk hk => ?_⟩, ?_⟩
  · have hff : mfind ((A ++ q :: B).map fun q => (q.k, q.p)) q.k = some i := by
      rw [← hf]
      exact mfind_congr (by simp [Function.comp_def])
    rw [mget_at hff (by simpa using hi)]
    simp [← hlen]
  · refine ⟨G1 ++ ((A ++ ⟨q.k, q.p, x, Gk⟩ :: B : List (Ph κ α)).map (·.G)).flatten, ⟨A ++ ⟨q.k, q.p, x, Gk⟩ :: B, G1, ?_, by simpa using hM, fun y hy => ?_, rfl⟩, ?_⟩
    · unfold mput
      rw [hf]
      simp only [List.map_append, List.map_cons]
      rw [show i = (A.map fun q : Ph κ α => (q.k, q.x)).length by simp [hlen], set_mid]
    · rcases List.mem_append.1 hy with hy | hy
      · exact hO y (by simp [hy])
      · rcases List.mem_cons.1 hy with rfl | hy
        · exact hk
        · exact hO y (by simp [hy])
    · simp only [List.map_append, List.map_cons, List.flatten_append, List.flatten_cons, List.append_assoc]
      exact (List.Perm.append_left _ (List.Perm.append_left _ List.perm_append_comm))
  · simp only [List.map_append, List.map_cons, List.flatten_append, List.flatten_cons]
    rw [← List.append_assoc, ← List.append_assoc, ← List.append_assoc, List.append_assoc (G1 ++ _)]
    exact (List.perm_append_comm_assoc _ _ _).trans (by simp)
theorem St.focus (S : St w0 K w (G :: Gs)) (h : CliO kv T rp b X G) (hx : mget X k = some x) : ∃ p Gk Gr, ObjO T rp p x Gk ∧ CliF kv T rp b X k p Gr ∧ St w0 K w (Gk :: Gr :: Gs) := by
  obtain ⟨p, Gk, Gr, h1, h2, h3⟩ := h.focus hx
  exact ⟨p, Gk, Gr, h1, h2, S.perm (by simp only [List.flatten_cons]; rw [← List.append_assoc]; exact h3.append_right _)⟩
theorem St.unfocus (S : St w0 K w (Gk :: Gr :: Gs)) (h : CliF kv T rp b X k p Gr) (hO : ObjO T rp p x Gk) : ∃ G', CliO kv T rp b (mput X k x) G' ∧ St w0 K w (G' :: Gs) := by
  obtain ⟨G', h1, h2⟩ := h.close x Gk hO
  exact ⟨G', h1, S.perm (by simp only [List.flatten_cons]; rw [← List.append_assoc]; exact (List.perm_append_comm.trans h2).append_right _)⟩
/-- A new thing comes in. -/
theorem St.pushIn (S : St w0 K w (G :: Gs)) (hK : KeyOk P kt kv) (ht : P.underlying t = some (.map kt e)) (h : CliO kv T rp b X G) (hx : mget X k = none) (p : Nat) : ∃ Gr w1,
    (∀ {N : FN} {l : Fr} {x y z : Operand} {dst : Option Tmp} {ty : TypeId} {pos : String} {aft : Array Edge} {g : Option (Nat × Bool)}, ev l x = some (.map (some b)) → ev l y = some (kv k) → ev l z = some (ptv p) → GU P N l w ⟨dst, .mapUpdate t x y z, ty, pos, aft, g⟩ w1) ∧
    CliF kv T rp b X k p Gr ∧ St w0 K w1 (Gr :: Gs) := by
  obtain ⟨Q, G1, rfl, hM, hO, rfl⟩ := h
  obtain ⟨G', w1, hU, hM', S1⟩ := S.split.mapPut hK ht hM k p
  have hf : mfind (Q.map fun q => (q.k, q.x)) k = none := by
    cases hf : mfind (Q.map fun q => (q.k, q.x)) k with
    | none => rfl
    | some i => obtain ⟨q, _, _, g3⟩ := mfind_some hf; rw [g3] at hx; cases hx
  have hf' : mfind (Q.map fun q => (q.k, q.p)) k = none := by rw [← hf]; exact mfind_congr (by simp [Function.comp_def])
  have hput : mput (Q.map fun q => (q.k, q.p)) k p = (Q.map fun q => (q.k, q.p)) ++ [(k, p)] := by unfold mput; rw [hf']
  rw [hput] at hM'
  refine ⟨G' ++ (Q.map (·.G)).flatten, w1, hU, ⟨⟨_, G', _, hM', ?_, rfl⟩, fun x Gk hk => ?_⟩, S1.join⟩
  · have : mfind ((Q.map fun q => (q.k, q.p)) ++ [(k, p)]) k = some Q.length := mfind_at hM'.1 (by simp) (by simp)
    rw [mget_at this (by simp)]
    simp
  · refine ⟨G' ++ ((Q ++ [⟨k, p, x, Gk⟩] : List (Ph κ α)).map (·.G)).flatten, ⟨Q ++ [⟨k, p, x, Gk⟩], G', ?_, by simpa using hM', fun y hy => ?_, rfl⟩, by simp⟩
    · unfold mput; rw [hf]; simp
    · rcases List.mem_append.1 hy with hy | hy
      · exact hO y hy
      · rw [List.mem_singleton] at hy
        subst hy
        exact hk
theorem mget_none_congr {ν μ : Type} {m : List (κ × ν)} {n : List (κ × μ)} (h : m.map (·.1) = n.map (·.1)) (hx : mget m k = none) : mget n k = none := by
  have hf : mfind m k = none := by
    cases hf : mfind m k with
    | none => rfl
    | some i => obtain ⟨q, _, _, g3⟩ := mfind_some hf; rw [g3] at hx; cases hx
  rw [mfind_congr h] at hf
  exact (mfind_none hf).1
/-- What a look into it shows. -/
theorem CliO.look (h : CliO kv T rp b X G) (hG : ∀ b o, (b, o) ∈ G → w.heap[b]? = some o) : ∃ Y, MapR kv ptv w b Y ∧ Y.length = X.length ∧ ∀ k, mget X k = none → mget Y k = none := by
  obtain ⟨Q, G1, rfl, hM, hO, rfl⟩ := h
  exact ⟨_, hM.rd fun b o hb => hG b o (by simp [hb]), by simp, fun k hk => mget_none_congr (by simp [Function.comp_def]) hk⟩
theorem CliF.look (h : CliF kv T rp b X k p Gr) (hG : ∀ b o, (b, o) ∈ Gr → w.heap[b]? = some o) : ∃ Y, MapR kv ptv w b Y ∧ mget Y k = some p := by
  obtain ⟨Y, G1, G2, hM, hk, rfl⟩ := h.map
  exact ⟨Y, hM.rd fun b o hb => hG b o (by simp [hb]), hk⟩
theorem CliR.ext (h : CliR kv T rp w F b X) (hE : ∀ b, F b → w'.heap[b]? = w.heap[b]?) : CliR kv T rp w' F b X := by
  obtain ⟨hb, Q, h1, h2, h3⟩ := h
  exact ⟨hb, Q, h1, h2.move (hE b hb), fun q hq => (h3 q hq).ext hE⟩
theorem CliR.mono (h : CliR kv T rp w F b X) (hF : ∀ b, F b → F' b) : CliR kv T rp w F' b X := by
  obtain ⟨hb, Q, h1, h2, h3⟩ := h
  refine ⟨hF b hb, Q, h1, h2, fun q hq => ?_⟩
  obtain ⟨cs, g1, g2, g3⟩ := h3 q hq
  exact ⟨cs, g1, hF _ g2, rp.mono g3 hF⟩
theorem MapO.blk {ν : Type} {vv : ν → Value} {m : List (κ × ν)} (h : MapO kv vv b m G) : b ∈ keys G := by
  obtain ⟨_, es, clock, rfl, _⟩ := h
  simp [keys]
theorem CliO.rd (h : CliO kv T rp b X G) (hG : ∀ b o, (b, o) ∈ G → w.heap[b]? = some o) : CliR kv T rp w (· ∈ keys G) b X := by
  obtain ⟨Q, G1, rfl, hM, hO, rfl⟩ := h
  refine ⟨?_, Q.map (fun q => (q.k, q.p, q.x)), by simp [Function.comp_def], ?_, fun y hy => ?_⟩
  · show b ∈ keys _
    rw [keys_append]
    exact List.mem_append_left _ hM.blk
  · have := hM.rd (w := w) fun b o hb => hG b o (by simp [hb])
    simpa [Function.comp_def] using this
  · obtain ⟨q, hq, rfl⟩ := List.mem_map.1 hy
    obtain ⟨cs, g1, g2, g3⟩ := (hO q hq).rd (w := w) fun b o hb => hG b o (by rw [List.mem_append]; exact .inr (List.mem_flatten.2 ⟨q.G, List.mem_map.2 ⟨q, hq, rfl⟩, hb⟩))
    have hm : ∀ b, b ∈ keys q.G → b ∈ keys (G1 ++ (Q.map (·.G)).flatten) := fun b hb => by
      obtain ⟨⟨k', o⟩, hm', rfl⟩ := List.mem_map.1 hb
      exact mem_keys (o := o) (by rw [List.mem_append]; exact .inr (List.mem_flatten.2 ⟨q.G, List.mem_map.2 ⟨q, hq, rfl⟩, hm'⟩))
    exact ⟨cs, g1, hm _ g2, rp.mono g3 hm⟩
theorem CliR.hit (h : CliR kv T rp w F b X) (hx : mget X k = some x) : ∃ Y p, MapR kv ptv w b Y ∧ mget Y k = some p ∧ PtR T rp w F p x := by
  obtain ⟨hb, Q, rfl, h2, h3⟩ := h
  obtain ⟨i, hi, hf, he⟩ := mget_find hx
  have hi' : i < Q.length := by simpa using hi
  rw [List.getElem_map] at he
  obtain ⟨hk, rfl⟩ := Prod.mk.inj he
  refine ⟨_, Q[i].2.1, h2, ?_, h3 _ (List.getElem_mem hi')⟩
  have hff : mfind (Q.map fun q => (q.1, q.2.1)) k = some i := by rw [← hf]; exact mfind_congr (by simp [Function.comp_def])
  rw [mget_at hff (by simpa using hi')]
  simp
theorem CliR.miss (h : CliR kv T rp w F b X) (hx : mget X k = none) : ∃ Y, MapR kv ptv w b Y ∧ mget Y k = none := by
  obtain ⟨hb, Q, rfl, h2, h3⟩ := h
  exact ⟨_, h2, mget_none_congr (by simp [Function.comp_def]) hx⟩
theorem CliR.len (h : CliR kv T rp w F b X) : ∃ Y, MapR kv ptv w b Y ∧ Y.length = X.length := by
  obtain ⟨hb, Q, rfl, h2, h3⟩ := h
  exact ⟨_, h2, by simp⟩
end
theorem OptO.one {α : Type} {T : TypeId} {r : Rp α} {v : Value} {x : Option α} {G : Grp} (h : OptO T r v x G) : v.oneCell' = true := by
  cases x with
  | none => obtain ⟨rfl, _⟩ := h; rfl
  | some x => obtain ⟨p, rfl, _⟩ := h; rfl
theorem OptO.ptr {α : Type} {T : TypeId} {r : Rp α} {v : Value} {x : Option α} {G : Grp} (h : OptO T r v x G) : v = .pointer none ∨ ∃ p, v = .pointer (some ⟨p, 0, none⟩) := by
  cases x with
  | none => exact .inl h.1
  | some x => obtain ⟨p, h, _⟩ := h; exact .inr ⟨p, h⟩
def arEl (P : Program) (t : TypeId) : Option (Nat × Nat) := match P.underlying t with
  | some (.array n e) => (P.info? e).map fun i => (n, i.size)
  | _ => none
theorem arEl_spec {P : Program} {t : TypeId} {n sz : Nat} (h : arEl P t = some (n, sz)) : ∃ e i, P.underlying t = some (.array n e) ∧ P.info? e = some i ∧ i.size = sz := by
  unfold arEl at h
  split at h
  · rename_i n' e he
    obtain ⟨i, hi, hs⟩ := Option.map_eq_some_iff.1 h
    obtain ⟨rfl, rfl⟩ := Prod.mk.inj hs
    exact ⟨e, i, he, hi, rfl⟩
  · cases h
theorem G.idxa {P : Program} {N : FN} {l : Fr} {dst : Option Tmp} {ty : TypeId} {pos : String} {aft : Array Edge} {g : Option (Nat × Bool)} {t : TypeId} {sz : Nat} {x i : Operand} {b o n j o' : Nat} {k : IntKind} (hT : arEl P t = some (n, sz)) (hx : ev l x = some (.pointer (some ⟨b, o, none⟩))) (hi : ev l i = some (.int k (j : Int))) (hj : j < n) (he : o + j * sz = o') :
    GP P N l ⟨dst, .indexAddr t x i, ty, pos, aft, g⟩ (.pointer (some ⟨b, o', none⟩)) := fun w a ha => by
  obtain ⟨e, ti, h1, h2, h3⟩ := arEl_spec hT
  unfold execOp
  simp [ha.ev hx, ha.ev hi, Instr.indexAt, run_underlying h1, asIntOf, sizeOf, typeInfo, h2, h3, Addr.add_lit, he, hj, Instr.sureAddr]
/-- A map's block within a footprint. -/
def MpR {κ ν : Type} (kv : κ → Value) (vv : ν → Value) (w : World) (F : Nat → Prop) (b : Nat) (m : List (κ × ν)) : Prop := F b ∧ MapR kv vv w b m
section
variable {κ ν : Type} [DecidableEq κ] {kv : κ → Value} {vv : ν → Value} {w w' : World} {F F' : Nat → Prop} {b : Nat} {m : List (κ × ν)} {G : Grp}
theorem MpR.ext (h : MpR kv vv w F b m) (hE : ∀ b, F b → w'.heap[b]? = w.heap[b]?) : MpR kv vv w' F b m := ⟨h.1, h.2.move (hE b h.1)⟩
theorem MpR.mono (h : MpR kv vv w F b m) (hF : ∀ b, F b → F' b) : MpR kv vv w F' b m := ⟨hF b h.1, h.2⟩
theorem MapR.lt (h : MapR kv vv w b m) : b < w.heap.size := by
  obtain ⟨_, es, clock, h0, _⟩ := h
  exact lt_of_blk h0
theorem G.maplenN {P : Program} {N : FN} {l : Fr} {dst : Option Tmp} {ty : TypeId} {pos : String} {aft : Array Edge} {g : Option (Nat × Bool)} {t kt e : TypeId} {x : Operand} {n : Nat} (ht : P.underlying t = some (.map kt e)) (h : MapR kv vv w b m) (hn : m.length = n) (hx : ev l x = some (.map (some b))) :
    GR P N l w ⟨dst, .call { callee := .builtin .len, args := #[x], argTypes := #[t] }, ty, pos, aft, g⟩ (.int .i64 (n : Int)) := hn ▸ G.maplen ht h hx
theorem MapO.rdF (h : MapO kv vv b m G) (hG : ∀ b o, (b, o) ∈ G → w.heap[b]? = some o) : MpR kv vv w (· ∈ keys G) b m := ⟨h.blk, MapO.rd h hG⟩
end
end Go.Eng
