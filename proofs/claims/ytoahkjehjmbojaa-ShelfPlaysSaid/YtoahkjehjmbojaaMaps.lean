/- Maps; things that stand in a store, and pointers to them. -/
import Derived.MapKept
import Derived.Laws.IdiomRangeMap
import Derived.Test.YtoahkjehjmbojaaEng3
set_option linter.unusedVariables false
set_option linter.unusedSimpArgs false
set_option linter.unusedSectionVars false
namespace Go.Eng
open Go
/-! ### maps as lists of pairs -/
section
variable {κ ν : Type} [DecidableEq κ]
def mfind (m : List (κ × ν)) (k : κ) : Option Nat := m.findIdx? (fun x => decide (x.1 = k))
def mget (m : List (κ × ν)) (k : κ) : Option ν := (m.find? (fun x => decide (x.1 = k))).map (·.2)
def mput (m : List (κ × ν)) (k : κ) (v : ν) : List (κ × ν) := match mfind m k with | some i => m.set i (k, v) | none => m ++ [(k, v)]
def mdel (m : List (κ × ν)) (k : κ) : List (κ × ν) := match mfind m k with | some i => m.eraseIdx i | none => m
theorem mfind_some {m : List (κ × ν)} {k : κ} {i : Nat} (h : mfind m k = some i) : ∃ x, m[i]? = some x ∧ x.1 = k ∧ mget m k = some x.2 := by
  unfold mfind at h
  unfold mget
  induction m generalizing i with
  | nil => simp at h
  | cons x m ih =>
    rw [List.findIdx?_cons] at h
    by_cases hx : x.1 = k
    · simp only [hx, decide_true, if_true, Option.some.injEq] at h
      subst h
      exact ⟨x, rfl, hx, by simp [hx]⟩
    · simp only [hx, decide_false, Bool.false_eq_true, if_false, Option.map_eq_some_iff] at h
      obtain ⟨j, hj, rfl⟩ := h
      obtain ⟨y, h1, h2, h3⟩ := ih hj
      exact ⟨y, by simpa using h1, h2, by rw [List.find?_cons]; simp only [hx, decide_false]; exact h3⟩
theorem mfind_none {m : List (κ × ν)} {k : κ} (h : mfind m k = none) : mget m k = none ∧ ∀ x ∈ m, x.1 ≠ k := by
  unfold mfind at h
  rw [List.findIdx?_eq_none_iff] at h
  have : ∀ x ∈ m, x.1 ≠ k := fun x hx => by simpa using h x hx
  refine ⟨?_, this⟩
  unfold mget
  rw [List.find?_eq_none.2 (fun x hx => by simpa using this x hx)]
  rfl
end
/-- Values of a type as keys. -/
structure KeyOk {κ : Type} [DecidableEq κ] (P : Program) (kt : TypeId) (kv : κ → Value) : Prop where
  chk : ∀ (w : World) (e : Bool) (k : κ), (Instr.checkKey e 10000 kt (kv k)).run P w = .ok () w
  find : ∀ (w : World) (k : κ) (ks : List κ) (es : List MapEntry), es.map (·.key) = ks.map kv → (Instr.findKey kt (kv k) es).run P w = .ok ((ks.findIdx? (fun x => decide (x = k))).map fun i => (i, ((es[i]?).map (·.val)).getD undef)) w
  stay : ∀ (w : World) (k : κ), (Instr.keyThatStays (kv k) (kv k)).run P w = .ok (kv k) w
section
variable {P : Program} {κ ν : Type} [DecidableEq κ] {kt : TypeId} {kv : κ → Value} {vv : ν → Value}
theorem findNow_at {d : TypeDesc} (hs : ∀ a b : κ, Instr.sameNow d (kv a) (kv b) = some (decide (a = b))) (k : κ) : ∀ (es : List MapEntry) (ks : List κ) (i : Nat), es.map (·.key) = ks.map kv →
    Instr.findNow d (kv k) es i = some ((ks.findIdx? (fun x => decide (x = k))).map fun j => (i + j, ((es[j]?).map (·.val)).getD undef))
  | [], [], i, _ => by simp [Instr.findNow]
  | [], _ :: _, i, h => by simp at h
  | _ :: _, [], i, h => by simp at h
  | e :: es, x :: ks, i, h => by
    simp only [List.map_cons, List.cons.injEq] at h
    unfold Instr.findNow
    rw [h.1, hs]
    have ih := findNow_at hs k es ks (i + 1) h.2
    by_cases hx : k = x
    · subst hx
      simp [List.findIdx?_cons]
    · have hx' : ¬ x = k := fun e => hx e.symm
      simp only [hx, decide_false, ih, List.findIdx?_cons, hx', Bool.false_eq_true, if_false, Option.map_map, Option.some.injEq]
      congr 1
      funext j
      simp only [Function.comp_apply, List.getElem?_cons_succ]
      congr 1
      omega
theorem findAsking_at (he : ∀ (w : World) (a b : κ), (Op.equal kt (kv a) (kv b)).run P w = .ok (decide (a = b)) w) (w : World) (k : κ) : ∀ (es : List MapEntry) (ks : List κ) (i : Nat), es.map (·.key) = ks.map kv →
    (Instr.findAsking kt (kv k) es i).run P w = .ok ((ks.findIdx? (fun x => decide (x = k))).map fun j => (i + j, ((es[j]?).map (·.val)).getD undef)) w
  | [], [], i, _ => by simp [Instr.findAsking]
  | [], _ :: _, i, h => by simp at h
  | _ :: _, [], i, h => by simp at h
  | e :: es, x :: ks, i, h => by
    simp only [List.map_cons, List.cons.injEq] at h
    unfold Instr.findAsking
    have ih := findAsking_at he w k es ks (i + 1) h.2
    simp only [Sem.run_bind, h.1, he, Result.andThen_ok]
    by_cases hx : k = x
    · subst hx
      simp [List.findIdx?_cons]
    · have hx' : ¬ x = k := fun e => hx e.symm
      simp only [hx, decide_false, Bool.false_eq_true, if_false, ih, List.findIdx?_cons, hx', Option.map_map]
      congr 1
      congr 1
      funext j
      simp only [Function.comp_apply, List.getElem?_cons_succ]
      congr 1
      omega
theorem KeyOk.int {k : IntKind} (hd : P.underlying kt = some (.int k)) : KeyOk P kt (fun n : Int => .int k n) where
  chk w e n := by unfold Instr.checkKey; simp [run_underlying hd]
  find w n ks es h := by
    have := findNow_at (d := .int k) (kv := fun n : Int => .int k n) (fun a b => by
      simp only [Instr.sameNow, if_true]
      congr 1) n es ks 0 h
    simp only [Nat.zero_add] at this
    unfold Instr.findKey
    simp [run_underlying hd, this]
  stay w n := by simp [Instr.keyThatStays, Instr.sameBits]
theorem KeyOk.struct {fs : Array Field} (hd : P.underlying kt = some (.struct fs)) (hk : ∀ k, ∃ cs, kv k = .agg cs) (hc : ∀ (w : World) (e : Bool) (k : κ), (Instr.checkKey e 10000 kt (kv k)).run P w = .ok () w)
    (he : ∀ (w : World) (a b : κ), (Op.equal kt (kv a) (kv b)).run P w = .ok (decide (a = b)) w) (hs : ∀ k, Instr.sameBits 10000 (kv k) (kv k) = true) : KeyOk P kt kv where
  chk := hc
  find w k ks es h := by
    unfold Instr.findKey
    have ha := findAsking_at he w k es ks 0 h
    simp only [Nat.zero_add] at ha
    cases es with
    | nil =>
      cases ks with
      | nil => simp [run_underlying hd, Instr.findNow]
      | cons x ks => simp at h
    | cons e es =>
      cases ks with
      | nil => simp at h
      | cons x ks =>
        have h1 := h
        simp only [List.map_cons, List.cons.injEq] at h1
        obtain ⟨c1, h2⟩ := hk k
        obtain ⟨c2, h3⟩ := hk x
        have hn : Instr.findNow (.struct fs) (kv k) (e :: es) 0 = none := by
          unfold Instr.findNow
          rw [h1.1, h2, h3]
          rfl
        simp only [Sem.run_bind, run_underlying hd, Result.andThen_ok, hn]
        exact ha
  stay w k := by simp [Instr.keyThatStays, hs]
/-- A map's block that reads so. -/
def MapR (kv : κ → Value) (vv : ν → Value) (w : World) (b : Nat) (m : List (κ × ν)) : Prop :=
  (m.map (·.1)).Nodup ∧ ∃ es clock, w.heap[b]? = some (.map es clock) ∧ es.toList.map (·.key) = m.map (fun x => kv x.1) ∧ es.toList.map (·.val) = m.map (fun x => vv x.2)
/-- A map that is owned. -/
def MapO (kv : κ → Value) (vv : ν → Value) (b : Nat) (m : List (κ × ν)) (G : Grp) : Prop :=
  (m.map (·.1)).Nodup ∧ ∃ es clock, G = [(b, .map es clock)] ∧ es.toList.map (·.key) = m.map (fun x => kv x.1) ∧ es.toList.map (·.val) = m.map (fun x => vv x.2) ∧ (es.toList.map (·.born)).Nodup ∧ ∀ e ∈ es.toList, e.born < clock
theorem MapO.rd {b : Nat} {m : List (κ × ν)} {G : Grp} {w : World} (h : MapO kv vv b m G) (hG : ∀ b o, (b, o) ∈ G → w.heap[b]? = some o) : MapR kv vv w b m := by
  obtain ⟨hn, es, clock, rfl, h1, h2, _, _⟩ := h
  exact ⟨hn, es, clock, hG _ _ (List.mem_singleton_self _), h1, h2⟩
theorem MapR.ext {b : Nat} {m : List (κ × ν)} {w w' : World} (h : MapR kv vv w b m) (hE : Ext w w') : MapR kv vv w' b m := by
  obtain ⟨hn, es, clock, h0, h1, h2⟩ := h
  exact ⟨hn, es, clock, (hE.2 b (lt_of_blk h0)).trans h0, h1, h2⟩
theorem MapR.move {b : Nat} {m : List (κ × ν)} {w w' : World} (h : MapR kv vv w b m) (hE : w'.heap[b]? = w.heap[b]?) : MapR kv vv w' b m := by
  obtain ⟨hn, es, clock, h0, h1, h2⟩ := h
  exact ⟨hn, es, clock, hE.trans h0, h1, h2⟩
variable {N : FN} {l : Fr} {w w0 w1 : World} {dst : Option Tmp} {ty : TypeId} {pos : String} {aft : Array Edge} {g : Option (Nat × Bool)} {t e : TypeId} {x y z : Operand} {b : Nat} {m : List (κ × ν)} {k : κ} {v : ν} {K : Nat → Prop} {Gs : List Grp} {G : Grp}
theorem idx_map {α : Type} [DecidableEq κ] (m : List (κ × ν)) (k : κ) : (m.map (·.1)).findIdx? (fun x => decide (x = k)) = mfind m k := by
  unfold mfind
  induction m with
  | nil => rfl
  | cons x m ih => simp [List.findIdx?_cons, ih]
theorem run_find (hK : KeyOk P kt kv) (w : World) (k : κ) {es : Array MapEntry} (h1 : es.toList.map (·.key) = m.map (fun x => kv x.1)) (h2 : es.toList.map (·.val) = m.map (fun x => vv x.2)) :
    (Instr.findKey kt (kv k) es.toList).run P w = .ok ((mfind m k).map fun i => (i, ((mget m k).map vv).getD undef)) w := by
  have := hK.find w k (m.map (·.1)) es.toList (by rw [h1, List.map_map]; rfl)
  rw [this, idx_map (α := κ)]
  congr 1
  cases hf : mfind m k with
  | none => rfl
  | some i =>
    obtain ⟨q, g1, g2, g3⟩ := mfind_some hf
    simp only [Option.map_some, g3, Option.getD_some, Option.some.injEq, Prod.mk.injEq, true_and]
    have : (es.toList.map (·.val))[i]? = (m.map (fun x => vv x.2))[i]? := by rw [h2]
    rw [List.getElem?_map, List.getElem?_map, g1] at this
    rw [this]
    rfl
theorem G.mapget1 (hK : KeyOk P kt kv) (ht : P.underlying t = some (.map kt e)) (h : MapR kv vv w b m) (hx : ev l x = some (.map (some b))) (hy : ev l y = some (kv k)) (hv : mget m k = some v) :
    GR P N l w ⟨dst, .lookup t x y true, ty, pos, aft, g⟩ (.tuple #[vv v, .bool true]) := fun w' hE a ha => by
  obtain ⟨hn, es, clock, h0, h1, h2⟩ := h.ext hE
  have hf := run_find (P := P) hK w' k h1 h2
  cases hi : mfind m k with
  | none => rw [(mfind_none hi).1] at hv; cases hv
  | some i =>
    rw [hi, hv] at hf
    simp only [Option.map_some, Option.getD_some] at hf
    unfold execOp
    simp [ha.ev hx, ha.ev hy, Instr.lookup, run_underlying ht, MapKept.run_getObj_map h0, hK.chk, hf]
theorem G.mapget0 {zv : Value} (hK : KeyOk P kt kv) (ht : P.underlying t = some (.map kt e)) (hz : zeroOf P e = some zv) (h : MapR kv vv w b m) (hx : ev l x = some (.map (some b))) (hy : ev l y = some (kv k)) (hv : mget m k = none) :
    GR P N l w ⟨dst, .lookup t x y true, ty, pos, aft, g⟩ (.tuple #[zv, .bool false]) := fun w' hE a ha => by
  obtain ⟨hn, es, clock, h0, h1, h2⟩ := h.ext hE
  have hf := run_find (P := P) hK w' k h1 h2
  have hi : mfind m k = none := by
    cases hi : mfind m k with
    | none => rfl
    | some i => obtain ⟨q, _, _, g3⟩ := mfind_some hi; rw [g3] at hv; cases hv
  rw [hi] at hf
  simp only [Option.map_none] at hf
  unfold execOp
  simp [ha.ev hx, ha.ev hy, Instr.lookup, run_underlying ht, MapKept.run_getObj_map h0, hK.chk, hf, run_zero hz]
theorem G.mapgot1 (hK : KeyOk P kt kv) (ht : P.underlying t = some (.map kt e)) (h : MapR kv vv w b m) (hx : ev l x = some (.map (some b))) (hy : ev l y = some (kv k)) (hv : mget m k = some v) :
    GR P N l w ⟨dst, .lookup t x y false, ty, pos, aft, g⟩ (vv v) := fun w' hE a ha => by
  obtain ⟨hn, es, clock, h0, h1, h2⟩ := h.ext hE
  have hf := run_find (P := P) hK w' k h1 h2
  cases hi : mfind m k with
  | none => rw [(mfind_none hi).1] at hv; cases hv
  | some i =>
    rw [hi, hv] at hf
    simp only [Option.map_some, Option.getD_some] at hf
    unfold execOp
    simp [ha.ev hx, ha.ev hy, Instr.lookup, run_underlying ht, MapKept.run_getObj_map h0, hK.chk, hf]
theorem G.mapgot0 {zv : Value} (hK : KeyOk P kt kv) (ht : P.underlying t = some (.map kt e)) (hz : zeroOf P e = some zv) (h : MapR kv vv w b m) (hx : ev l x = some (.map (some b))) (hy : ev l y = some (kv k)) (hv : mget m k = none) :
    GR P N l w ⟨dst, .lookup t x y false, ty, pos, aft, g⟩ zv := fun w' hE a ha => by
  obtain ⟨hn, es, clock, h0, h1, h2⟩ := h.ext hE
  have hf := run_find (P := P) hK w' k h1 h2
  have hi : mfind m k = none := by
    cases hi : mfind m k with
    | none => rfl
    | some i => obtain ⟨q, _, _, g3⟩ := mfind_some hi; rw [g3] at hv; cases hv
  rw [hi] at hf
  simp only [Option.map_none] at hf
  unfold execOp
  simp [ha.ev hx, ha.ev hy, Instr.lookup, run_underlying ht, MapKept.run_getObj_map h0, hK.chk, hf, run_zero hz]
theorem G.maplen (ht : P.underlying t = some (.map kt e)) (h : MapR kv vv w b m) (hx : ev l x = some (.map (some b))) :
    GR P N l w ⟨dst, .call { callee := .builtin .len, args := #[x], argTypes := #[t] }, ty, pos, aft, g⟩ (.int .i64 (m.length : Int)) := fun w' hE a ha => by
  obtain ⟨hn, es, clock, h0, h1, h2⟩ := h.ext hE
  have hl : es.size = m.length := by
    have := congrArg List.length h1
    simpa using this
  unfold execOp
  simp [resolve, invoke, builtin, ha.ev hx, Builtin.len_, run_underlying ht, MapKept.run_getObj_map h0, goInt, hl]
/-- A new map. -/
theorem St.mapNew (S : St w0 K w Gs) (kv : κ → Value) (vv : ν → Value) (ht : P.underlying t = some (.map kt e)) : ∃ b G w1, (∀ {N : FN} {l : Fr} {dst : Option Tmp} {ty : TypeId} {pos : String} {aft : Array Edge} {g : Option (Nat × Bool)}, GE P N l w ⟨dst, .makeMap t none, ty, pos, aft, g⟩ (.map (some b)) w1) ∧
    MapO kv vv b ([] : List (κ × ν)) G ∧ St w0 K w1 (G :: Gs) ∧ Ext w w1 := by
  refine ⟨w.heap.size, _, w.alloc (.map #[] 0), fun a ha => ?_, ⟨by simp, #[], 0, rfl, rfl, rfl, by simp, by simp⟩, S.alloc _, Ext.alloc w _⟩
  unfold execOp
  simp [Instr.makeMap]
theorem setObj_map {es es' : Array MapEntry} {clock clock' : Nat} (S : St w0 K w ([(b, .map es clock)] :: Gs)) : St w0 K { w with heap := w.heap.setIfInBounds b (.map es' clock') } ([(b, .map es' clock')] :: Gs) ∧ (setObj b (.map es' clock')).run P w = .ok () { w with heap := w.heap.setIfInBounds b (.map es' clock') } := by
  have hb := S.blk 0 rfl
  obtain ⟨h1, h2⟩ := MapKept.heap_set (o' := .map es' clock') hb
  refine ⟨S.upd ?_ (by simp [keys]) (fun b' hb' => .inl (by simpa [keys] using hb')) ?_ (by simp) ⟨rfl, rfl, rfl⟩, MapKept.run_setObj_map _ hb⟩
  · intro b' o hb'
    simp only [List.mem_singleton, Prod.mk.injEq] at hb'
    obtain ⟨rfl, rfl⟩ := hb'
    exact h1
  · intro b' _ hn
    exact h2 b' (fun e => hn (by simp [keys, e]))
/-- A pair is laid into a map. -/
theorem St.mapPut (S : St w0 K w (G :: Gs)) (hK : KeyOk P kt kv) (ht : P.underlying t = some (.map kt e)) (h : MapO kv vv b m G) (k : κ) (v : ν) : ∃ G' w1,
    (∀ {N : FN} {l : Fr} {x y z : Operand} {dst : Option Tmp} {ty : TypeId} {pos : String} {aft : Array Edge} {g : Option (Nat × Bool)}, ev l x = some (.map (some b)) → ev l y = some (kv k) → ev l z = some (vv v) → GU P N l w ⟨dst, .mapUpdate t x y z, ty, pos, aft, g⟩ w1) ∧
    MapO kv vv b (mput m k v) G' ∧ St w0 K w1 (G' :: Gs) := by
  obtain ⟨hn, es, clock, rfl, h1, h2, h3, h4⟩ := h
  have hb := S.blk 0 rfl
  have hf := run_find (P := P) hK w k h1 h2
  cases hi : mfind m k with
  | none =>
    rw [hi] at hf
    obtain ⟨S1, hr⟩ := setObj_map (P := P) (es' := es.push { key := kv k, val := vv v, born := clock }) (clock' := clock + 1) S
    refine ⟨_, _, fun hx hy hz a ha => ?_, ⟨?_, es.push { key := kv k, val := vv v, born := clock }, clock + 1, rfl, ?_, ?_, ?_, ?_⟩, S1⟩
    · unfold execOp
      simp [ha.ev hx, ha.ev hy, ha.ev hz, Instr.mapUpdate, run_underlying ht, MapKept.run_getObj_map hb, hK.chk, hf, hr]
    · unfold mput
      rw [hi]
      simp only [List.map_append, List.map_cons, List.map_nil]
      rw [List.nodup_append]
      refine ⟨hn, by simp, fun a ha c hc e => ?_⟩
      obtain ⟨q, hq, rfl⟩ := List.mem_map.1 ha
      simp only [List.mem_singleton] at hc
      subst hc
      exact (mfind_none hi).2 q hq e
    · unfold mput; rw [hi]; simp [h1]
    · unfold mput; rw [hi]; simp [h2]
    · simp only [Array.toList_push, List.map_append, List.map_cons, List.map_nil]
      rw [List.nodup_append]
      refine ⟨h3, by simp, fun a ha c hc e => ?_⟩
      obtain ⟨q, hq, rfl⟩ := List.mem_map.1 ha
      simp only [List.mem_singleton] at hc
      have := h4 q hq
      omega
    · intro q hq
      simp only [Array.toList_push, List.mem_append, List.mem_singleton] at hq
      rcases hq with hq | rfl
      · have := h4 q hq; omega
      · simp
  | some i =>
    rw [hi] at hf
    obtain ⟨q, g1, g2, g3⟩ := mfind_some hi
    have hlen : es.toList.length = m.length := by have := congrArg List.length h1; simpa using this
    have hil : i < es.size := by have := (List.getElem?_eq_some_iff.1 g1).1; rw [← Array.length_toList]; omega
    have hkey : (es[i]?).map (·.key) = some (kv k) := by
      have : (es.toList.map (·.key))[i]? = (m.map (fun x => kv x.1))[i]? := by rw [h1]
      rw [List.getElem?_map, List.getElem?_map, g1] at this
      rw [← Array.getElem?_toList, this, ← g2]
      rfl
    obtain ⟨S1, hr⟩ := setObj_map (P := P) (es' := es.modify i fun e => { e with key := kv k, val := vv v }) (clock' := clock) S
    have hset : (es.modify i fun e => { e with key := kv k, val := vv v }).toList = es.toList.set i { (es[i]'hil) with key := kv k, val := vv v } := by
      apply List.ext_getElem?
      intro j
      rw [Array.toList_modify, List.getElem?_modify, List.getElem?_set]
      by_cases hj : i = j
      · subst hj
        simp [hil]
      · simp [hj]
    refine ⟨_, _, fun hx hy hz a ha => ?_, ⟨?_, es.modify i fun e => { e with key := kv k, val := vv v }, clock, rfl, ?_, ?_, ?_, ?_⟩, S1⟩
    · unfold execOp
      simp [ha.ev hx, ha.ev hy, ha.ev hz, Instr.mapUpdate, run_underlying ht, MapKept.run_getObj_map hb, hK.chk, hf, hkey, hK.stay, hr]
    · unfold mput
      rw [hi]
      have : (m.set i (k, v)).map (·.1) = m.map (·.1) := by
        rw [List.map_set]
        apply List.ext_getElem (by simp)
        intro j e1 e2
        rw [List.getElem_set]
        split
        · subst_vars
          have := (List.getElem?_eq_some_iff.1 g1).2
          simp [this]
        · rfl
      rw [show (match some i with | some i => m.set i (k, v) | none => m ++ [(k, v)]) = m.set i (k, v) from rfl, this]
      exact hn
    · unfold mput; rw [hi, hset]
      simp only [List.map_set, h1]
    · unfold mput; rw [hi, hset]
      simp only [List.map_set, h2]
    · rw [hset, List.map_set]
      have : (es.toList.map (·.born)).set i (es[i]'hil).born = es.toList.map (·.born) := by
        apply List.ext_getElem (by simp)
        intro j e1 e2
        rw [List.getElem_set]
        split
        · subst_vars; simp
        · rfl
      rw [show ({ (es[i]'hil) with key := kv k, val := vv v } : MapEntry).born = (es[i]'hil).born from rfl, this]
      exact h3
    · intro q hq
      rw [hset] at hq
      rcases List.mem_or_eq_of_mem_set hq with hq | rfl
      · exact h4 q hq
      · exact h4 (es[i]'hil) (by simp)
theorem map_erase {α β : Type} (f : α → β) (L : List α) (i : Nat) : (L.eraseIdx i).map f = (L.map f).eraseIdx i := by rw [List.eraseIdx_eq_take_drop_succ, List.eraseIdx_eq_take_drop_succ]; simp
/-- A key is taken out of a map. -/
theorem St.mapDel (S : St w0 K w (G :: Gs)) (hK : KeyOk P kt kv) (ht : P.underlying t = some (.map kt e)) (h : MapO kv vv b m G) (k : κ) : ∃ G' w1,
    (∀ {N : FN} {l : Fr} {x y : Operand} {dst : Option Tmp} {ty : TypeId} {pos : String} {aft : Array Edge} {g : Option (Nat × Bool)}, ev l x = some (.map (some b)) → ev l y = some (kv k) → GE P N l w ⟨dst, .call { callee := .builtin .delete, args := #[x, y], argTypes := #[t, kt] }, ty, pos, aft, g⟩ (.tuple #[]) w1) ∧
    MapO kv vv b (mdel m k) G' ∧ St w0 K w1 (G' :: Gs) := by
  obtain ⟨hn, es, clock, rfl, h1, h2, h3, h4⟩ := h
  have hb := S.blk 0 rfl
  have hf := run_find (P := P) hK w k h1 h2
  cases hi : mfind m k with
  | none =>
    rw [hi] at hf
    obtain ⟨S1, hr⟩ := setObj_map (P := P) (es' := es) (clock' := clock) S
    refine ⟨_, _, fun hx hy a ha => ?_, ⟨by unfold mdel; rw [hi]; exact hn, es, clock, rfl, by unfold mdel; rw [hi]; exact h1, by unfold mdel; rw [hi]; exact h2, h3, h4⟩, S1⟩
    unfold execOp
    simp [resolve, invoke, builtin, ha.ev hx, ha.ev hy, Builtin.delete_, run_underlying ht, MapKept.run_getObj_map hb, hK.chk, hf, hr]
  | some i =>
    rw [hi] at hf
    obtain ⟨q, g1, g2, g3⟩ := mfind_some hi
    have hlen : es.toList.length = m.length := by have := congrArg List.length h1; simpa using this
    have hil : i < es.size := by have := (List.getElem?_eq_some_iff.1 g1).1; rw [← Array.length_toList]; omega
    obtain ⟨S1, hr⟩ := setObj_map (P := P) (es' := es.eraseIdxIfInBounds i) (clock' := clock) S
    have hset : (es.eraseIdxIfInBounds i).toList = es.toList.eraseIdx i := by simp [Array.eraseIdxIfInBounds, hil]
    refine ⟨_, _, fun hx hy a ha => ?_, ⟨?_, es.eraseIdxIfInBounds i, clock, rfl, ?_, ?_, ?_, ?_⟩, S1⟩
    · unfold execOp
      simp [resolve, invoke, builtin, ha.ev hx, ha.ev hy, Builtin.delete_, run_underlying ht, MapKept.run_getObj_map hb, hK.chk, hf, hr]
    · unfold mdel; rw [hi]
      exact List.Nodup.sublist ((List.eraseIdx_sublist _ _).map _) hn
    · unfold mdel; rw [hi, hset]
      rw [map_erase, map_erase, h1]
    · unfold mdel; rw [hi, hset]
      rw [map_erase, map_erase, h2]
    · rw [hset]
      exact List.Nodup.sublist ((List.eraseIdx_sublist _ _).map _) h3
    · intro q hq
      rw [hset] at hq
      exact h4 q (List.mem_of_mem_eraseIdx hq)
end
end Go.Eng
