/- AN ENGINE FOR WALKS: laws over any program: frames told by known slots, regions in one order, memory by groups of blocks. -/
import Derived.WalkKit
import Derived.OrdersHeld
import Derived.Deep.LoopGhost
import Derived.Deep.Draws
import Derived.Deep.RegionHeld3
import Derived.KernelRfl
import Derived.Laws.AppendOwn
import Derived.Below
import Derived.IntWalk
import Derived.WalkSpells
import Derived.Laws.Pointers
import Derived.Laws.StructEq
import Derived.Laws.FloatArith
import Ieee.Arith
import Derived.Laws.FloatBits
set_option linter.unusedVariables false
/- An engine for walks: a frame is told by the slots that are known; regions, also those that draw, go in one order. -/
namespace Go.Eng
open Go

theorem beq_no {a b : Nat} (h : ¬ a = b) : Nat.beq a b = false := by
  cases hb : Nat.beq a b
  · rfl
  · exact absurd (Nat.eq_of_beq_eq_true hb) h
theorem ne_of_beq_no {a b : Nat} (h : Nat.beq a b = false) : ¬ a = b := fun e => by subst e; simp at h

/-! ### 1. Frames -/
abbrev Fr := List (Nat × Value)
def look : Fr → Nat → Option Value
  | [], _ => none
  | p :: l, t => bif Nat.beq p.1 t then some p.2 else look l t

structure Has (N : Nat) (l : Fr) (a : Act) : Prop where
  size : a.tmps.size = N
  defers : a.defers = []
  at_ : ∀ t v, look l t = some v → t < N ∧ a.tmps[t]? = some v

theorem Has.get {N : Nat} {l : Fr} {a : Act} (h : Has N l a) {t : Nat} {v : Value} (hl : look l t = some v) : a.tmps.getD t undef = v := by
  have := (h.at_ t v hl).2
  simp [this]

theorem Has.put {N : Nat} {l : Fr} {a : Act} (h : Has N l a) {d : Nat} (hd : Nat.blt d N = true) (v : Value) : Has N ((d, v) :: l) (a.put (some d) v) := by
  have hd' : d < N := by simpa [Nat.blt_eq] using hd
  refine ⟨by simpa [Act.put] using h.size, h.defers, fun t u hu => ?_⟩
  unfold look at hu
  by_cases e : d = t
  · subst e
    have : Nat.beq d d = true := by simp
    simp only [this, cond_true, Option.some.injEq] at hu
    subst hu
    refine ⟨hd', ?_⟩
    show (a.tmps.setIfInBounds d v)[d]? = some v
    simp [h.size, hd']
  · have : Nat.beq d t = false := beq_no e
    simp only [this, cond_false] at hu
    obtain ⟨h1, h2⟩ := h.at_ t u hu
    refine ⟨h1, ?_⟩
    show (a.tmps.setIfInBounds d v)[t]? = some u
    rw [Array.getElem?_setIfInBounds_ne e]
    exact h2

/-- l' tells nothing that l does not tell. -/
def Sub : Fr → Fr → Prop
  | [], _ => True
  | p :: l', l => look l p.1 = some p.2 ∧ Sub l' l
theorem Sub.look {l' l : Fr} (h : Sub l' l) : ∀ t v, look l' t = some v → look l t = some v := by
  induction l' with
  | nil => intro t v hv; simp [Eng.look] at hv
  | cons p l' ih =>
    intro t v hv
    unfold Eng.look at hv
    by_cases e : p.1 = t
    · have : Nat.beq p.1 t = true := by simp [e]
      simp only [this, cond_true, Option.some.injEq] at hv
      rw [← e, ← hv]
      exact h.1
    · have : Nat.beq p.1 t = false := beq_no e
      simp only [this, cond_false] at hv
      exact ih h.2 t v hv
theorem Has.sub {N : Nat} {l l' : Fr} {a : Act} (h : Has N l a) (hs : Sub l' l) : Has N l' a := ⟨h.size, h.defers, fun t v hv => h.at_ t v (hs.look t v hv)⟩

def ev (l : Fr) : Operand → Option Value
  | .tmp t => look l t
  | .const v => some v
  | .global g => some (.pointer (some ⟨g, 0, none⟩))
  | .func f => some (.func (.func f) #[] #[])
theorem Has.ev {N : Nat} {l : Fr} {a : Act} (h : Has N l a) {x : Operand} {v : Value} (hx : ev l x = some v) : a.eval x = v := by
  cases x with
  | tmp t => exact h.get hx
  | const u => exact Option.some.inj hx
  | global g => exact Option.some.inj hx
  | func f => exact Option.some.inj hx

def evs (l : Fr) : List Operand → List Value → Prop
  | [], vs => vs = []
  | x :: xs, vs => ∃ v r, vs = v :: r ∧ ev l x = some v ∧ evs l xs r
theorem Has.evs {N : Nat} {l : Fr} {a : Act} (h : Has N l a) : ∀ {xs : List Operand} {vs : List Value}, evs l xs vs → xs.map a.eval = vs
  | [], _, hv => by cases hv; rfl
  | x :: xs, _, hv => by
    obtain ⟨v, r, rfl, h1, h2⟩ := hv
    simp [h.ev h1, h.evs h2]
theorem evs_nil {l : Fr} : evs l [] [] := rfl
theorem evs_cons {l : Fr} {x : Operand} {xs : List Operand} {v : Value} {vs : List Value} (h : ev l x = some v) (hs : evs l xs vs) : evs l (x :: xs) (v :: vs) := ⟨v, vs, rfl, h, hs⟩

/-! ### 2. Operations in a row -/
/-- As 'wpList', but none may ask for room. -/
def wpS (P : Program) (ops : Array Oper) (Q : Exit → Act → World → Prop) : List Oper → Act → World → Prop
  | [], a, w => Q .normal a w
  | o :: rest, a, w => if Region.wanted o (yielded ops a.tmps) then o.wp P a w (wpS P ops Q rest) Q else wpS P ops Q rest (a.put o.dst undef) w

theorem wpS_list {P : Program} {ops : Array Oper} {Q : Exit → Act → World → Prop} : ∀ (l : List Oper) (a : Act) (w : World), wpS P ops Q l a w → wpList P ops Q l a w
  | [], _, _, h => h
  | o :: rest, a, w, h => by
    unfold wpS at h
    unfold wpList
    split
    · rename_i hw
      rw [if_pos hw] at h
      exact .inl (Oper.wp_mono (fun a w => wpS_list rest a w) h)
    · rename_i hw
      rw [if_neg hw] at h
      exact wpS_list rest _ _ h

def WOps (P : Program) (N : Nat) (ops : Array Oper) (Q : Exit → Act → World → Prop) (rest : List Oper) (l : Fr) (w : World) : Prop :=
  ∀ a, Has N l a → wpS P ops Q rest a w
def WCode (P : Program) (N : Nat) (c : Code) (Q : Exit → Act → World → Prop) (l : Fr) (w : World) : Prop := ∀ a, Has N l a → c.wp P Q a w
def WEx (N : Nat) (Q : Exit → Act → World → Prop) (e : Exit) (l : Fr) (w : World) : Prop := ∀ a, Has N l a → Q e a w

section
variable {P : Program} {N : Nat} {ops : Array Oper} {Q : Exit → Act → World → Prop} {rest : List Oper} {l l' : Fr} {w w' : World} {d : Nat} {op : Op} {ty : TypeId} {pos : String} {aft : Array Edge}

theorem WOps.forget (hs : Sub l' l) (h : WOps P N ops Q rest l' w) : WOps P N ops Q rest l w := fun a ha => h a (ha.sub hs)
theorem WCode.forget {c : Code} (hs : Sub l' l) (h : WCode P N c Q l' w) : WCode P N c Q l w := fun a ha => h a (ha.sub hs)
theorem WEx.forget {e : Exit} (hs : Sub l' l) (h : WEx N Q e l' w) : WEx N Q e l w := fun a ha => h a (ha.sub hs)

theorem WOps.nil (h : WEx N Q .normal l w) : WOps P N ops Q [] l w := h

/-- An operation that gives a value. -/
theorem WOps.val {v : Value} (hr : ∀ a, Has N l a → (execOp a.eval ⟨some d, op, ty, pos, aft, none⟩).run P w = .ok (.value v) w') (hd : Nat.blt d N = true)
    (h : WOps P N ops Q rest ((d, v) :: l) w') : WOps P N ops Q (⟨some d, op, ty, pos, aft, none⟩ :: rest) l w := by
  intro a ha
  unfold wpS
  rw [if_pos (by rfl)]
  unfold Oper.wp
  rw [hr a ha]
  exact h _ (ha.put hd v)
/-- One that gives none. -/
theorem WOps.skip (hr : ∀ a, Has N l a → (execOp a.eval ⟨none, op, ty, pos, aft, none⟩).run P w = .ok .skip w') 
    (h : WOps P N ops Q rest l w') : WOps P N ops Q (⟨none, op, ty, pos, aft, none⟩ :: rest) l w := by
  intro a ha
  unfold wpS
  rw [if_pos (by rfl)]
  unfold Oper.wp
  rw [hr a ha]
  exact h _ ha
/-- One whose value nobody reads. -/
theorem WOps.val0 {v : Value} (hr : ∀ a, Has N l a → (execOp a.eval ⟨none, op, ty, pos, aft, none⟩).run P w = .ok (.value v) w')
    (h : WOps P N ops Q rest l w') : WOps P N ops Q (⟨none, op, ty, pos, aft, none⟩ :: rest) l w := by
  intro a ha
  unfold wpS
  rw [if_pos (by rfl)]
  unfold Oper.wp
  rw [hr a ha]
  exact h _ ha

/-! guards: what the guard's slot holds -/
theorem guard_at {a : Act} (ha : Has N l a) {j dj : Nat} {v : Value} (hj : (ops[j]?).bind (·.dst) = some dj) (hv : look l dj = some v) (o : Oper) (b : Bool) (hg : o.guard = some (j, b)) :
    Region.wanted o (yielded ops a.tmps) = (match v with | .bool c => c == b | _ => false) := by
  have h1 := (ha.at_ dj v hv).2
  unfold Region.wanted
  rw [hg]
  simp only [yielded, hj, Option.bind_some, h1]
  cases v <;> simp
theorem WOps.off {j dj : Nat} {b : Bool} {v : Value} (hj : (ops[j]?).bind (·.dst) = some dj) (hv : look l dj = some v) (hb : (match v with | .bool c => c == b | _ => false) = false) (hd : Nat.blt d N = true)
    (h : WOps P N ops Q rest ((d, undef) :: l) w) : WOps P N ops Q (⟨some d, op, ty, pos, aft, some (j, b)⟩ :: rest) l w := by
  intro a ha
  unfold wpS
  rw [if_neg (by rw [guard_at ha hj hv _ b rfl, hb]; simp)]
  exact h _ (ha.put hd undef)
theorem WOps.on {j dj : Nat} {b : Bool} (hj : (ops[j]?).bind (·.dst) = some dj) (hv : look l dj = some (.bool b))
    (h : WOps P N ops Q (⟨some d, op, ty, pos, aft, none⟩ :: rest) l w) : WOps P N ops Q (⟨some d, op, ty, pos, aft, some (j, b)⟩ :: rest) l w := by
  intro a ha
  have h1 := h a ha
  unfold wpS at h1 ⊢
  rw [if_pos (by rfl)] at h1
  rw [if_pos (by rw [guard_at ha hj hv _ b rfl]; simp)]
  exact h1
end

/-! ### 3. Code -/
section
variable {P : Program} {N : Nat} {Q : Exit → Act → World → Prop} {l : Fr} {w : World}
theorem WCode.seq {x y : Code} (h : WCode P N x (Exit.then (y.wp P Q) Q) l w) : WCode P N (.seq x y) Q l w := fun a ha => wp_seq (h a ha)
theorem WCode.skip (h : WEx N Q .normal l w) : WCode P N .skip Q l w := fun a ha => wp_skip (h a ha)
theorem WCode.ret (h : WEx N Q .ret l w) : WCode P N .ret Q l w := fun a ha => wp_ret (h a ha)
theorem WCode.exit {id : Nat} (h : WEx N Q (.exit id) l w) : WCode P N (.exit id) Q l w := fun a ha => wp_exit (h a ha)
theorem WCode.block {id : Nat} {c : Code} (h : WCode P N c (Exit.inBlock id Q) l w) : WCode P N (.block id c) Q l w := fun a ha => wp_block (h a ha)
theorem WCode.region {id : Nat} {os : List Oper} (h : WOps P N os.toArray Q os l w) : WCode P N (.region id os.toArray false) Q l w := fun a ha => wp_region_lit (wpS_list _ _ _ (h a ha))
theorem WCode.cond {c : Operand} {x y : Code} {t : Bool} (hc : ev l c = some (.bool t)) (ht : t = true → WCode P N x Q l w) (hf : t = false → WCode P N y Q l w) : WCode P N (.cond c x y) Q l w :=
  fun a ha => wp_cond_split (ha.ev hc) (fun e => ht e a ha) (fun e => hf e a ha)
theorem WCode.cond_t {c : Operand} {x y : Code} (hc : ev l c = some (.bool true)) (h : WCode P N x Q l w) : WCode P N (.cond c x y) Q l w := fun a ha => wp_cond_true (ha.ev hc) (h a ha)
theorem WCode.cond_f {c : Operand} {x y : Code} (hc : ev l c = some (.bool false)) (h : WCode P N y Q l w) : WCode P N (.cond c x y) Q l w := fun a ha => wp_cond_false (ha.ev hc) (h a ha)
theorem WEx.then_ {y : Code} (h : WCode P N y Q l w) : WEx N (Exit.then (y.wp P Q) Q) .normal l w := h
theorem WEx.then_ret {K : Act → World → Prop} (h : WEx N Q .ret l w) : WEx N (Exit.then K Q) .ret l w := h
theorem WEx.then_exit {K : Act → World → Prop} {id : Nat} (h : WEx N Q (.exit id) l w) : WEx N (Exit.then K Q) (.exit id) l w := h
theorem WEx.in_normal {id : Nat} (h : WEx N Q .normal l w) : WEx N (Exit.inBlock id Q) .normal l w := h
theorem WEx.in_ret {id : Nat} (h : WEx N Q .ret l w) : WEx N (Exit.inBlock id Q) .ret l w := h
theorem WEx.in_exit {id : Nat} (h : WEx N Q .normal l w) : WEx N (Exit.inBlock id Q) (.exit id) l w := fun a ha => by
  show (if id = id then _ else _)
  rw [if_pos rfl]
  exact h a ha
theorem WEx.in_other {id id' : Nat} (hne : Nat.beq id' id = false) (h : WEx N Q (.exit id') l w) : WEx N (Exit.inBlock id Q) (.exit id') l w := fun a ha => by
  show (if id' = id then _ else _)
  rw [if_neg (ne_of_beq_no hne)]
  exact h a ha
theorem WEx.no_normal {l : Fr} {w : World} (h : WEx N Q .normal l w) : WEx N (NoPanic Q) .normal l w := h

/-- A loop: what holds at a round's head, with a number that goes down. -/
theorem WCode.loop {c : Code} (J : Nat → Fr → World → Prop) (n0 : Nat) (h0 : J n0 l w)
    (round : ∀ n l w, J n l w → WCode P N c (Exit.then (fun a' w' => ∃ n' l', n' < n ∧ Has N l' a' ∧ J n' l' w') Q) l w) : WCode P N (.loop c) Q l w := by
  intro a ha
  refine wp_loop_ghost (fun n a w => ∃ l, Has N l a ∧ J n l w) n0 ⟨l, ha, h0⟩ ?_
  rintro n a w ⟨l, ha, hJ⟩
  refine wp_mono (round n l w hJ a ha) ?_
  intro e a' w' hq
  cases e with
  | normal =>
    obtain ⟨n', l', h1, h2, h3⟩ := hq
    exact ⟨n', h1, l', h2, h3⟩
  | exit id => exact hq
  | goto l => exact hq
  | ret => exact hq
  | panic ch => exact hq
  | outgrown => exact hq
theorem WEx.again {J : Nat → Fr → World → Prop} {n : Nat} {l : Fr} {w : World} (n' : Nat) (l' : Fr) (hlt : n' < n) (hs : Sub l' l) (h : J n' l' w) :
    WEx N (Exit.then (fun a' w' => ∃ n' l', n' < n ∧ Has N l' a' ∧ J n' l' w') Q) .normal l w := fun _ ha => ⟨n', l', hlt, ha.sub hs, h⟩

/-! the whole function -/
theorem has_enter {l : List Value} (n : Nat) (hn : n = l.length) (N : Nat) (hN : l.length ≤ N) :
    Has N ((List.range n).zip l) { tmps := l.toArray ++ Array.replicate (N - l.toArray.size) undef, defers := [] } := by
  subst hn
  refine ⟨by simp; omega, rfl, fun t v hv => ?_⟩
  have key : ∀ (k : Nat) (xs : List Value), look ((List.range' k xs.length).zip xs) t = some v → k ≤ t ∧ xs[t - k]? = some v := by
    intro k xs
    induction xs generalizing k with
    | nil => intro h; simp [look] at h
    | cons x xs ih =>
      intro h
      simp only [List.length_cons, List.range'_succ, List.zip_cons_cons] at h
      unfold look at h
      by_cases e : k = t
      · subst e
        have hb : Nat.beq k k = true := by simp
        simp only [hb, cond_true, Option.some.injEq] at h
        simp [h]
      · have hb : Nat.beq k t = false := beq_no e
        simp only [hb, cond_false] at h
        obtain ⟨h1, h2⟩ := ih (k + 1) h
        refine ⟨by omega, ?_⟩
        rw [show t - k = (t - (k + 1)) + 1 by omega]
        simpa using h2
  rw [List.range_eq_range'] at hv
  obtain ⟨_, h2⟩ := key 0 l hv
  simp only [Nat.sub_zero] at h2
  have hlt : t < l.length := (List.getElem?_eq_some_iff.1 h2).1
  refine ⟨by omega, ?_⟩
  rw [Array.getElem?_append_left (by simpa using hlt)]
  simpa using h2

theorem enter {f : FuncId} {fn : Func} {c : Code} {args : List Value} {w : World} {R : Ending → World → Prop} (N : Nat) (fr : Fr)
    (hf : P.funcs[f]? = some fn) (hb : fn.body = some c) (hN : fn.ntmps = N) (hfr : (List.range args.length).zip args = fr) (hle : Nat.ble args.length N = true)
    (h : WCode P N c (bodyPost P fn R) fr w) : Calls P f args.toArray w R := by
  refine calls_of_wp hf hb (h _ ?_)
  subst hN
  rw [← hfr]
  exact has_enter args.length rfl _ (by simpa [Nat.ble_eq] using hle)

/-- The end: the results are read. -/
theorem WEx.ret1 {fn : Func} {R : Ending → World → Prop} {t : Tmp} {v : Value} (hres : fn.results = #[.tmp t]) (hv : look l t = some v) (h : R (.returned v) w) : WEx N (bodyPost P fn R) .ret l w :=
  fun a ha => ⟨ha.defers, v, by rw [results_tmp hres]; rw [ha.get hv], h⟩
theorem WEx.ret2 {fn : Func} {R : Ending → World → Prop} {t u : Tmp} {v x : Value} (hres : fn.results = #[.tmp t, .tmp u]) (hv : look l t = some v) (hx : look l u = some x) (h : R (.returned (.tuple #[v, x])) w) : WEx N (bodyPost P fn R) .ret l w :=
  fun a ha => ⟨ha.defers, _, by rw [results_tmp2 hres]; rw [ha.get hv, ha.get hx], h⟩
theorem WEx.ret3 {fn : Func} {R : Ending → World → Prop} {t u s : Tmp} {v x y : Value} (hres : fn.results = #[.tmp t, .tmp u, .tmp s]) (hv : look l t = some v) (hx : look l u = some x) (hy : look l s = some y) (h : R (.returned (.tuple #[v, x, y])) w) : WEx N (bodyPost P fn R) .ret l w :=
  fun a ha => ⟨ha.defers, _, by rw [results_tmp3 hres]; rw [ha.get hv, ha.get hx, ha.get hy], h⟩
theorem WEx.ret0 {fn : Func} {R : Ending → World → Prop} (hres : fn.results = #[]) (h : R (.returned (.tuple #[])) w) : WEx N (bodyPost P fn R) .ret l w :=
  fun a ha => ⟨ha.defers, _, by rw [results_none hres], h⟩
theorem WEx.end0 {fn : Func} {R : Ending → World → Prop} (hres : fn.results = #[]) (h : R (.returned (.tuple #[])) w) : WEx N (bodyPost P fn R) .normal l w :=
  fun a ha => ⟨ha.defers, _, by rw [results_none hres], h⟩
/-- results whose reading is handed over. -/
theorem WEx.retr {fn : Func} {R : Ending → World → Prop} {v : Value} (hr : ∀ a, Has N l a → (results fn a.tmps).run P w = .ok v w) (h : R (.returned v) w) : WEx N (bodyPost P fn R) .ret l w :=
  fun a ha => ⟨ha.defers, v, hr a ha, h⟩
end
end Go.Eng
/- Regions that draw their order go in one order of ours: what is pure goes as soon as it can; what reads goes ahead of what may come before it if that only makes blocks; what acts goes where nothing else can. -/
namespace Go.Eng
open Go

/-- Every block that stood stands as it was. -/
def Ext (w w' : World) : Prop := w.heap.size ≤ w'.heap.size ∧ ∀ k, k < w.heap.size → w'.heap[k]? = w.heap[k]?
theorem Ext.refl (w : World) : Ext w w := ⟨Nat.le_refl _, fun _ _ => rfl⟩
theorem Ext.trans {a b c : World} (h : Ext a b) (k : Ext b c) : Ext a c := ⟨Nat.le_trans h.1 k.1, fun i hi => (k.2 i (Nat.lt_of_lt_of_le hi h.1)).trans (h.2 i hi)⟩
theorem Ext.alloc (w : World) (o : Obj) : Ext w (w.alloc o) := ⟨by simp, fun k hk => by
  show (w.heap.push o)[k]? = _
  rw [Array.getElem?_push, if_neg (by omega)]⟩
theorem Ext.drew (w : World) : Ext w w.drew := ⟨Nat.le_refl _, fun _ _ => rfl⟩
theorem Ext.cell {w w' : World} (h : Ext w w') {a : Addr} {v : Value} (hc : w.cell? a = some v) : w'.cell? a = some v :=
  (World.cell?_of_block (h.2 _ (World.block_lt_of_cell? w a hc))).trans hc

/-- A text of the model that stores nothing: all that it leaves is new blocks; L: of what it gives. -/
inductive Tm {α : Type} (L : α → Prop) : Sem α → Prop
  | pure (a : α) : L a → Tm L (.pure a)
  | load (m : Mode) (a : Addr) (k : Value → Sem α) : (∀ v, Tm L (k v)) → Tm L (.load m a k)
  | new (o : Obj) (k : Nat → Sem α) : (∀ r, Tm L (k r)) → Tm L (.new o k)
  | shape (r : Nat) (k : Option (TypeId × Nat) → Sem α) : (∀ x, Tm L (k x)) → Tm L (.shape r k)
  | frozen (a : Addr) (k : Bool → Sem α) : (∀ b, Tm L (k b)) → Tm L (.frozen a k)
  | getObj (r : Nat) (k : Obj → Sem α) : (∀ o, Tm L (k o)) → Tm L (.getObj r k)
  | choose (q : Question) (k : Nat → Sem α) : (∀ n, Tm L (k n)) → Tm L (.choose q k)
  | program (k : Program → Sem α) : (∀ p, Tm L (k p)) → Tm L (.program k)
  | mark (m : Mark) (k : Sem α) : Tm L k → Tm L (.mark m k)
  | halt (h : Halt) : Tm L (.halt h)

theorem Tm.run {α : Type} {L : α → Prop} {P : Program} {e : Sem α} (h : Tm L e) : ∀ {w w' : World} {x : α}, e.run P w = .ok x w' → L x ∧ Ext w w' := by
  induction h with
  | pure a ha => intro w w' x hr; simp only [Sem.run, Result.ok.injEq] at hr; obtain ⟨rfl, rfl⟩ := hr; exact ⟨ha, Ext.refl _⟩
  | load m a k _ ih =>
    intro w w' x hr
    simp only [Sem.run] at hr
    split at hr
    · exact ih _ hr
    · split at hr
      · exact ih _ hr
      · cases hr
  | new o k _ ih => intro w w' x hr; simp only [Sem.run] at hr; have := ih _ hr; exact ⟨this.1, (Ext.alloc w o).trans this.2⟩
  | shape r k _ ih => intro w w' x hr; simp only [Sem.run] at hr; exact ih _ hr
  | frozen a k _ ih => intro w w' x hr; simp only [Sem.run] at hr; exact ih _ hr
  | getObj r k _ ih =>
    intro w w' x hr
    simp only [Sem.run] at hr
    split at hr
    · cases hr
    · exact ih _ hr
    · cases hr
  | choose q k _ ih =>
    intro w w' x hr
    simp only [Sem.run] at hr
    split at hr
    · exact ih _ hr
    · have := ih _ hr; exact ⟨this.1, (Ext.drew w).trans this.2⟩
  | program k _ ih => intro w w' x hr; simp only [Sem.run] at hr; exact ih _ hr
  | mark m k _ ih => intro w w' x hr; simp only [Sem.run] at hr; exact ih hr
  | halt h => intro w w' x hr; simp [Sem.run] at hr

theorem Tm.bind {α β : Type} {L : α → Prop} {L' : β → Prop} {e : Sem α} {f : α → Sem β} (h : Tm L e) (hf : ∀ a, L a → Tm L' (f a)) : Tm L' (e.bind f) := by
  induction h with
  | pure a ha => exact hf a ha
  | load m a k _ ih => exact .load m a _ fun v => ih v
  | new o k _ ih => exact .new o _ fun v => ih v
  | shape r k _ ih => exact .shape r _ fun v => ih v
  | frozen a k _ ih => exact .frozen a _ fun v => ih v
  | getObj r k _ ih => exact .getObj r _ fun v => ih v
  | choose q k _ ih => exact .choose q _ fun v => ih v
  | program k _ ih => exact .program _ fun v => ih v
  | mark m k _ ih => exact .mark m _ ih
  | halt h => exact .halt h
def Any {α : Type} : α → Prop := fun _ => True
theorem Tm.bind' {α β : Type} {L' : β → Prop} {e : Sem α} {f : α → Sem β} (h : Tm Any e) (hf : ∀ a, Tm L' (f a)) : Tm L' (e >>= f) := Tm.bind h fun a _ => hf a
theorem Tm.pure' {α : Type} {L : α → Prop} (a : α) (h : L a) : Tm L (Pure.pure a : Sem α) := .pure a h
theorem Tm.any {α : Type} (a : α) : Tm Any (Pure.pure a : Sem α) := .pure a trivial
theorem Tm.ite {α : Type} {L : α → Prop} {c : Prop} [Decidable c] {x y : Sem α} (hx : Tm L x) (hy : Tm L y) : Tm L (if c then x else y) := by split <;> assumption
theorem tm_stuck {α : Type} {L : α → Prop} (s : String) : Tm L (stuck s : Sem α) := .halt _
theorem tm_unsupported {α : Type} {L : α → Prop} (s : Unsupported) : Tm L (unsupported s : Sem α) := .halt _
theorem tm_program : Tm Any program := .program _ fun p => .pure p trivial
theorem tm_typeInfo (t : TypeId) : Tm Any (typeInfo t) := Tm.bind' tm_program fun p => by split <;> first | exact Tm.any _ | exact tm_stuck _
theorem tm_underlying (t : TypeId) : Tm Any (underlying t) := Tm.bind' tm_program fun p => by split <;> first | exact Tm.any _ | exact tm_stuck _
theorem tm_sizeOf (t : TypeId) : Tm Any (sizeOf t) := Tm.bind' (tm_typeInfo t) fun _ => Tm.any _
theorem tm_zeroValue (t : TypeId) : Tm Any (zeroValue t) := Tm.bind' (tm_typeInfo t) fun _ => by split <;> first | exact Tm.any _ | exact tm_unsupported _
theorem tm_isAgg (t : TypeId) : Tm Any (isAgg t) := Tm.bind' (tm_underlying t) fun _ => by split <;> exact Tm.any _
theorem tm_load (a : Addr) (m : Mode) : Tm Any (load a m) := .load m a _ fun v => .pure v trivial
theorem tm_loadCellsFrom (a : Addr) : ∀ (n i : Nat) (acc : Array Value), Tm Any (loadCellsFrom a i n acc)
  | 0, _, _ => Tm.any _
  | n + 1, _, _ => Tm.bind' (tm_load _ _) fun _ => tm_loadCellsFrom a n _ _
theorem tm_loadVar (t : TypeId) (a : Addr) : Tm Any (loadVar t a) := Tm.bind' (tm_isAgg t) fun b => by
  split
  · exact Tm.bind' (tm_sizeOf t) fun _ => Tm.bind' (tm_loadCellsFrom _ _ _ _) fun _ => Tm.any _
  · exact tm_load _ _
theorem tm_newVar (t : TypeId) (v : Value) : Tm Any (newVar t v) := Tm.bind' (.new _ _ fun r => .pure r trivial) fun _ => Tm.any _
theorem tm_sureAddr (v : Value) : Tm Any (Instr.sureAddr v) := by unfold Instr.sureAddr; split <;> first | exact Tm.any _ | exact tm_stuck _
theorem tm_asBool (v : Value) : Tm Any (asBool v) := by unfold asBool; split <;> first | exact Tm.any _ | exact tm_stuck _
theorem tm_runtimePanic {α : Type} {L : α → Prop} (h : RuntimeError) (hne : ∀ i c a m, h ≠ .typeAssertion i c a m) (hn : h ≠ .panicNil) : Tm L (runtimePanic h : Sem α) := by
  refine Tm.bind' tm_program fun p => ?_
  cases h with
  | typeAssertion i c a m => exact absurd rfl (hne i c a m)
  | panicNil => exact absurd rfl hn
  | _ => exact .halt _
theorem tm_boundsPanic {α : Type} {L : α → Prop} (k : IntKind) (x y : Int) (c : BoundsCode) : Tm L (boundsPanic k x y c : Sem α) := by
  unfold boundsPanic
  dsimp only
  have hp : ∀ s, Tm L (runtimePanic (.bounds (IntKind.i64.wrap x) y s c) : Sem α) := fun s => tm_runtimePanic _ (by intros; simp) (by simp)
  refine Tm.ite (Tm.bind' ?_ hp) (Tm.bind' (Tm.any _) hp)
  exact Tm.bind (L := Any) (L' := Any) (.choose _ _ fun n => .pure n trivial) fun a _ => .pure _ trivial

theorem tm_newObj (o : Obj) : Tm Any (newObj o) := .new _ _ fun r => .pure r trivial
theorem tm_mapML {α β : Type} {f : α → Sem β} (hf : ∀ x, Tm Any (f x)) : ∀ xs : List α, Tm Any (xs.mapM f)
  | [] => by rw [List.mapM_nil]; exact Tm.any _
  | x :: xs => by rw [List.mapM_cons]; exact Tm.bind' (hf x) fun _ => Tm.bind' (tm_mapML hf xs) fun _ => Tm.any _
theorem tm_mapM {α β : Type} {f : α → Sem β} (hf : ∀ x, Tm Any (f x)) (xs : Array α) : Tm Any (xs.mapM f) := by
  rw [Array.mapM_eq_mapM_toList]
  exact Tm.bind (tm_mapML hf _) fun a _ => .pure _ trivial
theorem tm_asIntOf (v : Value) : Tm Any (asIntOf v) := by unfold asIntOf; split <;> first | exact Tm.any _ | exact tm_stuck _ | exact tm_unsupported _
theorem tm_shape (r : Nat) : Tm Any (shape r) := .shape _ _ fun x => .pure x trivial
theorem tm_getObj (r : Nat) : Tm Any (getObj r) := .getObj _ _ fun x => .pure x trivial
theorem tm_part (t : TypeId) (cs : Array Value) (off : Nat) : Tm Any (part t cs off) := by
  unfold part
  repeat' first
    | exact Tm.any _
    | exact tm_stuck _
    | exact tm_unsupported _
    | exact tm_underlying _
    | exact tm_typeInfo _
    | exact tm_sizeOf _
    | exact tm_zeroValue _
    | exact tm_sureAddr _
    | exact tm_program
    | exact tm_boundsPanic _ _ _ _
    | exact tm_newVar _ _
    | exact tm_asIntOf _
    | exact tm_loadVar _ _
    | exact tm_shape _
    | exact tm_getObj _
    | exact tm_isAgg _
    | refine Tm.ite ?_ ?_
    | refine Tm.bind' ?_ fun _ => ?_
    | split
    | dsimp only
theorem tm_viewAt (r : Nat) : Tm Any (viewAt r) := by
  unfold viewAt
  repeat' first
    | exact Tm.any _
    | exact tm_stuck _
    | exact tm_unsupported _
    | exact tm_underlying _
    | exact tm_typeInfo _
    | exact tm_sizeOf _
    | exact tm_zeroValue _
    | exact tm_sureAddr _
    | exact tm_program
    | exact tm_boundsPanic _ _ _ _
    | exact tm_newVar _ _
    | exact tm_asIntOf _
    | exact tm_loadVar _ _
    | exact tm_shape _
    | exact tm_getObj _
    | exact tm_part _ _ _
    | exact tm_isAgg _
    | refine Tm.ite ?_ ?_
    | refine Tm.bind' ?_ fun _ => ?_
    | split
    | dsimp only
theorem tm_noView (a : Addr) : Tm Any (noView a) := by
  unfold noView
  repeat' first
    | exact Tm.any _
    | exact tm_stuck _
    | exact tm_unsupported _
    | exact tm_underlying _
    | exact tm_typeInfo _
    | exact tm_sizeOf _
    | exact tm_zeroValue _
    | exact tm_sureAddr _
    | exact tm_program
    | exact tm_boundsPanic _ _ _ _
    | exact tm_newVar _ _
    | exact tm_asIntOf _
    | exact tm_loadVar _ _
    | exact tm_shape _
    | exact tm_getObj _
    | exact tm_part _ _ _
    | exact tm_isAgg _
    | exact tm_viewAt _
    | refine Tm.ite ?_ ?_
    | refine Tm.bind' ?_ fun _ => ?_
    | split
    | dsimp only
theorem tm_byteOf (a : Addr) : Tm Any (byteOf a) := by
  unfold byteOf
  repeat' first
    | exact Tm.any _
    | exact tm_stuck _
    | exact tm_unsupported _
    | exact tm_underlying _
    | exact tm_typeInfo _
    | exact tm_sizeOf _
    | exact tm_zeroValue _
    | exact tm_sureAddr _
    | exact tm_program
    | exact tm_boundsPanic _ _ _ _
    | exact tm_newVar _ _
    | exact tm_asIntOf _
    | exact tm_loadVar _ _
    | exact tm_shape _
    | exact tm_getObj _
    | exact tm_part _ _ _
    | exact tm_noView _
    | exact tm_isAgg _
    | exact tm_viewAt _
    | refine Tm.ite ?_ ?_
    | refine Tm.bind' ?_ fun _ => ?_
    | split
    | dsimp only
theorem tm_partAt (a : Addr) (c b : Nat) : Tm Any (partAt a c b) := by
  unfold partAt
  repeat' first
    | exact Tm.any _
    | exact tm_stuck _
    | exact tm_unsupported _
    | exact tm_underlying _
    | exact tm_typeInfo _
    | exact tm_sizeOf _
    | exact tm_zeroValue _
    | exact tm_sureAddr _
    | exact tm_program
    | exact tm_boundsPanic _ _ _ _
    | exact tm_newVar _ _
    | exact tm_asIntOf _
    | exact tm_loadVar _ _
    | exact tm_shape _
    | exact tm_getObj _
    | exact tm_part _ _ _
    | exact tm_noView _
    | exact tm_byteOf _
    | exact tm_isAgg _
    | exact tm_viewAt _
    | refine Tm.ite ?_ ?_
    | refine Tm.bind' ?_ fun _ => ?_
    | split
    | dsimp only
theorem tm_fieldPlace (a : Addr) (f : Field) : Tm Any (fieldPlace a f) := by
  unfold fieldPlace
  repeat' first
    | exact Tm.any _
    | exact tm_stuck _
    | exact tm_unsupported _
    | exact tm_underlying _
    | exact tm_typeInfo _
    | exact tm_sizeOf _
    | exact tm_zeroValue _
    | exact tm_sureAddr _
    | exact tm_program
    | exact tm_boundsPanic _ _ _ _
    | exact tm_newVar _ _
    | exact tm_asIntOf _
    | exact tm_loadVar _ _
    | exact tm_shape _
    | exact tm_getObj _
    | exact tm_part _ _ _
    | exact tm_noView _
    | exact tm_byteOf _
    | exact tm_isAgg _
    | exact tm_partAt _ _ _
    | exact tm_viewAt _
    | refine Tm.ite ?_ ?_
    | refine Tm.bind' ?_ fun _ => ?_
    | split
    | dsimp only
theorem tm_fieldAt (s : TypeId) (v : Value) (f : Nat) : Tm Any (Instr.fieldAt s v f) := by
  unfold Instr.fieldAt
  repeat' first
    | exact Tm.any _
    | exact tm_stuck _
    | exact tm_unsupported _
    | exact tm_underlying _
    | exact tm_typeInfo _
    | exact tm_sizeOf _
    | exact tm_zeroValue _
    | exact tm_sureAddr _
    | exact tm_program
    | exact tm_boundsPanic _ _ _ _
    | exact tm_newVar _ _
    | exact tm_asIntOf _
    | exact tm_loadVar _ _
    | exact tm_shape _
    | exact tm_getObj _
    | exact tm_part _ _ _
    | exact tm_fieldPlace _ _
    | exact tm_noView _
    | exact tm_byteOf _
    | exact tm_isAgg _
    | exact tm_partAt _ _ _
    | exact tm_viewAt _
    | refine Tm.ite ?_ ?_
    | refine Tm.bind' ?_ fun _ => ?_
    | split
    | dsimp only
theorem tm_indexAt (t : TypeId) (x i : Value) : Tm Any (Instr.indexAt t x i) := by
  unfold Instr.indexAt
  repeat' first
    | exact Tm.any _
    | exact tm_stuck _
    | exact tm_unsupported _
    | exact tm_underlying _
    | exact tm_typeInfo _
    | exact tm_sizeOf _
    | exact tm_zeroValue _
    | exact tm_sureAddr _
    | exact tm_program
    | exact tm_boundsPanic _ _ _ _
    | exact tm_newVar _ _
    | exact tm_asIntOf _
    | exact tm_loadVar _ _
    | exact tm_shape _
    | exact tm_getObj _
    | exact tm_part _ _ _
    | exact tm_fieldPlace _ _
    | exact tm_noView _
    | exact tm_byteOf _
    | exact tm_isAgg _
    | exact tm_partAt _ _ _
    | exact tm_viewAt _
    | refine Tm.ite ?_ ?_
    | refine Tm.bind' ?_ fun _ => ?_
    | split
    | dsimp only
theorem tm_build (t : TypeId) (ps : Array (Nat × Value)) : Tm Any (Instr.build t ps) := by
  unfold Instr.build
  repeat' first
    | exact Tm.any _
    | exact tm_stuck _
    | exact tm_unsupported _
    | exact tm_underlying _
    | exact tm_typeInfo _
    | exact tm_sizeOf _
    | exact tm_zeroValue _
    | exact tm_sureAddr _
    | exact tm_program
    | exact tm_newObj _
    | refine tm_mapM (fun _ => ?_) _
    | exact tm_boundsPanic _ _ _ _
    | exact tm_newVar _ _
    | exact tm_asIntOf _
    | exact tm_loadVar _ _
    | exact tm_shape _
    | exact tm_getObj _
    | exact tm_part _ _ _
    | exact tm_fieldPlace _ _
    | exact tm_noView _
    | exact tm_byteOf _
    | exact tm_isAgg _
    | exact tm_partAt _ _ _
    | exact tm_viewAt _
    | refine Tm.ite ?_ ?_
    | refine Tm.bind' ?_ fun _ => ?_
    | split
    | dsimp only
theorem tm_buildSlice (t : TypeId) (n : Nat) (ps : Array (Nat × Value)) : Tm Any (Instr.buildSlice t n ps) := by
  unfold Instr.buildSlice
  repeat' first
    | exact Tm.any _
    | exact tm_stuck _
    | exact tm_unsupported _
    | exact tm_underlying _
    | exact tm_typeInfo _
    | exact tm_sizeOf _
    | exact tm_zeroValue _
    | exact tm_sureAddr _
    | exact tm_program
    | exact tm_newObj _
    | refine tm_mapM (fun _ => ?_) _
    | exact tm_boundsPanic _ _ _ _
    | exact tm_newVar _ _
    | exact tm_asIntOf _
    | exact tm_loadVar _ _
    | exact tm_shape _
    | exact tm_getObj _
    | exact tm_part _ _ _
    | exact tm_fieldPlace _ _
    | exact tm_noView _
    | exact tm_byteOf _
    | exact tm_isAgg _
    | exact tm_partAt _ _ _
    | exact tm_viewAt _
    | refine Tm.ite ?_ ?_
    | refine Tm.bind' ?_ fun _ => ?_
    | split
    | dsimp only
theorem tm_extract (v : Value) (n : Nat) : Tm Any (Instr.extract v n) := by
  unfold Instr.extract
  repeat' first
    | exact Tm.any _
    | exact tm_stuck _
    | exact tm_unsupported _
    | exact tm_underlying _
    | exact tm_typeInfo _
    | exact tm_sizeOf _
    | exact tm_zeroValue _
    | exact tm_sureAddr _
    | exact tm_program
    | exact tm_newObj _
    | refine tm_mapM (fun _ => ?_) _
    | exact tm_boundsPanic _ _ _ _
    | exact tm_newVar _ _
    | exact tm_asIntOf _
    | exact tm_loadVar _ _
    | exact tm_shape _
    | exact tm_getObj _
    | exact tm_part _ _ _
    | exact tm_fieldPlace _ _
    | exact tm_noView _
    | exact tm_byteOf _
    | exact tm_isAgg _
    | exact tm_partAt _ _ _
    | exact tm_viewAt _
    | refine Tm.ite ?_ ?_
    | refine Tm.bind' ?_ fun _ => ?_
    | split
    | dsimp only
theorem tm_alloc (t : TypeId)  : Tm Any (Instr.alloc t true (.tuple #[])) := by
  unfold Instr.alloc
  repeat' first
    | exact Tm.any _
    | exact tm_stuck _
    | exact tm_unsupported _
    | exact tm_underlying _
    | exact tm_typeInfo _
    | exact tm_sizeOf _
    | exact tm_zeroValue _
    | exact tm_sureAddr _
    | exact tm_program
    | exact tm_newObj _
    | refine tm_mapM (fun _ => ?_) _
    | exact tm_boundsPanic _ _ _ _
    | exact tm_newVar _ _
    | exact tm_asIntOf _
    | exact tm_loadVar _ _
    | exact tm_shape _
    | exact tm_getObj _
    | exact tm_part _ _ _
    | exact tm_fieldPlace _ _
    | exact tm_noView _
    | exact tm_byteOf _
    | exact tm_isAgg _
    | exact tm_partAt _ _ _
    | exact tm_viewAt _
    | refine Tm.ite ?_ ?_
    | refine Tm.bind' ?_ fun _ => ?_
    | split
    | dsimp only
theorem tm_len (ts : Array TypeId) (t : TypeId) (xs : Array Value) : Tm Any (Builtin.len_ ts t xs) := by
  unfold Builtin.len_
  repeat' first
    | exact Tm.any _
    | exact tm_stuck _
    | exact tm_unsupported _
    | exact tm_underlying _
    | exact tm_typeInfo _
    | exact tm_sizeOf _
    | exact tm_zeroValue _
    | exact tm_sureAddr _
    | exact tm_program
    | exact tm_newObj _
    | refine tm_mapM (fun _ => ?_) _
    | exact tm_boundsPanic _ _ _ _
    | exact tm_newVar _ _
    | exact tm_asIntOf _
    | exact tm_loadVar _ _
    | exact tm_shape _
    | exact tm_getObj _
    | exact tm_part _ _ _
    | exact tm_fieldPlace _ _
    | exact tm_noView _
    | exact tm_byteOf _
    | exact tm_isAgg _
    | exact tm_partAt _ _ _
    | exact tm_viewAt _
    | refine Tm.ite ?_ ?_
    | refine Tm.bind' ?_ fun _ => ?_
    | split
    | dsimp only

def IsVal (n : Next) : Prop := ∃ v, n = .value v
def tameOp : Op → Bool
  | .move _ | .assign _ | .pick .. | .alloc _ | .box .. | .build .. | .buildSlice .. | .load .. | .extract .. | .fieldAddr .. | .indexAddr .. | .slice .. => true
  | .nilCheck _ => true
  | .call { callee := .builtin .len, .. } => true
  | _ => false

theorem tm_v {s : Sem Value} (h : Tm Any s) : Tm IsVal (do pure (Next.value (← s))) := Tm.bind' h fun v => .pure _ ⟨v, rfl⟩

theorem tm_sliceBound (x : Value) (y : Nat) (c : BoundsCode) : Tm Any (Instr.sliceBound x y c) := by
  unfold Instr.sliceBound
  repeat' first
    | exact Tm.any _
    | exact tm_asIntOf _
    | exact tm_boundsPanic _ _ _ _
    | refine Tm.ite ?_ ?_
    | refine Tm.bind' ?_ fun _ => ?_
    | split
    | dsimp only
theorem tm_sliceBounds (b : Bool) (n c : Nat) (lo hi mx : Option Value) : Tm Any (Instr.sliceBounds b n c lo hi mx) := by
  unfold Instr.sliceBounds
  cases lo <;> cases hi <;> cases mx <;> dsimp only <;>
  repeat' first
    | exact Tm.any _
    | exact tm_stuck _
    | exact tm_sliceBound _ _ _
    | refine Tm.bind' ?_ fun _ => ?_
    | split
theorem tm_asAddr (v : Value) : Tm Any (asAddr v) := by
  unfold asAddr
  split
  · exact Tm.any _
  · exact tm_runtimePanic _ (by intros; simp) (by simp)
  · exact tm_stuck _
theorem tm_slice (t : TypeId) (x : Value) (lo hi mx : Option Value) : Tm Any (Instr.slice t x lo hi mx) := by
  unfold Instr.slice
  repeat' first
    | exact Tm.any _
    | exact tm_stuck _
    | exact tm_underlying _
    | exact tm_sizeOf _
    | exact tm_asAddr _
    | exact tm_sliceBounds _ _ _ _ _ _
    | refine Tm.ite ?_ ?_
    | refine Tm.bind' ?_ fun _ => ?_
    | split
    | dsimp only
theorem tm_sliceAt (t : TypeId) (x : Value) (lo hi mx : Option Value) : Tm Any (Instr.sliceAt t x lo hi mx) := by
  unfold Instr.sliceAt
  repeat' first
    | exact Tm.any _
    | exact tm_underlying _
    | exact tm_sizeOf _
    | exact tm_sureAddr _
    | exact tm_sliceBounds _ _ _ _ _ _
    | exact tm_slice _ _ _ _ _
    | refine Tm.ite ?_ ?_
    | refine Tm.bind' ?_ fun _ => ?_
    | split
    | dsimp only
theorem tm_followBlind : ∀ (l : List FieldStep) (t : TypeId) (x : Option Value), Tm Any (followBlind l t x)
  | [], _, _ => Tm.any _
  | s :: rest, _, x => by
    unfold followBlind
    repeat' first
      | exact Tm.any _
      | exact tm_stuck _
      | exact tm_underlying _
      | exact tm_part _ _ _
      | exact tm_followBlind rest _ _
      | refine Tm.bind' ?_ fun _ => ?_
      | split
theorem tm_nilAhead : ∀ (n : Nat) (t : TypeId) (v : Value) (s : String), Tm Any (nilAhead n t v s)
  | 0, _, _, _ => Tm.any _
  | n + 1, _, _, s => by
    unfold nilAhead
    repeat' first
      | exact Tm.any _
      | exact tm_stuck _
      | exact tm_underlying _
      | exact tm_typeInfo _
      | exact tm_followBlind _ _ _
      | exact tm_nilAhead n _ _ s
      | refine Tm.bind' ?_ fun _ => ?_
      | split

theorem tm_execOp {ρ : Operand → Value} {o : Oper} (h : tameOp o.op = true) : Tm IsVal (execOp ρ o) := by
  obtain ⟨dst, op, ty, pos, aft, g⟩ := o
  unfold execOp
  dsimp only at h ⊢
  cases op with
  | move x => exact .pure _ ⟨_, rfl⟩
  | assign x => exact .pure _ ⟨_, rfl⟩
  | pick c a b => exact Tm.bind' (tm_asBool _) fun b => by split <;> exact .pure _ ⟨_, rfl⟩
  | alloc t => exact tm_v (tm_alloc t)
  | box t x => exact tm_v (Tm.bind' (tm_newVar t _) fun _ => Tm.any _)
  | build t ps => exact tm_v (tm_build t _)
  | buildSlice t n ps => exact tm_v (tm_buildSlice t n _)
  | load t a => exact tm_v (Tm.bind' (tm_sureAddr _) fun _ => tm_loadVar t _)
  | extract t i => exact tm_v (tm_extract _ i)
  | fieldAddr s x f => exact tm_v (tm_fieldAt s _ f)
  | indexAddr t x i => exact tm_v (tm_indexAt t _ _)
  | slice t x lo hi mx => exact tm_v (tm_sliceAt t _ _ _ _)
  | nilCheck x =>
    dsimp only
    have hn : Tm IsVal (runtimePanic .nilDeref : Sem Next) := tm_runtimePanic _ (by intros; simp) (by simp)
    have hv : ∀ v : Value, Tm IsVal (Pure.pure (Next.value v) : Sem Next) := fun v => .pure _ ⟨_, rfl⟩
    repeat' first
      | exact hn
      | exact hv _
      | exact tm_program
      | exact tm_nilAhead _ _ _ _
      | exact tm_unsupported _
      | refine Tm.ite ?_ ?_
      | refine Tm.bind' ?_ fun _ => ?_
      | split
      | dsimp only
  | call c =>
    obtain ⟨cal, args, ats⟩ := c
    cases cal with
    | builtin b =>
      cases b with
      | len =>
        show Tm IsVal (resolve ρ _ ty >>= fun d => invoke d.target d.args)
        unfold resolve
        simp only [pure_bind]
        exact tm_v (tm_len _ _ _)
      | _ => simp [tameOp] at h
    | _ => simp [tameOp] at h
  | _ => simp [tameOp] at h
end Go.Eng

/- Regions that draw their order go in one order of ours (the theorem, and its rules). -/
namespace Go.Eng
open Go

/-- An entry of an order: the operation's number; 0: pure, 1: it reads, 2: it acts; those that wait for it. -/
structure En where
  i : Nat
  k : Nat
  W : List Nat := []

def enOk (ops : Array Oper) (e : En) (listed : Array Bool) : Bool :=
  match e.k with
  | 0 => (Region.ready .any ops listed).contains e.i && Region.free .any ops listed e.i
  | 1 => (Region.ready .any ops listed).contains e.i && Region.free .any ops listed e.i &&
      e.W.all (fun j => !listed.getD j false && match ops[j]? with | some oj => oj.after.any (fun x => Region.binds .any x && (x.on == e.i || e.W.contains x.on)) | none => false) &&
      (List.range ops.size).all fun j => j == e.i || listed.getD j true || e.W.contains j || match ops[j]? with | some oj => tameOp oj.op | none => true
  | _ => Region.ready .any ops listed == [e.i]
def orderOk (ops : Array Oper) : List En → Array Bool → Bool
  | [], listed => Region.ready .any ops listed == []
  | e :: es, listed => enOk ops e listed && orderOk ops es (listed.setIfInBounds e.i true)

section
variable {P : Program} {ops : Array Oper} {Q : Exit → Act → World → Prop}

def wpD (P : Program) (ops : Array Oper) (Q : Exit → Act → World → Prop) : List En → Act → World → Prop
  | [], a, w => Q .normal a w
  | e :: es, a, w => ∃ o, ops[e.i]? = some o ∧
    if Region.wanted o (yielded ops a.tmps) then
      match e.k with
      | 0 => ∃ v, (∀ w', (execOp a.eval o).run P w' = .ok (.value v) w') ∧ wpD P ops Q es (a.put o.dst v) w
      | 1 => ∃ v, (∀ w', Ext w w' → (execOp a.eval o).run P w' = .ok (.value v) w') ∧ wpD P ops Q es (a.put o.dst v) w
      | _ => o.wp P a w (wpD P ops Q es) Q
    else wpD P ops Q es (a.put o.dst undef) w

theorem yif_mono {S S' : World → Prop} {o : Oper} {v : Value} {a : Act} (h : YieldsIf P ops S o v a) (hs : ∀ w, S' w → S w) : YieldsIf P ops S' o v a :=
  h.imp (fun ⟨hw, hv⟩ => ⟨hw, fun w hS => hv w (hs w hS)⟩) id

theorem wpOp_putE {j : Nat} {oi oj : Oper} {v : Value} {w : World} (hj : ops[j]? = some oj) (hap : oi.apart ops oj = true)
    (hsi : ∀ cs b, oi.op ≠ .select cs b) (hsj : ∀ cs b, oj.op ≠ .select cs b) (ht : tameOp oj.op = true)
    (hQ : ∀ c a w, Q (.panic c) (a.put oi.dst v) w → Q (.panic c) a w) {K : Act → World → Prop} {a : Act}
    (hy : YieldsIf P ops (Ext w) oi v a) (h : wpOp P ops Q j K (a.put oi.dst v) w) :
    wpOp P ops Q j (fun a' w' => Ext w w' ∧ YieldsIf P ops (Ext w) oi v a' ∧ K (a'.put oi.dst v) w') a w := by
  obtain ⟨h1, h2, h3⟩ := Oper.apart_spec hap
  have keep : ∀ (a : Act), YieldsIf P ops (Ext w) oi v a → ∀ u, YieldsIf P ops (Ext w) oi v (a.put oj.dst u) := fun a hy u =>
    hy.of_same (execOp_put oi hsi a oj.dst u h3) (wanted_put oi a oj.dst u h3)
  unfold wpOp at *
  simp only [hj] at *
  rw [wanted_put oj a oi.dst v h1] at h
  split
  · rename_i hw
    simp only [hw, if_true] at h
    rcases h with h | ⟨hasks, hlets⟩
    case inr => exact .inr ⟨by unfold Oper.asks at *; rw [execOp_put oj hsj a oi.dst v h1] at hasks; exact hasks, hlets⟩
    refine .inl ?_
    unfold Oper.wp at *
    rw [execOp_put oj hsj a oi.dst v h1] at h
    generalize hr : (execOp a.eval oj).run P w = r at *
    cases r with
    | ok n w' =>
      obtain ⟨⟨u, rfl⟩, hE⟩ := (tm_execOp ht).run hr
      simp only [Oper.upon] at h ⊢
      exact ⟨hE, keep a hy u, by rw [← Act.put_comm a v u h2]; exact h⟩
    | halt x w' =>
      cases x <;> simp only [Oper.upon] at h ⊢
      case panic u => exact hQ _ _ _ h
  · rename_i hw
    simp only [hw] at h
    exact ⟨Ext.refl _, keep a hy _, by rw [← Act.put_comm a v undef h2]; exact h⟩

theorem take_read {i : Nat} {oi : Oper} {v : Value} (hi : ops[i]? = some oi) (hsel : ∀ (j : Nat) (o : Oper) cs b, ops[j]? = some o → o.op ≠ .select cs b)
    (hQ : ∀ c a w, Q (.panic c) (a.put oi.dst v) w → Q (.panic c) a w) (W : List Nat)
    (hW : ∀ j, j ∈ W → ∃ oj, ops[j]? = some oj ∧ ∃ x ∈ oj.after, Region.binds .any x = true ∧ (x.on = i ∨ x.on ∈ W)) :
    ∀ (fuel : Nat) (listed : Array Bool) (a : Act) (w : World),
      (∀ j, j ∈ W → listed.getD j false = false) →
      (∀ j oj, ops[j]? = some oj → j ≠ i → listed.getD j true = false → j ∉ W → tameOp oj.op = true) →
      (∀ j oj, ops[j]? = some oj → j ≠ i → listed.getD j true = false → (∀ e ∈ oj.after, Region.binds .any e = true → e.on ≠ i) → oi.apart ops oj = true) →
      i ∈ Region.ready .any ops listed → YieldsIf P ops (Ext w) oi v a →
      wpAny P .any ops Q fuel (listed.setIfInBounds i true) (a.put oi.dst v) w → wpAny P .any ops Q (fuel + 1) listed a w := by
  have stays : ∀ {a : Act} {w : World}, YieldsIf P ops (Ext w) oi v a → ∀ {K : Act → World → Prop}, K (a.put oi.dst v) w → wpOp P ops Q i K a w := fun hy _ h => hy.wpOp hi (Ext.refl _) h
  intro fuel
  induction fuel with
  | zero =>
    intro listed a w _ _ _ hr hy H
    refine ⟨fun h => (by rw [h] at hr; cases hr), fun j hj => ?_⟩
    by_cases hji : j = i
    · subst hji; exact stays hy H
    · have := ready_mono hj hji
      rw [H.1] at this
      cases this
  | succ fuel ih =>
    intro listed a w hWl htame hfree hr hy H
    refine ⟨fun h => (by rw [h] at hr; cases hr), fun j hj => ?_⟩
    by_cases hji : j = i
    · subst hji; exact stays hy H
    · have h1 := H.2 j (ready_mono hj hji)
      obtain ⟨hjun, oj, hoj, hall⟩ := mem_ready.1 hj
      have hi0 : listed.getD i false = false := by
        have h0 := (mem_ready.1 hr).1
        rcases Nat.lt_or_ge i listed.size with h' | h'
        · simp [h'] at h0 ⊢; exact h0
        · simp [Array.getElem?_eq_none h'] at h0
      have hnot : ∀ e ∈ oj.after, Region.binds .any e = true → e.on ≠ i := fun e he hb heq => by
        have h1 := hall e he hb
        rw [heq, hi0] at h1
        cases h1
      have hjW : j ∉ W := fun hm => by
        obtain ⟨oj', ho', x, hx, hb, hor⟩ := hW j hm
        obtain rfl : oj = oj' := Option.some.inj (hoj.symm.trans ho')
        have h1 := hall x hx hb
        rcases hor with hor | hor
        · rw [hor, hi0] at h1; cases h1
        · rw [hWl _ hor] at h1; cases h1
      have h2 := wpOp_putE hoj (hfree j oj hoj hji hjun hnot) (fun cs b => hsel i oi cs b hi) (fun cs b => hsel j oj cs b hoj) (htame j oj hoj hji hjun hjW) hQ hy h1
      have un : ∀ k, (listed.setIfInBounds j true).getD k true = false → listed.getD k true = false := fun k hun => by
        by_cases hjk : j = k
        · subst hjk; exact hjun
        · rw [getD_set_ne true hjk] at hun; exact hun
      refine wpOp_mono (fun a' w' h3 => ih (listed.setIfInBounds j true) a' w' (fun k hk => ?_) (fun k ok hk hki hun hkW => htame k ok hk hki (un k hun) hkW)
        (fun k ok hk hki hun hno => hfree k ok hk hki (un k hun) hno) (ready_mono hr (Ne.symm hji)) (yif_mono h3.2.1 fun w2 h => h3.1.trans h) ?_) h2
      · have hne : j ≠ k := fun e => hjW (e ▸ hk)
        rw [getD_set_ne false hne]
        exact hWl k hk
      · rw [Array.setIfInBounds_comm _ _ hji]
        exact h3.2.2

theorem any_of_D (hs : Region.noSelect ops = true) (hQ : ∀ c a d v w, Q (.panic c) (a.put d v) w → Q (.panic c) a w) :
    ∀ (es : List En) (listed : Array Bool) (a : Act) (w : World), orderOk ops es listed = true → wpD P ops Q es a w → wpAny P .any ops Q es.length listed a w
  | [], listed, a, w, ho, h => ⟨by simpa [orderOk] using ho, h⟩
  | e :: es, listed, a, w, ho, h => by
    obtain ⟨o, hi, h⟩ := h
    simp only [orderOk, Bool.and_eq_true] at ho
    obtain ⟨he, ho⟩ := ho
    have ih := any_of_D hs hQ es (listed.setIfInBounds e.i true)
    obtain ⟨i, k, W⟩ := e
    dsimp only at *
    match k, h, he with
    | 0, h, he =>
      simp only [enOk, Bool.and_eq_true] at he
      split at h
      · rename_i hw
        obtain ⟨v, hv, h⟩ := h
        exact wpAny_take hi hs he.2 he.1 (fun c a w => hQ c a _ v w) (.inl ⟨hw, hv⟩) (ih _ _ ho h)
      · rename_i hw
        exact wpAny_take hi hs he.2 he.1 (fun c a w => hQ c a _ undef w) (.inr ⟨by simpa using hw, rfl⟩) (ih _ _ ho h)
    | 1, h, he =>
      simp only [enOk, Bool.and_eq_true] at he
      obtain ⟨⟨⟨h1, h2⟩, h3⟩, h4⟩ := he
      have hW : ∀ j, j ∈ W → listed.getD j false = false ∧ ∃ oj, ops[j]? = some oj ∧ ∃ x ∈ oj.after, Region.binds .any x = true ∧ (x.on = i ∨ x.on ∈ W) := by
        intro j hj
        have := List.all_eq_true.1 h3 j hj
        simp only [Bool.and_eq_true, Bool.not_eq_true'] at this
        refine ⟨this.1, ?_⟩
        cases hoj : ops[j]? with
        | none => rw [hoj] at this; cases this.2
        | some oj =>
          rw [hoj] at this
          obtain ⟨x, hx, hb⟩ := Array.any_eq_true'.1 this.2
          simp only [Bool.and_eq_true, Bool.or_eq_true, beq_iff_eq, List.contains_iff_mem] at hb
          exact ⟨oj, rfl, x, hx, hb.1, hb.2⟩
      have htame : ∀ j oj, ops[j]? = some oj → j ≠ i → listed.getD j true = false → j ∉ W → tameOp oj.op = true := by
        intro j oj hoj hne hun hjW
        have hlt : j < ops.size := (Array.getElem?_eq_some_iff.1 hoj).1
        have := List.all_eq_true.1 h4 j (List.mem_range.2 hlt)
        simp only [hoj, Bool.or_eq_true, beq_iff_eq, hne, hun, false_or, Bool.false_eq_true, List.contains_iff_mem, hjW] at this
        exact this
      have go : ∀ v, YieldsIf P ops (Ext w) o v a → wpD P ops Q es (a.put o.dst v) w → wpAny P .any ops Q (es.length + 1) listed a w := fun v hy h =>
        take_read hi (Region.noSelect_spec hs) (fun c a w => hQ c a _ v w) W (fun j hj => (hW j hj).2) es.length listed a w (fun j hj => (hW j hj).1) htame (Region.free_spec hi h2) (by simpa using h1) hy (ih _ _ ho h)
      split at h
      · rename_i hw
        obtain ⟨v, hv, h⟩ := h
        exact go v (.inl ⟨hw, hv⟩) h
      · rename_i hw
        exact go undef (.inr ⟨by simpa using hw, rfl⟩) h
    | k + 2, h, he =>
      have he' : Region.ready .any ops listed = [i] := by simpa [enOk] using he
      refine wpAny_all he' (by simp) fun j hj => ?_
      obtain rfl : j = i := by simpa using hj
      unfold wpOp
      rw [hi]
      dsimp only
      split
      · rename_i hw
        rw [if_pos hw] at h
        exact .inl (Oper.wp_mono (fun a w h => ih a w ho h) h)
      · rename_i hw
        rw [if_neg hw] at h
        exact ih _ _ ho h

def WD (P : Program) (N : Nat) (ops : Array Oper) (Q : Exit → Act → World → Prop) (es : List En) (l : Fr) (w : World) : Prop := ∀ a, Has N l a → wpD P ops Q es a w

theorem WCode.draw {N id : Nat} {l : Fr} {w : World} (es : List En) (hm : P.follows .mixedOrders = true) (hs : Region.noSelect ops = true)
    (hQ : ∀ c a d v w, Q (.panic c) (a.put d v) w → Q (.panic c) a w) (hn : Nat.beq es.length ops.size = true) (ho : orderOk ops es (Array.replicate ops.size false) = true)
    (h : WD P N ops Q es l w.drew) : WCode P N (.region id ops true) Q l w := fun a ha =>
  wp_region_any hm (by
    have := any_of_D hs hQ es _ a w.drew ho (h a ha)
    rw [Nat.eq_of_beq_eq_true hn] at this
    exact this)

section
variable {N : Nat} {es : List En} {l l' : Fr} {w w' : World} {i d : Nat} {W : List Nat} {op : Op} {ty : TypeId} {pos : String} {aft : Array Edge}
theorem WD.forget (hs : Sub l' l) (h : WD P N ops Q es l' w) : WD P N ops Q es l w := fun a ha => h a (ha.sub hs)
theorem WD.nil (h : WEx N Q .normal l w) : WD P N ops Q [] l w := h
theorem WD.pure {v : Value} (hi : ops[i]? = some ⟨some d, op, ty, pos, aft, none⟩) (hr : ∀ w, ∀ a, Has N l a → (execOp a.eval ⟨some d, op, ty, pos, aft, none⟩).run P w = .ok (.value v) w) (hd : Nat.blt d N = true)
    (h : WD P N ops Q es ((d, v) :: l) w) : WD P N ops Q (⟨i, 0, W⟩ :: es) l w := fun a ha =>
  ⟨_, hi, by rw [if_pos (by rfl)]; exact ⟨v, fun w => hr w a ha, h _ (ha.put hd v)⟩⟩
theorem WD.read {v : Value} (hi : ops[i]? = some ⟨some d, op, ty, pos, aft, none⟩) (hr : ∀ w', Ext w w' → ∀ a, Has N l a → (execOp a.eval ⟨some d, op, ty, pos, aft, none⟩).run P w' = .ok (.value v) w') (hd : Nat.blt d N = true)
    (h : WD P N ops Q es ((d, v) :: l) w) : WD P N ops Q (⟨i, 1, W⟩ :: es) l w := fun a ha =>
  ⟨_, hi, by rw [if_pos (by rfl)]; exact ⟨v, fun w' hE => hr w' hE a ha, h _ (ha.put hd v)⟩⟩
theorem WD.act {v : Value} (hi : ops[i]? = some ⟨some d, op, ty, pos, aft, none⟩) (hr : ∀ a, Has N l a → (execOp a.eval ⟨some d, op, ty, pos, aft, none⟩).run P w = .ok (.value v) w') (hd : Nat.blt d N = true)
    (h : WD P N ops Q es ((d, v) :: l) w') : WD P N ops Q (⟨i, 2, W⟩ :: es) l w := fun a ha =>
  ⟨_, hi, by
    rw [if_pos (by rfl)]
    show Oper.wp _ _ _ _ _ _
    unfold Oper.wp
    rw [hr a ha]
    exact h _ (ha.put hd v)⟩
theorem WD.act0 (hi : ops[i]? = some ⟨none, op, ty, pos, aft, none⟩) (hr : ∀ a, Has N l a → (execOp a.eval ⟨none, op, ty, pos, aft, none⟩).run P w = .ok .skip w')
    (h : WD P N ops Q es l w') : WD P N ops Q (⟨i, 2, W⟩ :: es) l w := fun a ha =>
  ⟨_, hi, by
    rw [if_pos (by rfl)]
    show Oper.wp _ _ _ _ _ _
    unfold Oper.wp
    rw [hr a ha]
    exact h _ ha⟩
end
end
end Go.Eng
/- What the engine knows of memory: groups of blocks; and the operations' laws. -/
namespace Go.Eng
open Go

/-! ### 1. Memory -/
abbrev Grp := List (Nat × Obj)
def keys (G : Grp) : List Nat := G.map (·.1)
theorem keys_append (G H : Grp) : keys (G ++ H) = keys G ++ keys H := by simp [keys]
theorem mem_keys {G : Grp} {k : Nat} {o : Obj} (h : (k, o) ∈ G) : k ∈ keys G := List.mem_map.2 ⟨(k, o), h, rfl⟩

structure Hp (w : World) (G : Grp) : Prop where
  at_ : ∀ k o, (k, o) ∈ G → w.heap[k]? = some o
  nd : (keys G).Nodup

theorem lt_of_blk {w : World} {k : Nat} {o : Obj} (h : w.heap[k]? = some o) : k < w.heap.size := (Array.getElem?_eq_some_iff.1 h).1
theorem Hp.lt {w : World} {G : Grp} (h : Hp w G) {k : Nat} (hk : k ∈ keys G) : k < w.heap.size := by
  obtain ⟨⟨k', o⟩, hm, rfl⟩ := List.mem_map.1 hk
  exact lt_of_blk (h.at_ _ _ hm)
theorem Hp.move {w w' : World} {G : Grp} (h : Hp w G) (hm : ∀ k, k ∈ keys G → w'.heap[k]? = w.heap[k]?) : Hp w' G :=
  ⟨fun k o hk => (hm k (mem_keys hk)).trans (h.at_ k o hk), h.nd⟩
theorem Hp.perm {w : World} {G G' : Grp} (h : Hp w G) (hp : G.Perm G') : Hp w G' :=
  ⟨fun k o hk => h.at_ k o (hp.mem_iff.2 hk), ((hp.map _).nodup_iff).1 h.nd⟩

/-- The streams and the tape are as they were. -/
structure Same (w w' : World) : Prop where
  os : w'.os = w.os
  tape : w'.tape = w.tape
  output : w'.output = w.output
theorem Same.refl (w : World) : Same w w := ⟨rfl, rfl, rfl⟩
theorem Same.trans {a b c : World} (h : Same a b) (k : Same b c) : Same a c := ⟨k.os.trans h.os, k.tape.trans h.tape, k.output.trans h.output⟩

/-- Since w0: only blocks of K have turned, and what is new; the groups hold. -/
structure St (w0 : World) (K : Nat → Prop) (w : World) (Gs : List Grp) : Prop where
  hp : Hp w Gs.flatten
  own : ∀ k, k ∈ keys Gs.flatten → K k ∨ w0.heap.size ≤ k
  fr : ∀ k, k < w0.heap.size → ¬ K k → w.heap[k]? = w0.heap[k]?
  sz : w0.heap.size ≤ w.heap.size
  same : Same w0 w

theorem St.init {w : World} {Gs : List Grp} (h : Hp w Gs.flatten) : St w (· ∈ keys Gs.flatten) w Gs := ⟨h, fun _ hk => .inl hk, fun _ _ _ => rfl, Nat.le_refl _, Same.refl _⟩
theorem Hp.nil (w : World) : Hp w [] := ⟨fun _ _ h => by simp at h, by simp [keys]⟩
theorem St.init0 (w : World) : St w (fun _ => False) w [] := ⟨Hp.nil w, fun _ hk => by simp [keys] at hk, fun _ _ _ => rfl, Nat.le_refl _, Same.refl _⟩

section
variable {w0 w w1 : World} {K : Nat → Prop} {Gs Gs' : List Grp} {G G' : Grp} {o : Obj} {b k : Nat}

theorem mem_at (hk : Gs[k]? = some G) {x : Nat × Obj} (hx : x ∈ G) : x ∈ Gs.flatten := List.mem_flatten.2 ⟨G, List.mem_of_getElem? hk, hx⟩
theorem St.blk (S : St w0 K w Gs) (k : Nat) (hk : Gs[k]? = some [(b, o)]) : w.heap[b]? = some o := S.hp.at_ b o (mem_at hk (by simp))
theorem St.grp (S : St w0 K w Gs) (k : Nat) (hk : Gs[k]? = some G) {b : Nat} {o : Obj} (hm : (b, o) ∈ G) : w.heap[b]? = some o := S.hp.at_ b o (mem_at hk hm)

theorem St.drew (S : St w0 K w Gs) : St w0 K w.drew Gs := ⟨⟨S.hp.at_, S.hp.nd⟩, S.own, S.fr, S.sz, ⟨S.same.os, S.same.tape, S.same.output⟩⟩
theorem St.drewN (S : St w0 K w Gs) (n : Nat) : St w0 K (w.drewN n) Gs := ⟨⟨S.hp.at_, S.hp.nd⟩, S.own, S.fr, S.sz, ⟨S.same.os, S.same.tape, S.same.output⟩⟩

/-- w1 is w with more blocks. -/
theorem St.ext (S : St w0 K w Gs) (hE : Ext w w1) (hs : Same w w1) : St w0 K w1 Gs :=
  ⟨S.hp.move fun k hk => hE.2 k (S.hp.lt hk), S.own, fun k hk hn => (hE.2 k (Nat.lt_of_lt_of_le hk S.sz)).trans (S.fr k hk hn), Nat.le_trans S.sz hE.1, S.same.trans hs⟩

theorem same_alloc (w : World) (o : Obj) : Same w (w.alloc o) := ⟨rfl, rfl, rfl⟩
theorem St.alloc (S : St w0 K w Gs) (o : Obj) : St w0 K (w.alloc o) ([(w.heap.size, o)] :: Gs) := by
  have S1 := S.ext (Ext.alloc w o) (same_alloc w o)
  refine ⟨⟨fun k x hk => ?_, ?_⟩, fun k hk => ?_, S1.fr, S1.sz, S1.same⟩
  · simp only [List.flatten_cons, List.cons_append, List.nil_append, List.mem_cons, Prod.mk.injEq] at hk
    rcases hk with ⟨rfl, rfl⟩ | hk
    · exact heap_alloc_new w _
    · exact S1.hp.at_ k x hk
  · simp only [List.flatten_cons, List.cons_append, List.nil_append, keys, List.map_cons, List.nodup_cons]
    refine ⟨fun hm => ?_, S1.hp.nd⟩
    have := S.hp.lt hm
    omega
  · simp only [List.flatten_cons, List.cons_append, List.nil_append, keys, List.map_cons, List.mem_cons] at hk
    rcases hk with rfl | hk
    · exact .inr S.sz
    · exact S.own k hk

theorem keys_mem_flatten {k : Nat} : k ∈ keys Gs.flatten ↔ ∃ G, G ∈ Gs ∧ k ∈ keys G := by
  simp only [keys, List.mem_map, List.mem_flatten]
  constructor
  · rintro ⟨x, ⟨G, hG, hx⟩, rfl⟩; exact ⟨G, hG, x, hx, rfl⟩
  · rintro ⟨G, hG, x, hx, rfl⟩; exact ⟨x, ⟨G, hG, hx⟩, rfl⟩

/-- The first group turns; what it gains is new. -/
theorem St.upd (S : St w0 K w (G :: Gs)) (h1 : ∀ b o, (b, o) ∈ G' → w1.heap[b]? = some o) (hnd : (keys G').Nodup) (hnew : ∀ b, b ∈ keys G' → b ∈ keys G ∨ w.heap.size ≤ b)
    (hfr : ∀ b, b < w.heap.size → b ∉ keys G → w1.heap[b]? = w.heap[b]?) (hsz : w.heap.size ≤ w1.heap.size) (hs : Same w w1) : St w0 K w1 (G' :: Gs) := by
  have hnd0 := S.hp.nd
  simp only [List.flatten_cons, keys_append] at hnd0
  rw [List.nodup_append] at hnd0
  obtain ⟨hd1, hd2, hdis⟩ := hnd0
  have hrest : ∀ b, b ∈ keys Gs.flatten → b < w.heap.size ∧ b ∉ keys G := fun b hb =>
    ⟨S.hp.lt (by simp [keys_append, hb]), fun hm => hdis b hm b hb rfl⟩
  have hold : ∀ b, b ∈ keys (G :: Gs).flatten → K b ∨ w0.heap.size ≤ b := S.own
  refine ⟨⟨fun b o hb => ?_, ?_⟩, fun b hb => ?_, fun b hb hn => ?_, Nat.le_trans S.sz hsz, S.same.trans hs⟩
  · simp only [List.flatten_cons, List.mem_append] at hb
    rcases hb with hb | hb
    · exact h1 b o hb
    · obtain ⟨h2, h3⟩ := hrest b (mem_keys hb)
      exact (hfr b h2 h3).trans (S.hp.at_ b o (by simp [hb]))
  · simp only [List.flatten_cons, keys_append]
    rw [List.nodup_append]
    refine ⟨hnd, hd2, fun x hx y hy e => ?_⟩
    subst e
    obtain ⟨h2, h3⟩ := hrest x hy
    rcases hnew x hx with h | h
    · exact h3 h
    · omega
  · simp only [List.flatten_cons, keys_append, List.mem_append] at hb
    rcases hb with hb | hb
    · rcases hnew b hb with h | h
      · exact hold b (by simp [keys_append, h])
      · exact .inr (Nat.le_trans S.sz h)
    · exact hold b (by simp [keys_append, hb])
  · by_cases hm : b ∈ keys G
    · rcases hold b (by simp [keys_append, hm]) with h | h
      · exact absurd h hn
      · omega
    · exact (hfr b (Nat.lt_of_lt_of_le hb S.sz) hm).trans (S.fr b hb hn)

theorem perm_erase {α : Type} : ∀ (l : List α) (k : Nat) (x : α), l[k]? = some x → l.Perm (x :: l.eraseIdx k)
  | [], k, x, h => by simp at h
  | y :: l, 0, x, h => by
    simp only [List.getElem?_cons_zero, Option.some.injEq] at h
    subst h
    exact List.Perm.refl _
  | y :: l, k + 1, x, h => by
    simp only [List.getElem?_cons_succ] at h
    exact ((perm_erase l k x h).cons y).trans (List.Perm.swap ..)
theorem St.perm (S : St w0 K w Gs) (hp : Gs.flatten.Perm Gs'.flatten) : St w0 K w Gs' :=
  ⟨S.hp.perm hp, fun k hk => S.own k (((hp.map _).mem_iff).2 hk), S.fr, S.sz, S.same⟩
/-- Group k comes to the front. -/
theorem St.front (S : St w0 K w Gs) (k : Nat) (hk : Gs[k]? = some G) : St w0 K w (G :: Gs.eraseIdx k) := by
  refine S.perm ?_
  exact (perm_erase Gs k G hk).flatten
/-- .. and goes back to where it was. -/
theorem St.back (S : St w0 K w (G :: Gs)) (k : Nat) (hk : k ≤ Gs.length) : St w0 K w (Gs.insertIdx k G) :=
  S.perm ((List.perm_insertIdx G Gs hk).symm.flatten)
/-- The group k turns, in place. -/
theorem St.updAt (S : St w0 K w Gs) (k : Nat) (hk : Gs[k]? = some G) (h1 : ∀ b o, (b, o) ∈ G' → w1.heap[b]? = some o) (hnd : (keys G').Nodup) (hnew : ∀ b, b ∈ keys G' → b ∈ keys G ∨ w.heap.size ≤ b)
    (hfr : ∀ b, b < w.heap.size → b ∉ keys G → w1.heap[b]? = w.heap[b]?) (hsz : w.heap.size ≤ w1.heap.size) (hs : Same w w1) : St w0 K w1 (Gs.set k G') := by
  have h := (S.front k hk).upd h1 hnd hnew hfr hsz hs
  refine h.perm ?_
  have hlt : k < Gs.length := (List.getElem?_eq_some_iff.1 hk).1
  have hp : (G' :: Gs.eraseIdx k).Perm (Gs.set k G') := by
    have h1 := perm_erase (Gs.set k G') k G' (by simp [hlt])
    rw [List.eraseIdx_set_eq] at h1
    exact h1.symm
  exact hp.flatten
theorem St.drop (S : St w0 K w (G :: Gs)) : St w0 K w Gs := by
  have hnd0 := S.hp.nd
  simp only [List.flatten_cons, keys_append] at hnd0
  rw [List.nodup_append] at hnd0
  exact ⟨⟨fun k o h => S.hp.at_ k o (by simp [h]), hnd0.2.1⟩, fun k hk => S.own k (by simp [keys_append, hk]), S.fr, S.sz, S.same⟩
theorem St.keep {As Rs : List Grp} (S : St w0 K w (As ++ Rs)) : St w0 K w As := by
  have hnd := S.hp.nd
  rw [List.flatten_append, keys_append, List.nodup_append] at hnd
  exact ⟨⟨fun k o h => S.hp.at_ k o (by simp [h]), hnd.1⟩, fun k hk => S.own k (by simp [keys_append, hk]), S.fr, S.sz, S.same⟩
theorem St.split {G1 G2 : Grp} (S : St w0 K w ((G1 ++ G2) :: Gs)) : St w0 K w (G1 :: G2 :: Gs) := S.perm (by simp)
theorem St.join {G1 G2 : Grp} (S : St w0 K w (G1 :: G2 :: Gs)) : St w0 K w ((G1 ++ G2) :: Gs) := S.perm (by simp)
theorem St.emp (S : St w0 K w Gs) : St w0 K w ([] :: Gs) := S.perm (by simp)
theorem St.unemp (S : St w0 K w ([] :: Gs)) : St w0 K w Gs := S.perm (by simp)

/-- A call that was given the first groups. -/
theorem St.call {As As' Rs : List Grp} (S : St w0 K w (As ++ Rs)) (T : St w (· ∈ keys As.flatten) w1 As') : St w0 K w1 (As' ++ Rs) := by
  have S' : St w0 K w (As.flatten :: Rs) := S.perm (by simp)
  have h := S'.upd (G' := As'.flatten) T.hp.at_ T.hp.nd (fun b hb => T.own b hb) (fun b hb hn => T.fr b hb hn) T.sz T.same
  exact h.perm (by simp)
theorem St.sub {As Rs : List Grp} (S : St w0 K w (As ++ Rs)) : Hp w As.flatten := by
  have hnd := S.hp.nd
  rw [List.flatten_append, keys_append, List.nodup_append] at hnd
  exact ⟨fun k o h => S.hp.at_ k o (by simp [h]), hnd.1⟩
theorem St.hp1 (S : St w0 K w (G :: Gs)) : Hp w G := by
  have := St.sub (As := [G]) (Rs := Gs) S
  simpa using this
theorem St.call1 {As' : List Grp} (S : St w0 K w (G :: Gs)) (T : St w (· ∈ keys G) w1 As') : St w0 K w1 (As' ++ Gs) :=
  St.call (As := [G]) (Rs := Gs) S (by simpa using T)
theorem St.hp2 {H : Grp} (S : St w0 K w (G :: H :: Gs)) : Hp w (G ++ H) := by
  have := St.sub (As := [G, H]) (Rs := Gs) S
  simpa using this
theorem St.call2 {H : Grp} {As' : List Grp} (S : St w0 K w (G :: H :: Gs)) (T : St w (· ∈ keys (G ++ H)) w1 As') : St w0 K w1 (As' ++ Gs) :=
  St.call (As := [G, H]) (Rs := Gs) S (by simpa using T)
theorem St.hp3 {H I : Grp} (S : St w0 K w (G :: H :: I :: Gs)) : Hp w (G ++ (H ++ I)) := by
  have := St.sub (As := [G, H, I]) (Rs := Gs) S
  simpa using this
theorem St.call3 {H I : Grp} {As' : List Grp} (S : St w0 K w (G :: H :: I :: Gs)) (T : St w (· ∈ keys (G ++ (H ++ I))) w1 As') : St w0 K w1 (As' ++ Gs) :=
  St.call (As := [G, H, I]) (Rs := Gs) S (by simpa using T)
/-- A call that writes nothing of what was there. -/
theorem St.call0 {As' : List Grp} (S : St w0 K w Gs) (T : St w (fun _ => False) w1 As') : St w0 K w1 (As' ++ Gs) := by
  have h := St.call (As := []) (Rs := Gs) S (As' := As') (by
    have e : (fun k => k ∈ keys ([] : List Grp).flatten) = fun _ => False := by funext k; simp [keys]
    rw [e]
    exact T)
  exact h
theorem St.below (S : St w0 K w Gs) (hb : RowKit.Below w.heap.size w w1) : St w0 K w1 Gs := S.ext ⟨hb.size, hb.block⟩ ⟨hb.os, hb.tape, hb.output⟩
theorem St.toBelow (S : St w0 (fun _ => False) w Gs) : RowKit.Below w0.heap.size w0 w := ⟨S.same.os, S.same.tape, S.same.output, S.sz, fun k hk => S.fr k hk (fun h => h)⟩
theorem St.weaken {K' : Nat → Prop} (S : St w0 K w Gs) (h : ∀ k, K k → K' k ∨ w0.heap.size ≤ k) : St w0 K' w Gs :=
  ⟨S.hp, fun k hk => (S.own k hk).elim (fun h1 => h k h1) .inr, fun k hk hn => S.fr k hk (fun h1 => (h k h1).elim hn (fun h2 => by omega)), S.sz, S.same⟩
end

/-! ### 2. Cells -/
/-- cells known of a block: n of them from off on. -/
def cellsAt (w : World) (b off : Nat) (cs : List Value) : Prop := ∀ (j : Nat) (v : Value), cs[j]? = some v → w.cell? ⟨b, off + j, none⟩ = some v
theorem cellsAt.of_blk {w : World} {b off : Nat} {cur : Array Value} {t : TypeId} {fr : Nat × Nat} {cs : List Value} (hb : w.heap[b]? = some (.cells cur t fr)) (h : (cur.toList.drop off).take cs.length = cs) : cellsAt w b off cs := by
  intro j v hj
  rw [cell_of_row w b _ cur t fr hb]
  have hlt : j < cs.length := (List.getElem?_eq_some_iff.1 hj).1
  rw [← h, List.getElem?_take, if_pos hlt, List.getElem?_drop] at hj
  simpa using hj
theorem cellsAt.ext {w w' : World} {b off : Nat} {cs : List Value} (h : cellsAt w b off cs) (hE : Ext w w') : cellsAt w' b off cs := fun j v hj => hE.cell (h j v hj)
end Go.Eng
/- The operations' laws. -/
namespace Go.Eng
open Go

section
variable {P : Program} {N : Nat} {l : Fr} {dst : Option Tmp} {ty : TypeId} {pos : String} {aft : Array Edge} {g : Option (Nat × Bool)}

/-- In whatever world; where the blocks of w stand; in w. -/
def GP (P : Program) (N : Nat) (l : Fr) (o : Oper) (v : Value) : Prop := ∀ w a, Has N l a → (execOp a.eval o).run P w = .ok (.value v) w
def GR (P : Program) (N : Nat) (l : Fr) (w : World) (o : Oper) (v : Value) : Prop := ∀ w', Ext w w' → ∀ a, Has N l a → (execOp a.eval o).run P w' = .ok (.value v) w'
def GE (P : Program) (N : Nat) (l : Fr) (w : World) (o : Oper) (v : Value) (w' : World) : Prop := ∀ a, Has N l a → (execOp a.eval o).run P w = .ok (.value v) w'
def GU (P : Program) (N : Nat) (l : Fr) (w : World) (o : Oper) (w' : World) : Prop := ∀ a, Has N l a → (execOp a.eval o).run P w = .ok .skip w'

theorem GP.r {o : Oper} {v : Value} {w : World} (h : GP P N l o v) : GR P N l w o v := fun w' _ a ha => h w' a ha
theorem GR.e {o : Oper} {v : Value} {w : World} (h : GR P N l w o v) : GE P N l w o v w := fun a ha => h w (Ext.refl _) a ha
theorem GP.e {o : Oper} {v : Value} {w : World} (h : GP P N l o v) : GE P N l w o v w := fun a ha => h w a ha

section
variable {ops : Array Oper} {Q : Exit → Act → World → Prop} {rest : List Oper} {w w' : World} {d : Nat} {op : Op} {es : List En} {i : Nat} {W : List Nat} {v : Value}
theorem WOps.p (h : GP P N l ⟨some d, op, ty, pos, aft, none⟩ v) (hd : Nat.blt d N = true) (k : WOps P N ops Q rest ((d, v) :: l) w) : WOps P N ops Q (⟨some d, op, ty, pos, aft, none⟩ :: rest) l w := WOps.val (fun a ha => h w a ha) hd k
theorem WOps.r (h : GR P N l w ⟨some d, op, ty, pos, aft, none⟩ v) (hd : Nat.blt d N = true) (k : WOps P N ops Q rest ((d, v) :: l) w) : WOps P N ops Q (⟨some d, op, ty, pos, aft, none⟩ :: rest) l w := WOps.val h.e hd k
theorem WOps.e (h : GE P N l w ⟨some d, op, ty, pos, aft, none⟩ v w') (hd : Nat.blt d N = true) (k : WOps P N ops Q rest ((d, v) :: l) w') : WOps P N ops Q (⟨some d, op, ty, pos, aft, none⟩ :: rest) l w := WOps.val h hd k
theorem WOps.u (h : GU P N l w ⟨none, op, ty, pos, aft, none⟩ w') (k : WOps P N ops Q rest l w') : WOps P N ops Q (⟨none, op, ty, pos, aft, none⟩ :: rest) l w := WOps.skip h k
theorem WD.p (hi : ops[i]? = some ⟨some d, op, ty, pos, aft, none⟩) (h : GP P N l ⟨some d, op, ty, pos, aft, none⟩ v) (hd : Nat.blt d N = true) (k : WD P N ops Q es ((d, v) :: l) w) : WD P N ops Q (⟨i, 0, W⟩ :: es) l w := WD.pure hi (fun w a ha => h w a ha) hd k
theorem WD.r (hi : ops[i]? = some ⟨some d, op, ty, pos, aft, none⟩) (h : GR P N l w ⟨some d, op, ty, pos, aft, none⟩ v) (hd : Nat.blt d N = true) (k : WD P N ops Q es ((d, v) :: l) w) : WD P N ops Q (⟨i, 1, W⟩ :: es) l w := WD.read hi h hd k
theorem WD.e (hi : ops[i]? = some ⟨some d, op, ty, pos, aft, none⟩) (h : GE P N l w ⟨some d, op, ty, pos, aft, none⟩ v w') (hd : Nat.blt d N = true) (k : WD P N ops Q es ((d, v) :: l) w') : WD P N ops Q (⟨i, 2, W⟩ :: es) l w := WD.act hi h hd k
theorem WD.u (hi : ops[i]? = some ⟨none, op, ty, pos, aft, none⟩) (h : GU P N l w ⟨none, op, ty, pos, aft, none⟩ w') (k : WD P N ops Q es l w') : WD P N ops Q (⟨i, 2, W⟩ :: es) l w := WD.act0 hi h k
end

/-! ### pure ones -/
theorem G.move {x : Operand} {v : Value} (hx : ev l x = some v) : GP P N l ⟨dst, .move x, ty, pos, aft, g⟩ v := fun w a ha => by
  show Result.ok (Next.value (a.eval x)) w = _
  rw [ha.ev hx]
theorem G.assign {x : Operand} {v : Value} (hx : ev l x = some v) : GP P N l ⟨dst, .assign x, ty, pos, aft, g⟩ v := fun w a ha => by
  show Result.ok (Next.value (a.eval x)) w = _
  rw [ha.ev hx]
theorem G.pick_t {c x y : Operand} {v : Value} (hc : ev l c = some (.bool true)) (hx : ev l x = some v) : GP P N l ⟨dst, .pick c x y, ty, pos, aft, g⟩ v := fun w a ha => by
  unfold execOp
  simp [ha.ev hc, ha.ev hx, asBool]
theorem G.pick_f {c x y : Operand} {v : Value} (hc : ev l c = some (.bool false)) (hy : ev l y = some v) : GP P N l ⟨dst, .pick c x y, ty, pos, aft, g⟩ v := fun w a ha => by
  unfold execOp
  simp [ha.ev hc, ha.ev hy, asBool]
theorem G.extract {x : Operand} {n : Nat} {vs : Array Value} {v : Value} (hx : ev l x = some (.tuple vs)) (hv : vs[n]? = some v) : GP P N l ⟨dst, .extract x n, ty, pos, aft, g⟩ v := fun w a ha => by
  unfold execOp
  simp [ha.ev hx, Instr.extract, hv]
theorem G.nilp {x : Operand} {p : Addr} (hx : ev l x = some (.pointer (some p))) : GP P N l ⟨dst, .nilCheck x, ty, pos, aft, g⟩ (.pointer (some p)) := fun w a ha => by
  unfold execOp
  simp [ha.ev hx]
theorem G.nilf {x : Operand} {f : FuncId} {cs ds : Array Value} (hx : ev l x = some (.func (.func f) cs ds)) : GP P N l ⟨dst, .nilCheck x, ty, pos, aft, g⟩ (.func (.func f) cs ds) := fun w a ha => by
  unfold execOp
  simp [ha.ev hx]

/-- Where a struct's field lies, if it has cells. -/
def fldOff (P : Program) (S : TypeId) (f : Nat) : Option Nat :=
  match P.underlying S with
  | some (.struct fs) => match fs[f]? with
    | some fd => match P.info? fd.type with
      | some i => if i.size = 0 then none else some fd.offset
      | none => none
    | none => none
  | _ => none
theorem G.field {S : TypeId} {x : Operand} {f off b o o' : Nat} (hf : fldOff P S f = some off) (hx : ev l x = some (.pointer (some ⟨b, o, none⟩))) (he : o + off = o') :
    GP P N l ⟨dst, .fieldAddr S x f, ty, pos, aft, g⟩ (.pointer (some ⟨b, o', none⟩)) := fun w a ha => by
  unfold fldOff at hf
  split at hf
  · rename_i fs hS
    split at hf
    · rename_i fd hfd
      split at hf
      · rename_i i hi
        split at hf
        · cases hf
        · rename_i hne
          cases hf
          unfold execOp
          simp [ha.ev hx, Instr.fieldAt, run_underlying hS, hfd, Instr.sureAddr, fieldPlace, sizeOf, typeInfo, hi, hne, Addr.add_lit, he]
      · cases hf
    · cases hf
  · cases hf

/-- The size of a slice type's elements. -/
def slEl (P : Program) (t : TypeId) : Option Nat :=
  match P.underlying t with
  | some (.slice e) => (P.info? e).map (·.size)
  | _ => none
theorem slEl_spec {t : TypeId} {sz : Nat} (h : slEl P t = some sz) : ∃ e i, P.underlying t = some (.slice e) ∧ P.info? e = some i ∧ i.size = sz := by
  unfold slEl at h
  split at h
  · rename_i e he
    obtain ⟨i, hi, hs⟩ := Option.map_eq_some_iff.1 h
    exact ⟨e, i, he, hi, hs⟩
  · cases h
theorem G.index {t : TypeId} {sz : Nat} {x i : Operand} {b o n c j o' : Nat} {k : IntKind} (hT : slEl P t = some sz) (hx : ev l x = some (.slice (some ⟨b, o, none⟩) n c)) (hi : ev l i = some (.int k (j : Int))) (hj : j < n) (he : o + j * sz = o') :
    GP P N l ⟨dst, .indexAddr t x i, ty, pos, aft, g⟩ (.pointer (some ⟨b, o', none⟩)) := fun w a ha => by
  obtain ⟨e, ti, h1, h2, h3⟩ := slEl_spec hT
  unfold execOp
  simp [ha.ev hx, ha.ev hi, Instr.indexAt, run_underlying h1, asIntOf, sizeOf, typeInfo, h2, h3, Addr.add_lit, he, hj]
theorem G.len {t : TypeId} {sz : Nat} {x : Operand} {A : Option Addr} {n c : Nat} (hT : slEl P t = some sz) (hx : ev l x = some (.slice A n c)) :
    GP P N l ⟨dst, .call { callee := .builtin .len, args := #[x], argTypes := #[t] }, ty, pos, aft, g⟩ (.int .i64 (n : Int)) := fun w a ha => by
  obtain ⟨e, ti, h1, h2, h3⟩ := slEl_spec hT
  unfold execOp
  simp [resolve, invoke, builtin, ha.ev hx, Builtin.len_, run_underlying h1, goInt]
def isStr (P : Program) (t : TypeId) : Bool := match P.underlying t with | some .string => true | _ => false
theorem isStr_spec {t : TypeId} (h : isStr P t = true) : P.underlying t = some .string := by
  unfold isStr at h
  split at h
  · assumption
  · cases h
theorem G.lens {t : TypeId} {x : Operand} {s : ByteArray} (hT : isStr P t = true) (hx : ev l x = some (.string s)) :
    GP P N l ⟨dst, .call { callee := .builtin .len, args := #[x], argTypes := #[t] }, ty, pos, aft, g⟩ (.int .i64 (s.size : Int)) := fun w a ha => by
  unfold execOp
  simp [resolve, invoke, builtin, ha.ev hx, Builtin.len_, run_underlying (isStr_spec hT), goInt]

/-! numbers -/
section
variable {t u : TypeId} {x y : Operand} {k k' : IntKind} {m n r : Int} {b : Bool}
theorem G.add (hx : ev l x = some (.int k m)) (hy : ev l y = some (.int k n)) (hr : k.wrap (m + n) = r) : GP P N l ⟨dst, .binOp .add t x y u, ty, pos, aft, g⟩ (.int k r) := fun w a ha => by
  unfold execOp; simp [ha.ev hx, ha.ev hy, eqGuard_at_int, binOp_add, Op.intArith, hr]
theorem G.sub (hx : ev l x = some (.int k m)) (hy : ev l y = some (.int k n)) (hr : k.wrap (m - n) = r) : GP P N l ⟨dst, .binOp .sub t x y u, ty, pos, aft, g⟩ (.int k r) := fun w a ha => by
  unfold execOp; simp [ha.ev hx, ha.ev hy, eqGuard_at_int, binOp_sub, Op.intArith, hr]
theorem G.mul (hx : ev l x = some (.int k m)) (hy : ev l y = some (.int k n)) (hr : k.wrap (m * n) = r) : GP P N l ⟨dst, .binOp .mul t x y u, ty, pos, aft, g⟩ (.int k r) := fun w a ha => by
  unfold execOp; simp [ha.ev hx, ha.ev hy, eqGuard_at_int, binOp_mul, Op.intArith, hr]
theorem G.quo (hx : ev l x = some (.int k m)) (hy : ev l y = some (.int k n)) (h0 : n ≠ 0) (hr : k.wrap (m.tdiv n) = r) : GP P N l ⟨dst, .binOp .quo t x y u, ty, pos, aft, g⟩ (.int k r) := fun w a ha => by
  unfold execOp; simp [ha.ev hx, ha.ev hy, eqGuard_at_int, binOp_quo, Op.intDiv, h0, hr]
theorem G.rem (hx : ev l x = some (.int k m)) (hy : ev l y = some (.int k n)) (h0 : n ≠ 0) (hr : m.tmod n = r) : GP P N l ⟨dst, .binOp .rem t x y u, ty, pos, aft, g⟩ (.int k r) := fun w a ha => by
  unfold execOp; simp [ha.ev hx, ha.ev hy, eqGuard_at_int, binOp_rem, Op.intDiv, h0, hr]
theorem G.neg (hx : ev l x = some (.int k m)) (hr : k.wrap (-m) = r) : GP P N l ⟨dst, .unOp .neg t x, ty, pos, aft, g⟩ (.int k r) := fun w a ha => by
  unfold execOp; simp [ha.ev hx, Op.unary, Op.intArith, hr]
theorem G.lss (hx : ev l x = some (.int k m)) (hy : ev l y = some (.int k n)) (hr : decide (m < n) = b) : GP P N l ⟨dst, .binOp .lss t x y u, ty, pos, aft, g⟩ (.bool b) := fun w a ha => by
  subst hr; unfold execOp; simp [ha.ev hx, ha.ev hy, eqGuard_at_int, binOp_lss]
theorem G.leq (hx : ev l x = some (.int k m)) (hy : ev l y = some (.int k n)) (hr : decide (m ≤ n) = b) : GP P N l ⟨dst, .binOp .leq t x y u, ty, pos, aft, g⟩ (.bool b) := fun w a ha => by
  subst hr; unfold execOp; simp [ha.ev hx, ha.ev hy, eqGuard_at_int, binOp_leq]
theorem G.gtr (hx : ev l x = some (.int k m)) (hy : ev l y = some (.int k n)) (hr : decide (n < m) = b) : GP P N l ⟨dst, .binOp .gtr t x y u, ty, pos, aft, g⟩ (.bool b) := fun w a ha => by
  subst hr; unfold execOp; simp [ha.ev hx, ha.ev hy, eqGuard_at_int, binOp_gtr]
theorem G.geq (hx : ev l x = some (.int k m)) (hy : ev l y = some (.int k n)) (hr : decide (n ≤ m) = b) : GP P N l ⟨dst, .binOp .geq t x y u, ty, pos, aft, g⟩ (.bool b) := fun w a ha => by
  subst hr; unfold execOp; simp [ha.ev hx, ha.ev hy, eqGuard_at_int, binOp_geq]
theorem G.eql (hx : ev l x = some (.int k m)) (hy : ev l y = some (.int k n)) (hr : decide (m = n) = b) : GP P N l ⟨dst, .binOp .eql t x y u, ty, pos, aft, g⟩ (.bool b) := fun w a ha => by
  subst hr; unfold execOp; simp [ha.ev hx, ha.ev hy, eqGuard_at_int, binOp_eql]; rfl
theorem G.neq (hx : ev l x = some (.int k m)) (hy : ev l y = some (.int k n)) (hr : (!decide (m = n)) = b) : GP P N l ⟨dst, .binOp .neq t x y u, ty, pos, aft, g⟩ (.bool b) := fun w a ha => by
  subst hr; unfold execOp; simp [ha.ev hx, ha.ev hy, eqGuard_at_int, binOp_neq]; rfl
theorem G.not {c : Bool} (hx : ev l x = some (.bool c)) (hr : (!c) = b) : GP P N l ⟨dst, .unOp .not t x, ty, pos, aft, g⟩ (.bool b) := fun w a ha => by
  subst hr; unfold execOp; simp [ha.ev hx, Op.unary]
theorem G.min (hx : ev l x = some (.int k m)) (hy : ev l y = some (.int k' n)) (hr : (if n < m then n else m) = r) :
    GP P N l ⟨dst, .call { callee := .builtin .min, args := #[x, y], argTypes := #[t, u] }, ty, pos, aft, g⟩ (.int k r) := fun w a ha => by
  subst hr; unfold execOp; simp [resolve, invoke, builtin, ha.ev hx, ha.ev hy, run_min_int2]
theorem G.max (hx : ev l x = some (.int k m)) (hy : ev l y = some (.int k' n)) (hr : (if n > m then n else m) = r) :
    GP P N l ⟨dst, .call { callee := .builtin .max, args := #[x, y], argTypes := #[t, u] }, ty, pos, aft, g⟩ (.int k r) := fun w a ha => by
  subst hr; unfold execOp; simp [resolve, invoke, builtin, ha.ev hx, ha.ev hy, run_max_int2]
/-- '==' of strings. -/
theorem beq_toList (a b : ByteArray) : (a.toList == b.toList) = decide (a = b) := by
  rw [ByteArray.toList_eq, ByteArray.toList_eq, Bool.eq_iff_iff]
  obtain ⟨⟨x⟩⟩ := a
  obtain ⟨⟨y⟩⟩ := b
  simp
theorem G.eqs {s s' : ByteArray} (hx : ev l x = some (.string s)) (hy : ev l y = some (.string s')) (hr : decide (s = s') = b) : GP P N l ⟨dst, .binOp .eql t x y u, ty, pos, aft, g⟩ (.bool b) := fun w a ha => by
  subst hr; unfold execOp; simp [ha.ev hx, ha.ev hy, eqGuard_at_string, binOp_string_eql, beq_toList]
theorem G.neqs {s s' : ByteArray} (hx : ev l x = some (.string s)) (hy : ev l y = some (.string s')) (hr : (!decide (s = s')) = b) : GP P N l ⟨dst, .binOp .neq t x y u, ty, pos, aft, g⟩ (.bool b) := fun w a ha => by
  subst hr; unfold execOp; simp [ha.ev hx, ha.ev hy, eqGuard_at_string, binOp_string_neq, beq_toList]
/-- whatever is reckoned by a run that is known. -/
theorem G.bin {op : BinOp} {v1 v2 v : Value} (hx : ev l x = some v1) (hy : ev l y = some v2) (hg : ∀ w, (eqGuard op t x y v1 v2).run P w = .ok () w) (hr : ∀ w, (binOp op t v1 v2).run P w = .ok v w) : GP P N l ⟨dst, .binOp op t x y u, ty, pos, aft, g⟩ v := fun w a ha => by
  unfold execOp; simp [ha.ev hx, ha.ev hy, hg, hr]
end

/-! reading -/
def isAggT (P : Program) (t : TypeId) (n : Nat) : Bool := match P.underlying t, P.info? t with
  | some (.struct _), some i => i.size == n
  | some (.array ..), some i => i.size == n
  | _, _ => false
theorem isAgg_run {t : TypeId} {n : Nat} (h : isAggT P t n = true) (w : World) : (isAgg t).run P w = .ok true w ∧ (sizeOf t).run P w = .ok n w := by
  unfold isAggT at h
  split at h
  · rename_i hu hi
    simp only [beq_iff_eq] at h
    exact ⟨by simp [isAgg, run_underlying hu], by simp [sizeOf, typeInfo, hi, h]⟩
  · rename_i hu hi
    simp only [beq_iff_eq] at h
    exact ⟨by simp [isAgg, run_underlying hu], by simp [sizeOf, typeInfo, hi, h]⟩
  · cases h
theorem run_loadAgg {w : World} {t : TypeId} {b off : Nat} {cs : List Value} (h : isAggT P t cs.length = true) (hc : cellsAt w b off cs) : (loadVar t ⟨b, off, none⟩).run P w = .ok (.agg cs.toArray) w := by
  obtain ⟨h1, h2⟩ := isAgg_run h w
  have h3 := run_loadCells_list (P := P) w ⟨b, off, none⟩ cs (fun j v hj => by rw [Addr.add_lit]; exact hc j v hj)
  simp [loadVar, h1, h2, h3]
theorem G.loada {w : World} {t : TypeId} {x : Operand} {b off : Nat} {cs : List Value} (h : isAggT P t cs.length = true) (hx : ev l x = some (.pointer (some ⟨b, off, none⟩))) (hc : cellsAt w b off cs) :
    GR P N l w ⟨dst, .load t x, ty, pos, aft, g⟩ (.agg cs.toArray) := fun w' hE a ha => by
  unfold execOp; simp [ha.ev hx, Instr.loadAt, Instr.sureAddr, run_loadAgg h (hc.ext hE)]
def isOneT (P : Program) (t : TypeId) : Bool := match P.underlying t with
  | some (.struct _) => false
  | some (.array ..) => false
  | some _ => true
  | none => false
theorem isOne_run {t : TypeId} (h : isOneT P t = true) (w : World) : (isAgg t).run P w = .ok false w := by
  unfold isOneT at h
  split at h
  · cases h
  · cases h
  · rename_i d _ _ hu
    unfold isAgg
    cases d <;> simp_all [run_underlying]
  · cases h
theorem G.load1 {w : World} {t : TypeId} {x : Operand} {p : Addr} {v : Value} (h : isOneT P t = true) (hx : ev l x = some (.pointer (some p))) (hc : w.cell? p = some v) :
    GR P N l w ⟨dst, .load t x, ty, pos, aft, g⟩ v := fun w' hE a ha => by
  unfold execOp; simp [ha.ev hx, Instr.loadAt, Instr.sureAddr, loadVar, isOne_run h, hE.cell hc]

/-! building -/
theorem G.build {t : TypeId} {ps : Array (Nat × Operand)} {vs : List (Nat × Value)} {cells : Array Value} (hv : ∀ a, Has N l a → (ps.map fun (i, x) => (i, a.eval x)).toList = vs) (hb : P.built t vs = some cells) :
    GP P N l ⟨dst, .build t ps, ty, pos, aft, g⟩ (.agg cells) := fun w a ha => by
  unfold execOp
  have := run_build (P := P) w t (ps.map fun (i, x) => (i, a.eval x)) cells (by rw [hv a ha]; exact hb)
  simp only [Sem.run_bind, this, Result.andThen_ok, Sem.run_pure]
/-- The parts of a literal. -/
def evp (l : Fr) : List (Nat × Operand) → List (Nat × Value) → Prop
  | [], vs => vs = []
  | (i, x) :: ps, vs => ∃ v r, vs = (i, v) :: r ∧ ev l x = some v ∧ evp l ps r
theorem evp_nil : evp l [] [] := rfl
theorem evp_cons {i : Nat} {x : Operand} {ps : List (Nat × Operand)} {v : Value} {vs : List (Nat × Value)} (h : ev l x = some v) (hs : evp l ps vs) : evp l ((i, x) :: ps) ((i, v) :: vs) := ⟨v, vs, rfl, h, hs⟩
theorem evp_spec : ∀ {ps : List (Nat × Operand)} {vs : List (Nat × Value)}, evp l ps vs → ∀ a, Has N l a → (ps.toArray.map fun (i, x) => (i, a.eval x)).toList = vs
  | [], _, hv, a, _ => by cases hv; simp
  | (i, x) :: ps, _, hv, a, ha => by
    obtain ⟨v, r, rfl, h1, h2⟩ := hv
    have := evp_spec h2 a ha
    simp only [List.map_toArray] at this ⊢
    simp [ha.ev h1, this]
end
end Go.Eng
/- Operations that act on memory; rows. -/
namespace Go.Eng
open Go

/-! ### 1. Slices that are read -/
def Rd (w : World) (A : Option Addr) (n sz : Nat) (xs : List Value) : Prop := xs.length = n * sz ∧ (0 < n → ∃ b off, A = some ⟨b, off, none⟩ ∧ cellsAt w b off xs)
theorem Rd.ext {w w' : World} {A : Option Addr} {n sz : Nat} {xs : List Value} (h : Rd w A n sz xs) (hE : Ext w w') : Rd w' A n sz xs :=
  ⟨h.1, fun hn => by obtain ⟨b, off, e, hc⟩ := h.2 hn; exact ⟨b, off, e, hc.ext hE⟩⟩
theorem Rd.nil (w : World) (A : Option Addr) (sz : Nat) : Rd w A 0 sz [] := ⟨by simp, fun h => absurd h (by omega)⟩
theorem Rd.empty {w : World} {A : Option Addr} {sz : Nat} {xs : List Value} (h : Rd w A 0 sz xs) : xs = [] := List.eq_nil_of_length_eq_zero (by simpa using h.1)
theorem cellsAt.sub {w : World} {b off : Nat} {xs : List Value} (h : cellsAt w b off xs) (i n : Nat) : cellsAt w b (off + i) ((xs.drop i).take n) := by
  intro j v hj
  rw [List.getElem?_take] at hj
  split at hj
  · rw [List.getElem?_drop] at hj
    rw [Nat.add_assoc]
    exact h _ v hj
  · cases hj
/-- The cells of element j. -/
theorem Rd.elem {w : World} {A : Option Addr} {n sz j : Nat} {xs : List Value} (h : Rd w A n sz xs) (hj : j < n) : ∃ b off, A = some ⟨b, off, none⟩ ∧ cellsAt w b (off + j * sz) ((xs.drop (j * sz)).take sz) := by
  obtain ⟨b, off, e, hc⟩ := h.2 (by omega)
  exact ⟨b, off, e, hc.sub _ _⟩

theorem run_firstRd {P : Program} {w : World} {A : Option Addr} {n sz c : Nat} {xs : List Value} (h : Rd w A n sz xs) : (Builtin.firstCells sz n (.slice A n c)).run P w = .ok xs.toArray w := by
  rcases Nat.eq_zero_or_pos n with h0 | h0
  · subst h0
    have := h.empty
    subst this
    cases A with
    | none => simp [Builtin.firstCells]
    | some a =>
      have := run_firstCells_some (P := P) w sz 0 a 0 c [] (by simp) (by simp)
      simpa using this
  · obtain ⟨b, off, rfl, hc⟩ := h.2 h0
    exact run_firstCells_some (P := P) w sz n ⟨b, off, none⟩ n c xs h.1 (fun j v hj => by rw [Addr.add_lit]; exact hc j v hj)

/-! ### 2. Boxes, variables, stores -/
section
variable {P : Program} {w0 w : World} {K : Nat → Prop} {Gs : List Grp} {G : Grp}
theorem St.box (S : St w0 K w Gs) (P : Program) (T : TypeId) (v : Value) : ∃ b w1,
    (∀ {N : Nat} {l : Fr} {x : Operand} {dst : Option Tmp} {ty : TypeId} {pos : String} {aft : Array Edge} {g : Option (Nat × Bool)}, ev l x = some v → GE P N l w ⟨dst, .box T x, ty, pos, aft, g⟩ (.pointer (some ⟨b, 0, none⟩)) w1) ∧
    St w0 K w1 ([(b, .cells v.cells T)] :: Gs) ∧ Ext w w1 ∧ w.heap.size ≤ b := by
  refine ⟨w.heap.size, w.alloc (.cells v.cells T), fun hx a ha => ?_, S.alloc _, Ext.alloc _ _, Nat.le_refl _⟩
  unfold execOp
  simp [ha.ev hx, Instr.box, newVar, newRow]
def zeroOf (P : Program) (T : TypeId) : Option Value := (P.info? T).bind (·.zero)
theorem run_zero {T : TypeId} {z : Value} (h : zeroOf P T = some z) (w : World) : (zeroValue T).run P w = .ok z w := by
  obtain ⟨i, hi, hz⟩ := Option.bind_eq_some_iff.1 h
  simp [zeroValue, typeInfo, hi, hz]
theorem St.var (S : St w0 K w Gs) {T : TypeId} {z : Value} (hz : zeroOf P T = some z) : ∃ b w1,
    (∀ {N : Nat} {l : Fr} {dst : Option Tmp} {ty : TypeId} {pos : String} {aft : Array Edge} {g : Option (Nat × Bool)}, GE P N l w ⟨dst, .alloc T, ty, pos, aft, g⟩ (.pointer (some ⟨b, 0, none⟩)) w1) ∧
    St w0 K w1 ([(b, .cells z.cells T)] :: Gs) ∧ Ext w w1 ∧ w.heap.size ≤ b := by
  refine ⟨w.heap.size, w.alloc (.cells z.cells T), fun a ha => ?_, S.alloc _, Ext.alloc _ _, Nat.le_refl _⟩
  unfold execOp
  simp [Instr.alloc, run_zero hz, newVar, newRow]

theorem same_setRow (w : World) (g : Nat) (cs : Array Value) : Same w (w.setRow g cs) := ⟨rfl, rfl, rfl⟩
theorem St.setRow (S : St w0 K w Gs) (k : Nat) {b : Nat} {cur : Array Value} {t : TypeId} (hk : Gs[k]? = some [(b, .cells cur t (0, 0))]) (cur' : Array Value) :
    St w0 K (w.setRow b cur') (Gs.set k [(b, .cells cur' t (0, 0))]) := by
  refine S.updAt k hk (fun c o hc => ?_) (by simp [keys]) (fun c hc => .inl (by simpa [keys] using hc)) (fun c _ hn => setRow_other w b c cur' (fun e => hn (by simp [keys, e]))) (by simp) (same_setRow _ _ _)
  simp only [List.mem_singleton, Prod.mk.injEq] at hc
  obtain ⟨rfl, rfl⟩ := hc
  exact setRow_heap w c cur cur' t (0, 0) (S.blk k hk)
def sizeT (P : Program) (T : TypeId) : Option Nat := (P.info? T).map (·.size)
theorem sizeT_run {T : TypeId} {n : Nat} (h : sizeT P T = some n) (w : World) : (sizeOf T).run P w = .ok n w := by
  obtain ⟨i, hi, hs⟩ := Option.map_eq_some_iff.1 h
  simp [sizeOf, typeInfo, hi, hs]
/-- The cells cs laid over cur from off on. -/
def over (cur : Array Value) (off : Nat) (cs : List Value) : Array Value := (cur.toList.take off ++ cs ++ cur.toList.drop (off + cs.length)).toArray
theorem run_storeOver {w : World} {T : TypeId} {v : Value} {b off : Nat} {cur : Array Value} {t : TypeId} (hb : w.heap[b]? = some (.cells cur t (0, 0))) (hs : sizeT P T = some v.cells.size) (hfit : off + v.cells.size ≤ cur.size) (h1 : ∀ u ∈ v.cells.toList, u.oneCell' = true) :
    (storeVar T ⟨b, off, none⟩ v).run P w = .ok () (w.setRow b (over cur off v.cells.toList)) := by
  have h := run_storeCells_at P b off t v.cells.toList 0 cur w hb (by simpa using hfit) h1
  simp only [Nat.add_zero] at h
  simp only [storeVar, Sem.run_bind, sizeT_run hs, Result.andThen_ok, ne_eq, not_true, if_false, h]
  rfl
theorem St.store (S : St w0 K w Gs) (k : Nat) (T : TypeId) (v : Value) {b off : Nat} {cur cur' : Array Value} {t : TypeId} (hk : Gs[k]? = some [(b, .cells cur t (0, 0))]) (hs : sizeT P T = some v.cells.size)
    (hfit' : Nat.ble (off + v.cells.size) cur.size = true) (h1' : v.cells.toList.all Value.oneCell' = true) (hc : over cur off v.cells.toList = cur') : ∃ w1,
    (∀ {N : Nat} {l : Fr} {x y : Operand} {dst : Option Tmp} {ty : TypeId} {pos : String} {aft : Array Edge} {g : Option (Nat × Bool)}, ev l x = some (.pointer (some ⟨b, off, none⟩)) → ev l y = some v → GU P N l w ⟨dst, .store T x y, ty, pos, aft, g⟩ w1) ∧
    St w0 K w1 (Gs.set k [(b, .cells cur' t (0, 0))]) := by
  subst hc
  have hfit : off + v.cells.size ≤ cur.size := by simpa [Nat.ble_eq] using hfit'
  have h1 : ∀ u ∈ v.cells.toList, u.oneCell' = true := List.all_eq_true.1 h1'
  refine ⟨_, fun hx hy a ha => ?_, S.setRow k hk _⟩
  unfold execOp
  simp [ha.ev hx, ha.ev hy, Instr.storeAt, Instr.sureAddr, run_storeOver (S.blk k hk) hs hfit h1]

/-! ### 3. Slice literals -/
def sliceLit (P : Program) (t : TypeId) (n : Nat) (vs : List (Nat × Value)) : Option (TypeId × Array Value) :=
  match P.underlying t with
  | some (.slice e) => match P.info? e with
    | some i => if n * i.size > 2 ^ 24 then none else
      match (if n * i.size = 0 then some #[] else i.zero.map (·.cells)) with
      | some z => (Instr.fill (fun k => some (k * i.size, i.size)) ((Array.range (n * i.size)).map (z[· % z.size]!)) vs).map fun cs => (e, cs)
      | none => none
    | none => none
  | _ => none
theorem run_sliceLit {t e : TypeId} {n : Nat} {vs : List (Nat × Value)} {cs : Array Value} (h : sliceLit P t n vs = some (e, cs)) (w : World) (ps : Array (Nat × Value)) (hp : ps.toList = vs) :
    (Instr.buildSlice t n ps).run P w = .ok (.slice (some ⟨w.heap.size, 0, none⟩) n n) (w.alloc (.cells cs e)) := by
  unfold sliceLit at h
  split at h
  · rename_i e' hu
    split at h
    · rename_i i hi
      split at h
      · cases h
      · rename_i h24
        split at h
        · rename_i z hz
          obtain ⟨cs', hf, he⟩ := Option.map_eq_some_iff.1 h
          cases he
          subst hp
          unfold Instr.buildSlice
          by_cases h0 : n * i.size = 0
          · rw [if_pos h0] at hz
            cases hz
            simp [run_underlying hu, sizeOf, typeInfo, hi, h0, newRow] at hf ⊢
            simp [hf]
          · rw [if_neg h0] at hz
            obtain ⟨zv, hzv, rfl⟩ := Option.map_eq_some_iff.1 hz
            simp [run_underlying hu, sizeOf, typeInfo, hi, h24, h0, zeroValue, hzv, hf, newRow]
        · cases h
    · cases h
  · cases h
theorem St.lit (S : St w0 K w Gs) {t e : TypeId} {n : Nat} {vs : List (Nat × Value)} {cs : Array Value} (h : sliceLit P t n vs = some (e, cs)) : ∃ b w1,
    (∀ {N : Nat} {l : Fr} {ps : List (Nat × Operand)} {dst : Option Tmp} {ty : TypeId} {pos : String} {aft : Array Edge} {g : Option (Nat × Bool)}, evp l ps vs → GE P N l w ⟨dst, .buildSlice t n ps.toArray, ty, pos, aft, g⟩ (.slice (some ⟨b, 0, none⟩) n n) w1) ∧
    St w0 K w1 ([(b, .cells cs e)] :: Gs) ∧ Ext w w1 ∧ w.heap.size ≤ b := by
  refine ⟨w.heap.size, w.alloc (.cells cs e), fun hx a ha => ?_, S.alloc _, Ext.alloc _ _, Nat.le_refl _⟩
  unfold execOp
  have := run_sliceLit (P := P) h w (List.toArray _ |>.map fun (i, x) => (i, a.eval x)) (evp_spec hx a ha)
  dsimp only
  simp only [Sem.run_bind, this, Result.andThen_ok, Sem.run_pure]

/-! ### 4. Rows -/
def RowG (e : TypeId) (sz : Nat) (v : Value) (n : Nat) (xs : List Value) (G : Grp) : Prop :=
  xs.length = n * sz ∧
  ((∃ A, v = .slice A 0 0 ∧ n = 0 ∧ G = []) ∨
   ∃ b off cap cur, v = .slice (some ⟨b, off, none⟩) n cap ∧ 0 < cap ∧ G = [(b, .cells cur e (0, 0))] ∧ n ≤ cap ∧ cap ≤ maxLen ∧ off + cap * sz ≤ cur.size ∧ (cur.toList.drop off).take (n * sz) = xs)
theorem RowG.nil (e : TypeId) (sz : Nat) : RowG e sz (.slice none 0 0) 0 [] [] := ⟨by simp, .inl ⟨none, rfl, rfl, rfl⟩⟩
theorem RowG.shape {e : TypeId} {sz n : Nat} {v : Value} {xs : List Value} {G : Grp} (h : RowG e sz v n xs G) : ∃ A c, v = .slice A n c ∧ n ≤ c ∧ c ≤ maxLen := by
  rcases h.2 with ⟨A, rfl, rfl, _⟩ | ⟨b, off, cap, cur, rfl, _, _, h1, h2, _⟩
  · exact ⟨A, 0, rfl, Nat.le_refl _, by simp [maxLen]⟩
  · exact ⟨_, cap, rfl, h1, h2⟩
theorem RowG.rd {e : TypeId} {sz n : Nat} {A : Option Addr} {m c : Nat} {xs : List Value} {G : Grp} (h : RowG e sz (.slice A m c) n xs G) {w : World} (hG : ∀ b o, (b, o) ∈ G → w.heap[b]? = some o) : m = n ∧ Rd w A n sz xs := by
  obtain ⟨hl, h2⟩ := h
  rcases h2 with ⟨A', hv, rfl, _⟩ | ⟨b, off, cap, cur, hv, _, rfl, _, _, _, ht⟩
  · cases hv
    exact ⟨rfl, hl, fun h => absurd h (by omega)⟩
  · cases hv
    exact ⟨rfl, hl, fun _ => ⟨b, off, rfl, cellsAt.of_blk (hG b _ (List.mem_singleton.2 rfl)) (by rw [hl]; exact ht)⟩⟩

/-- A row's bytes. -/
structure Elt (P : Program) (t e : TypeId) (sz bytes : Nat) : Prop where
  u : P.underlying t = some (.slice e)
  i : ∃ i z, P.info? e = some i ∧ i.zero = some z ∧ i.size = sz ∧ i.bytes = bytes ∧ z.cells.size = sz

theorem run_append_row {t e ty : TypeId} {sz bytes : Nat} (hT : Elt P t e sz bytes) {A B : Option Addr} {n cap m c : Nat} {xs news : List Value} {G : Grp}
    (h : RowG e sz (.slice A n cap) n xs G) (hG : ∀ b o, (b, o) ∈ G → w.heap[b]? = some o) (hr : Rd w B m sz news) (h1 : ∀ u ∈ news, u.oneCell' = true)
    (h63 : n + m ≤ maxLen) (hbytes : (n + m) * bytes ≤ 140737488355328) :
    ∃ A' cap' G' w1, (Builtin.append_ #[t, t] ty #[.slice A n cap, .slice B m c]).run P w = .ok (.slice A' (n + m) cap') w1 ∧ RowG e sz (.slice A' (n + m) cap') (n + m) (xs ++ news) G' ∧
      (∀ b o, (b, o) ∈ G' → w1.heap[b]? = some o) ∧ (keys G').Nodup ∧ (∀ b, b ∈ keys G' → b ∈ keys G ∨ w.heap.size ≤ b) ∧
      (∀ b, b < w.heap.size → b ∉ keys G → w1.heap[b]? = w.heap[b]?) ∧ w.heap.size ≤ w1.heap.size ∧ Same w w1 := by
  obtain ⟨hu, i, z, hi, hz, hsz, hby, hzs⟩ := hT
  have hrd := (h.rd hG).2
  have hlen : (xs ++ news).length = (n + m) * sz := by rw [List.length_append, h.1, hr.1, Nat.add_mul]
  have hsmall : n + m ≤ 9223372036854775807 := by simp only [maxLen] at h63; omega
  by_cases hroom : n + m ≤ cap
  · -- in place
    obtain ⟨hxl, h2⟩ := h
    rcases h2 with ⟨A', hv, rfl, rfl⟩ | ⟨b, off, cap', cur, hv, hpos, rfl, hnc, hcm, hfit, ht⟩
    · cases hv
      have hm : m = 0 := by omega
      subst hm
      have hx : xs = [] := hrd.empty
      have hn : news = [] := hr.empty
      subst hx hn
      have hf := run_firstRd (P := P) (c := c) hr
      refine ⟨A, 0, [], w, ?_, ⟨by simp, .inl ⟨A, rfl, rfl, rfl⟩⟩, by simp, by simp [keys], by simp [keys], fun _ _ _ => rfl, Nat.le_refl _, Same.refl _⟩
      cases A <;> simp [Builtin.append_, run_underlying hu, sizeOf, typeInfo, hi, hsz, Builtin.lenOf, hf, storeCells]
    · cases hv
      have hb := hG b _ (List.mem_singleton.2 rfl)
      have hf := run_firstRd (P := P) (c := c) hr
      have hle : off + n * sz + news.length ≤ cur.size := by
        rw [hr.1, Nat.add_assoc, ← Nat.add_mul]
        exact Nat.le_trans (Nat.add_le_add_left (Nat.mul_le_mul_right _ hroom) _) hfit
      have hst := run_storeCells_at P b (off + n * sz) e news 0 cur w hb (by simpa using hle) h1
      simp only [Nat.add_zero] at hst
      refine ⟨some ⟨b, off, none⟩, cap, [(b, .cells (over cur (off + n * sz) news) e (0, 0))], w.setRow b (over cur (off + n * sz) news), ?_, ?_, ?_, by simp [keys], fun b' hb' => .inl (by simpa [keys] using hb'), ?_, by simp, same_setRow _ _ _⟩
      · simp [Builtin.append_, run_underlying hu, sizeOf, typeInfo, hi, hsz, Builtin.lenOf, hroom, hf, Addr.add_lit, hst, over]
      · refine ⟨hlen, .inr ⟨b, off, cap, _, rfl, hpos, rfl, hroom, hcm, ?_, ?_⟩⟩
        · have : (over cur (off + n * sz) news).size = cur.size := by
            simp [over]; omega
          rw [this]; exact hfit
        · have hnl : n * sz = xs.length := hxl.symm
          have hcl : off + n * sz ≤ cur.toList.length := by simp; omega
          simp only [over, List.append_assoc]
          rw [List.drop_append_of_le_length (by simp; omega), List.drop_take, show off + n * sz - off = n * sz by omega, ht, ← hlen, ← List.append_assoc]
          exact List.take_left
      · intro b' o hb'
        simp only [List.mem_singleton, Prod.mk.injEq] at hb'
        obtain ⟨rfl, rfl⟩ := hb'
        exact setRow_heap w b' cur _ e (0, 0) hb
      · intro b' _ hn
        exact setRow_other w b b' _ (fun he => hn (by simp [keys, he]))
  · have hg : cap < n + m := by omega
    have hfo := run_firstRd (P := P) (w := w.drew) (c := cap) (hrd.ext (Ext.drew w))
    have hfn := run_firstRd (P := P) (w := w.drew) (c := c) (hr.ext (Ext.drew w))
    have hge := grownCap_ge w (n + m) cap e
    have hcm := grownCap_le_maxLen w (n + m) cap e h63
    have h48 : Builtin.nextslicecap (n + m) cap * bytes ≤ 281474976710656 := growslice_fits hg hbytes
    have hn : ¬ (n + m ≤ cap) := by omega
    have h63' : ¬ (9223372036854775807 < ((n : Int) + (m : Int))) := by omega
    have h48' : ¬ (281474976710656 < Builtin.nextslicecap (n + m) cap * bytes) := by omega
    refine ⟨some ⟨w.heap.size, 0, none⟩, grownCap w (n + m) cap e, [(w.heap.size, .cells (xs.toArray ++ news.toArray ++ Builtin.zeroCells z.cells (grownCap w (n + m) cap e - (n + m))) e (0, 0))],
      w.drew.alloc (.cells (xs.toArray ++ news.toArray ++ Builtin.zeroCells z.cells (grownCap w (n + m) cap e - (n + m))) e), ?_, ?_, ?_, by simp [keys], fun b hb => .inr (by simp [keys] at hb; omega), ?_, by simp, ⟨rfl, rfl, rfl⟩⟩
    · simp [Builtin.append_, run_underlying hu, sizeOf, typeInfo, zeroValue, hi, hz, hsz, hby, Builtin.lenOf, hn, h63', h48', Question.forced, hfo, hfn, newRow, grownCap]
      simp only [← List.append_toArray, Array.append_assoc]
    · refine ⟨hlen, .inr ⟨w.heap.size, 0, _, _, rfl, by omega, rfl, hge, hcm, ?_, ?_⟩⟩
      · simp only [Array.size_append, List.size_toArray, size_zeroCells, hzs, h.1, hr.1, ← Nat.add_mul]
        rw [show n + m + (grownCap w (n + m) cap e - (n + m)) = grownCap w (n + m) cap e by omega]
        omega
      · simp only [List.drop_zero, Array.toList_append, List.append_assoc]
        rw [← List.append_assoc, ← hlen]
        exact List.take_left
    · intro b o hb
      simp only [List.mem_singleton, Prod.mk.injEq] at hb
      obtain ⟨rfl, rfl⟩ := hb
      exact heap_alloc_new w.drew _
    · intro b hb _
      exact (Ext.alloc w.drew _).2 b hb

theorem St.append (S : St w0 K w Gs) (k : Nat) (hk : Gs[k]? = some G) {t e : TypeId} {sz bytes : Nat} (hT : Elt P t e sz bytes) {A B : Option Addr} {n cap m c : Nat} {xs news : List Value}
    (h : RowG e sz (.slice A n cap) n xs G) (hr : Rd w B m sz news) (h1 : ∀ u ∈ news, u.oneCell' = true) (h63 : n + m ≤ maxLen) (hbytes : (n + m) * bytes ≤ 140737488355328) :
    ∃ A' cap' G' w1, (∀ {N : Nat} {l : Fr} {x y : Operand} {dst : Option Tmp} {ty : TypeId} {pos : String} {aft : Array Edge} {g : Option (Nat × Bool)}, ev l x = some (.slice A n cap) → ev l y = some (.slice B m c) →
        GE P N l w ⟨dst, .call { callee := .builtin .append, args := #[x, y], argTypes := #[t, t] }, ty, pos, aft, g⟩ (.slice A' (n + m) cap') w1) ∧
      RowG e sz (.slice A' (n + m) cap') (n + m) (xs ++ news) G' ∧ St w0 K w1 (Gs.set k G') := by
  have key := fun ty => run_append_row (P := P) (w := w) (ty := ty) (c := c) hT h (fun b o hb => S.grp k hk hb) hr h1 h63 hbytes
  obtain ⟨A', cap', G', w1, hrun, hrow, h2, h3, h4, h5, h6, h7⟩ := key 0
  refine ⟨A', cap', G', w1, fun hx hy a ha => ?_, hrow, S.updAt k hk h2 h3 h4 h5 h6 h7⟩
  unfold execOp
  have hrun' : ∀ ty, (Builtin.append_ #[t, t] ty #[.slice A n cap, .slice B m c]).run P w = .ok (.slice A' (n + m) cap') w1 := fun ty => hrun
  simp [resolve, invoke, builtin, ha.ev hx, ha.ev hy, hrun']
end
end Go.Eng
/- Slicing; calls. -/
namespace Go.Eng
open Go

section
variable {P : Program} {N : Nat} {l : Fr} {dst : Option Tmp} {ty : TypeId} {pos : String} {aft : Array Edge} {g : Option (Nat × Bool)}
theorem slEl_size {e : TypeId} {i : TypeInfo} {sz : Nat} (h2 : P.info? e = some i) (h3 : i.size = sz) (w : World) : (sizeOf e).run P w = .ok sz w := by simp [sizeOf, typeInfo, h2, h3]
theorem map_add_zero (A : Option Addr) (sz : Nat) : A.map (·.add (0 * sz)) = A := by cases A <;> simp [Addr.add]
section
variable {t : TypeId} {sz : Nat} {x y z y2 : Operand} {A : Option Addr} {n c h lo m : Nat} {k k' k2 : IntKind}
theorem elem_of {e : TypeId} (h1 : P.underlying t = some (.slice e)) : P.underlying t = some (.slice (P.elem t)) ∧ P.elem t = e := by
  have : P.elem t = e := by simp [Program.elem, h1]
  exact ⟨by rw [this]; exact h1, this⟩
theorem G.slice_h (hT : slEl P t = some sz) (hx : ev l x = some (.slice A n c)) (hy : ev l y = some (.int k (h : Int))) (hle : h ≤ c) :
    GP P N l ⟨dst, .slice t x none (some y) none, ty, pos, aft, g⟩ (.slice A h c) := fun w a ha => by
  obtain ⟨e, ti, h1, h2, h3⟩ := slEl_spec hT
  obtain ⟨hu, he⟩ := elem_of h1
  have hr := run_slice_h (P := P) w t A n c hu k (h : Int) (by omega) (by omega)
  rw [he, slEl_size h2 h3] at hr
  unfold execOp
  simp only [ha.ev hx, ha.ev hy, Option.map_some, Option.map_none, run_sliceAt_slice (P := P) w t _ _ _ _ hu, Sem.run_bind, hr, Result.andThen_ok, Sem.run_pure, sliced, Int.toNat_natCast, map_add_zero, ite_self, Nat.sub_zero]
theorem G.slice_l (hT : slEl P t = some sz) (hx : ev l x = some (.slice A n c)) (hy : ev l y = some (.int k (lo : Int))) (hle : lo ≤ n) :
    GP P N l ⟨dst, .slice t x (some y) none none, ty, pos, aft, g⟩ (.slice (if c = lo then A else A.map (·.add (lo * sz))) (n - lo) (c - lo)) := fun w a ha => by
  obtain ⟨e, ti, h1, h2, h3⟩ := slEl_spec hT
  obtain ⟨hu, he⟩ := elem_of h1
  have hr := run_slice_l (P := P) w t A n c hu k (lo : Int) (by omega) (by omega)
  rw [he, slEl_size h2 h3] at hr
  unfold execOp
  simp only [ha.ev hx, ha.ev hy, Option.map_some, Option.map_none, run_sliceAt_slice (P := P) w t _ _ _ _ hu, Sem.run_bind, hr, Result.andThen_ok, Sem.run_pure, sliced, Int.toNat_natCast]
theorem G.slice_lh (hT : slEl P t = some sz) (hx : ev l x = some (.slice A n c)) (hy : ev l y = some (.int k (lo : Int))) (hz : ev l z = some (.int k' (h : Int))) (hlo : lo ≤ h) (hle : h ≤ c) :
    GP P N l ⟨dst, .slice t x (some y) (some z) none, ty, pos, aft, g⟩ (.slice (if c = lo then A else A.map (·.add (lo * sz))) (h - lo) (c - lo)) := fun w a ha => by
  obtain ⟨e, ti, h1, h2, h3⟩ := slEl_spec hT
  obtain ⟨hu, he⟩ := elem_of h1
  have hr := run_slice_lh (P := P) w t A n c hu k k' (lo : Int) (h : Int) (by omega) (by omega) (by omega)
  rw [he, slEl_size h2 h3] at hr
  unfold execOp
  simp only [ha.ev hx, ha.ev hy, ha.ev hz, Option.map_some, Option.map_none, run_sliceAt_slice (P := P) w t _ _ _ _ hu, Sem.run_bind, hr, Result.andThen_ok, Sem.run_pure, sliced, Int.toNat_natCast]
theorem G.slice_hm (hT : slEl P t = some sz) (hx : ev l x = some (.slice A n c)) (hy : ev l y = some (.int k (h : Int))) (hz : ev l z = some (.int k' (m : Int))) (hhm : h ≤ m) (hle : m ≤ c) :
    GP P N l ⟨dst, .slice t x none (some y) (some z), ty, pos, aft, g⟩ (.slice A h m) := fun w a ha => by
  obtain ⟨e, ti, h1, h2, h3⟩ := slEl_spec hT
  obtain ⟨hu, he⟩ := elem_of h1
  have hr := run_slice_hm (P := P) w t A n c hu k k' (h : Int) (m : Int) (by omega) (by omega) (by omega)
  rw [he, slEl_size h2 h3] at hr
  unfold execOp
  simp only [ha.ev hx, ha.ev hy, ha.ev hz, Option.map_some, Option.map_none, run_sliceAt_slice (P := P) w t _ _ _ _ hu, Sem.run_bind, hr, Result.andThen_ok, Sem.run_pure, sliced, Int.toNat_natCast, map_add_zero, ite_self, Nat.sub_zero]
/-- 's == nil' -/
theorem G.eq_nil {b : Bool} {ty2 e : TypeId} (hu : P.underlying t = some (.slice e)) (hx : ev l x = some (.slice A n c)) (hy : ev l y = some (.slice none 0 0)) (hb : (decide (A = none)) = b) :
    GP P N l ⟨dst, .binOp .eql t x y ty2, ty, pos, aft, g⟩ (.bool b) := fun w a ha => by
  subst hb
  unfold execOp
  have hr := Lib.run_eql_slice_nil (P := P) w t e A n c 0 0 hu
  simp only [ha.ev hx, ha.ev hy, eqGuard_at_slice, Sem.run_bind, Sem.run_pure, Result.andThen_ok, hr]
  cases A <;> rfl
end
end

theorem Rd.drop {w : World} {A : Option Addr} {n c sz : Nat} {xs : List Value} (h : Rd w A n sz xs) {lo : Nat} (hlo : lo ≤ n) (hc : n ≤ c) :
    Rd w (if c = lo then A else A.map (·.add (lo * sz))) (n - lo) sz (xs.drop (lo * sz)) := by
  refine ⟨by rw [List.length_drop, h.1, Nat.sub_mul], fun hn => ?_⟩
  obtain ⟨b, off, rfl, hcell⟩ := h.2 (by omega)
  rw [if_neg (by omega)]
  refine ⟨b, off + lo * sz, by simp [Addr.add_lit], fun j v hj => ?_⟩
  rw [List.getElem?_drop] at hj
  rw [Nat.add_assoc]
  exact hcell _ v hj
theorem Rd.take {w : World} {A : Option Addr} {n sz : Nat} {xs : List Value} (h : Rd w A n sz xs) {m : Nat} (hm : m ≤ n) : Rd w A m sz (xs.take (m * sz)) := by
  refine ⟨by rw [List.length_take, h.1]; exact Nat.min_eq_left (Nat.mul_le_mul_right _ hm), fun hn => ?_⟩
  obtain ⟨b, off, rfl, hcell⟩ := h.2 (by omega)
  refine ⟨b, off, rfl, fun j v hj => ?_⟩
  rw [List.getElem?_take] at hj
  split at hj
  · exact hcell j v hj
  · cases hj

/-- x[:h:m]: what it owns. -/
theorem RowG.cut {e : TypeId} {sz n c : Nat} {A : Option Addr} {xs : List Value} {G : Grp} (h : RowG e sz (.slice A n c) n xs G) {k m : Nat} (hk : k ≤ n) (hkm : k ≤ m) (hm : m ≤ c) :
    ∃ G', (G' = G ∨ G' = []) ∧ RowG e sz (.slice A k m) k (xs.take (k * sz)) G' := by
  obtain ⟨hl, h2⟩ := h
  have hlen : (xs.take (k * sz)).length = k * sz := by rw [List.length_take, hl]; exact Nat.min_eq_left (Nat.mul_le_mul_right _ hk)
  rcases h2 with ⟨A', hv, rfl, rfl⟩ | ⟨b, off, cap, cur, hv, hpos, rfl, hnc, hcm, hfit, ht⟩
  · cases hv
    obtain rfl : m = 0 := by omega
    obtain rfl : k = 0 := by omega
    exact ⟨[], .inr rfl, hlen, .inl ⟨A, rfl, rfl, rfl⟩⟩
  · cases hv
    rcases Nat.eq_zero_or_pos m with h0 | h0
    · subst h0
      obtain rfl : k = 0 := by omega
      exact ⟨[], .inr rfl, hlen, .inl ⟨_, rfl, rfl, rfl⟩⟩
    · refine ⟨_, .inl rfl, hlen, .inr ⟨b, off, m, cur, rfl, h0, rfl, hkm, Nat.le_trans hm hcm, ?_, ?_⟩⟩
      · exact Nat.le_trans (Nat.add_le_add_left (Nat.mul_le_mul_right _ hm) _) hfit
      · rw [← ht, List.take_take, Nat.min_eq_left (Nat.mul_le_mul_right _ hk)]
theorem St.shrink {w0 w : World} {K : Nat → Prop} {Gs : List Grp} {G G' : Grp} (S : St w0 K w Gs) (k : Nat) (hk : Gs[k]? = some G) (h : G' = G ∨ G' = []) : St w0 K w (Gs.set k G') := by
  refine S.updAt k hk (fun b o hb => ?_) ?_ (fun b hb => ?_) (fun _ _ _ => rfl) (Nat.le_refl _) (Same.refl _)
  · rcases h with rfl | rfl
    · exact S.grp k hk hb
    · simp at hb
  · rcases h with rfl | rfl
    · have hnd := S.hp.nd
      have hp := (perm_erase Gs k G' hk).flatten
      have := ((hp.map (fun x : Nat × Obj => x.1)).nodup_iff).1 hnd
      simp only [List.flatten_cons, List.map_append, List.nodup_append] at this
      exact this.1
    · simp [keys]
  · rcases h with rfl | rfl
    · exact .inl hb
    · simp [keys] at hb

/-! ### Calls -/
def Callable (P : Program) (f : FuncId) : Prop := ∃ fn, P.funcs[f]? = some fn ∧ (fn.name == "runtime.NumGoroutine") = false ∧ fn.body.isNone = false
theorem Callable.mk {P : Program} {f : FuncId} {fn : Func} (h : P.funcs[f]? = some fn) (h1 : (fn.name == "runtime.NumGoroutine") = false) (h2 : fn.body.isNone = false) : Callable P f := ⟨fn, h, h1, h2⟩
theorem run_call {P : Program} {f : FuncId} (hf : Callable P f) (args : Array Value) (w : World) : (callFunc f args).run P w = .ok (.enter f args) w := by
  obtain ⟨fn, h0, h1, h2⟩ := hf
  simp only [callFunc, Sem.run_bind, run_program, Result.andThen_ok, h0, h1, h2, Bool.false_eq_true, if_false, Sem.run_pure]

section
variable {P : Program} {N : Nat} {l : Fr} {ty : TypeId} {pos : String} {aft : Array Edge} {ops : Array Oper} {Q : Exit → Act → World → Prop} {rest : List Oper} {w : World} {f : FuncId} {xs : List Operand} {vs : List Value} {ts : Array TypeId} {d : Nat} {es : List En} {i : Nat} {W : List Nat}
theorem exec_call (hf : Callable P f) (hargs : evs l xs vs) {a : Act} (ha : Has N l a) (dst : Option Tmp) (g : Option (Nat × Bool)) :
    (execOp a.eval ⟨dst, .call { callee := .value (.func f), args := xs.toArray, argTypes := ts }, ty, pos, aft, g⟩).run P w = .ok (.enter f vs.toArray) w := by
  rw [execOp_call_go]
  have : (xs.toArray.map a.eval) = vs.toArray := by rw [List.map_toArray, ha.evs hargs]
  rw [this]
  simp [run_call hf]
theorem calls_upon {o : Oper} {a : Act} {K : Act → World → Prop} (h : Calls P f vs.toArray w fun e w' => ∃ v, e = .returned v ∧ K (a.put o.dst v) w') : o.upon P a K Q (.ok (.enter f vs.toArray) w) := by
  show Calls P f vs.toArray w _
  refine h.mono ?_
  rintro e w' ⟨v, rfl, hk⟩
  exact hk
theorem WOps.call (hf : Callable P f) (hargs : evs l xs vs) (hd : Nat.blt d N = true)
    (h : Calls P f vs.toArray w fun e w' => ∃ v, e = .returned v ∧ WOps P N ops Q rest ((d, v) :: l) w') :
    WOps P N ops Q (⟨some d, .call { callee := .value (.func f), args := xs.toArray, argTypes := ts }, ty, pos, aft, none⟩ :: rest) l w := fun a ha => by
  unfold wpS
  rw [if_pos (by rfl)]
  unfold Oper.wp
  rw [exec_call hf hargs ha]
  refine calls_upon (h.mono ?_)
  rintro e w' ⟨v, rfl, hk⟩
  exact ⟨v, rfl, hk _ (ha.put hd v)⟩
theorem WOps.call0 (hf : Callable P f) (hargs : evs l xs vs)
    (h : Calls P f vs.toArray w fun e w' => ∃ v, e = .returned v ∧ WOps P N ops Q rest l w') :
    WOps P N ops Q (⟨none, .call { callee := .value (.func f), args := xs.toArray, argTypes := ts }, ty, pos, aft, none⟩ :: rest) l w := fun a ha => by
  unfold wpS
  rw [if_pos (by rfl)]
  unfold Oper.wp
  rw [exec_call hf hargs ha]
  refine calls_upon (h.mono ?_)
  rintro e w' ⟨v, rfl, hk⟩
  exact ⟨v, rfl, hk _ ha⟩
theorem WD.call (hi : ops[i]? = some ⟨some d, .call { callee := .value (.func f), args := xs.toArray, argTypes := ts }, ty, pos, aft, none⟩) (hf : Callable P f) (hargs : evs l xs vs) (hd : Nat.blt d N = true)
    (h : Calls P f vs.toArray w fun e w' => ∃ v, e = .returned v ∧ WD P N ops Q es ((d, v) :: l) w') : WD P N ops Q (⟨i, 2, W⟩ :: es) l w := fun a ha =>
  ⟨_, hi, by
    rw [if_pos (by rfl)]
    show Oper.wp _ _ _ _ _ _
    unfold Oper.wp
    rw [exec_call hf hargs ha]
    refine calls_upon (h.mono ?_)
    rintro e w' ⟨v, rfl, hk⟩
    exact ⟨v, rfl, hk _ (ha.put hd v)⟩⟩
end
end Go.Eng
/- Small words more. -/
namespace Go.Eng
open Go
theorem cell_blk {w : World} {b off : Nat} {cur : Array Value} {t : TypeId} {fr : Nat × Nat} {v : Value} (hb : w.heap[b]? = some (.cells cur t fr)) (hc : cur[off]? = some v) : w.cell? ⟨b, off, none⟩ = some v := by
  rw [cell_of_row w b off cur t fr hb]; exact hc
theorem cellsAt.at0 {w : World} {b off : Nat} {v : Value} {cs : List Value} (h : cellsAt w b off (v :: cs)) : w.cell? ⟨b, off, none⟩ = some v := h 0 v rfl
theorem cellsAt.at {w : World} {b off : Nat} {v : Value} {cs : List Value} (h : cellsAt w b off cs) (j : Nat) (hj : cs[j]? = some v) : w.cell? ⟨b, off + j, none⟩ = some v := h j v hj
theorem cellsAt.part {w : World} {b off : Nat} {cs ds : List Value} (h : cellsAt w b off cs) (j : Nat) (hp : (cs.drop j).take ds.length = ds) : cellsAt w b (off + j) ds := by
  rw [← hp]; exact h.sub j _
theorem elt_mk {P : Program} {t e : TypeId} {sz bytes : Nat} {z : Value} (hu : P.underlying t = some (.slice e)) (h : (P.info? e).map (fun i => (i.zero, i.size, i.bytes)) = some (some z, sz, bytes)) (hz : z.cells.size = sz) : Elt P t e sz bytes := by
  obtain ⟨i, hi, h1, h2, h3⟩ := info_parts h
  exact ⟨hu, i, z, hi, h1, h2, h3, hz⟩

/-- A list of things, each of sz cells. -/
def cellsOf {α : Type} (c : α → List Value) (L : List α) : List Value := L.flatMap c
theorem cellsOf_length {α : Type} {c : α → List Value} {sz : Nat} (hc : ∀ x, (c x).length = sz) : ∀ L : List α, (cellsOf c L).length = L.length * sz
  | [] => by simp [cellsOf]
  | x :: L => by
    have := cellsOf_length hc L
    simp only [cellsOf, List.flatMap_cons, List.length_append, hc, List.length_cons] at this ⊢
    rw [this, Nat.add_mul, Nat.one_mul, Nat.add_comm]
theorem cellsOf_append {α : Type} (c : α → List Value) (L M : List α) : cellsOf c (L ++ M) = cellsOf c L ++ cellsOf c M := by simp [cellsOf]
theorem cellsOf_one {α : Type} (c : α → List Value) (x : α) : cellsOf c [x] = c x := by simp [cellsOf]
theorem cellsOf_drop {α : Type} {c : α → List Value} {sz : Nat} (hc : ∀ x, (c x).length = sz) : ∀ (L : List α) (j : Nat), (cellsOf c L).drop (j * sz) = cellsOf c (L.drop j)
  | L, 0 => by simp
  | [], j + 1 => by simp [cellsOf]
  | x :: L, j + 1 => by
    have h := cellsOf_drop hc L j
    simp only [cellsOf, List.flatMap_cons, List.drop_succ_cons] at h ⊢
    rw [Nat.add_mul, Nat.one_mul, Nat.add_comm, ← List.drop_drop, ← hc x, List.drop_left, hc x, h]
theorem cellsOf_take {α : Type} {c : α → List Value} {sz : Nat} (hc : ∀ x, (c x).length = sz) : ∀ (L : List α) (j : Nat), (cellsOf c L).take (j * sz) = cellsOf c (L.take j)
  | L, 0 => by simp [cellsOf]
  | [], j + 1 => by simp [cellsOf]
  | x :: L, j + 1 => by
    have h := cellsOf_take hc L j
    simp only [cellsOf, List.flatMap_cons, List.take_succ_cons] at h ⊢
    rw [Nat.add_mul, Nat.one_mul, Nat.add_comm, ← hc x, List.take_length_add_append, hc x, h]
theorem cellsOf_at {α : Type} {c : α → List Value} {sz : Nat} (hc : ∀ x, (c x).length = sz) {L : List α} {j : Nat} {x : α} (hj : L[j]? = some x) : ((cellsOf c L).drop (j * sz)).take sz = c x := by
  rw [cellsOf_drop hc]
  have hlt : j < L.length := (List.getElem?_eq_some_iff.1 hj).1
  rw [List.drop_eq_getElem_cons hlt]
  have e : L[j] = x := (List.getElem?_eq_some_iff.1 hj).2
  rw [e]
  simp only [cellsOf, List.flatMap_cons]
  rw [← hc x, List.take_left]
theorem Rd.at_ {α : Type} {c : α → List Value} {sz : Nat} (hc : ∀ x, (c x).length = sz) {w : World} {A : Option Addr} {n : Nat} {L : List α} (h : Rd w A n sz (cellsOf c L)) {j : Nat} {x : α} (hj : L[j]? = some x) (hn : L.length = n) :
    ∃ b off, A = some ⟨b, off, none⟩ ∧ cellsAt w b (off + j * sz) (c x) := by
  have hlt : j < L.length := (List.getElem?_eq_some_iff.1 hj).1
  obtain ⟨b, off, e, h1⟩ := h.elem (j := j) (by omega)
  rw [cellsOf_at hc hj] at h1
  exact ⟨b, off, e, h1⟩
theorem St.ext0 {w0 w : World} {Gs : List Grp} (S : St w0 (fun _ => False) w Gs) : Ext w0 w := ⟨S.sz, fun k hk => S.fr k hk (fun h => h)⟩
end Go.Eng
namespace Go.Eng
open Go
theorem Rd.of_blk {w : World} {b : Nat} {cur : Array Value} {t : TypeId} {fr : Nat × Nat} {n sz : Nat} (hb : w.heap[b]? = some (.cells cur t fr)) (hn : cur.toList.length = n * sz) : Rd w (some ⟨b, 0, none⟩) n sz cur.toList :=
  ⟨hn, fun _ => ⟨b, 0, rfl, cellsAt.of_blk hb (by rw [List.drop_zero, List.take_length])⟩⟩
theorem one_of_all {cs : List Value} (h : cs.all Value.oneCell' = true) : ∀ u ∈ cs, u.oneCell' = true := List.all_eq_true.1 h
end Go.Eng
namespace Go.Eng
open Go
section
variable {P : Program} {N : Nat} {l : Fr} {w : World}
/-- Results of which the first lies in memory. -/
theorem WEx.retc1 {fn : Func} {R : Ending → World → Prop} {t u : Tmp} {T : TypeId} {b off : Nat} {cs : List Value} {x : Value} (hres : fn.results = #[.cell t T, .tmp u]) (hv : look l t = some (.pointer (some ⟨b, off, none⟩))) (hT : isAggT P T cs.length = true) (hc : cellsAt w b off cs) (hx : look l u = some x)
    (h : R (.returned (.tuple #[.agg cs.toArray, x])) w) : WEx N (bodyPost P fn R) .ret l w := fun a ha => by
  have h1 := (ha.at_ t _ hv).2
  have h2 := (ha.at_ u _ hx).2
  exact ⟨ha.defers, _, by simp [results, hres, h1, h2, run_loadAgg hT hc, asAddr], h⟩
theorem WEx.retc {fn : Func} {R : Ending → World → Prop} {t : Tmp} {T : TypeId} {b off : Nat} {cs : List Value} (hres : fn.results = #[.cell t T]) (hv : look l t = some (.pointer (some ⟨b, off, none⟩))) (hT : isAggT P T cs.length = true) (hc : cellsAt w b off cs)
    (h : R (.returned (.agg cs.toArray)) w) : WEx N (bodyPost P fn R) .ret l w := fun a ha => by
  have h1 := (ha.at_ t _ hv).2
  exact ⟨ha.defers, _, by simp [results, hres, h1, run_loadAgg hT hc, asAddr], h⟩
end
end Go.Eng
/- Regions that draw their order and hold calls: one condition on the world for the whole region; forks of two. -/
set_option linter.unusedVariables false
namespace Go.Eng
open Go

/-- An order: next (0 pure, 1 a read under the condition, 2 it acts), or whichever of two comes first. -/
inductive Ord where
  | nil
  | one (i k : Nat) (o : Ord)
  | fork (i : Nat) (o : Ord) (j : Nat) (o' : Ord)

def ordOk (ops : Array Oper) : Ord → Array Bool → Bool
  | .nil, listed => Region.ready .any ops listed == []
  | .one i k o, listed => (if k < 2 then (Region.ready .any ops listed).contains i && Region.free .any ops listed i else Region.ready .any ops listed == [i]) && ordOk ops o (listed.setIfInBounds i true)
  | .fork i o j o', listed => Region.ready .any ops listed == [i, j] && ordOk ops o (listed.setIfInBounds i true) && ordOk ops o' (listed.setIfInBounds j true)
def ordLen : Ord → Nat
  | .nil => 0
  | .one _ _ o => ordLen o + 1
  | .fork _ o _ _ => ordLen o + 1
def ordEven : Ord → Bool
  | .nil => true
  | .one _ _ o => ordEven o
  | .fork _ o _ o' => ordEven o && ordEven o' && Nat.beq (ordLen o') (ordLen o)

section
variable {P : Program} {ops : Array Oper} {Q : Exit → Act → World → Prop} {S : World → Prop}

def actH (P : Program) (ops : Array Oper) (Q : Exit → Act → World → Prop) (S : World → Prop) (i : Nat) (K : Act → World → Prop) (a : Act) (w : World) : Prop :=
  ∃ o, ops[i]? = some o ∧ if Region.wanted o (yielded ops a.tmps) then o.wp P a w (fun a' w' => S w' ∧ K a' w') Q else S w ∧ K (a.put o.dst undef) w
def takeH (P : Program) (ops : Array Oper) (S : World → Prop) (i : Nat) (K : Act → World → Prop) (a : Act) (w : World) : Prop :=
  ∃ o, ops[i]? = some o ∧ if Region.wanted o (yielded ops a.tmps) then ∃ v, (∀ w', S w' → (execOp a.eval o).run P w' = .ok (.value v) w') ∧ K (a.put o.dst v) w else K (a.put o.dst undef) w
def wpH (P : Program) (ops : Array Oper) (Q : Exit → Act → World → Prop) (S : World → Prop) : Ord → Act → World → Prop
  | .nil, a, w => Q .normal a w
  | .one i k o, a, w => if k < 2 then takeH P ops S i (wpH P ops Q S o) a w else actH P ops Q S i (wpH P ops Q S o) a w
  | .fork i o j o', a, w => actH P ops Q S i (wpH P ops Q S o) a w ∧ actH P ops Q S j (wpH P ops Q S o') a w

theorem wpOp_act {i : Nat} {K K' : Act → World → Prop} {a : Act} {w : World} (hS : S w) (h : actH P ops Q S i K a w) (hK : ∀ a w, S w → K a w → K' a w) : wpOp P ops Q i (fun a' w' => S w' ∧ K' a' w') a w := by
  obtain ⟨o, hi, h⟩ := h
  unfold wpOp
  rw [hi]
  dsimp only
  split
  · rename_i hw
    rw [if_pos hw] at h
    exact .inl (Oper.wp_mono (fun a w h => ⟨h.1, hK _ _ h.1 h.2⟩) h)
  · rename_i hw
    rw [if_neg hw] at h
    exact ⟨h.1, hK _ _ h.1 h.2⟩

theorem any_of_H (hs : Region.noSelect ops = true) (hQ : ∀ c a d v w, Q (.panic c) (a.put d v) w → Q (.panic c) a w) :
    ∀ (o : Ord) (listed : Array Bool) (a : Act) (w : World), ordEven o = true → ordOk ops o listed = true → S w → wpH P ops Q S o a w → wpAnyH P .any ops Q S (ordLen o) listed a w
  | .nil, listed, a, w, _, ho, _, h => wpAnyH_done (by simpa [ordOk] using ho) h _
  | .one i k o, listed, a, w, hev, ho, hS, h => by
    simp only [ordOk, Bool.and_eq_true] at ho
    simp only [ordEven] at hev
    have ih := any_of_H hs hQ o (listed.setIfInBounds i true)
    simp only [wpH] at h
    simp only [ordLen]
    split at h
    · rename_i hk
      rw [if_pos hk, Bool.and_eq_true] at ho
      obtain ⟨oi, hi, h⟩ := h
      split at h
      · rename_i hw
        obtain ⟨v, hv, h⟩ := h
        exact wpAnyH_take hi hs ho.1.2 ho.1.1 (fun c a w => hQ c a _ v w) (.inl ⟨hw, hv⟩) hS (ih _ _ hev ho.2 hS h)
      · rename_i hw
        exact wpAnyH_take hi hs ho.1.2 ho.1.1 (fun c a w => hQ c a _ undef w) (.inr ⟨by simpa using hw, rfl⟩) hS (ih _ _ hev ho.2 hS h)
    · rename_i hk
      rw [if_neg hk] at ho
      refine wpAnyH_all (rs := [i]) (by simpa using ho.1) (by simp) fun j hj => ?_
      obtain rfl : j = i := by simpa using hj
      exact wpOp_act hS h fun a w hS h => ih a w hev ho.2 hS h
  | .fork i o j o', listed, a, w, hev, ho, hS, h => by
    simp only [ordOk, Bool.and_eq_true] at ho
    simp only [ordEven, Bool.and_eq_true] at hev
    obtain ⟨⟨hr, h1⟩, h2⟩ := ho
    obtain ⟨⟨e1, e2⟩, e3⟩ := hev
    have ih := any_of_H hs hQ o (listed.setIfInBounds i true)
    have ih' := any_of_H hs hQ o' (listed.setIfInBounds j true)
    rw [Nat.eq_of_beq_eq_true e3] at ih'
    simp only [ordLen]
    refine wpAnyH_all (rs := [i, j]) (by simpa using hr) (by simp) fun x hx => ?_
    rcases (by simpa using hx : x = i ∨ x = j) with rfl | rfl
    · exact wpOp_act hS h.1 fun a w hS h => ih a w e1 h1 hS h
    · exact wpOp_act hS h.2 fun a w hS h => ih' a w e2 h2 hS h

def WH (P : Program) (N : Nat) (ops : Array Oper) (Q : Exit → Act → World → Prop) (S : World → Prop) (o : Ord) (l : Fr) (w : World) : Prop := ∀ a, Has N l a → wpH P ops Q S o a w

theorem WCode.drawH {N id : Nat} {l : Fr} {w : World} (o : Ord) (S : World → Prop) (hm : P.follows .mixedOrders = true) (hs : Region.noSelect ops = true)
    (hQ : ∀ c a d v w, Q (.panic c) (a.put d v) w → Q (.panic c) a w) (hn : Nat.beq (ordLen o) ops.size = true) (he : ordEven o = true) (ho : ordOk ops o (Array.replicate ops.size false) = true)
    (hS : S w.drew) (h : WH P N ops Q S o l w.drew) : WCode P N (.region id ops true) Q l w := fun a ha =>
  wp_region_held (S := S) hm (by
    have := any_of_H hs hQ o _ a w.drew he ho hS (h a ha)
    rw [Nat.eq_of_beq_eq_true hn] at this
    exact this)

section
variable {N : Nat} {o o' : Ord} {l l' : Fr} {w w' : World} {i d : Nat} {op : Op} {ty : TypeId} {pos : String} {aft : Array Edge} {v : Value}
theorem WH.forget (hs : Sub l' l) (h : WH P N ops Q S o l' w) : WH P N ops Q S o l w := fun a ha => h a (ha.sub hs)
theorem WH.nil (h : WEx N Q .normal l w) : WH P N ops Q S .nil l w := h
theorem WH.fork {i j : Nat} (h : WH P N ops Q S (.one i 2 o) l w) (h' : WH P N ops Q S (.one j 2 o') l w) : WH P N ops Q S (.fork i o j o') l w := fun a ha => ⟨h a ha, h' a ha⟩
def gHit : Value → Bool → Bool
  | .bool c, b => c == b
  | _, _ => false
theorem guard_hit {dst : Option Tmp} {a : Act} (ha : Has N l a) {j dj : Nat} {b : Bool} (hj : (ops[j]?).bind (·.dst) = some dj) (hv : look l dj = some v) : Region.wanted (⟨dst, op, ty, pos, aft, some (j, b)⟩ : Oper) (yielded ops a.tmps) = gHit v b := by
  rw [guard_at ha hj hv _ b rfl]; cases v <;> rfl
def Wants (N : Nat) (ops : Array Oper) (l : Fr) (o : Oper) : Prop := ∀ a, Has N l a → Region.wanted o (yielded ops a.tmps) = true
theorem wants {dst : Option Tmp} : Wants N ops l ⟨dst, op, ty, pos, aft, none⟩ := fun _ _ => rfl
theorem wants_on {dst : Option Tmp} {j dj : Nat} {b : Bool} (hj : (ops[j]?).bind (·.dst) = some dj) (hv : look l dj = some (.bool b)) : Wants N ops l ⟨dst, op, ty, pos, aft, some (j, b)⟩ := fun a ha => by
  rw [guard_at ha hj hv _ b rfl]; simp
section
variable {g : Option (Nat × Bool)}
theorem WH.off {j dj k : Nat} {b : Bool} (hi : ops[i]? = some ⟨some d, op, ty, pos, aft, some (j, b)⟩) (hj : (ops[j]?).bind (·.dst) = some dj) (hv : look l dj = some v) (hb : gHit v b = false) (hd : Nat.blt d N = true)
    (hk : Nat.blt k 2 = true) (h : WH P N ops Q S o ((d, undef) :: l) w) : WH P N ops Q S (.one i k o) l w := fun a ha => by
  unfold wpH
  rw [if_pos (by simpa using hk)]
  exact ⟨_, hi, by rw [if_neg (by rw [guard_hit ha hj hv, hb]; simp)]; exact h _ (ha.put hd undef)⟩
theorem WH.off2 {j dj : Nat} {b : Bool} (hi : ops[i]? = some ⟨some d, op, ty, pos, aft, some (j, b)⟩) (hj : (ops[j]?).bind (·.dst) = some dj) (hv : look l dj = some v) (hb : gHit v b = false) (hd : Nat.blt d N = true)
    (hS : S w) (h : WH P N ops Q S o ((d, undef) :: l) w) : WH P N ops Q S (.one i 2 o) l w := fun a ha => 
  ⟨_, hi, by rw [if_neg (by rw [guard_hit ha hj hv, hb]; simp)]; exact ⟨hS, h _ (ha.put hd undef)⟩⟩
theorem WH.p (hi : ops[i]? = some ⟨some d, op, ty, pos, aft, g⟩) (hw : Wants N ops l ⟨some d, op, ty, pos, aft, g⟩) (h : GP P N l ⟨some d, op, ty, pos, aft, g⟩ v) (hd : Nat.blt d N = true) (k : WH P N ops Q S o ((d, v) :: l) w) : WH P N ops Q S (.one i 0 o) l w := fun a ha =>
  ⟨_, hi, by rw [if_pos (hw a ha)]; exact ⟨v, fun w _ => h w a ha, k _ (ha.put hd v)⟩⟩
theorem WH.r (hi : ops[i]? = some ⟨some d, op, ty, pos, aft, g⟩) (hw : Wants N ops l ⟨some d, op, ty, pos, aft, g⟩) (h : ∀ w', S w' → GR P N l w' ⟨some d, op, ty, pos, aft, g⟩ v) (hd : Nat.blt d N = true) (k : WH P N ops Q S o ((d, v) :: l) w) : WH P N ops Q S (.one i 1 o) l w := fun a ha =>
  ⟨_, hi, by rw [if_pos (hw a ha)]; exact ⟨v, fun w' hw => h w' hw w' (Ext.refl _) a ha, k _ (ha.put hd v)⟩⟩
theorem WH.e (hi : ops[i]? = some ⟨some d, op, ty, pos, aft, g⟩) (hw : Wants N ops l ⟨some d, op, ty, pos, aft, g⟩) (h : GE P N l w ⟨some d, op, ty, pos, aft, g⟩ v w') (hd : Nat.blt d N = true) (hS : S w') (k : WH P N ops Q S o ((d, v) :: l) w') : WH P N ops Q S (.one i 2 o) l w := fun a ha =>
  ⟨_, hi, by
    rw [if_pos (hw a ha)]
    show Oper.wp _ _ _ _ _ _
    unfold Oper.wp
    rw [h a ha]
    exact ⟨hS, k _ (ha.put hd v)⟩⟩
theorem WH.u (hi : ops[i]? = some ⟨none, op, ty, pos, aft, g⟩) (hw : Wants N ops l ⟨none, op, ty, pos, aft, g⟩) (h : GU P N l w ⟨none, op, ty, pos, aft, g⟩ w') (hS : S w') (k : WH P N ops Q S o l w') : WH P N ops Q S (.one i 2 o) l w := fun a ha =>
  ⟨_, hi, by
    rw [if_pos (hw a ha)]
    show Oper.wp _ _ _ _ _ _
    unfold Oper.wp
    rw [h a ha]
    exact ⟨hS, k _ ha⟩⟩
theorem WH.call {f : FuncId} {xs : List Operand} {vs : List Value} {ts : Array TypeId} (hi : ops[i]? = some ⟨some d, .call { callee := .value (.func f), args := xs.toArray, argTypes := ts }, ty, pos, aft, g⟩)
    (hw : Wants N ops l ⟨some d, .call { callee := .value (.func f), args := xs.toArray, argTypes := ts }, ty, pos, aft, g⟩) (hf : Callable P f) (hargs : evs l xs vs) (hd : Nat.blt d N = true)
    (h : Calls P f vs.toArray w fun e w' => ∃ v, e = .returned v ∧ S w' ∧ WH P N ops Q S o ((d, v) :: l) w') : WH P N ops Q S (.one i 2 o) l w := fun a ha =>
  ⟨_, hi, by
    rw [if_pos (hw a ha)]
    show Oper.wp _ _ _ _ _ _
    unfold Oper.wp
    rw [exec_call hf hargs ha]
    refine calls_upon (h.mono ?_)
    rintro e w' ⟨v, rfl, hS, hk⟩
    exact ⟨v, rfl, hS, hk _ (ha.put hd v)⟩⟩
theorem WH.call0 {f : FuncId} {xs : List Operand} {vs : List Value} {ts : Array TypeId} (hi : ops[i]? = some ⟨none, .call { callee := .value (.func f), args := xs.toArray, argTypes := ts }, ty, pos, aft, g⟩)
    (hw : Wants N ops l ⟨none, .call { callee := .value (.func f), args := xs.toArray, argTypes := ts }, ty, pos, aft, g⟩) (hf : Callable P f) (hargs : evs l xs vs)
    (h : Calls P f vs.toArray w fun e w' => ∃ v, e = .returned v ∧ S w' ∧ WH P N ops Q S o l w') : WH P N ops Q S (.one i 2 o) l w := fun a ha =>
  ⟨_, hi, by
    rw [if_pos (hw a ha)]
    show Oper.wp _ _ _ _ _ _
    unfold Oper.wp
    rw [exec_call hf hargs ha]
    refine calls_upon (h.mono ?_)
    rintro e w' ⟨v, rfl, hS, hk⟩
    exact ⟨v, rfl, hS, hk _ ha⟩⟩
end
end
end

/-- A piece of code whose end is told: what follows is walked once. -/
theorem WCode.cut {P : Program} {N : Nat} {c : Code} {Q : Exit → Act → World → Prop} {l : Fr} {w : World} (J : Fr → World → Prop)
    (h : WCode P N c (fun e a w' => (e = .normal ∧ ∃ l', Has N l' a ∧ J l' w') ∨ (e ≠ .normal ∧ Q e a w')) l w) (hk : ∀ l' w', J l' w' → WEx N Q .normal l' w') : WCode P N c Q l w := fun a ha =>
  wp_mono (h a ha) fun e a w' hq => by
    rcases hq with ⟨rfl, l', hl, hj⟩ | ⟨_, hq⟩
    · exact hk l' w' hj a hl
    · exact hq
theorem WEx.cut {N : Nat} {Q : Exit → Act → World → Prop} {l l' : Fr} {w : World} {J : Fr → World → Prop} (hs : Sub l' l) (h : J l' w) :
    WEx N (fun e a w' => (e = .normal ∧ ∃ l', Has N l' a ∧ J l' w') ∨ (e ≠ .normal ∧ Q e a w')) .normal l w := fun a ha => .inl ⟨rfl, l', ha.sub hs, h⟩
theorem WEx.cut_ret {N : Nat} {Q : Exit → Act → World → Prop} {l : Fr} {w : World} {J : Fr → World → Prop} (h : WEx N Q .ret l w) :
    WEx N (fun e a w' => (e = .normal ∧ ∃ l', Has N l' a ∧ J l' w') ∨ (e ≠ .normal ∧ Q e a w')) .ret l w := fun a ha => .inr ⟨by simp, h a ha⟩
theorem WEx.cut_exit {N id : Nat} {Q : Exit → Act → World → Prop} {l : Fr} {w : World} {J : Fr → World → Prop} (h : WEx N Q (.exit id) l w) :
    WEx N (fun e a w' => (e = .normal ∧ ∃ l', Has N l' a ∧ J l' w') ∨ (e ≠ .normal ∧ Q e a w')) (.exit id) l w := fun a ha => .inr ⟨by simp, h a ha⟩
/-! structs compared -/
section
variable {P : Program} {N : Nat} {l : Fr} {dst : Option Tmp} {ty : TypeId} {pos : String} {aft : Array Edge} {g : Option (Nat × Bool)} {t u : TypeId} {x y : Operand} {xs ys : Array Value} {b b' : Bool}
theorem G.eqa (hx : ev l x = some (.agg xs)) (hy : ev l y = some (.agg ys)) (hm : P.eqGuardType P.depth t = false) (h : ∀ w, (Op.equalIn 10000 t (.agg xs) (.agg ys)).run P w = .ok b' w) (hr : b' = b) : GP P N l ⟨dst, .binOp .eql t x y u, ty, pos, aft, g⟩ (.bool b) :=
  G.bin hx hy (fun w => run_eqGuard_agg w _ _ _ _ _ _ hm) fun w => by rw [run_eql_struct, h, hr]; rfl
theorem G.neqa (hx : ev l x = some (.agg xs)) (hy : ev l y = some (.agg ys)) (hm : P.eqGuardType P.depth t = false) (h : ∀ w, (Op.equalIn 10000 t (.agg xs) (.agg ys)).run P w = .ok b' w) (hr : (!b') = b) : GP P N l ⟨dst, .binOp .neq t x y u, ty, pos, aft, g⟩ (.bool b) :=
  G.bin hx hy (fun w => run_eqGuard_agg w _ _ _ _ _ _ hm) fun w => by rw [run_neq_struct, h, ← hr]; rfl
end
theorem toList_iff (a b : ByteArray) : (a.toList = b.toList) ↔ a = b := by
  rw [ByteArray.toList_eq, ByteArray.toList_eq]
  obtain ⟨⟨x⟩⟩ := a
  obtain ⟨⟨y⟩⟩ := b
  simp
/-- a[j] under a condition on the whole row. -/
theorem Rd.cells {α : Type} {c : α → List Value} {sz : Nat} (hc : ∀ x, (c x).length = sz) {w : World} {b off n : Nat} {L : List α} (h : Rd w (some ⟨b, off, none⟩) n sz (cellsOf c L)) {j : Nat} {x : α} (hj : L[j]? = some x) (hn : L.length = n) : cellsAt w b (off + j * sz) (c x) := by
  obtain ⟨b', off', e, h1⟩ := h.at_ hc hj hn
  cases e
  exact h1
section
variable {P : Program} {N : Nat} {l : Fr} {dst : Option Tmp} {ty : TypeId} {pos : String} {aft : Array Edge} {g : Option (Nat × Bool)} {t u e : TypeId} {x y : Operand} {p : Option Addr} {b : Bool}
theorem G.eqp_nil (hu : P.underlying t = some (.pointer e)) (hx : ev l x = some (.pointer p)) (hy : ev l y = some (.pointer none)) (hb : p.isNone = b) : GP P N l ⟨dst, .binOp .eql t x y u, ty, pos, aft, g⟩ (.bool b) :=
  G.bin hx hy (fun w => by rw [eqGuard_at_pointer]; rfl) fun w => by
    subst hb
    exact run_eql_pointer_nil w t p (by unfold Program.pointee; rw [hu])
end
/-- x; y: what stands between them is told. -/
theorem WCode.cutseq {P : Program} {N : Nat} {x y : Code} {Q : Exit → Act → World → Prop} {l : Fr} {w : World} (J : Fr → World → Prop)
    (h : WCode P N x (Exit.then (fun a w' => ∃ l', Has N l' a ∧ J l' w') Q) l w) (hk : ∀ l' w', J l' w' → WCode P N y Q l' w') : WCode P N (.seq x y) Q l w :=
  WCode.seq fun a ha => wp_mono (h a ha) fun e a w' hq => by
    cases e with
    | normal =>
      obtain ⟨l', hl, hj⟩ := hq
      exact hk l' w' hj a hl
    | exit id => exact hq
    | goto l => exact hq
    | ret => exact hq
    | panic ch => exact hq
    | outgrown => exact hq
theorem WEx.cutend {N : Nat} {Q : Exit → Act → World → Prop} {l : Fr} {w : World} {J : Fr → World → Prop} (l' : Fr) (hs : Sub l' l) (h : J l' w) :
    WEx N (Exit.then (fun a w' => ∃ l', Has N l' a ∧ J l' w') Q) .normal l w := fun _ ha => ⟨l', ha.sub hs, h⟩
section
variable {P : Program} {N : Nat} {l : Fr} {dst : Option Tmp} {ty : TypeId} {pos : String} {aft : Array Edge} {g : Option (Nat × Bool)} {t u : TypeId} {x y : Operand} {c d b : Bool}
theorem G.eqlb (hu : P.underlying t = some .bool) (hx : ev l x = some (.bool c)) (hy : ev l y = some (.bool d)) (hb : (c == d) = b) : GP P N l ⟨dst, .binOp .eql t x y u, ty, pos, aft, g⟩ (.bool b) :=
  G.bin hx hy (fun w => by rw [eqGuard_at_bool]; rfl) fun w => by
    have h : (Op.equal t (.bool c) (.bool d)).run P w = .ok (c == d) w := run_equalIn_bool w 9999 t c d hu
    subst hb
    simp only [binOp]
    simp only [Sem.run_bind, h, Result.andThen_ok, Sem.run_pure]
theorem G.neqb (hu : P.underlying t = some .bool) (hx : ev l x = some (.bool c)) (hy : ev l y = some (.bool d)) (hb : (!(c == d)) = b) : GP P N l ⟨dst, .binOp .neq t x y u, ty, pos, aft, g⟩ (.bool b) :=
  G.bin hx hy (fun w => by rw [eqGuard_at_bool]; rfl) fun w => by
    have h : (Op.equal t (.bool c) (.bool d)).run P w = .ok (c == d) w := run_equalIn_bool w 9999 t c d hu
    subst hb
    simp only [binOp]
    simp only [Sem.run_bind, h, Result.andThen_ok, Sem.run_pure]
end
end Go.Eng
/- Floats. -/
set_option linter.unusedVariables false
namespace Go.Eng
open Go
section
variable {P : Program} {N : Nat} {l : Fr} {dst : Option Tmp} {ty : TypeId} {pos : String} {aft : Array Edge} {g : Option (Nat × Bool)} {t u : TypeId} {x y : Operand} {k : FloatKind} {a b r : Nat} {v : Bool}
theorem guard_float {op : BinOp} {w : World} : (eqGuard op t x y (.float k a) (.float k b)).run P w = .ok () w := by cases op <;> rfl
theorem G.farith {op : BinOp} (hx : ev l x = some (.float k a)) (hy : ev l y = some (.float k b)) (h : floatBits op k a b = some r) : GP P N l ⟨dst, .binOp op t x y u, ty, pos, aft, g⟩ (.float k r) :=
  G.bin hx hy (fun w => guard_float) fun w => run_float_arith w op t k a b r h
theorem G.flss (hx : ev l x = some (.float k a)) (hy : ev l y = some (.float k b)) (h : (k.format.order a b == some .lt) = v) : GP P N l ⟨dst, .binOp .lss t x y u, ty, pos, aft, g⟩ (.bool v) :=
  G.bin hx hy (fun w => guard_float) fun w => by rw [binOp_float_cmp_lss, h]; rfl
theorem G.fgtr (hx : ev l x = some (.float k a)) (hy : ev l y = some (.float k b)) (h : (k.format.order a b == some .gt) = v) : GP P N l ⟨dst, .binOp .gtr t x y u, ty, pos, aft, g⟩ (.bool v) :=
  G.bin hx hy (fun w => guard_float) fun w => by rw [binOp_float_cmp_gtr, h]; rfl
theorem G.fgeq (hx : ev l x = some (.float k a)) (hy : ev l y = some (.float k b)) (h : (k.format.order a b == some .gt || k.format.order a b == some .eq) = v) : GP P N l ⟨dst, .binOp .geq t x y u, ty, pos, aft, g⟩ (.bool v) :=
  G.bin hx hy (fun w => guard_float) fun w => by rw [binOp_float_cmp_geq, h]; rfl
theorem G.feql (hx : ev l x = some (.float k a)) (hy : ev l y = some (.float k b)) (h : (k.format.order a b == some .eq) = v) : GP P N l ⟨dst, .binOp .eql t x y u, ty, pos, aft, g⟩ (.bool v) :=
  G.bin hx hy (fun w => guard_float) fun w => by rw [binOp_float_cmp_eql, h]; rfl
theorem G.fneq (hx : ev l x = some (.float k a)) (hy : ev l y = some (.float k b)) (h : (k.format.order a b != some .eq) = v) : GP P N l ⟨dst, .binOp .neq t x y u, ty, pos, aft, g⟩ (.bool v) :=
  G.bin hx hy (fun w => guard_float) fun w => by rw [binOp_float_cmp_neq, h]; rfl
theorem G.fneg (hx : ev l x = some (.float k a)) (h : Op.negFloat k a = r) : GP P N l ⟨dst, .unOp .neg t x, ty, pos, aft, g⟩ (.float k r) := fun w b hb => by
  subst h; unfold execOp; simp [hb.ev hx, Op.unary]
theorem G.itof {q : IntKind} {n : Int} {s d : TypeId} (hs : (P.underlying s).isSome = true) (hd : P.underlying d = some (.float k)) (hx : ev l x = some (.int q n)) (h : floatOfInt k n = r) : GP P N l ⟨dst, .convert s d x, ty, pos, aft, g⟩ (.float k r) := fun w b hb => by
  subst h; unfold execOp; simp [hb.ev hx, run_convert_int_float w s d q k n hs hd]
theorem G.ftoi {q : IntKind} {n : Int} {s d : TypeId} (hs : (P.underlying s).isSome = true) (hd : P.underlying d = some (.int q)) (hx : ev l x = some (.float k a)) (h : floatToIntVal k a q = some n) : GP P N l ⟨dst, .convert s d x, ty, pos, aft, g⟩ (.int q n) := fun w b hb => by
  unfold execOp; simp [hb.ev hx, run_convert_float_int w s d k q a n hs hd h]
end
theorem WOps.tail {P : Program} {N : Nat} {ops : Array Oper} {Q : Exit → Act → World → Prop} {o : Oper} {r : List Oper} {l : Fr} {w : World} (h : ∀ r', r' = r → WOps P N ops Q (o :: r') l w) : WOps P N ops Q (o :: r) l w := h r rfl
end Go.Eng
/- Rounding to the nearest single: a function of the value alone; it is monotone; it keeps what it has. Plain law: no program. -/
set_option linter.unusedVariables false
namespace Go.Eng.F32
open Ieee

/-- n / g to the nearest, ties to even. -/
def rnd (n g : Nat) : Nat := n / g + (decide (g < 2 * (n % g)) || (g == 2 * (n % g) && n / g % 2 == 1)).toNat

theorem rnd_scale (n g c : Nat) (hc : 0 < c) : rnd (n * c) (g * c) = rnd n g := by
  unfold rnd
  rw [Nat.mul_div_mul_right _ _ hc, Nat.mul_mod_mul_right]
  have h1 : decide (g * c < 2 * (n % g * c)) = decide (g < 2 * (n % g)) := by
    rw [← Nat.mul_assoc]
    exact decide_eq_decide.2 ⟨fun h => Nat.lt_of_mul_lt_mul_right h, fun h => Nat.mul_lt_mul_of_pos_right h hc⟩
  have h2 : (g * c == 2 * (n % g * c)) = (g == 2 * (n % g)) := by
    rw [← Nat.mul_assoc]
    rw [Bool.eq_iff_iff]
    simp only [beq_iff_eq]
    exact ⟨fun h => Nat.eq_of_mul_eq_mul_right hc h, fun h => congrArg (· * c) h⟩
  rw [h1, h2]

theorem rnd_le (n g : Nat) : rnd n g ≤ n / g + 1 := by
  unfold rnd; have := Bool.toNat_le (decide (g < 2 * (n % g)) || (g == 2 * (n % g) && n / g % 2 == 1)); omega
theorem le_rnd (n g : Nat) : n / g ≤ rnd n g := by unfold rnd; omega

theorem rnd_mono {n m g : Nat} (h : n ≤ m) : rnd n g ≤ rnd m g := by
  rcases Nat.lt_or_ge (n / g) (m / g) with hq | hq
  · exact Nat.le_trans (rnd_le n g) (Nat.le_trans hq (le_rnd m g))
  · have he : n / g = m / g := Nat.le_antisymm (Nat.div_le_div_right h) hq
    have h1 := Nat.div_add_mod n g
    have h2 := Nat.div_add_mod m g
    have hr : n % g ≤ m % g := by rw [he] at h1; omega
    unfold rnd
    rw [he]
    apply Nat.add_le_add_left
    by_cases a : g < 2 * (n % g)
    · have : g < 2 * (m % g) := by omega
      simp [a, this]
    · by_cases b : g = 2 * (n % g) ∧ m / g % 2 = 1
      · by_cases c : g < 2 * (m % g)
        · simp [c]; exact Bool.toNat_le _
        · have : g = 2 * (m % g) := by omega
          have e : n % g = m % g := by omega
          simp [e]
      · have : ((decide (g < 2 * (n % g)) || (g == 2 * (n % g) && m / g % 2 == 1))) = false := by
          simp only [a, decide_false, Bool.false_or, Bool.and_eq_false_imp, beq_iff_eq]
          intro hg
          simp only [beq_eq_false_iff_ne, ne_eq]
          intro hm
          exact b ⟨hg, hm⟩
        rw [this]
        simp

theorem rnd_exact {k g : Nat} (hg : 0 < g) : rnd (k * g) g = k := by
  unfold rnd
  rw [Nat.mul_div_cancel _ hg, Nat.mul_mod_left]
  simp; omega

/-- Of less than half a unit nothing is left. -/
theorem rnd_small {n g : Nat} (h : 2 * n < g) : rnd n g = 0 := by
  have hn : n < g := by omega
  unfold rnd
  rw [Nat.div_eq_of_lt hn, Nat.mod_eq_of_lt hn]
  have h1 : ¬ g < 2 * n := by omega
  have h2 : ¬ g = 2 * n := by omega
  simp [h1]

theorem cut_eq (neg : Bool) (n d : Nat) (hn : n ≠ 0) : Toward.even.cut neg n d = rnd n (2 ^ d) := by
  show rnd n (1 <<< min d (n.log2 + 2)) = _
  rw [Nat.one_shiftLeft]
  rcases Nat.le_total d (n.log2 + 2) with h | h
  · rw [Nat.min_eq_left h]
  · rw [Nat.min_eq_right h]
    have hl : n < 2 ^ (n.log2 + 1) := Nat.lt_log2_self
    have h1 : 2 * n < 2 ^ (n.log2 + 2) := by rw [show n.log2 + 2 = (n.log2 + 1) + 1 by omega, Nat.pow_succ]; omega
    have h2 : 2 * n < 2 ^ d := Nat.lt_of_lt_of_le h1 (Nat.pow_le_pow_right (by omega) h)
    rw [rnd_small h1, rnd_small h2]

/-- The scale: a value is X / 2^213; a unit (the least single) is 2^64. -/
def last (X : Nat) : Nat := max (X.log2 - 23) 64
def rung (X : Nat) : Nat := (last X - 64) * 2 ^ 23 + rnd X (2 ^ last X)

theorem log2_shift (m k : Nat) (h : m ≠ 0) : (m * 2 ^ k).log2 = m.log2 + k := by
  induction k with
  | zero => simp
  | succ k ih =>
    rw [Nat.pow_succ, ← Nat.mul_assoc, Nat.mul_comm _ 2, Nat.log2_two_mul (by
      have := Nat.two_pow_pos k
      intro h0
      rcases Nat.mul_eq_zero.1 h0 with h1 | h1 <;> omega), ih]
    omega

/-- The nearest word depends on the value alone. -/
theorem nearest_eq (neg : Bool) (m : Nat) (p : Int) (hm : m ≠ 0) (hp : -213 ≤ p) :
    single.nearest neg m p = single.word neg (min (rung (m * 2 ^ (p + 213).toNat)) single.infRung) := by
  obtain ⟨k, hk⟩ : ∃ k : Nat, p + 213 = k := ⟨(p + 213).toNat, by omega⟩
  have hp' : p = (k : Int) - 213 := by omega
  rw [hk, Int.toNat_natCast]
  have hlp : single.leastPlace = -149 := by decide
  have hfb : (single.fractionBits : Int) = 23 := by decide
  have hb : single.binade = 2 ^ 23 := by decide
  have hlog := log2_shift m k hm
  have hkey : ∀ la : Int, la = max (p + (m.log2 : Int) - 23) (-149) → (la - -149).toNat * 2 ^ 23 + Toward.even.cut neg (m <<< (p - la).toNat) (la - p).toNat = rung (m * 2 ^ k) := by
    intro la hl
    have hlast : ((last (m * 2 ^ k) : Nat) : Int) = la + 213 := by
      unfold last
      rw [hlog, hl]
      omega
    unfold rung
    generalize hq : last (m * 2 ^ k) = q at *
    have e1 : (la - -149).toNat = q - 64 := by omega
    rw [e1, Nat.shiftLeft_eq]
    have hm0 : m * 2 ^ (p - la).toNat ≠ 0 := by
      have := Nat.two_pow_pos (p - la).toNat
      intro h0
      rcases Nat.mul_eq_zero.1 h0 with h1 | h1 <;> omega
    rw [cut_eq _ _ _ hm0]
    apply congrArg ((q - 64) * 2 ^ 23 + ·)
    rcases Int.le_total la p with h | h
    · have e2 : (la - p).toNat = 0 := by omega
      have e3 : k = (p - la).toNat + q := by omega
      have e4 : rnd (m * 2 ^ (p - la).toNat * 2 ^ q) (2 ^ q) = m * 2 ^ (p - la).toNat := rnd_exact (Nat.two_pow_pos q)
      have e5 := rnd_exact (k := m * 2 ^ (p - la).toNat) (g := 1) (by decide)
      rw [Nat.mul_one] at e5
      rw [e2, Nat.pow_zero, e5]
      have e6 : m * 2 ^ k = m * 2 ^ (p - la).toNat * 2 ^ q := by rw [Nat.mul_assoc, ← Nat.pow_add, ← e3]
      rw [e6, e4]
    · have e2 : (p - la).toNat = 0 := by omega
      have e3 : q = (la - p).toNat + k := by omega
      rw [e2, Nat.pow_zero, Nat.mul_one, e3, Nat.pow_add]
      exact (rnd_scale m (2 ^ (la - p).toNat) (2 ^ k) (Nat.two_pow_pos k)).symm
  unfold Format.nearest
  rw [if_neg hm]
  simp only [hlp, hfb, hb]
  rw [hkey _ rfl]

/-! ### rungs and what they stand for -/
/-- Units of a rung. -/
def rv (r : Nat) : Nat := if r < 2 ^ 23 then r else (2 ^ 23 + r % 2 ^ 23) * 2 ^ (r / 2 ^ 23 - 1)
theorem rv_step (k f : Nat) (hf : f ≤ 2 ^ 23) : rv (k * 2 ^ 23 + (2 ^ 23 + f)) = (2 ^ 23 + f) * 2 ^ k := by
  unfold rv
  rw [if_neg (by omega)]
  rcases Nat.lt_or_ge f (2 ^ 23) with h | h
  · have e1 : (k * 2 ^ 23 + (2 ^ 23 + f)) % 2 ^ 23 = f := by omega
    have e2 : (k * 2 ^ 23 + (2 ^ 23 + f)) / 2 ^ 23 - 1 = k := by omega
    rw [e1, e2]
  · obtain rfl : f = 2 ^ 23 := by omega
    have e1 : (k * 2 ^ 23 + (2 ^ 23 + 2 ^ 23)) % 2 ^ 23 = 0 := by omega
    have e2 : (k * 2 ^ 23 + (2 ^ 23 + 2 ^ 23)) / 2 ^ 23 - 1 = k + 1 := by omega
    rw [e1, e2, Nat.pow_succ]
    omega
theorem rv_low {r : Nat} (h : r < 2 ^ 23) : rv r = r := if_pos h
theorem rung_cases (r : Nat) : r < 2 ^ 23 ∨ ∃ k f, f < 2 ^ 23 ∧ r = k * 2 ^ 23 + (2 ^ 23 + f) := by
  rcases Nat.lt_or_ge r (2 ^ 23) with h | h
  · exact .inl h
  · exact .inr ⟨r / 2 ^ 23 - 1, r % 2 ^ 23, Nat.mod_lt _ (by decide), by omega⟩
theorem rv_succ (r : Nat) : rv r < rv (r + 1) := by
  rcases rung_cases r with h | ⟨k, f, hf, rfl⟩
  · rcases Nat.lt_or_ge (r + 1) (2 ^ 23) with h1 | h1
    · rw [rv_low h, rv_low h1]; omega
    · obtain rfl : r = 2 ^ 23 - 1 := by omega
      decide
  · rw [rv_step k f (by omega), show k * 2 ^ 23 + (2 ^ 23 + f) + 1 = k * 2 ^ 23 + (2 ^ 23 + (f + 1)) by omega, rv_step k (f + 1) (by omega)]
    exact Nat.mul_lt_mul_of_pos_right (by omega) (Nat.two_pow_pos k)
theorem rv_mono {r s : Nat} (h : r ≤ s) : rv r ≤ rv s := by
  obtain ⟨d, rfl⟩ : ∃ d, s = r + d := ⟨s - r, by omega⟩
  clear h
  induction d with
  | zero => exact Nat.le_refl _
  | succ d ih => exact Nat.le_trans ih (Nat.le_of_lt (rv_succ (r + d)))
theorem rv_lt {r s : Nat} (h : r < s) : rv r < rv s := Nat.lt_of_lt_of_le (rv_succ r) (rv_mono h)
theorem rv_le_iff {r s : Nat} : rv r ≤ rv s ↔ r ≤ s :=
  ⟨fun h => Nat.not_lt.1 fun hlt => by have := rv_lt hlt; omega, rv_mono⟩
theorem rv_inj {r s : Nat} (h : rv r = rv s) : r = s := Nat.le_antisymm (rv_le_iff.1 (by omega)) (rv_le_iff.1 (by omega))

/-! ### rounding -/
theorem log2_le {X Y : Nat} (hX : X ≠ 0) (h : X ≤ Y) : X.log2 ≤ Y.log2 := (Nat.le_log2 (by omega)).2 (Nat.le_trans (Nat.log2_self_le hX) h)
theorem rung_zero : rung 0 = 0 := by decide
theorem kept_le {X : Nat} : rnd X (2 ^ last X) ≤ 2 ^ 24 := by
  have h1 : X < 2 ^ (X.log2 + 1) := Nat.lt_log2_self
  have h2 : X ≤ 2 ^ 24 * 2 ^ last X := by
    rw [← Nat.pow_add]
    refine Nat.le_of_lt (Nat.lt_of_lt_of_le h1 (Nat.pow_le_pow_right (by decide) ?_))
    unfold last; omega
  have h3 := rnd_mono (g := 2 ^ last X) h2
  rwa [rnd_exact (Nat.two_pow_pos _)] at h3
theorem kept_ge {X : Nat} (hX : X ≠ 0) (h : 64 < last X) : 2 ^ 23 ≤ rnd X (2 ^ last X) := by
  have h1 : 2 ^ X.log2 ≤ X := Nat.log2_self_le hX
  have h2 : 2 ^ 23 * 2 ^ last X ≤ X := by
    rw [← Nat.pow_add]
    refine Nat.le_trans (Nat.pow_le_pow_right (by decide) ?_) h1
    unfold last at h ⊢; omega
  have h3 := rnd_mono (g := 2 ^ last X) h2
  rwa [rnd_exact (Nat.two_pow_pos _)] at h3
theorem rung_mono {X Y : Nat} (h : X ≤ Y) : rung X ≤ rung Y := by
  by_cases hX : X = 0
  · subst hX; rw [rung_zero]; exact Nat.zero_le _
  have hl : last X ≤ last Y := by have := log2_le hX h; unfold last; omega
  rcases Nat.lt_or_ge (last X) (last Y) with hlt | hge
  · have h64 : 64 ≤ last X := by unfold last; omega
    have h1 := @kept_le X
    have h2 := kept_ge (X := Y) (by omega) (by omega)
    unfold rung
    generalize rnd X (2 ^ last X) = a at *
    generalize rnd Y (2 ^ last Y) = b at *
    omega
  · have he : last X = last Y := by omega
    unfold rung
    rw [he]
    exact Nat.add_le_add_left (rnd_mono h) _
/-- The value that rounding comes to. -/
theorem rv_rung (X : Nat) : rv (rung X) * 2 ^ 64 = rnd X (2 ^ last X) * 2 ^ last X := by
  have h64 : 64 ≤ last X := by unfold last; omega
  obtain ⟨k, hk⟩ : ∃ k, last X = 64 + k := ⟨last X - 64, by omega⟩
  have h1 := @kept_le X
  have hge : k ≠ 0 → 2 ^ 23 ≤ rnd X (2 ^ last X) := fun h0 => by
    by_cases hX : X = 0
    · subst hX
      have : last 0 = 64 := by decide
      omega
    · exact kept_ge hX (by omega)
  unfold rung
  rw [hk] at *
  generalize rnd X (2 ^ (64 + k)) = a at *
  rw [show 64 + k - 64 = k by omega, Nat.pow_add, ← Nat.mul_assoc, Nat.mul_right_comm]
  apply congrArg (· * 2 ^ 64)
  rcases Nat.lt_or_ge a (2 ^ 23) with ha | ha
  · obtain rfl : k = 0 := by
      rcases Nat.eq_zero_or_pos k with h | h
      · exact h
      · have := hge (by omega); omega
    rw [Nat.zero_mul, Nat.zero_add, rv_low ha]; simp
  · obtain ⟨f, rfl⟩ : ∃ f, a = 2 ^ 23 + f := ⟨a - 2 ^ 23, by omega⟩
    rw [rv_step k f (by omega)]
/-- What a single has is kept. -/
theorem rung_rv (r : Nat) : rung (rv r * 2 ^ 64) = r := by
  apply rv_inj
  apply Nat.eq_of_mul_eq_mul_right (Nat.two_pow_pos 64)
  rw [rv_rung]
  rcases rung_cases r with h | ⟨k, f, hf, rfl⟩
  · rw [rv_low h]
    have hl : last (r * 2 ^ 64) = 64 := by
      unfold last
      by_cases h0 : r = 0
      · subst h0; decide
      · rw [log2_shift _ _ h0]
        have : r.log2 < 23 := (Nat.log2_lt h0).2 h
        omega
    rw [hl, rnd_exact (Nat.two_pow_pos _)]
  · rw [rv_step k f (by omega)]
    have hl : last ((2 ^ 23 + f) * 2 ^ k * 2 ^ 64) = 64 + k := by
      unfold last
      rw [Nat.mul_assoc, ← Nat.pow_add, log2_shift _ _ (by omega)]
      have h1 : (2 ^ 23 + f).log2 < 24 := (Nat.log2_lt (by omega)).2 (by omega)
      have h2 : 23 ≤ (2 ^ 23 + f).log2 := (Nat.le_log2 (by omega)).2 (by omega)
      omega
    rw [hl, Nat.mul_assoc, ← Nat.pow_add, Nat.add_comm k 64, rnd_exact (Nat.two_pow_pos _)]
/-- Between what a single has it stays. -/
theorem rung_le {X r : Nat} (h : X ≤ rv r * 2 ^ 64) : rung X ≤ r := by have := rung_mono h; rwa [rung_rv] at this
theorem le_rung {X r : Nat} (h : rv r * 2 ^ 64 ≤ X) : r ≤ rung X := by have := rung_mono h; rwa [rung_rv] at this
end Go.Eng.F32
/- The operations on singles that are not negative, by what they stand for. Plain law: no program. -/
set_option linter.unusedVariables false
namespace Go.Eng.F32
open Ieee

theorem s_lp : single.leastPlace = -149 := by decide
theorem s_bin : single.binade = 8388608 := by decide
theorem s_inf : single.infRung = 2139095040 := by decide
theorem s_sw : single.signWeight = 2147483648 := by decide
theorem word_f (r : Nat) : single.word false r = r := rfl
theorem word_t (r : Nat) : single.word true r = 2147483648 + r := by unfold Format.word; rw [if_pos rfl, s_sw]

/-- What a number's magnitude is, in units. -/
structure Mag (m : Nat) (p : Int) (v : Nat) : Prop where
  lo : -149 ≤ p
  hi : p ≤ 104
  eq : m * 2 ^ (p + 149).toNat = v
  dig : m < 16777216

theorem read_w (neg : Bool) {r : Nat} (h : r < 2139095040) : ∃ m p, single.read (single.word neg r) = .number neg m p ∧ Mag m p (rv r) := by
  have hneg : ((single.word neg r) / 2147483648 % 2 == 1) = neg := by
    cases neg
    · rw [word_f]; have : r / 2147483648 = 0 := Nat.div_eq_of_lt (by omega); simp [this]
    · rw [word_t]; have : (2147483648 + r) / 2147483648 = 1 := by omega
      simp [this]
  have hr : single.word neg r % 2147483648 = r := by
    cases neg
    · rw [word_f]; exact Nat.mod_eq_of_lt (by omega)
    · rw [word_t]; omega
  unfold Format.read
  simp only [s_sw, s_bin, s_inf, s_lp, hneg, hr]
  rcases rung_cases r with h1 | ⟨k, f, hf, rfl⟩
  · rw [if_pos (by omega)]
    exact ⟨_, _, rfl, by omega, by omega, by simp [rv_low h1], by omega⟩
  · rw [if_neg (by omega), if_pos h]
    have e1 : (k * 2 ^ 23 + (2 ^ 23 + f)) % 8388608 = f := by omega
    have e2 : (k * 2 ^ 23 + (2 ^ 23 + f)) / 8388608 - 1 = k := by omega
    rw [e1, e2]
    refine ⟨_, _, rfl, by omega, by omega, ?_, by omega⟩
    rw [rv_step k f (by omega), show (-149 + (k : Int) + 149).toNat = k by omega]

theorem near {neg : Bool} {m : Nat} {p : Int} (hp : -213 ≤ p) {X : Nat} (hX : m * 2 ^ (p + 213).toNat = X) : single.nearest neg m p = single.word neg (min (rung X) 2139095040) := by
  by_cases hm : m = 0
  · subst hm
    rw [Nat.zero_mul] at hX
    subst hX
    unfold Format.nearest
    rw [if_pos rfl, rung_zero]
    rfl
  · rw [nearest_eq neg m p hm hp, hX, s_inf]

theorem two64 (v a : Nat) (p : Int) (h : -149 ≤ p) (hv : a * 2 ^ (p + 149).toNat = v) : a * 2 ^ (p + 213).toNat = v * 2 ^ 64 := by
  rw [show (p + 213).toNat = (p + 149).toNat + 64 by omega, Nat.pow_add, ← Nat.mul_assoc, hv]

/-- signed, in units. -/
theorem signed_units {s : Bool} {m : Nat} {i base : Int} {v : Nat} (h : Mag m i v) (hb : base ≤ i) (hb0 : -149 ≤ base) :
    signed s m (i - base).toNat * (2 ^ (base + 149).toNat : Nat) = (if s then -(v : Int) else v) := by
  have e : m <<< (i - base).toNat * 2 ^ (base + 149).toNat = v := by
    rw [Nat.shiftLeft_eq, Nat.mul_assoc, ← Nat.pow_add, show (i - base).toNat + (base + 149).toNat = (i + 149).toNat by omega, h.eq]
  unfold signed
  cases s
  · simp only [Bool.false_eq_true, if_false]; rw [← Int.natCast_mul, e]
  · simp only [if_true]; rw [Int.neg_mul, ← Int.natCast_mul, e]

/-- A sum of two finite ones: exact, then rounded. -/
theorem sum_eq {s t : Bool} {m n : Nat} {i j : Int} {a b : Nat} (ha : Mag m i a) (hb : Mag n j b) (T : Int) (hT : (if s then -(a : Int) else a) + (if t then -(b : Int) else b) = T) (sg : Bool) (hsg : (if T = 0 then s && t else decide (T < 0)) = sg) :
    ((Datum.number s m i).sum (.number t n j)).map single.write = some (single.word sg (min (rung (T.natAbs * 2 ^ 64)) 2139095040)) := by
  obtain ⟨base, hbase⟩ : ∃ base, base = min i j := ⟨_, rfl⟩
  have hlo : -149 ≤ base := by have := ha.lo; have := hb.lo; omega
  have h1 := signed_units (s := s) ha (base := base) (by omega) hlo
  have h2 := signed_units (s := t) hb (base := base) (by omega) hlo
  obtain ⟨total, htot⟩ : ∃ total, total = signed s m (i - base).toNat + signed t n (j - base).toNat := ⟨_, rfl⟩
  have h3 : total * (2 ^ (base + 149).toNat : Nat) = T := by rw [htot, Int.add_mul, h1, h2, hT]
  have hpos : (0 : Int) < (2 ^ (base + 149).toNat : Nat) := by have := Nat.two_pow_pos (base + 149).toNat; omega
  have hz : (total = 0) = (T = 0) := by
    apply propext
    constructor
    · intro h; rw [h, Int.zero_mul] at h3; exact h3.symm
    · intro h; rw [h] at h3; rcases Int.mul_eq_zero.1 h3 with h | h <;> omega
  have hl : (total < 0) = (T < 0) := by
    apply propext
    rw [← h3]
    constructor
    · intro h; exact Int.mul_neg_of_neg_of_pos h hpos
    · intro h
      rcases Int.lt_or_le total 0 with h' | h'
      · exact h'
      · have := Int.mul_nonneg h' (Int.le_of_lt hpos); omega
  have habs : total.natAbs * 2 ^ (base + 149).toNat = T.natAbs := by rw [← h3, Int.natAbs_mul, Int.natAbs_natCast]
  show some (single.nearest (if signed s m (i - min i j).toNat + signed t n (j - min i j).toNat = 0 then s && t else decide (signed s m (i - min i j).toNat + signed t n (j - min i j).toNat < 0)) (signed s m (i - min i j).toNat + signed t n (j - min i j).toNat).natAbs (min i j)) = _
  rw [← hbase, ← htot, near (by omega) (two64 _ _ _ hlo habs)]
  congr 2
  rw [← hsg]
  simp only [hz, hl]

section
variable {x y r : Nat}
theorem rung_lt_top {X : Nat} (h : rung X < 2139095040) : min (rung X) 2139095040 = rung X := by omega

theorem sub_ge (hx : x < 2139095040) (h : y ≤ x) : single.sub x y = some (rung ((rv x - rv y) * 2 ^ 64)) := by
  obtain ⟨m, p, e1, h1⟩ := read_w false hx
  obtain ⟨n, q, e2, h2⟩ := read_w false (show y < 2139095040 by omega)
  rw [word_f] at e1 e2
  have hv := rv_mono h
  unfold Format.sub
  rw [e1, e2]
  show ((Datum.number false m p).sum (.number true n q)).map single.write = _
  rw [sum_eq h1 h2 ((rv x : Int) - rv y) (by simp; omega) false (by split <;> simp <;> omega), word_f]
  rw [show ((rv x : Int) - rv y).natAbs = rv x - rv y by omega]
  have : rung ((rv x - rv y) * 2 ^ 64) ≤ x := rung_le (Nat.mul_le_mul_right _ (by omega))
  rw [Nat.min_eq_left (by omega)]
theorem sub_lt (hy : y < 2139095040) (h : x < y) : single.sub x y = some (2147483648 + rung ((rv y - rv x) * 2 ^ 64)) := by
  obtain ⟨m, p, e1, h1⟩ := read_w false (show x < 2139095040 by omega)
  obtain ⟨n, q, e2, h2⟩ := read_w false hy
  rw [word_f] at e1 e2
  have hv := rv_lt h
  unfold Format.sub
  rw [e1, e2]
  show ((Datum.number false m p).sum (.number true n q)).map single.write = _
  rw [sum_eq h1 h2 ((rv x : Int) - rv y) (by simp; omega) true (by split <;> simp <;> omega), word_t]
  rw [show ((rv x : Int) - rv y).natAbs = rv y - rv x by omega]
  have : rung ((rv y - rv x) * 2 ^ 64) ≤ y := rung_le (Nat.mul_le_mul_right _ (by omega))
  rw [Nat.min_eq_left (by omega)]
theorem add_pos (hx : x < 2139095040) (hy : y < 2139095040) : single.add x y = some (min (rung ((rv x + rv y) * 2 ^ 64)) 2139095040) := by
  obtain ⟨m, p, e1, h1⟩ := read_w false hx
  obtain ⟨n, q, e2, h2⟩ := read_w false hy
  rw [word_f] at e1 e2
  unfold Format.add
  rw [e1, e2, sum_eq h1 h2 ((rv x : Int) + rv y) (by simp) false (by split <;> simp <;> omega), word_f]
  rw [show ((rv x : Int) + rv y).natAbs = rv x + rv y by omega]
theorem add_neg (hx : x < 2139095040) (h : r ≤ x) : single.add x (2147483648 + r) = some (rung ((rv x - rv r) * 2 ^ 64)) := by
  obtain ⟨m, p, e1, h1⟩ := read_w false hx
  obtain ⟨n, q, e2, h2⟩ := read_w true (show r < 2139095040 by omega)
  rw [word_f] at e1
  rw [word_t] at e2
  have hv := rv_mono h
  unfold Format.add
  rw [e1, e2, sum_eq h1 h2 ((rv x : Int) - rv r) (by simp; omega) false (by split <;> simp <;> omega), word_f]
  rw [show ((rv x : Int) - rv r).natAbs = rv x - rv r by omega]
  have : rung ((rv x - rv r) * 2 ^ 64) ≤ x := rung_le (Nat.mul_le_mul_right _ (by omega))
  rw [Nat.min_eq_left (by omega)]
end

theorem quot_eq {d n : Nat} (hn : n ≠ 0) (s t : Bool) (m : Nat) (i j : Int) : Datum.quotient d (.number s m i) (.number t n j) =
    some (.number (s ^^ t) (2 * (m <<< (d + n.log2 - m.log2) / n) + (m <<< (d + n.log2 - m.log2) % n != 0).toNat) (i - j - (d + n.log2 - m.log2 : Nat) - 1)) := by
  simp only [Datum.quotient, hn, if_false]
/-- A quotient by 2, 4 or 8 (each 2^23 at a place). -/
theorem div_w (neg : Bool) {r : Nat} (h : r < 2139095040) {y c : Nat} (hy : single.read y = .number false (2 ^ 23) ((c : Int) - 23)) (hc : c ≤ 3) :
    single.div (single.word neg r) y = some (single.word neg (rung (rv r * 2 ^ (64 - c)))) := by
  obtain ⟨m, p, e1, h1⟩ := read_w neg h
  have hle : rung (rv r * 2 ^ (64 - c)) ≤ r := rung_le (Nat.mul_le_mul_left _ (Nat.pow_le_pow_right (by decide) (by omega)))
  have hlog : m.log2 ≤ 23 := by
    by_cases h0 : m = 0
    · subst h0; rw [show Nat.log2 0 = 0 from rfl]; omega
    · have := (Nat.log2_lt h0).2 (show m < 2 ^ 24 from h1.dig); omega
  obtain ⟨g, hg⟩ : ∃ g : Nat, g = 2 ^ 23 := ⟨_, rfl⟩
  have hg0 : g ≠ 0 := by have := Nat.two_pow_pos 23; omega
  have hl23 : g.log2 = 23 := by rw [hg, Nat.log2_two_pow]
  rw [← hg] at hy
  unfold Format.div
  rw [e1, hy, quot_eq hg0, hl23, show single.fractionBits = 23 from rfl]
  obtain ⟨more, hmore⟩ : ∃ more, more = 23 + 2 + 23 - m.log2 := ⟨_, rfl⟩
  rw [← hmore]
  have e5 : 2 ^ more = 2 ^ (more - 23) * g := by rw [hg, ← Nat.pow_add]; congr 1; omega
  have hd : m <<< more / g = m * 2 ^ (more - 23) := by
    rw [Nat.shiftLeft_eq, e5, ← Nat.mul_assoc, Nat.mul_div_cancel _ (by omega)]
  have hr : m <<< more % g = 0 := by
    rw [Nat.shiftLeft_eq, e5, ← Nat.mul_assoc, Nat.mul_mod_left]
  rw [hd, hr]
  have hlo := h1.lo
  show some (single.nearest (neg ^^ false) (2 * (m * 2 ^ (more - 23)) + 0) (p - ((c : Int) - 23) - (more : Nat) - 1)) = _
  rw [near (X := rv r * 2 ^ (64 - c)) (by omega) (by
    rw [← h1.eq, Nat.add_zero, Nat.mul_comm 2, Nat.mul_assoc m, ← Nat.pow_succ, Nat.mul_assoc, Nat.mul_assoc, ← Nat.pow_add, ← Nat.pow_add]
    apply congrArg (fun q => m * 2 ^ q)
    omega), Bool.xor_false, Nat.min_eq_left (by omega)]
theorem read2 : single.read 1073741824 = .number false (2 ^ 23) (((1 : Nat) : Int) - 23) := by decide +kernel
theorem read4 : single.read 1082130432 = .number false (2 ^ 23) (((2 : Nat) : Int) - 23) := by decide +kernel
theorem read8 : single.read 1090519040 = .number false (2 ^ 23) (((3 : Nat) : Int) - 23) := by decide +kernel
theorem prod_eq (s t : Bool) (m n : Nat) (i j : Int) : Datum.product (.number s m i) (.number t n j) = some (.number (s ^^ t) (m * n) (i + j)) := rfl
theorem mul4 {r : Nat} (h : r < 2139095040) : single.mul 1082130432 r = some (min (rung (rv r * 2 ^ 66)) 2139095040) := by
  obtain ⟨m, p, e1, h1⟩ := read_w false h
  rw [word_f] at e1
  obtain ⟨g, hg⟩ : ∃ g : Nat, g = 2 ^ 23 := ⟨_, rfl⟩
  have hy := read4
  rw [← hg] at hy
  have hlo := h1.lo
  have hn := near (neg := false) (m := g * m) (p := ((2 : Nat) : Int) - 23 + p) (X := rv r * 2 ^ 66) (by omega) (by
    rw [← h1.eq, hg, Nat.mul_comm (2 ^ 23), Nat.mul_assoc, Nat.mul_assoc, ← Nat.pow_add, ← Nat.pow_add]
    apply congrArg (fun q => m * 2 ^ q)
    omega)
  unfold Format.mul
  rw [hy, e1, prod_eq, Option.map_some, Bool.xor_false]
  unfold Format.write
  dsimp only
  rw [hn, word_f]
theorem cmpi_lt {a b : Int} (h : a < b) : compare a b = .lt := by show compareOfLessAndEq a b = _; unfold compareOfLessAndEq; rw [if_pos h]
theorem cmpi_eq (a : Int) : compare a a = .eq := by show compareOfLessAndEq a a = _; unfold compareOfLessAndEq; rw [if_neg (by omega), if_pos rfl]
theorem cmpi_gt {a b : Int} (h : b < a) : compare a b = .gt := by show compareOfLessAndEq a b = _; unfold compareOfLessAndEq; rw [if_neg (by omega), if_neg (by omega)]
theorem cmpn_lt {a b : Nat} (h : a < b) : compare a b = .lt := by show compareOfLessAndEq a b = _; unfold compareOfLessAndEq; rw [if_pos h]
theorem cmpn_eq (a : Nat) : compare a a = .eq := by show compareOfLessAndEq a a = _; unfold compareOfLessAndEq; rw [if_neg (by omega), if_pos rfl]
theorem cmpn_gt {a b : Nat} (h : b < a) : compare a b = .gt := by show compareOfLessAndEq a b = _; unfold compareOfLessAndEq; rw [if_neg (by omega), if_neg (by omega)]
/-! ### comparing -/
theorem order_w {x y : Nat} (hx : x < 2139095040) (hy : y < 2139095040) : single.order x y = some (compare x y) := by
  obtain ⟨m, p, e1, h1⟩ := read_w false hx
  obtain ⟨n, q, e2, h2⟩ := read_w false hy
  rw [word_f] at e1 e2
  unfold Format.order
  rw [e1, e2]
  have hlo1 := h1.lo
  have hlo2 := h2.lo
  obtain ⟨base, hbase⟩ : ∃ base, base = min p q := ⟨_, rfl⟩
  have k1 := signed_units (s := false) h1 (base := base) (by omega) (by omega)
  have k2 := signed_units (s := false) h2 (base := base) (by omega) (by omega)
  simp only [Bool.false_eq_true, if_false] at k1 k2
  have hpos : (0 : Int) < (2 ^ (base + 149).toNat : Nat) := by have := Nat.two_pow_pos (base + 149).toNat; omega
  show some (compare (signed false m (p - min p q).toNat) (signed false n (q - min p q).toNat)) = _
  rw [← hbase]
  generalize signed false m (p - base).toNat = a at *
  generalize signed false n (q - base).toNat = b at *
  congr 1
  rcases Nat.lt_trichotomy x y with h | h | h
  · have hv := rv_lt h
    have : a < b := by
      rcases Int.lt_or_le a b with h' | h'
      · exact h'
      · have := Int.mul_le_mul_of_nonneg_right h' (Int.le_of_lt hpos); omega
    rw [cmpi_lt this, cmpn_lt h]
  · subst h
    have : a = b := by
      rw [← k2] at k1
      exact Int.eq_of_mul_eq_mul_right (by omega) k1
    rw [this, cmpi_eq, cmpn_eq]
  · have hv := rv_lt h
    have : b < a := by
      rcases Int.lt_or_le b a with h' | h'
      · exact h'
      · have := Int.mul_le_mul_of_nonneg_right h' (Int.le_of_lt hpos); omega
    rw [cmpi_gt this, cmpn_gt h]
end Go.Eng.F32
/- A meter's steps, on singles: they stay between what they have and what they hear. Plain law: no program. -/
set_option linter.unusedVariables false
namespace Go.Eng.F32
open Ieee Go

theorem rv_zero : rv 0 = 0 := by decide
theorem rv_one : rv 1 = 1 := by decide
theorem rv_rung_exact {X k : Nat} (h : X = k * 2 ^ last X) : rv (rung X) * 2 ^ 64 = X := by
  rw [rv_rung]
  have := rnd_exact (k := k) (Nat.two_pow_pos (last X))
  rw [← h] at this
  rw [this, ← h]
theorem rv_pow (k : Nat) : rv (rung (2 ^ k * 2 ^ 64)) = 2 ^ k := by
  apply Nat.eq_of_mul_eq_mul_right (Nat.two_pow_pos 64)
  have hl : last (2 ^ k * 2 ^ 64) ≤ k + 64 := by
    unfold last
    rw [← Nat.pow_add, Nat.log2_two_pow]
    omega
  refine rv_rung_exact (k := 2 ^ (k + 64 - last (2 ^ k * 2 ^ 64))) ?_
  rw [← Nat.pow_add (2 : Nat) (k + 64 - _), Nat.sub_add_cancel hl, Nat.pow_add]

/-- An eighth or a quarter of what lies between, rounded twice, is not above it. -/
theorem part_le {D c : Nat} (hc : 2 ≤ c) (hc' : c ≤ 3) : rv (rung (rv (rung (D * 2 ^ 64)) * 2 ^ (64 - c))) ≤ D := by
  by_cases hD : D = 0
  · subst hD
    rw [Nat.zero_mul, rung_zero, rv_zero, Nat.zero_mul, rung_zero, rv_zero]; exact Nat.le_refl _
  have h1 : 2 ^ D.log2 ≤ D := Nat.log2_self_le hD
  have h2 : D < 2 ^ (D.log2 + 1) := Nat.lt_log2_self
  generalize D.log2 = k at *
  have h3 : rv (rung (D * 2 ^ 64)) ≤ 2 ^ (k + 1) := by
    rw [← rv_pow (k + 1)]
    exact rv_mono (rung_mono (Nat.mul_le_mul_right _ (Nat.le_of_lt h2)))
  refine Nat.le_trans ?_ h1
  rw [← rv_pow k]
  apply rv_mono
  apply rung_mono
  calc rv (rung (D * 2 ^ 64)) * 2 ^ (64 - c) ≤ 2 ^ (k + 1) * 2 ^ 62 := Nat.mul_le_mul h3 (Nat.pow_le_pow_right (by decide) (by omega))
    _ = 2 ^ k * 2 ^ 63 := by rw [← Nat.pow_add, ← Nat.pow_add]
    _ ≤ 2 ^ k * 2 ^ 64 := Nat.mul_le_mul_left _ (Nat.pow_le_pow_right (by decide) (by decide))

/-- a goes towards b, which is not below it. -/
theorem up {a b y c : Nat} (hb : b < 2139095040) (h : a ≤ b) (hy : single.read y = .number false (2 ^ 23) ((c : Int) - 23)) (hc : 2 ≤ c) (hc' : c ≤ 3) :
    ∃ E P M, single.sub b a = some E ∧ single.div E y = some P ∧ single.add a P = some M ∧ a ≤ M ∧ M ≤ b ∧ E ≤ b ∧ (∀ z, rv b - rv a ≤ rv z → E ≤ z) := by
  have hv := rv_mono h
  have hsub := sub_ge hb h
  obtain ⟨E, hE⟩ : ∃ E, E = rung ((rv b - rv a) * 2 ^ 64) := ⟨_, rfl⟩
  have hEz : ∀ z, rv b - rv a ≤ rv z → E ≤ z := fun z hz => by rw [hE]; exact rung_le (Nat.mul_le_mul_right _ hz)
  have hEb : E ≤ b := hEz b (by omega)
  obtain ⟨P, hP⟩ : ∃ P, P = rung (rv E * 2 ^ (64 - c)) := ⟨_, rfl⟩
  have hPv : rv P ≤ rv b - rv a := by rw [hP, hE]; exact part_le hc hc'
  have hd := div_w false (r := E) (by omega) hy hc'
  rw [word_f, word_f, ← hP] at hd
  rw [← hE] at hsub
  have hPb : P ≤ b := rv_le_iff.1 (by omega)
  have hadd := add_pos (x := a) (y := P) (by omega) (by omega)
  obtain ⟨M, hM⟩ : ∃ M, M = rung ((rv a + rv P) * 2 ^ 64) := ⟨_, rfl⟩
  have hlo : a ≤ M := by rw [hM]; exact le_rung (Nat.mul_le_mul_right _ (by omega))
  have hhi : M ≤ b := by rw [hM]; exact rung_le (Nat.mul_le_mul_right _ (by omega))
  rw [← hM, Nat.min_eq_left (by omega)] at hadd
  exact ⟨E, P, M, hsub, hd, hadd, hlo, hhi, hEb, hEz⟩
/-- .. which is below it. -/
theorem down {a b y c : Nat} (ha : a < 2139095040) (h : b < a) (hy : single.read y = .number false (2 ^ 23) ((c : Int) - 23)) (hc : 2 ≤ c) (hc' : c ≤ 3) :
    ∃ E P M, single.sub b a = some (2147483648 + E) ∧ single.div (2147483648 + E) y = some P ∧ single.add a P = some M ∧ b ≤ M ∧ M ≤ a ∧ E ≤ a ∧ 0 < E ∧ (∀ z, rv a - rv b ≤ rv z → E ≤ z) := by
  have hv := rv_lt h
  have hsub := sub_lt ha h
  obtain ⟨E, hE⟩ : ∃ E, E = rung ((rv a - rv b) * 2 ^ 64) := ⟨_, rfl⟩
  have hEz : ∀ z, rv a - rv b ≤ rv z → E ≤ z := fun z hz => by rw [hE]; exact rung_le (Nat.mul_le_mul_right _ hz)
  have hEa : E ≤ a := hEz a (by omega)
  have hE0 : 1 ≤ E := by rw [hE]; exact le_rung (Nat.mul_le_mul_right _ (by rw [rv_one]; omega))
  obtain ⟨P, hP⟩ : ∃ P, P = rung (rv E * 2 ^ (64 - c)) := ⟨_, rfl⟩
  have hPv : rv P ≤ rv a - rv b := by rw [hP, hE]; exact part_le hc hc'
  have hd := div_w true (r := E) (by omega) hy hc'
  rw [word_t, word_t, ← hP] at hd
  rw [← hE] at hsub
  have hPa : P ≤ a := rv_le_iff.1 (by omega)
  have hadd := add_neg ha hPa
  obtain ⟨M, hM⟩ : ∃ M, M = rung ((rv a - rv P) * 2 ^ 64) := ⟨_, rfl⟩
  have hlo : b ≤ M := by rw [hM]; exact le_rung (Nat.mul_le_mul_right _ (by omega))
  have hhi : M ≤ a := by rw [hM]; exact rung_le (Nat.mul_le_mul_right _ (by omega))
  rw [← hM] at hadd
  exact ⟨E, _, M, hsub, hd, hadd, hlo, hhi, hEa, hE0, hEz⟩

theorem order_neg {E : Nat} (h0 : 0 < E) (h : E < 2139095040) : single.order (2147483648 + E) 0 = some .lt := by
  obtain ⟨m, p, e1, h1⟩ := read_w true h
  obtain ⟨n, q, e2, h2⟩ := read_w false (show 0 < 2139095040 by decide)
  rw [word_t] at e1
  rw [word_f] at e2
  unfold Format.order
  rw [e1, e2]
  have hlo1 := h1.lo
  have hlo2 := h2.lo
  obtain ⟨base, hbase⟩ : ∃ base, base = min p q := ⟨_, rfl⟩
  have k1 := signed_units (s := true) h1 (base := base) (by omega) (by omega)
  have k2 := signed_units (s := false) h2 (base := base) (by omega) (by omega)
  simp only [if_true, Bool.false_eq_true, if_false] at k1 k2
  have hpos : (0 : Int) < (2 ^ (base + 149).toNat : Nat) := by have := Nat.two_pow_pos (base + 149).toNat; omega
  show some (compare (signed true m (p - min p q).toNat) (signed false n (q - min p q).toNat)) = _
  rw [← hbase]
  generalize signed true m (p - base).toNat = a at *
  generalize signed false n (q - base).toNat = b at *
  have hv := rv_lt h0
  rw [rv_zero] at hv k2
  congr 1
  apply cmpi_lt
  rcases Int.lt_or_le a b with h' | h'
  · exact h'
  · have := Int.mul_le_mul_of_nonneg_right h' (Int.le_of_lt hpos); omega
theorem xor_top {E : Nat} (h : E < 2139095040) : (2147483648 + E) ^^^ 2147483648 = E := by
  have e : 2147483648 + E = 2147483648 ^^^ E := by
    apply Nat.eq_of_testBit_eq
    intro i
    rw [Nat.testBit_xor, show (2147483648 : Nat) = 2 ^ 31 by decide]
    rcases Nat.lt_trichotomy i 31 with hi | hi | hi
    · rw [Nat.testBit_two_pow_add_gt hi, Nat.testBit_two_pow_of_ne (by omega)]; simp
    · subst hi
      rw [Nat.testBit_two_pow_add_eq, Nat.testBit_two_pow_self]
      have : E.testBit 31 = false := Nat.testBit_lt_two_pow (by omega)
      simp [this]
    · have h1 : (2 ^ 31 + E).testBit i = false := Nat.testBit_lt_two_pow (Nat.lt_of_lt_of_le (show 2 ^ 31 + E < 2 ^ 32 by omega) (Nat.pow_le_pow_right (by decide) (by omega)))
      have h2 : E.testBit i = false := Nat.testBit_lt_two_pow (Nat.lt_of_lt_of_le (show E < 2 ^ 32 by omega) (Nat.pow_le_pow_right (by decide) (by omega)))
      rw [h1, h2, Nat.testBit_two_pow_of_ne (by omega)]; simp
  rw [e, Nat.xor_comm 2147483648, Nat.xor_assoc, Nat.xor_self, Nat.xor_zero]

/-- What a meter hears. -/
theorem hear {m s x : Nat} (hm : m < 2139095040) (hs : s < 2139095040) (hx : x < 2139095040) :
    ∃ m' s' E, (∃ e part e' d r : Nat, floatBits .sub .f32 x m = some e ∧ floatBits .quo .f32 e 1090519040 = some part ∧ floatBits .add .f32 m part = some m' ∧
      (if (FloatKind.f32.format.order e 0 == some .lt) = true then Op.negFloat .f32 e = e' else e = e') ∧ floatBits .sub .f32 e' s = some d ∧ floatBits .quo .f32 d 1082130432 = some r ∧ floatBits .add .f32 s r = some s') ∧
      min m x ≤ m' ∧ m' ≤ max m x ∧ min s E ≤ s' ∧ s' ≤ max s E ∧ E < 2139095040 ∧ (∀ z, rv x ≤ rv m + rv z → rv m ≤ rv x + rv z → E ≤ z) := by
  have second : ∀ E, E < 2139095040 → ∃ d r s', single.sub E s = some d ∧ single.div d 1082130432 = some r ∧ single.add s r = some s' ∧ min s E ≤ s' ∧ s' ≤ max s E := by
    intro E hE
    rcases Nat.lt_or_ge E s with h | h
    · obtain ⟨d, r, s', h1, h2, h3, h4, h5, _⟩ := down hs h read4 (by omega) (by omega)
      exact ⟨_, r, s', h1, h2, h3, by omega, by omega⟩
    · obtain ⟨d, r, s', h1, h2, h3, h4, h5, _⟩ := up hE h read4 (by omega) (by omega)
      exact ⟨_, r, s', h1, h2, h3, by omega, by omega⟩
  rcases Nat.lt_or_ge x m with h | h
  · obtain ⟨E, P, M, h1, h2, h3, h4, h5, h6, h7, h8⟩ := down hm h read8 (by omega) (by omega)
    obtain ⟨d, r, s', g1, g2, g3, g4, g5⟩ := second E (by omega)
    have ho : (FloatKind.f32.format.order (2147483648 + E) 0 == some .lt) = true := by
      show (single.order (2147483648 + E) 0 == some .lt) = true
      rw [order_neg h7 (by omega)]; rfl
    refine ⟨M, s', E, ⟨_, P, E, d, r, h1, h2, h3, ?_, g1, g2, g3⟩, by omega, by omega, g4, g5, by omega, fun z hz1 hz2 => h8 z (by omega)⟩
    rw [if_pos ho]
    exact xor_top (by omega)
  · obtain ⟨E, P, M, h1, h2, h3, h4, h5, h6, h8⟩ := up hx h read8 (by omega) (by omega)
    obtain ⟨d, r, s', g1, g2, g3, g4, g5⟩ := second E (by omega)
    have ho : (FloatKind.f32.format.order E 0 == some .lt) = false := by
      show (single.order E 0 == some .lt) = false
      rw [order_w (by omega) (by decide)]
      rcases Nat.eq_zero_or_pos E with h0 | h0
      · rw [h0, cmpn_eq]; rfl
      · rw [cmpn_gt h0]; rfl
    refine ⟨M, s', E, ⟨_, P, E, d, r, h1, h2, h3, ?_, g1, g2, g3⟩, by omega, by omega, g4, g5, by omega, fun z hz1 hz2 => h8 z (by omega)⟩
    rw [ho]
    rfl

/-! ### whole numbers -/
theorem f_int (n : Nat) (h : n ≤ 1048576) : floatOfInt .f32 (n : Int) = rung (n * 2 ^ 213) ∧ rv (rung (n * 2 ^ 213)) = n * 2 ^ 149 ∧ rung (n * 2 ^ 213) ≤ 1233125376 := by
  have hB : rv 1233125376 = 1048576 * 2 ^ 149 := by decide
  have hle : rung (n * 2 ^ 213) ≤ 1233125376 := rung_le (by rw [hB, Nat.mul_assoc, ← Nat.pow_add]; exact Nat.mul_le_mul_right _ h)
  refine ⟨?_, ?_, hle⟩
  · show single.nearest (decide ((n : Int) < 0)) (n : Int).natAbs 0 = _
    rw [show (n : Int).natAbs = n by omega, decide_eq_false (by omega), near (X := n * 2 ^ 213) (by omega) (by rw [show ((0 : Int) + 213).toNat = 213 by decide]), word_f, Nat.min_eq_left (by omega)]
  · apply Nat.eq_of_mul_eq_mul_right (Nat.two_pow_pos 64)
    rw [Nat.mul_assoc n, ← Nat.pow_add]
    by_cases h0 : n = 0
    · subst h0; rw [Nat.zero_mul, rung_zero, rv_zero, Nat.zero_mul]
    · have hl : last (n * 2 ^ 213) ≤ 213 := by
        unfold last
        rw [log2_shift _ _ h0]
        have : n.log2 < 21 := (Nat.log2_lt h0).2 (by omega)
        omega
      refine rv_rung_exact (k := n * 2 ^ (213 - last (n * 2 ^ 213))) ?_
      rw [Nat.mul_assoc, ← Nat.pow_add, Nat.sub_add_cancel hl]
theorem div2 {r : Nat} (h : r < 2139095040) : floatBits .quo .f32 r 1073741824 = some (rung (rv r * 2 ^ 63)) := by
  have := div_w false h read2 (by omega)
  rw [word_f, word_f] at this
  exact this
theorem cut_zero (neg : Bool) (n d : Nat) (hn : n ≠ 0) : Toward.zero.cut neg n d = n / 2 ^ d := by
  show n / (1 <<< min d (n.log2 + 2)) + 0 = _
  rw [Nat.one_shiftLeft, Nat.add_zero]
  rcases Nat.le_total d (n.log2 + 2) with h | h
  · rw [Nat.min_eq_left h]
  · rw [Nat.min_eq_right h]
    have hl : n < 2 ^ (n.log2 + 1) := Nat.lt_log2_self
    have h1 : n < 2 ^ (n.log2 + 2) := Nat.lt_of_lt_of_le hl (Nat.pow_le_pow_right (by decide) (by omega))
    have h2 : n < 2 ^ d := Nat.lt_of_lt_of_le h1 (Nat.pow_le_pow_right (by decide) h)
    rw [Nat.div_eq_of_lt h1, Nat.div_eq_of_lt h2]
theorem to_int {g : Nat} (h : g < 1233125376) : floatToIntVal .f32 g .i64 = some ((rv g / 2 ^ 149 : Nat) : Int) ∧ rv g / 2 ^ 149 < 1048576 := by
  have hB : rv 1233125376 = 1048576 * 2 ^ 149 := by decide
  have hv := rv_lt h
  rw [hB] at hv
  have hlt : rv g / 2 ^ 149 < 1048576 := (Nat.div_lt_iff_lt_mul (Nat.two_pow_pos 149)).2 hv
  refine ⟨?_, hlt⟩
  obtain ⟨m, p, e1, h1⟩ := read_w false (show g < 2139095040 by omega)
  rw [word_f] at e1
  have hlo := h1.lo
  have hc : Toward.zero.cut false (m <<< p.toNat) (-p).toNat = rv g / 2 ^ 149 := by
    rw [Nat.shiftLeft_eq]
    by_cases hm : m = 0
    · subst hm
      have := h1.eq
      rw [Nat.zero_mul] at this
      rw [← this, Nat.zero_mul, Nat.zero_div]
      show 0 / _ + 0 = 0
      rw [Nat.zero_div]
    · have hm0 : m * 2 ^ p.toNat ≠ 0 := by
        have := Nat.two_pow_pos p.toNat
        intro h0
        rcases Nat.mul_eq_zero.1 h0 with h2 | h2 <;> omega
      rw [cut_zero _ _ _ hm0, ← h1.eq]
      rcases Int.le_total 0 p with hp | hp
      · rw [show (-p).toNat = 0 by omega, Nat.pow_zero, Nat.div_one, show (p + 149).toNat = p.toNat + 149 by omega, Nat.pow_add, ← Nat.mul_assoc, Nat.mul_div_cancel _ (Nat.two_pow_pos 149)]
      · have e149 : (149 : Nat) = (-p).toNat + (p + 149).toNat := by omega
        rw [show p.toNat = 0 by omega, Nat.pow_zero, Nat.mul_one]
        conv => rhs; rw [e149, Nat.pow_add]
        rw [Nat.mul_div_mul_right _ _ (Nat.two_pow_pos _)]
  unfold floatToIntVal
  have ht : (FloatKind.decode .f32 g).toInt .zero = some ((rv g / 2 ^ 149 : Nat) : Int) := by
    show (single.read g).toInt .zero = _
    rw [e1]
    show some (signed false (Toward.zero.cut false (m <<< p.toNat) (-p).toNat) 0) = _
    rw [hc]
    rfl
  rw [ht]
  generalize rv g / 2 ^ 149 = k at *
  have hmin : IntKind.i64.min = -9223372036854775808 := rfl
  have hmax : IntKind.i64.max = 9223372036854775807 := rfl
  simp only [hmin, hmax]
  rw [if_pos (by omega)]
/-- The guess. -/
theorem guess {m s : Nat} (hm : m ≤ 1233125376) (hs : s ≤ 1233125376) : ∃ n : Nat, n ≤ 1048576 ∧ m ≤ rung (n * 2 ^ 213) ∧
    ∃ four g : Nat, floatBits .mul .f32 1082130432 s = some four ∧ floatBits .add .f32 m four = some g ∧
    (if (FloatKind.f32.format.order g 1233125376 == some .gt || FloatKind.f32.format.order g 1233125376 == some .eq) = true then (n : Int) = 1048576
     else ∃ k, floatToIntVal .f32 g .i64 = some k ∧ (-4000000000000000000 ≤ k ∧ k ≤ 4000000000000000000) ∧ (if (FloatKind.f32.format.order (floatOfInt .f32 k) g == some .lt) = true then (n : Int) = k + 1 else (n : Int) = k)) := by
  have hB : rv 1233125376 = 2 ^ 169 := by decide
  have h171 : rv 1249902592 = 2 ^ 171 := by decide
  have h172 : rv 1258291200 = 2 ^ 172 := by decide
  have hsv := rv_mono hs
  have hmv := rv_mono hm
  rw [hB] at hsv hmv
  have e4 : (2 : Nat) ^ 171 * 2 ^ 64 = 2 ^ 169 * 2 ^ 66 := by rw [← Nat.pow_add]
  have h4 : rung (rv s * 2 ^ 66) ≤ 1249902592 := rung_le (by rw [h171, e4]; exact Nat.mul_le_mul_right _ hsv)
  have hmul := mul4 (r := s) (by omega)
  rw [Nat.min_eq_left (by omega)] at hmul
  generalize rung (rv s * 2 ^ 66) = four at *
  have h4v := rv_mono h4
  rw [h171] at h4v
  have hg : rung ((rv m + rv four) * 2 ^ 64) ≤ 1258291200 := rung_le (Nat.mul_le_mul_right _ (by rw [h172]; omega))
  have hadd := add_pos (x := m) (y := four) (by omega) (by omega)
  rw [Nat.min_eq_left (by omega)] at hadd
  have hge : m ≤ rung ((rv m + rv four) * 2 ^ 64) := le_rung (Nat.mul_le_mul_right _ (by omega))
  generalize rung ((rv m + rv four) * 2 ^ 64) = g at *
  have ho : FloatKind.f32.format.order g 1233125376 = some (compare g 1233125376) := order_w (by omega) (by decide)
  rcases Nat.lt_or_ge g 1233125376 with h | h
  · obtain ⟨ht, hk⟩ := to_int h
    have hdm := Nat.div_add_mod (rv g) (2 ^ 149)
    have hml := Nat.mod_lt (rv g) (Nat.two_pow_pos 149)
    have hgm := rv_mono hge
    generalize rv g / 2 ^ 149 = k at *
    obtain ⟨f1, f2, f3⟩ := f_int k (by omega)
    obtain ⟨f4, f5, f6⟩ := f_int (k + 1) (by omega)
    have ho2 : FloatKind.f32.format.order (floatOfInt .f32 (k : Int)) g = some (compare (rung (k * 2 ^ 213)) g) := by rw [f1]; exact order_w (by omega) (by omega)
    have hb : (FloatKind.f32.format.order g 1233125376 == some .gt || FloatKind.f32.format.order g 1233125376 == some .eq) = false := by rw [ho, cmpn_lt h]; rfl
    rcases Nat.lt_or_ge (rung (k * 2 ^ 213)) g with h2 | h2
    · refine ⟨k + 1, by omega, rv_le_iff.1 (by rw [f5, Nat.add_mul]; omega), four, g, hmul, hadd, ?_⟩
      rw [hb]
      refine ⟨(k : Int), ht, by omega, ?_⟩
      rw [ho2, cmpn_lt h2]
      simp
    · refine ⟨k, by omega, by omega, four, g, hmul, hadd, ?_⟩
      rw [hb]
      refine ⟨(k : Int), ht, by omega, ?_⟩
      have : (FloatKind.f32.format.order (floatOfInt .f32 (k : Int)) g == some .lt) = false := by
        rw [ho2]
        rcases Nat.eq_or_lt_of_le h2 with h3 | h3
        · rw [h3, cmpn_eq]; rfl
        · rw [cmpn_gt h3]; rfl
      rw [this]
      simp
  · obtain ⟨f1, f2, f3⟩ := f_int 1048576 (by omega)
    refine ⟨1048576, by omega, rv_le_iff.1 (by rw [f2, show 1048576 * 2 ^ 149 = 2 ^ 169 by decide]; exact hmv), four, g, hmul, hadd, ?_⟩
    have hb : (FloatKind.f32.format.order g 1233125376 == some .gt || FloatKind.f32.format.order g 1233125376 == some .eq) = true := by
      rw [ho]
      rcases Nat.eq_or_lt_of_le h with h3 | h3
      · rw [← h3, cmpn_eq]; rfl
      · rw [cmpn_gt h3]; rfl
    rw [hb]
    rfl
end Go.Eng.F32
