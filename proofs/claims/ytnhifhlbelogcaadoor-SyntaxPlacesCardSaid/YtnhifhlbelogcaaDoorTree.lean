/- Trees: a thing with a list of things of its own kind. -/
import Derived.Test.YtnhifhlbelogcaaDoorPtrs
set_option linter.unusedVariables false
namespace Go.Eng
open Go
section
variable {P : Program} {N : FN} {l : Fr} {w : World} {dst : Option Tmp} {ty : TypeId} {pos : String} {aft : Array Edge} {g : Option (Nat × Bool)} {T : TypeId} {x : Operand} {v u : Value} {fs : Array Field}
theorem G.mkif (hu : P.underlying T = some (.struct fs)) (hx : ev l x = some v) : GP P N l ⟨dst, .makeInterface T x, ty, pos, aft, g⟩ (.iface T v) := fun w a ha => by
  have hr : (Instr.makeInterface T v).run P w = .ok (.iface T v) w := by unfold Instr.makeInterface; simp [go_sem, run_underlying hu]
  unfold execOp
  simp only [ha.ev hx, Sem.run_bind, hr, Result.andThen_ok, Sem.run_pure]
variable {n d i f : Nat} {fn : Func} {R : Ending → World → Prop} {t s : Tmp} {ops : Array Oper} {Q : Exit → Act → World → Prop} {S : World → Prop} {o : Ord} {es : List En} {W : List Nat} {op : Op} {xs : List Operand} {vs : List Value} {ts : Array TypeId}
theorem WLv.ret2 (hres : fn.results = #[.tmp t, .tmp s]) (hv : look l t = some v) (hx : look l s = some u) (h : R (.returned (.tuple #[v, u])) w) : WLv P n fn R [] .returning l w :=
  WLv.ret (fun N a ha => by rw [results_tmp2 hres, ha.get hv, ha.get hx]) h
theorem calls_uponp {o : Oper} {a : Act} {K : Act → World → Prop} (h : Calls P f vs.toArray w fun e w' => (∃ v, e = .returned v ∧ K (a.put o.dst v) w') ∨ ∃ c, e = .panicked c ∧ Q (.panic c) a w') : o.upon P a K Q (.ok (.enter f vs.toArray) w) := by
  show Calls P f vs.toArray w _
  refine h.mono ?_
  rintro e w' (⟨v, rfl, hk⟩ | ⟨c, rfl, hk⟩)
  · exact hk
  · exact hk
theorem WH.callp (hi : ops[i]? = some ⟨some d, .call { callee := .value (.func f), args := xs.toArray, argTypes := ts }, ty, pos, aft, g⟩)
    (hw : Wants N ops l ⟨some d, .call { callee := .value (.func f), args := xs.toArray, argTypes := ts }, ty, pos, aft, g⟩) (hf : Callable P f) (hargs : evs l xs vs) (hd : Nat.blt d N.n = true)
    (h : Calls P f vs.toArray w fun e w' => (∃ v, e = .returned v ∧ S w' ∧ WH P N ops Q S o ((d, v) :: l) w') ∨ ∃ c, e = .panicked c ∧ WEx N Q (.panic c) l w') : WH P N ops Q S (.one i 2 o) l w := fun a ha =>
  ⟨_, hi, by
    rw [if_pos (hw a ha)]
    show Oper.wp _ _ _ _ _ _
    unfold Oper.wp
    rw [exec_call hf hargs ha]
    refine calls_uponp (h.mono ?_)
    rintro e w' (⟨v, rfl, hS, hk⟩ | ⟨c, rfl, hk⟩)
    · exact .inl ⟨v, rfl, hS, hk _ (ha.put hd v)⟩
    · exact .inr ⟨c, rfl, hk a ha⟩⟩
/-- Where a struct's field of one cell lies. -/
def fldOne (P : Program) (S : TypeId) (f : Nat) : Option Nat :=
  match P.underlying S with
  | some (.struct fs) => match fs[f]? with
    | some fd => if isOneT P fd.type then some fd.offset else none
    | none => none
  | _ => none
theorem G.fieldv {S : TypeId} {f off : Nat} {cs : Array Value} (hf : fldOne P S f = some off) (hx : ev l x = some (.agg cs)) (hv : cs[off]? = some v) : GP P N l ⟨dst, .field S x f, ty, pos, aft, g⟩ v := fun w a ha => by
  unfold fldOne at hf
  split at hf
  · rename_i fs hS
    split at hf
    · rename_i fd hfd
      split at hf
      · rename_i h1
        cases hf
        have hr : (Instr.field S (.agg cs) f).run P w = .ok v w := by
          unfold Instr.field
          simp [go_sem, run_underlying hS, hfd, part, isOne_run h1, hv, asAgg]
        unfold execOp
        simp only [ha.ev hx, Sem.run_bind, hr, Result.andThen_ok, Sem.run_pure]
      · cases hf
    · cases hf
  · cases hf
theorem exec_pan {T : TypeId} {u : Value} (hx : ev l x = some (.iface T u)) : ∀ a, Has N l a → (execOp a.eval ⟨dst, .panic x, ty, pos, aft, none⟩).run P w = .halt (.panic (.iface T u)) w := fun a ha => by
  unfold execOp
  simp only [ha.ev hx, Sem.run_bind, Instr.panic]
  rfl
end
end Go.Eng
namespace Go.Proofs.YtnhifhlbelogcaaDoor
open Go Go.Eng
structure Tree where
  Kind : Int
  Name : List UInt8
  Number : Int
  At : Int
  Kids : List Tree
section
variable {w w' : World} {F F' : Nat → Prop} {α : Type} {e : TypeId}
def Tree.no : Rp Tree where
  sz := 5
  rd := fun _ _ _ _ => False
  own := fun _ _ _ => False
  len := fun h => h.elim
  one := fun h => h.elim
  lenO := fun h => h.elim
  oneO := fun h => h.elim
  ext := fun h _ => h
  mono := fun h _ => h
  low := fun h _ => h.elim
/-- A tree whose kids are told by r. -/
def Tree.node (r : Rp Tree) : Rp Tree where
  sz := 5
  rd := fun w F x cs => ∃ A1 : Option Addr, ∃ c1 : Nat, cs = [.int .i64 x.Kind, .string (bs x.Name), .int .i64 x.Number, .int .i64 x.At, .slice A1 (x.Kids).length c1] ∧ SlR r w F A1 c1 (x.Kids)
  own := fun x cs G => ∃ A1 : Option Addr, ∃ c1 : Nat, ∃ G1 : Grp, cs = [.int .i64 x.Kind, .string (bs x.Name), .int .i64 x.Number, .int .i64 x.At, .slice A1 (x.Kids).length c1] ∧ SlO 24 r (.slice A1 (x.Kids).length c1) (x.Kids) G1 ∧ G = G1
  len := by rintro _ _ _ _ ⟨_, _, rfl, _⟩; rfl
  one := by rintro _ _ _ _ ⟨_, _, rfl, _⟩; exact one_of_all rfl
  lenO := by rintro _ _ _ ⟨_, _, _, rfl, _⟩; rfl
  oneO := by rintro _ _ _ ⟨_, _, _, rfl, _⟩; exact one_of_all rfl
  ext := by rintro _ _ _ _ _ ⟨A1, c1, rfl, h1⟩ hE; exact ⟨A1, c1, rfl, h1.ext hE⟩
  mono := by rintro _ _ _ _ _ ⟨A1, c1, rfl, h1⟩ hF; exact ⟨A1, c1, rfl, h1.mono hF⟩
  low := by
    rintro w x cs G ⟨A1, c1, G1, rfl, h1, rfl⟩ hG
    exact ⟨A1, c1, rfl, h1.rd hG⟩
def Tree.rpN : Nat → Rp Tree
  | 0 => Tree.no
  | n + 1 => Tree.node (Tree.rpN n)
theorem Tree.rpN_sz : ∀ n, (Tree.rpN n).sz = 5
  | 0 => rfl
  | n + 1 => rfl
theorem elems.imp {r r' : Rp α} (h : ∀ x cs, r.rd w F x cs → r'.rd w F x cs) : ∀ {L : List α} {xs : List Value}, elems r w F L xs → elems r' w F L xs
  | [], _, h1 => h1
  | x :: L, _, ⟨cs, ys, e1, h1, h2⟩ => ⟨cs, ys, e1, h x cs h1, elems.imp h h2⟩
theorem elemsO.imp {r r' : Rp α} (h : ∀ x cs G, r.own x cs G → r'.own x cs G) : ∀ {L : List α} {xs : List Value} {G : Grp}, elemsO r L xs G → elemsO r' L xs G
  | [], _, _, h1 => h1
  | x :: L, _, _, ⟨cs, ys, G1, G2, e1, e2, h1, h2⟩ => ⟨cs, ys, G1, G2, e1, e2, h x cs G1 h1, elemsO.imp h h2⟩
theorem SlR.imp {r r' : Rp α} {A : Option Addr} {c : Nat} {L : List α} (h : ∀ x cs, r.rd w F x cs → r'.rd w F x cs) (h1 : SlR r w F A c L) : SlR r' w F A c L := by
  obtain ⟨k1, k2, xs, k3, k4⟩ := h1
  exact ⟨k1, k2, xs, elems.imp h k3, k4⟩
theorem SlO.imp {r r' : Rp α} {v : Value} {L : List α} {G : Grp} (hs : r.sz = r'.sz) (h : ∀ x cs G, r.own x cs G → r'.own x cs G) (h1 : SlO e r v L G) : SlO e r' v L G := by
  obtain ⟨xs, G0, G1, k1, k2, k3⟩ := h1
  exact ⟨xs, G0, G1, hs ▸ k1, elemsO.imp h k2, k3⟩
theorem Tree.rd_succ : ∀ (n : Nat) (x : Tree) (cs : List Value), (Tree.rpN n).rd w F x cs → (Tree.rpN (n + 1)).rd w F x cs
  | 0, _, _, h => h.elim
  | n + 1, x, cs, ⟨A1, c1, e1, h1⟩ => ⟨A1, c1, e1, SlR.imp (Tree.rd_succ n) h1⟩
theorem Tree.own_succ : ∀ (n : Nat) (x : Tree) (cs : List Value) (G : Grp), (Tree.rpN n).own x cs G → (Tree.rpN (n + 1)).own x cs G
  | 0, _, _, _, h => h.elim
  | n + 1, x, cs, G, ⟨A1, c1, G1, e1, h1, e2⟩ => ⟨A1, c1, G1, e1, SlO.imp ((Tree.rpN_sz n).trans (Tree.rpN_sz (n + 1)).symm) (Tree.own_succ n) h1, e2⟩
theorem Tree.rd_le {n m : Nat} (h : n ≤ m) {x : Tree} {cs : List Value} (h1 : (Tree.rpN n).rd w F x cs) : (Tree.rpN m).rd w F x cs := by
  induction h with
  | refl => exact h1
  | step _ ih => exact Tree.rd_succ _ _ _ ih
theorem Tree.own_le {n m : Nat} (h : n ≤ m) {x : Tree} {cs : List Value} {G : Grp} (h1 : (Tree.rpN n).own x cs G) : (Tree.rpN m).own x cs G := by
  induction h with
  | refl => exact h1
  | step _ ih => exact Tree.own_succ _ _ _ _ ih
def Tree.rp : Rp Tree where
  sz := 5
  rd := fun w F x cs => ∃ n, (Tree.rpN n).rd w F x cs
  own := fun x cs G => ∃ n, (Tree.rpN n).own x cs G
  len := by rintro _ _ _ _ ⟨n, h⟩; exact ((Tree.rpN n).len h).trans (Tree.rpN_sz n)
  one := by rintro _ _ _ _ ⟨n, h⟩; exact (Tree.rpN n).one h
  lenO := by rintro _ _ _ ⟨n, h⟩; exact ((Tree.rpN n).lenO h).trans (Tree.rpN_sz n)
  oneO := by rintro _ _ _ ⟨n, h⟩; exact (Tree.rpN n).oneO h
  ext := by rintro _ _ _ _ _ ⟨n, h⟩ hE; exact ⟨n, (Tree.rpN n).ext h hE⟩
  mono := by rintro _ _ _ _ _ ⟨n, h⟩ hF; exact ⟨n, (Tree.rpN n).mono h hF⟩
  low := by rintro _ _ _ _ ⟨n, h⟩ hG; exact ⟨n, (Tree.rpN n).low h hG⟩
theorem Tree.elems_ex : ∀ {L : List Tree} {xs : List Value}, elems Tree.rp w F L xs → ∃ n, elems (Tree.rpN n) w F L xs
  | [], _, h => ⟨0, h⟩
  | x :: L, _, ⟨cs, ys, e1, ⟨n, h1⟩, h2⟩ => by
    obtain ⟨m, h3⟩ := Tree.elems_ex h2
    exact ⟨max n m, cs, ys, e1, Tree.rd_le (Nat.le_max_left _ _) h1, elems.imp (fun _ _ h => Tree.rd_le (Nat.le_max_right _ _) h) h3⟩
theorem Tree.elemsO_ex : ∀ {L : List Tree} {xs : List Value} {G : Grp}, elemsO Tree.rp L xs G → ∃ n, elemsO (Tree.rpN n) L xs G
  | [], _, _, h => ⟨0, h⟩
  | x :: L, _, _, ⟨cs, ys, G1, G2, e1, e2, ⟨n, h1⟩, h2⟩ => by
    obtain ⟨m, h3⟩ := Tree.elemsO_ex h2
    exact ⟨max n m, cs, ys, G1, G2, e1, e2, Tree.own_le (Nat.le_max_left _ _) h1, elemsO.imp (fun _ _ _ h => Tree.own_le (Nat.le_max_right _ _) h) h3⟩
theorem Tree.rd_iff {x : Tree} {cs : List Value} : Tree.rp.rd w F x cs ↔ ∃ A1 : Option Addr, ∃ c1 : Nat, cs = [.int .i64 x.Kind, .string (bs x.Name), .int .i64 x.Number, .int .i64 x.At, .slice A1 (x.Kids).length c1] ∧ SlR Tree.rp w F A1 c1 (x.Kids) := by
  constructor
  · rintro ⟨n, h⟩
    cases n with
    | zero => exact h.elim
    | succ n =>
      obtain ⟨A1, c1, e1, h1⟩ := h
      exact ⟨A1, c1, e1, SlR.imp (fun _ _ h => ⟨n, h⟩) h1⟩
  · rintro ⟨A1, c1, e1, k1, k2, xs, k3, k4⟩
    obtain ⟨n, h⟩ := Tree.elems_ex k3
    exact ⟨n + 1, A1, c1, e1, k1, k2, xs, h, k4⟩
theorem Tree.own_iff {x : Tree} {cs : List Value} {G : Grp} : Tree.rp.own x cs G ↔ ∃ A1 : Option Addr, ∃ c1 : Nat, ∃ G1 : Grp, cs = [.int .i64 x.Kind, .string (bs x.Name), .int .i64 x.Number, .int .i64 x.At, .slice A1 (x.Kids).length c1] ∧ SlO 24 Tree.rp (.slice A1 (x.Kids).length c1) (x.Kids) G1 ∧ G = G1 := by
  constructor
  · rintro ⟨n, h⟩
    cases n with
    | zero => exact h.elim
    | succ n =>
      obtain ⟨A1, c1, G1, e1, h1, e2⟩ := h
      exact ⟨A1, c1, G1, e1, SlO.imp (Tree.rpN_sz n) (fun _ _ _ h => ⟨n, h⟩) h1, e2⟩
  · rintro ⟨A1, c1, G1, e1, ⟨xs, G0, G2, k1, k2, k3⟩, e2⟩
    obtain ⟨n, h⟩ := Tree.elemsO_ex k2
    exact ⟨n + 1, A1, c1, G1, e1, ⟨xs, G0, G2, (Tree.rpN_sz n).symm ▸ k1, h, k3⟩, e2⟩
end
/-- How a call ends that may be given up. -/
def endP : Option Value → Value → Ending
  | none, v => .returned v
  | some x, _ => .panicked [{ v := x, recovered := false }]
theorem endP_some {o : Option Value} (h : o.isSome = true) : ∃ x, ∀ v, endP o v = .panicked [{ v := x, recovered := false }] := by
  obtain ⟨x, rfl⟩ := Option.isSome_iff_exists.1 h
  exact ⟨_, fun _ => rfl⟩
theorem endP_none {o : Option Value} (h : ¬ o.isSome = true) (v : Value) : endP o v = .returned v := by
  cases o with
  | none => rfl
  | some x => exact absurd rfl h
end Go.Proofs.YtnhifhlbelogcaaDoor
