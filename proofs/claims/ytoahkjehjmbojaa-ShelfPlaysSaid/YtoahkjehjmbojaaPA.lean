/- Functions and their walks (printed by auto.py over the engine). -/
import Derived.Test.YtoahkjehjmbojaaProg
import Derived.Test.YtoahkjehjmbojaaPtrs
namespace Go.Proofs.Ytoahkjehjmbojaa
open Go Go.Eng
set_option linter.unusedSimpArgs false
set_option linter.unusedVariables false
theorem T.mixed : Try.prog.follows .mixedOrders = true := by kernel_rfl
theorem T.agg103_2 : isAggT Try.prog 103 2 = true := by kernel_rfl
theorem T.agg193_2 : isAggT Try.prog 193 2 = true := by kernel_rfl
theorem T.call106 : Callable Try.prog 106 := Callable.mk Try.func106 (by kernel_rfl) (by kernel_rfl)
theorem T.call107 : Callable Try.prog 107 := Callable.mk Try.func107 (by kernel_rfl) (by kernel_rfl)
theorem T.call125 : Callable Try.prog 125 := Callable.mk Try.func125 (by kernel_rfl) (by kernel_rfl)
theorem T.call126 : Callable Try.prog 126 := Callable.mk Try.func126 (by kernel_rfl) (by kernel_rfl)
theorem T.call54 : Callable Try.prog 54 := Callable.mk Try.func54 (by kernel_rfl) (by kernel_rfl)
theorem T.call80 : Callable Try.prog 80 := Callable.mk Try.func80 (by kernel_rfl) (by kernel_rfl)
theorem T.call81 : Callable Try.prog 81 := Callable.mk Try.func81 (by kernel_rfl) (by kernel_rfl)
theorem T.call82 : Callable Try.prog 82 := Callable.mk Try.func82 (by kernel_rfl) (by kernel_rfl)
theorem T.call83 : Callable Try.prog 83 := Callable.mk Try.func83 (by kernel_rfl) (by kernel_rfl)
theorem T.call84 : Callable Try.prog 84 := Callable.mk Try.func84 (by kernel_rfl) (by kernel_rfl)
theorem T.call85 : Callable Try.prog 85 := Callable.mk Try.func85 (by kernel_rfl) (by kernel_rfl)
theorem T.call89 : Callable Try.prog 89 := Callable.mk Try.func89 (by kernel_rfl) (by kernel_rfl)
theorem T.el176 : slEl Try.prog 176 = some 2 := by kernel_rfl
theorem T.el189 : slEl Try.prog 189 = some 2 := by kernel_rfl
theorem T.el77 : slEl Try.prog 77 = some 1 := by kernel_rfl
theorem T.el96 : slEl Try.prog 96 = some 7 := by kernel_rfl
theorem T.elt189 : Elt Try.prog 189 193 2 24 := elt_mk (z := .agg #[.string ⟨#[]⟩, .int .i64 0]) Try.underlying189 (by kernel_rfl) rfl
theorem T.elt77 : Elt Try.prog 77 9 1 16 := elt_mk (z := .string ⟨#[]⟩) Try.underlying77 (by kernel_rfl) rfl
theorem T.fld103_0 : fldOff Try.prog 103 0 = some 0 := by kernel_rfl
theorem T.fld103_1 : fldOff Try.prog 103 1 = some 1 := by kernel_rfl
theorem T.fld116_2 : fldOff Try.prog 116 2 = some 2 := by kernel_rfl
theorem T.fld191_0 : fldOff Try.prog 191 0 = some 0 := by kernel_rfl
theorem T.fld191_1 : fldOff Try.prog 191 1 = some 1 := by kernel_rfl
theorem T.fld193_0 : fldOff Try.prog 193 0 = some 0 := by kernel_rfl
theorem T.fld193_1 : fldOff Try.prog 193 1 = some 1 := by kernel_rfl
theorem T.one189 : isOneT Try.prog 189 = true := by kernel_rfl
theorem T.one3 : isOneT Try.prog 3 = true := by kernel_rfl
theorem T.one9 : isOneT Try.prog 9 = true := by kernel_rfl
theorem T.size103_2 : sizeT Try.prog 103 = some 2 := by kernel_rfl
theorem T.size189_1 : sizeT Try.prog 189 = some 1 := by kernel_rfl
theorem T.size193_2 : sizeT Try.prog 193 = some 2 := by kernel_rfl
theorem T.size3_1 : sizeT Try.prog 3 = some 1 := by kernel_rfl
theorem T.str9 : isStr Try.prog 9 = true := by kernel_rfl
theorem T.zero103 : zeroOf Try.prog 103 = some (.agg #[.string (bs ([] : List UInt8)), .int .i64 0]) := by kernel_rfl
theorem T.zero193 : zeroOf Try.prog 193 = some (.agg #[.string (bs ([] : List UInt8)), .int .i64 0]) := by kernel_rfl
structure Pair_string__int_ where
  key : List UInt8
  value : Int
  deriving DecidableEq
def Pair_string__int_.cs (x : Pair_string__int_) : List Value := [.string (bs x.key), .int .i64 x.value]
def Pair_string__int_.rp : Rp Pair_string__int_ := .plain Pair_string__int_.cs 2 (fun _ => rfl) (fun _ => rfl)
structure Shelf_string__int_ where
  most : Int
  pairs : List Pair_string__int_
  deriving DecidableEq
def Shelf_string__int_.rp : Rp Shelf_string__int_ where
  sz := 2
  rd := fun w F x cs => ∃ A1 : Option Addr, ∃ c1 : Nat, cs = [.int .i64 x.most, .slice A1 (x.pairs).length c1] ∧ SlR Pair_string__int_.rp w F A1 c1 (x.pairs)
  own := fun x cs G => ∃ A1 : Option Addr, ∃ c1 : Nat, ∃ G1 : Grp, cs = [.int .i64 x.most, .slice A1 (x.pairs).length c1] ∧ SlO 193 Pair_string__int_.rp (.slice A1 (x.pairs).length c1) (x.pairs) G1 ∧ G = G1
  len := by rintro _ _ _ _ ⟨_, _, rfl, _⟩; rfl
  one := by rintro _ _ _ _ ⟨_, _, rfl, _⟩; exact one_of_all rfl
  lenO := by rintro _ _ _ ⟨_, _, _, rfl, _⟩; rfl
  oneO := by rintro _ _ _ ⟨_, _, _, rfl, _⟩; exact one_of_all rfl
  ext := by rintro _ _ _ _ _ ⟨A1, c1, rfl, h1⟩ hE; exact ⟨A1, c1, rfl, h1.ext hE⟩
  mono := by rintro _ _ _ _ _ ⟨A1, c1, rfl, h1⟩ hF; exact ⟨A1, c1, rfl, h1.mono hF⟩
  low := by
    rintro w x cs G ⟨A1, c1, G1, rfl, h1, hGe⟩ hG
    exact ⟨A1, c1, rfl, (h1.rd (fun b o hb => hG b o (by rw [hGe]; simp [hb]))).mono (fun b (hb : b ∈ keys G1) => show b ∈ keys G by rw [hGe]; simp [keys_append, hb])⟩
structure KeyS where
  S : List UInt8
  N : Int
  deriving DecidableEq
def KeyS.cs (x : KeyS) : List Value := [.string (bs x.S), .int .i64 x.N]
def KeyS.rp : Rp KeyS := .plain KeyS.cs 2 (fun _ => rfl) (fun _ => rfl)
structure OpS where
  Kind : Int
  On : Int
  K : KeyS
  V : Int
  N : Int
  M : Int
  deriving DecidableEq
def OpS.cs (x : OpS) : List Value := [.int .i64 x.Kind, .int .i64 x.On, .string (bs x.K.S), .int .i64 x.K.N, .int .i64 x.V, .int .i64 x.N, .int .i64 x.M]
def OpS.rp : Rp OpS := .plain OpS.cs 7 (fun _ => rfl) (fun _ => rfl)
theorem KeyS.eq_iff103 (x y : KeyS) : x = y ↔ x.S = y.S ∧ x.N = y.N := by
  cases x; cases y; simp
theorem KeyS.eqd103 (d : Nat) (a0 : List UInt8) (a1 : Int) (b0 : List UInt8) (b1 : Int) (w : World) : (Op.equalIn (d + 2) 103 (.agg #[.string (bs a0), .int .i64 a1]) (.agg #[.string (bs b0), .int .i64 b1])).run Try.prog w = .ok (decide (a0 = b0 ∧ a1 = b1)) w := by
  rw [show d + 2 = (d + 1) + 1 from rfl, run_equalIn_struct w (d + 1) 103 _ _ (by kernel_rfl) (by kernel_rfl), show (Try.prog.fieldsOf 103) = _ from by unfold Program.fieldsOf; rw [Try.underlying103]]
  simp only [Op.eqFields]
  by_cases h0 : a0 = b0 <;> by_cases h1 : a1 = b1 <;> simp [go_sem, toList_iff, bs_inj, h0, h1]
theorem KeyS.eqIn103 (x y : KeyS) (w : World) : (Op.equalIn 10000 103 (.agg #[.string (bs x.S), .int .i64 x.N]) (.agg #[.string (bs y.S), .int .i64 y.N])).run Try.prog w = .ok (decide (x = y)) w := by
  rw [show (10000 : Nat) = 9998 + 2 from rfl, KeyS.eqd103]
  simp only [KeyS.eq_iff103]

def ss_New (k : Nat) (a0 : Int) : Option ((Option Shelf_string__int_) × Int) := (if a0 < 0 then (some (none, 1)) else (if 1048576 < a0 then (some (none, 1)) else (some (some (⟨a0, []⟩ : Shelf_string__int_), 0))))
set_option maxRecDepth 100000 in
set_option maxHeartbeats 1000000 in
theorem ss_New_calls (k : Nat) (a0 : Int) {w : World} {r_ : (Option Shelf_string__int_) × Int} (h_ : ss_New k a0 = some r_) :
    Calls Try.prog 80 [.int .i64 a0].toArray w fun e w' => ∃ v0' : Value, ∃ G0' : Grp, e = .returned (.tuple #[v0', .int .i64 r_.2]) ∧ OptO 191 Shelf_string__int_.rp v0' (r_.1) G0' ∧ St w (KS []) w' [G0'] := by
 have hF := h_
 clear h_
 unfold ss_New at hF
 have S := St.ofFalse (As := []) (St.init0 w)
 refine enter 13 [(0, .int .i64 a0)] Try.func80 rfl rfl rfl rfl ?_
 refine WCode.seq ?_
 refine WCode.region ?_
 refine WOps.p (G.assign rfl) rfl ?_
 refine WOps.p (G.assign rfl) rfl ?_
 refine WOps.nil ?_
 refine WEx.then_ ?_
 refine WCode.seq ?_
 refine WCode.seq ?_
 refine WCode.region ?_
 refine WOps.p (G.move rfl) rfl ?_
 refine WOps.p (G.lss rfl rfl rfl) rfl ?_
 refine WOps.p (G.move rfl) rfl ?_
 rcases ite_some hF with ⟨h1, hF⟩ | ⟨h1, hF⟩
 ·
  refine WOps.off rfl (kbl (b := decide (a0 < 0)) rfl (decide_eq_true h1)) rfl rfl ?_
  refine WOps.off rfl (kbl (b := decide (a0 < 0)) rfl (decide_eq_true h1)) rfl rfl ?_
  refine WOps.p (G.pick_t (kb (b := decide (a0 < 0)) rfl (decide_eq_true h1)) rfl) rfl ?_
  refine WOps.nil ?_
  refine WEx.then_ ?_
  refine WCode.cond_t rfl ?_
  refine WCode.seq ?_
  refine WCode.region ?_
  refine WOps.p (G.assign rfl) rfl ?_
  refine WOps.p (G.assign rfl) rfl ?_
  refine WOps.nil ?_
  refine WEx.then_ ?_
  refine WCode.ret ?_
  refine WEx.then_ret ?_
  obtain rfl := some_eq hF
  refine WEx.ret2 rfl rfl rfl ?_
  have S2 := S.emp
  exact ⟨.pointer none, ([] : Grp), rfl, ⟨rfl, rfl⟩, St.keep (As := [([] : Grp)]) S2⟩
 ·
  refine WOps.on rfl (kbl (b := decide (a0 < 0)) rfl (decide_eq_false h1)) ?_
  refine WOps.p (G.move rfl) rfl ?_
  refine WOps.on rfl (kbl (b := decide (a0 < 0)) rfl (decide_eq_false h1)) ?_
  refine WOps.p (G.gtr rfl rfl rfl) rfl ?_
  refine WOps.p (G.pick_f (kb (b := decide (a0 < 0)) rfl (decide_eq_false h1)) rfl) rfl ?_
  refine WOps.nil ?_
  refine WEx.then_ ?_
  rcases ite_some hF with ⟨h3, hF⟩ | ⟨h3, hF⟩
  ·
   refine WCode.cond_t (kb (b := decide (1048576 < a0)) rfl (decide_eq_true h3)) ?_
   refine WCode.seq ?_
   refine WCode.region ?_
   refine WOps.p (G.assign rfl) rfl ?_
   refine WOps.p (G.assign rfl) rfl ?_
   refine WOps.nil ?_
   refine WEx.then_ ?_
   refine WCode.ret ?_
   refine WEx.then_ret ?_
   obtain rfl := some_eq hF
   refine WEx.ret2 rfl rfl rfl ?_
   have S4 := S.emp
   exact ⟨.pointer none, ([] : Grp), rfl, ⟨rfl, rfl⟩, St.keep (As := [([] : Grp)]) S4⟩
  ·
   refine WCode.cond_f (kb (b := decide (1048576 < a0)) rfl (decide_eq_false h3)) ?_
   refine WCode.skip ?_
   refine WEx.then_ ?_
   refine WCode.seq ?_
   refine WCode.region ?_
   refine WOps.p (G.move rfl) rfl ?_
   refine WOps.p (G.build (cells := #[.int .i64 a0, .slice none 0 0]) (evp_spec (evp_cons rfl evp_nil)) (by kernel_rfl)) rfl ?_
   obtain ⟨b5, w6, E7, S8, X9, L10⟩ := St.box S Try.prog 191 (.agg #[.int .i64 a0, .slice none 0 0])
   change St _ _ _ [[(b5, .cells #[.int .i64 a0, .slice none 0 0] 191 (0, 0))]] at S8
   refine WOps.e (E7 rfl) rfl ?_
   refine WOps.p (G.assign rfl) rfl ?_
   refine WOps.p (G.assign rfl) rfl ?_
   refine WOps.nil ?_
   refine WEx.then_ ?_
   refine WCode.forget (l' := [(2, .pointer (some ⟨b5, 0, none⟩)), (3, .int .i64 0)]) ⟨rfl, rfl, trivial⟩ ?_
   refine WCode.ret ?_
   obtain rfl := some_eq hF
   refine WEx.ret2 rfl rfl rfl ?_
   have S11 := S8.emp
   have S13 := S11.front 1 rfl
   change St _ _ _ [[(b5, .cells #[.int .i64 a0, .slice none 0 0] 191 (0, 0))], ([] : Grp)] at S13
   have hO14 : ObjO 191 Shelf_string__int_.rp b5 (⟨a0, []⟩ : Shelf_string__int_) ([(b5, .cells #[.int .i64 a0, .slice none 0 0] 191 (0, 0))] ++ (([] : Grp))) := ⟨_, _, ⟨none, 0, ([] : Grp), rfl, (SlO.nil 193 Pair_string__int_.rp), rfl⟩, rfl⟩
   have S15 : St _ _ _ [[(b5, .cells #[.int .i64 a0, .slice none 0 0] 191 (0, 0))] ++ (([] : Grp))] := S13.objs (by simp)
   exact ⟨(.pointer (some ⟨b5, 0, none⟩)), [(b5, .cells #[.int .i64 a0, .slice none 0 0] 191 (0, 0))] ++ (([] : Grp)), rfl, ⟨_, rfl, hO14⟩, St.keep (As := [[(b5, .cells #[.int .i64 a0, .slice none 0 0] 191 (0, 0))] ++ (([] : Grp))]) S15⟩

def ss_clo (k : Nat) (a0 : Pair_string__int_) (bc0 : List UInt8) : Option Bool := (some (decide (a0.key = bc0)))
set_option maxRecDepth 100000 in
set_option maxHeartbeats 1000000 in
theorem ss_clo_calls (k : Nat) (a0 : Pair_string__int_) (bc0 : List UInt8) {qc0 : Nat} {w : World} (hBc0 : w.heap[qc0]? = some (.cells #[.string (bs bc0)] 9 (0, 0))) (hNc0 : qc0 ∉ keys ([] : List Grp).flatten) {r_ : Bool} (h_ : ss_clo k a0 bc0 = some r_) :
    Calls Try.prog 126 [.agg #[.string (bs a0.key), .int .i64 a0.value], .pointer (some ⟨qc0, 0, none⟩)].toArray w fun e w' => e = .returned (.bool r_) ∧ St w (KS []) w' [] := by
 have hF := h_
 clear h_
 unfold ss_clo at hF
 have S := St.ofFalse (As := []) (St.init0 w)
 refine enter 8 [(0, .agg #[.string (bs a0.key), .int .i64 a0.value]), (1, .pointer (some ⟨qc0, 0, none⟩))] Try.func126 rfl rfl rfl rfl ?_
 refine WCode.seq ?_
 refine WCode.region ?_
 obtain ⟨b1, w2, E3, S4, X5, L6⟩ := St.box S Try.prog 193 (.agg #[.string (bs a0.key), .int .i64 a0.value])
 change St _ _ _ [[(b1, .cells #[.string (bs a0.key), .int .i64 a0.value] 193 (0, 0))]] at S4
 refine WOps.e (E3 rfl) rfl ?_
 refine WOps.p (G.assign rfl) rfl ?_
 refine WOps.nil ?_
 refine WEx.then_ ?_
 refine WCode.seq ?_
 refine WCode.region ?_
 refine WOps.p (G.field T.fld193_0 rfl (show 0 + 0 = 0 from rfl)) rfl ?_
 refine WOps.r (G.load1 T.one9 rfl (cell_blk (S4.blk 0 rfl) rfl)) rfl ?_
 refine WOps.r (G.load1 T.one9 rfl (cell_blk ((S4.fr qc0 (lt_of_blk hBc0) hNc0).trans hBc0) rfl)) rfl ?_
 refine WOps.p (G.eqlb' rfl rfl rfl) rfl ?_
 refine WOps.p (G.assign rfl) rfl ?_
 refine WOps.nil ?_
 refine WEx.then_ ?_
 refine WCode.ret ?_
 obtain rfl := some_eq hF
 refine WEx.ret1 rfl rfl ?_
 exact ⟨rfl, St.keep (As := []) S4⟩

def ss_idx.l1 : Nat → List Pair_string__int_ → List UInt8 → Int → Option Int
  | 0, _, _, _ => none
  | k4 + 1, a0, b1_0, x1 => (if x1 < (a0.length : Int) then (Option.bind (idx a0 x1) fun x8 => (Option.bind (ss_clo k4 x8 b1_0) fun t22 => (if t22 = true then (some x1) else (ss_idx.l1 k4 a0 b1_0 (w64 (x1 + 1)))))) else (some (-1)))
def ss_idx (k : Nat) (a0 : List Pair_string__int_) (b1_0 : List UInt8) : Option Int := (ss_idx.l1 k a0 b1_0 0)
set_option maxRecDepth 100000 in
set_option maxHeartbeats 1000000 in
theorem ss_idx_calls (k : Nat) (a0 : List Pair_string__int_) {A0 : Option Addr} {c0 : Nat} {F0 : Nat → Prop} (b1_0 : List UInt8) {q1_0 : Nat} {w : World} (hR0 : SlR Pair_string__int_.rp w F0 A0 c0 a0) (hF0 : ∀ b, F0 b → NK w [] b) (hB1_0 : w.heap[q1_0]? = some (.cells #[.string (bs b1_0)] 9 (0, 0))) (hN1_0 : q1_0 ∉ keys ([] : List Grp).flatten) {r_ : Int} (h_ : ss_idx k a0 b1_0 = some r_) :
    Calls Try.prog 125 [.slice A0 a0.length c0, .func (.func 126) #[] #[.pointer (some ⟨q1_0, 0, none⟩)]].toArray w fun e w' => e = .returned (.int .i64 r_) ∧ St w (KS []) w' [] := by
 have hF := h_
 clear h_
 unfold ss_idx at hF
 have S := St.ofFalse (As := []) (St.init0 w)
 refine enter 19 [(0, .slice A0 a0.length c0), (1, .func (.func 126) #[] #[.pointer (some ⟨q1_0, 0, none⟩)])] Try.func125 rfl rfl rfl rfl ?_
 refine WCode.seq ?_
 refine WCode.region ?_
 refine WOps.p (G.assign rfl) rfl ?_
 refine WOps.nil ?_
 refine WEx.then_ ?_
 refine WCode.seq ?_
 refine WCode.seq ?_
 refine WCode.region ?_
 refine WOps.p (G.move rfl) rfl ?_
 refine WOps.p (G.len T.el189 rfl) rfl ?_
 refine WOps.p (G.move rfl) rfl ?_
 refine WOps.nil ?_
 refine WEx.then_ ?_
 refine WCode.block ?_
 refine WCode.forget (l' := [(0, .slice A0 a0.length c0), (1, .func (.func 126) #[] #[.pointer (some ⟨q1_0, 0, none⟩)]), (7, .int .i64 (a0.length : Int)), (8, .int .i64 0)]) ⟨rfl, rfl, rfl, rfl, trivial⟩ ?_
 refine WCode.loop (fun n_ l_ w_ => ∃ x1 : Int, l_ = [(0, .slice A0 a0.length c0), (1, .func (.func 126) #[] #[.pointer (some ⟨q1_0, 0, none⟩)]), (7, .int .i64 (a0.length : Int)), (8, .int .i64 x1)] ∧ ss_idx.l1 n_ a0 b1_0 x1 = some r_ ∧ St w (KS []) w_ []) k ⟨0, rfl, hF, S⟩ ?_
 rintro n5 _ w2 ⟨x1, rfl, hF, S3⟩
 obtain _ | k4 := n5
 · exact nomatch (show (none : Option Int) = some r_ from hF)
 rw [ss_idx.l1] at hF
 refine WCode.seq ?_
 refine WCode.region ?_
 refine WOps.p (G.lss rfl rfl rfl) rfl ?_
 refine WOps.nil ?_
 refine WEx.then_ ?_
 refine WCode.seq ?_
 rcases ite_some hF with ⟨h7, hF⟩ | ⟨h7, hF⟩
 ·
  refine WCode.cond_t (kb (b := decide (x1 < (a0.length : Int))) rfl (decide_eq_true h7)) ?_
  refine WCode.skip ?_
  refine WEx.then_ ?_
  refine WCode.seq ?_
  refine WCode.block ?_
  refine WCode.seq ?_
  refine WCode.region ?_
  refine WOps.p (G.move rfl) rfl ?_
  refine WOps.p (G.assign rfl) rfl ?_
  refine WOps.nil ?_
  refine WEx.then_ ?_
  refine WCode.seq ?_
  refine WCode.region ?_
  refine WOps.p (G.move rfl) rfl ?_
  refine WOps.p (G.move rfl) rfl ?_
  refine WOps.p (G.move rfl) rfl ?_
  obtain ⟨x8, hc9, hF⟩ := bind_some hF
  obtain ⟨j10, ej11, hj12, hl13⟩ := idx_spec hc9
  obtain ⟨b14, o15, cs16, eA17, hf18, hc19, hr20⟩ := SlR.at_ (hR0.ext (S3.keepF hF0)) hj12
  have hq21 : cs16 = [.string (bs x8.key), .int .i64 x8.value] := hr20
  subst hq21
  change cellsAt _ _ (o15 + j10 * 2) [.string (bs x8.key), .int .i64 x8.value] at hc19
  refine WOps.p (G.idx T.el189 rfl eA17 rfl ej11 hl13) rfl ?_
  refine WOps.r (G.loada T.agg193_2 rfl (cs := [.string (bs x8.key), .int .i64 x8.value]) hc19) rfl ?_
  obtain ⟨t22, hc23, hF⟩ := bind_some hF
  refine WOps.callv T.call126 rfl (evs_cons rfl evs_nil) rfl ?_
  refine (ss_clo_calls k4 x8 b1_0 ((S3.fr q1_0 (lt_of_blk hB1_0) hN1_0).trans hB1_0) (by simp [keys]) hc23).mono ?_
  rintro _ w24 ⟨rfl, T25⟩
  have S26 := St.callN (As := []) S3 T25
  change St _ _ _ [] at S26
  refine ⟨_, rfl, ?_⟩
  refine WOps.nil ?_
  refine WEx.then_ ?_
  rcases ite_some hF with ⟨h27, hF⟩ | ⟨h27, hF⟩
  ·
   refine WCode.cond_t (kb (b := t22) rfl h27) ?_
   refine WCode.seq ?_
   refine WCode.region ?_
   refine WOps.p (G.move rfl) rfl ?_
   refine WOps.p (G.assign rfl) rfl ?_
   refine WOps.nil ?_
   refine WEx.then_ ?_
   refine WCode.forget (l' := [(4, .int .i64 x1)]) ⟨rfl, trivial⟩ ?_
   refine WCode.ret ?_
   refine WEx.in_ret ?_
   refine WEx.then_ret ?_
   refine WEx.then_ret ?_
   refine WEx.in_ret ?_
   refine WEx.then_ret ?_
   obtain rfl := some_eq hF
   refine WEx.ret1 rfl rfl ?_
   exact ⟨rfl, St.keep (As := []) S26⟩
  ·
   refine WCode.cond_f (kb (b := t22) rfl (Bool.eq_false_iff.2 h27)) ?_
   refine WCode.skip ?_
   refine WEx.in_normal ?_
   refine WEx.then_ ?_
   refine WCode.region ?_
   refine WOps.p (G.add rfl rfl (r := (w64 (x1 + 1))) rfl) rfl ?_
   refine WOps.p (G.move rfl) rfl ?_
   refine WOps.nil ?_
   refine WEx.again _ _ (by omega) ?_ ⟨w64 (x1 + 1), rfl, hF, S26⟩
   exact ⟨rfl, rfl, rfl, rfl, trivial⟩
 ·
  refine WCode.cond_f (kb (b := decide (x1 < (a0.length : Int))) rfl (decide_eq_false h7)) ?_
  refine WCode.exit ?_
  refine WEx.then_exit ?_
  refine WEx.then_exit ?_
  refine WEx.in_exit ?_
  refine WEx.then_ ?_
  refine WCode.seq ?_
  refine WCode.region ?_
  refine WOps.p (G.assign rfl) rfl ?_
  refine WOps.nil ?_
  refine WEx.then_ ?_
  refine WCode.ret ?_
  obtain rfl := some_eq hF
  refine WEx.ret1 rfl rfl ?_
  exact ⟨rfl, St.keep (As := []) S3⟩

def ss_place (k : Nat) (a0 : Shelf_string__int_) (a1 : List UInt8) : Option Int := (Option.bind (ss_idx k a0.pairs a1) fun t15 => (some t15))
set_option maxRecDepth 100000 in
set_option maxHeartbeats 1000000 in
theorem ss_place_calls (k : Nat) (a0 : Shelf_string__int_) {p0 : Nat} {F0 : Nat → Prop} (a1 : List UInt8) {w : World} (hP0 : PtR 191 Shelf_string__int_.rp w F0 p0 a0) (hF0 : ∀ b, F0 b → NK w [] b) {r_ : Int} (h_ : ss_place k a0 a1 = some r_) :
    Calls Try.prog 106 [.pointer (some ⟨p0, 0, none⟩), .string (bs a1)].toArray w fun e w' => e = .returned (.int .i64 r_) ∧ St w (KS []) w' [] := by
 have hF := h_
 clear h_
 unfold ss_place at hF
 have S := St.ofFalse (As := []) (St.init0 w)
 have hPq5 := hP0
 obtain ⟨cs1, hB2, hf3, A6, c7, hq4, hR8⟩ := hPq5
 subst hq4
 change _ = some (Obj.cells #[.int .i64 a0.most, .slice A6 a0.pairs.length c7] 191 (0, 0)) at hB2
 refine enter 11 [(0, .pointer (some ⟨p0, 0, none⟩)), (1, .string (bs a1))] Try.func106 rfl rfl rfl rfl ?_
 refine WCode.seq ?_
 refine WCode.region ?_
 obtain ⟨b9, w10, E11, S12, X13, L14⟩ := St.box S Try.prog 9 (.string (bs a1))
 change St _ _ _ [[(b9, .cells #[.string (bs a1)] 9 (0, 0))]] at S12
 refine WOps.e (E11 rfl) rfl ?_
 refine WOps.p (G.assign rfl) rfl ?_
 refine WOps.nil ?_
 refine WEx.then_ ?_
 refine WCode.seq ?_
 refine WCode.region ?_
 refine WOps.p (G.move rfl) rfl ?_
 refine WOps.p (G.nilp rfl) rfl ?_
 refine WOps.p (G.field T.fld191_1 rfl (show 0 + 1 = 1 from rfl)) rfl ?_
 refine WOps.r (G.load1 T.one189 rfl (cell_blk ((S12.fr p0 (lt_of_blk hB2) (hF0 p0 hf3).1).trans hB2) rfl)) rfl ?_
 refine WOps.p (G.makeFunc (evs_cons rfl evs_nil)) rfl ?_
 obtain ⟨t15, hc16, hF⟩ := bind_some hF
 refine WOps.call T.call125 (evs_cons rfl (evs_cons rfl evs_nil)) rfl ?_
 refine (ss_idx_calls k a0.pairs a1 (hR8.ext (S12.keepF hF0)) (St.outF (Bs := []) S12 hF0) (S12.blk 0 rfl) (by simp [keys]) hc16).mono ?_
 rintro _ w17 ⟨rfl, T18⟩
 have S19 := St.callN (As := []) S12 T18
 change St _ _ _ [[(b9, .cells #[.string (bs a1)] 9 (0, 0))]] at S19
 refine ⟨_, rfl, ?_⟩
 refine WOps.p (G.assign rfl) rfl ?_
 refine WOps.nil ?_
 refine WEx.then_ ?_
 refine WCode.ret ?_
 obtain rfl := some_eq hF
 refine WEx.ret1 rfl rfl ?_
 exact ⟨rfl, St.keep (As := []) S19⟩

def ss_Len (k : Nat) (a0 : Shelf_string__int_) : Option Int := (some (a0.pairs.length : Int))
set_option maxRecDepth 100000 in
set_option maxHeartbeats 1000000 in
theorem ss_Len_calls (k : Nat) (a0 : Shelf_string__int_) {p0 : Nat} {F0 : Nat → Prop} {w : World} (hP0 : PtR 191 Shelf_string__int_.rp w F0 p0 a0) (hF0 : ∀ b, F0 b → NK w [] b) {r_ : Int} (h_ : ss_Len k a0 = some r_) :
    Calls Try.prog 85 [.pointer (some ⟨p0, 0, none⟩)].toArray w fun e w' => e = .returned (.int .i64 r_) ∧ St w (KS []) w' [] := by
 have hF := h_
 clear h_
 unfold ss_Len at hF
 have S := St.ofFalse (As := []) (St.init0 w)
 have hPq5 := hP0
 obtain ⟨cs1, hB2, hf3, A6, c7, hq4, hR8⟩ := hPq5
 subst hq4
 change _ = some (Obj.cells #[.int .i64 a0.most, .slice A6 a0.pairs.length c7] 191 (0, 0)) at hB2
 refine enter 8 [(0, .pointer (some ⟨p0, 0, none⟩))] Try.func85 rfl rfl rfl rfl ?_
 refine WCode.seq ?_
 refine WCode.region ?_
 refine WOps.p (G.assign rfl) rfl ?_
 refine WOps.nil ?_
 refine WEx.then_ ?_
 refine WCode.seq ?_
 refine WCode.region ?_
 refine WOps.p (G.move rfl) rfl ?_
 refine WOps.p (G.nilp rfl) rfl ?_
 refine WOps.p (G.field T.fld191_1 rfl (show 0 + 1 = 1 from rfl)) rfl ?_
 refine WOps.r (G.load1 T.one189 rfl (cell_blk ((S.fr p0 (lt_of_blk hB2) (hF0 p0 hf3).1).trans hB2) rfl)) rfl ?_
 refine WOps.p (G.len T.el189 rfl) rfl ?_
 refine WOps.p (G.assign rfl) rfl ?_
 refine WOps.nil ?_
 refine WEx.then_ ?_
 refine WCode.ret ?_
 obtain rfl := some_eq hF
 refine WEx.ret1 rfl rfl ?_
 exact ⟨rfl, St.keep (As := []) S⟩

def ss_Get (k : Nat) (a0 : Shelf_string__int_) (a1 : List UInt8) : Option (Int × Bool) := (Option.bind (ss_place k a0 a1) fun t9 => (if 0 ≤ t9 then (Option.bind (idx a0.pairs t9) fun x15 => (some (x15.value, true))) else (some (0, false))))
set_option maxRecDepth 100000 in
set_option maxHeartbeats 1000000 in
theorem ss_Get_calls (k : Nat) (a0 : Shelf_string__int_) {p0 : Nat} {F0 : Nat → Prop} (a1 : List UInt8) {w : World} (hP0 : PtR 191 Shelf_string__int_.rp w F0 p0 a0) (hF0 : ∀ b, F0 b → NK w [] b) {r_ : Int × Bool} (h_ : ss_Get k a0 a1 = some r_) :
    Calls Try.prog 83 [.pointer (some ⟨p0, 0, none⟩), .string (bs a1)].toArray w fun e w' => e = .returned (.tuple #[.int .i64 r_.1, .bool r_.2]) ∧ St w (KS []) w' [] := by
 have hF := h_
 clear h_
 unfold ss_Get at hF
 have S := St.ofFalse (As := []) (St.init0 w)
 have hPq5 := hP0
 obtain ⟨cs1, hB2, hf3, A6, c7, hq4, hR8⟩ := hPq5
 subst hq4
 change _ = some (Obj.cells #[.int .i64 a0.most, .slice A6 a0.pairs.length c7] 191 (0, 0)) at hB2
 refine enter 22 [(0, .pointer (some ⟨p0, 0, none⟩)), (1, .string (bs a1))] Try.func83 rfl rfl rfl rfl ?_
 refine WCode.seq ?_
 refine WCode.region ?_
 refine WOps.p (G.assign rfl) rfl ?_
 refine WOps.p (G.assign rfl) rfl ?_
 refine WOps.nil ?_
 refine WEx.then_ ?_
 refine WCode.seq ?_
 refine WCode.seq ?_
 refine WCode.region ?_
 refine WOps.p (G.move rfl) rfl ?_
 refine WOps.p (G.move rfl) rfl ?_
 obtain ⟨t9, hc10, hF⟩ := bind_some hF
 refine WOps.call T.call106 (evs_cons rfl (evs_cons rfl evs_nil)) rfl ?_
 refine (ss_place_calls k a0 a1 (hP0.ext (S.keepF hF0)) (St.outF (Bs := []) S hF0) hc10).mono ?_
 rintro _ w11 ⟨rfl, T12⟩
 have S13 := St.callN (As := []) S T12
 change St _ _ _ [] at S13
 refine ⟨_, rfl, ?_⟩
 refine WOps.p (G.assign rfl) rfl ?_
 refine WOps.nil ?_
 refine WEx.then_ ?_
 refine WCode.seq ?_
 refine WCode.region ?_
 refine WOps.p (G.move rfl) rfl ?_
 refine WOps.p (G.geq rfl rfl rfl) rfl ?_
 refine WOps.nil ?_
 refine WEx.then_ ?_
 rcases ite_some hF with ⟨h14, hF⟩ | ⟨h14, hF⟩
 ·
  refine WCode.cond_t (kb (b := decide (0 ≤ t9)) rfl (decide_eq_true h14)) ?_
  refine WCode.seq ?_
  refine WCode.region ?_
  refine WOps.p (G.move rfl) rfl ?_
  refine WOps.p (G.nilp rfl) rfl ?_
  refine WOps.p (G.field T.fld191_1 rfl (show 0 + 1 = 1 from rfl)) rfl ?_
  refine WOps.r (G.load1 T.one189 rfl (cell_blk ((S13.fr p0 (lt_of_blk hB2) (hF0 p0 hf3).1).trans hB2) rfl)) rfl ?_
  refine WOps.p (G.move rfl) rfl ?_
  obtain ⟨x15, hc16, hF⟩ := bind_some hF
  obtain ⟨j17, ej18, hj19, hl20⟩ := idx_spec hc16
  obtain ⟨b21, o22, cs23, eA24, hf25, hc26, hr27⟩ := SlR.at_ (hR8.ext (S13.keepF hF0)) hj19
  have hq28 : cs23 = [.string (bs x15.key), .int .i64 x15.value] := hr27
  subst hq28
  change cellsAt _ _ (o22 + j17 * 2) [.string (bs x15.key), .int .i64 x15.value] at hc26
  refine WOps.p (G.idx T.el189 rfl eA24 rfl ej18 hl20) rfl ?_
  refine WOps.p (G.field T.fld193_1 rfl (show o22 + j17 * 2 + 1 = o22 + j17 * 2 + 1 from rfl)) rfl ?_
  refine WOps.r (G.load1 T.one3 rfl (cellsAt.at hc26 1 rfl)) rfl ?_
  refine WOps.p (G.assign rfl) rfl ?_
  refine WOps.p (G.assign rfl) rfl ?_
  refine WOps.nil ?_
  refine WEx.then_ ?_
  refine WCode.forget (l' := [(4, .int .i64 x15.value), (5, .bool true)]) ⟨rfl, rfl, trivial⟩ ?_
  refine WCode.ret ?_
  refine WEx.then_ret ?_
  obtain rfl := some_eq hF
  refine WEx.ret2 rfl rfl rfl ?_
  exact ⟨rfl, St.keep (As := []) S13⟩
 ·
  refine WCode.cond_f (kb (b := decide (0 ≤ t9)) rfl (decide_eq_false h14)) ?_
  refine WCode.skip ?_
  refine WEx.then_ ?_
  refine WCode.forget (l' := []) trivial ?_
  refine WCode.seq ?_
  refine WCode.region ?_
  refine WOps.p (G.assign rfl) rfl ?_
  refine WOps.nil ?_
  refine WEx.then_ ?_
  refine WCode.seq ?_
  refine WCode.region ?_
  refine WOps.p (G.move rfl) rfl ?_
  refine WOps.p (G.assign rfl) rfl ?_
  refine WOps.p (G.assign rfl) rfl ?_
  refine WOps.nil ?_
  refine WEx.then_ ?_
  refine WCode.ret ?_
  obtain rfl := some_eq hF
  refine WEx.ret2 rfl rfl rfl ?_
  exact ⟨rfl, St.keep (As := []) S13⟩

def ss_Put (k : Nat) (a0 : Shelf_string__int_) (a1 : List UInt8) (a2 : Int) : Option (Int × Shelf_string__int_) := (Option.bind (ss_place k a0 a1) fun t13 => (if 0 ≤ t13 then (Option.bind (idx a0.pairs t13) fun x20 => (Option.bind (upd a0.pairs t13 (⟨x20.key, a2⟩ : Pair_string__int_)) fun l34 => (some (0, (⟨a0.most, l34⟩ : Shelf_string__int_))))) else (if (a0.pairs.length : Int) = a0.most then (some (140, a0)) else (Option.bind (cat a0.pairs ([(⟨a1, a2⟩ : Pair_string__int_)] : List Pair_string__int_)) fun l58 => (some (0, (⟨a0.most, l58⟩ : Shelf_string__int_)))))))
set_option maxRecDepth 100000 in
set_option maxHeartbeats 1000000 in
theorem ss_Put_calls (k : Nat) (a0 : Shelf_string__int_) {p0 : Nat} {G0 : Grp} (a1 : List UInt8) (a2 : Int) {w : World} (hO0 : ObjO 191 Shelf_string__int_.rp p0 a0 G0) {r_ : Int × Shelf_string__int_} (h_ : ss_Put k a0 a1 a2 = some r_) (hp_ : Hp w ([G0]).flatten) :
    Calls Try.prog 81 [.pointer (some ⟨p0, 0, none⟩), .string (bs a1), .int .i64 a2].toArray w fun e w' => ∃ Go0' : Grp, e = .returned (.int .i64 r_.1) ∧ ObjO 191 Shelf_string__int_.rp p0 (r_.2) Go0' ∧ St w (KS [G0]) w' [Go0'] := by
 have hF := h_
 clear h_
 unfold ss_Put at hF
 have S := St.initK [G0] hp_
 obtain ⟨cs3, G4, ho5, hg6⟩ := hO0
 obtain ⟨A7, c8, G9, rfl, hO10, hq11⟩ := ho5
 have S12 : St _ _ _ [[(p0, .cells #[.int .i64 a0.most, .slice A7 a0.pairs.length c8] 191 (0, 0))], G9] := S.objs (by rw [hg6, hq11]; simp)
 refine enter 43 [(0, .pointer (some ⟨p0, 0, none⟩)), (1, .string (bs a1)), (2, .int .i64 a2)] Try.func81 rfl rfl rfl rfl ?_
 refine WCode.seq ?_
 refine WCode.region ?_
 refine WOps.p (G.assign rfl) rfl ?_
 refine WOps.nil ?_
 refine WEx.then_ ?_
 refine WCode.seq ?_
 refine WCode.seq ?_
 refine WCode.region ?_
 refine WOps.p (G.move rfl) rfl ?_
 refine WOps.p (G.move rfl) rfl ?_
 obtain ⟨t13, hc14, hF⟩ := bind_some hF
 have hP15 : PtR 191 Shelf_string__int_.rp w (KS [[(p0, .cells #[.int .i64 a0.most, .slice A7 a0.pairs.length c8] 191 (0, 0))], G9]) p0 a0 := ⟨_, S12.blk 0 rfl, KS_at 0 rfl (by simp [keys]), ⟨A7, c8, rfl, ((hO10.rd (fun b o hb => S12.grp 1 rfl hb)).mono (fun b hb => KS_at 1 rfl hb))⟩⟩
 refine WOps.call T.call106 (evs_cons rfl (evs_cons rfl evs_nil)) rfl ?_
 refine (ss_place_calls k a0 a1 hP15 (St.outN (Bs := []) (As := [[(p0, .cells #[.int .i64 a0.most, .slice A7 a0.pairs.length c8] 191 (0, 0))], G9]) S12) hc14).mono ?_
 rintro _ w16 ⟨rfl, T17⟩
 have S18 := St.callN (As := []) S12 T17
 change St _ _ _ [[(p0, .cells #[.int .i64 a0.most, .slice A7 a0.pairs.length c8] 191 (0, 0))], G9] at S18
 refine ⟨_, rfl, ?_⟩
 refine WOps.p (G.assign rfl) rfl ?_
 refine WOps.nil ?_
 refine WEx.then_ ?_
 refine WCode.seq ?_
 refine WCode.region ?_
 refine WOps.p (G.move rfl) rfl ?_
 refine WOps.p (G.geq rfl rfl rfl) rfl ?_
 refine WOps.nil ?_
 refine WEx.then_ ?_
 rcases ite_some hF with ⟨h19, hF⟩ | ⟨h19, hF⟩
 ·
  refine WCode.cond_t (kb (b := decide (0 ≤ t13)) rfl (decide_eq_true h19)) ?_
  refine WCode.seq ?_
  refine WCode.region ?_
  refine WOps.p (G.move rfl) rfl ?_
  refine WOps.p (G.nilp rfl) rfl ?_
  refine WOps.p (G.field T.fld191_1 rfl (show 0 + 1 = 1 from rfl)) rfl ?_
  refine WOps.r (G.load1 T.one189 rfl (cell_blk (S18.blk 0 rfl) rfl)) rfl ?_
  refine WOps.p (G.move rfl) rfl ?_
  refine WOps.p (G.move rfl) rfl ?_
  obtain ⟨x20, hc21, hF⟩ := bind_some hF
  obtain ⟨j22, ej23, hj24, hl25⟩ := idx_spec hc21
  obtain ⟨b26, o27, cs28, eA29, hf30, hc31, hr32⟩ := SlR.at_ (hO10.rd (fun b o hb => S18.grp 1 rfl hb)) hj24
  have hq33 : cs28 = [.string (bs x20.key), .int .i64 x20.value] := hr32
  subst hq33
  change cellsAt _ _ (o27 + j22 * 2) [.string (bs x20.key), .int .i64 x20.value] at hc31
  refine WOps.p (G.idx T.el189 rfl eA29 rfl ej23 hl25) rfl ?_
  refine WOps.p (G.field T.fld193_1 rfl (show o27 + j22 * 2 + 1 = o27 + j22 * 2 + 1 from rfl)) rfl ?_
  obtain ⟨l34, hc35, hF⟩ := bind_some hF
  have e36 := upd_spec' hc35 ej23
  have S37 := S18.front 1 rfl
  change St _ _ _ [G9, [(p0, .cells #[.int .i64 a0.most, .slice A7 a0.pairs.length c8] 191 (0, 0))]] at S37
  obtain ⟨w38, G39, E40, hO41, S42⟩ := St.storeF (P := Try.prog) (T := 3) S37 hO10 T.size3_1 hj24 eA29 (⟨x20.key, a2⟩ : Pair_string__int_) (v := .int .i64 a2) [.string (bs x20.key)] [.int .i64 x20.value] [] rfl rfl rfl
  rw [← e36] at hO41
  have hl43 : (a0.pairs).length = l34.length := by rw [e36, List.length_set]
  try rw [hl43] at S42
  try rw [hl43]
  change St _ _ _ [G39, [(p0, .cells #[.int .i64 a0.most, .slice A7 l34.length c8] 191 (0, 0))]] at S42
  refine WOps.u (E40 rfl rfl) ?_
  refine WOps.nil ?_
  refine WEx.then_ ?_
  refine WCode.forget (l' := []) trivial ?_
  refine WCode.seq ?_
  refine WCode.region ?_
  refine WOps.p (G.assign rfl) rfl ?_
  refine WOps.nil ?_
  refine WEx.then_ ?_
  refine WCode.ret ?_
  refine WEx.then_ret ?_
  obtain rfl := some_eq hF
  refine WEx.ret1 rfl rfl ?_
  have S44 := S42.front 1 rfl
  change St _ _ _ [[(p0, .cells #[.int .i64 a0.most, .slice A7 l34.length c8] 191 (0, 0))], G39] at S44
  have hO45 : ObjO 191 Shelf_string__int_.rp p0 (⟨a0.most, l34⟩ : Shelf_string__int_) ([(p0, .cells #[.int .i64 a0.most, .slice A7 l34.length c8] 191 (0, 0))] ++ (G39)) := ⟨_, _, ⟨A7, c8, G39, rfl, hO41, rfl⟩, rfl⟩
  have S46 : St _ _ _ [[(p0, .cells #[.int .i64 a0.most, .slice A7 l34.length c8] 191 (0, 0))] ++ (G39)] := S44.objs (by simp)
  exact ⟨[(p0, .cells #[.int .i64 a0.most, .slice A7 l34.length c8] 191 (0, 0))] ++ (G39), rfl, hO45, St.keep (As := [[(p0, .cells #[.int .i64 a0.most, .slice A7 l34.length c8] 191 (0, 0))] ++ (G39)]) S46⟩
 ·
  refine WCode.cond_f (kb (b := decide (0 ≤ t13)) rfl (decide_eq_false h19)) ?_
  refine WCode.skip ?_
  refine WEx.then_ ?_
  refine WCode.seq ?_
  refine WCode.seq ?_
  refine WCode.draw [⟨0, 0, []⟩, ⟨1, 0, []⟩, ⟨2, 0, []⟩, ⟨5, 0, []⟩, ⟨6, 0, []⟩, ⟨7, 0, []⟩, ⟨3, 1, [4, 9]⟩, ⟨4, 0, []⟩, ⟨8, 1, [9]⟩, ⟨9, 0, []⟩] T.mixed (by kernel_rfl) (by intro _ _ d _ _ h; cases d <;> exact h) rfl (by kernel_rfl) ?_
  have S47 := S18.drew
  generalize w16.drew = w48 at *
  refine WD.p rfl (G.move rfl) rfl ?_
  refine WD.p rfl (G.nilp rfl) rfl ?_
  refine WD.p rfl (G.field T.fld191_1 rfl (show 0 + 1 = 1 from rfl)) rfl ?_
  refine WD.p rfl (G.move rfl) rfl ?_
  refine WD.p rfl (G.nilp rfl) rfl ?_
  refine WD.p rfl (G.field T.fld191_0 rfl (show 0 + 0 = 0 from rfl)) rfl ?_
  refine WD.r rfl (G.load1 T.one189 rfl (cell_blk (S47.blk 0 rfl) rfl)) rfl ?_
  refine WD.p rfl (G.len T.el189 rfl) rfl ?_
  refine WD.r rfl (G.load1 T.one3 rfl (cell_blk (S47.blk 0 rfl) rfl)) rfl ?_
  refine WD.p rfl (G.eql rfl rfl rfl) rfl ?_
  refine WD.nil ?_
  refine WEx.then_ ?_
  refine WCode.forget (l' := [(0, .pointer (some ⟨p0, 0, none⟩)), (1, .string (bs a1)), (2, .int .i64 a2), (30, .bool (decide ((a0.pairs.length : Int) = a0.most)))]) ⟨rfl, rfl, rfl, rfl, trivial⟩ ?_
  rcases ite_some hF with ⟨h49, hF⟩ | ⟨h49, hF⟩
  ·
   refine WCode.cond_t (kb (b := decide ((a0.pairs.length : Int) = a0.most)) rfl (decide_eq_true h49)) ?_
   refine WCode.seq ?_
   refine WCode.region ?_
   refine WOps.p (G.assign rfl) rfl ?_
   refine WOps.nil ?_
   refine WEx.then_ ?_
   refine WCode.ret ?_
   refine WEx.then_ret ?_
   obtain rfl := some_eq hF
   refine WEx.ret1 rfl rfl ?_
   have hO50 : ObjO 191 Shelf_string__int_.rp p0 a0 ([(p0, .cells #[.int .i64 a0.most, .slice A7 a0.pairs.length c8] 191 (0, 0))] ++ (G9)) := ⟨_, _, ⟨A7, c8, G9, rfl, hO10, rfl⟩, rfl⟩
   have S51 : St _ _ _ [[(p0, .cells #[.int .i64 a0.most, .slice A7 a0.pairs.length c8] 191 (0, 0))] ++ (G9)] := S47.objs (by simp)
   exact ⟨[(p0, .cells #[.int .i64 a0.most, .slice A7 a0.pairs.length c8] 191 (0, 0))] ++ (G9), rfl, hO50, St.keep (As := [[(p0, .cells #[.int .i64 a0.most, .slice A7 a0.pairs.length c8] 191 (0, 0))] ++ (G9)]) S51⟩
  ·
   refine WCode.cond_f (kb (b := decide ((a0.pairs.length : Int) = a0.most)) rfl (decide_eq_false h49)) ?_
   refine WCode.skip ?_
   refine WEx.then_ ?_
   refine WCode.seq ?_
   refine WCode.region ?_
   refine WOps.p (G.move rfl) rfl ?_
   refine WOps.p (G.move rfl) rfl ?_
   refine WOps.p (G.nilp rfl) rfl ?_
   refine WOps.p (G.field T.fld191_1 rfl (show 0 + 1 = 1 from rfl)) rfl ?_
   refine WOps.r (G.load1 T.one189 rfl (cell_blk (S47.blk 0 rfl) rfl)) rfl ?_
   refine WOps.p (G.move rfl) rfl ?_
   refine WOps.p (G.move rfl) rfl ?_
   refine WOps.p (G.build (cells := #[.string (bs a1), .int .i64 a2]) (evp_spec (evp_cons rfl (evp_cons rfl evp_nil))) (by kernel_rfl)) rfl ?_
   obtain ⟨b52, w53, E54, S55, X56, L57⟩ := St.lit S47 (P := Try.prog) (t := 189) (e := 193) (n := 1) (vs := [(0, .agg #[.string (bs a1), .int .i64 a2])]) (cs := #[.string (bs a1), .int .i64 a2]) (by kernel_rfl)
   change St _ _ _ [[(b52, .cells #[.string (bs a1), .int .i64 a2] 193 (0, 0))], [(p0, .cells #[.int .i64 a0.most, .slice A7 a0.pairs.length c8] 191 (0, 0))], G9] at S55
   refine WOps.e (E54 (evp_cons rfl evp_nil)) rfl ?_
   obtain ⟨l58, hc59, hF⟩ := bind_some hF
   have S60 := S55.front 2 rfl
   change St _ _ _ [G9, [(b52, .cells #[.string (bs a1), .int .i64 a2] 193 (0, 0))], [(p0, .cells #[.int .i64 a0.most, .slice A7 a0.pairs.length c8] 191 (0, 0))]] at S60
   obtain ⟨A61, c62, G63, w65, E66, hO67, S68, hk69⟩ := St.appP (P := Try.prog) (r := Pair_string__int_.rp) (M := ([(⟨a1, a2⟩ : Pair_string__int_)] : List Pair_string__int_)) S60 T.elt189 rfl hO10 (Rd.of_blk (S60.blk 1 rfl) (n := 1) (sz := 2) rfl) ⟨_, _, [], [], rfl, rfl, ⟨rfl, rfl⟩, ⟨rfl, rfl⟩⟩ rfl hc59
   change St _ _ _ [G63, [(b52, .cells #[.string (bs a1), .int .i64 a2] 193 (0, 0))], [(p0, .cells #[.int .i64 a0.most, .slice A7 a0.pairs.length c8] 191 (0, 0))]] at S68
   refine WOps.e (E66 rfl rfl) rfl ?_
   refine WOps.p (G.nilp rfl) rfl ?_
   refine WOps.p (G.field T.fld191_1 rfl (show 0 + 1 = 1 from rfl)) rfl ?_
   obtain ⟨w70, E71, S72⟩ := St.store (P := Try.prog) S68 2 189 (.slice A61 l58.length c62) (off := 1) (cur' := #[.int .i64 a0.most, .slice A61 l58.length c62]) rfl T.size189_1 rfl rfl rfl
   change St _ _ _ [G63, [(b52, .cells #[.string (bs a1), .int .i64 a2] 193 (0, 0))], [(p0, .cells #[.int .i64 a0.most, .slice A61 l58.length c62] 191 (0, 0))]] at S72
   refine WOps.u (E71 rfl rfl) ?_
   refine WOps.nil ?_
   refine WEx.then_ ?_
   refine WCode.forget (l' := []) trivial ?_
   refine WCode.seq ?_
   refine WCode.region ?_
   refine WOps.p (G.assign rfl) rfl ?_
   refine WOps.nil ?_
   refine WEx.then_ ?_
   refine WCode.ret ?_
   obtain rfl := some_eq hF
   refine WEx.ret1 rfl rfl ?_
   have S73 := S72.front 2 rfl
   change St _ _ _ [[(p0, .cells #[.int .i64 a0.most, .slice A61 l58.length c62] 191 (0, 0))], G63, [(b52, .cells #[.string (bs a1), .int .i64 a2] 193 (0, 0))]] at S73
   have hO74 : ObjO 191 Shelf_string__int_.rp p0 (⟨a0.most, l58⟩ : Shelf_string__int_) ([(p0, .cells #[.int .i64 a0.most, .slice A61 l58.length c62] 191 (0, 0))] ++ (G63)) := ⟨_, _, ⟨A61, c62, G63, rfl, hO67, rfl⟩, rfl⟩
   have S75 : St _ _ _ [[(p0, .cells #[.int .i64 a0.most, .slice A61 l58.length c62] 191 (0, 0))] ++ (G63), [(b52, .cells #[.string (bs a1), .int .i64 a2] 193 (0, 0))]] := S73.objs (by simp)
   exact ⟨[(p0, .cells #[.int .i64 a0.most, .slice A61 l58.length c62] 191 (0, 0))] ++ (G63), rfl, hO74, St.keep (As := [[(p0, .cells #[.int .i64 a0.most, .slice A61 l58.length c62] 191 (0, 0))] ++ (G63)]) S75⟩

def ss_Keys.l1 : Nat → Shelf_string__int_ → List (List UInt8) → Int → Option (List (List UInt8))
  | 0, _, _, _ => none
  | k26 + 1, a0, l20, x23 => (if x23 < (a0.pairs.length : Int) then (Option.bind (idx a0.pairs x23) fun x30 => (Option.bind (cat l20 ([x30.key] : List (List UInt8))) fun l60 => (ss_Keys.l1 k26 a0 l60 (w64 (x23 + 1))))) else (some l20))
def ss_Keys (k : Nat) (a0 : Shelf_string__int_) : Option (List (List UInt8)) := (if 0 ≤ (a0.pairs.length : Int) then (if (a0.pairs.length : Int) ≤ 68719476736 then (ss_Keys.l1 k a0 ([] : List (List UInt8)) 0) else none) else none)
set_option maxRecDepth 100000 in
set_option maxHeartbeats 1000000 in
theorem ss_Keys_calls (k : Nat) (a0 : Shelf_string__int_) {p0 : Nat} {F0 : Nat → Prop} {w : World} (hP0 : PtR 191 Shelf_string__int_.rp w F0 p0 a0) (hF0 : ∀ b, F0 b → NK w [] b) {r_ : (List (List UInt8))} (h_ : ss_Keys k a0 = some r_) :
    Calls Try.prog 82 [.pointer (some ⟨p0, 0, none⟩)].toArray w fun e w' => ∃ A0' : Option Addr, ∃ c0' : Nat, ∃ G0' : Grp, e = .returned (.slice A0' (r_).length c0') ∧ SlO 9 Rp.str (.slice A0' (r_).length c0') (r_) G0' ∧ St w (KS []) w' [G0'] := by
 have hF := h_
 clear h_
 unfold ss_Keys at hF
 have S := St.ofFalse (As := []) (St.init0 w)
 have hPq5 := hP0
 obtain ⟨cs1, hB2, hf3, A6, c7, hq4, hR8⟩ := hPq5
 subst hq4
 change _ = some (Obj.cells #[.int .i64 a0.most, .slice A6 a0.pairs.length c7] 191 (0, 0)) at hB2
 refine enter 28 [(0, .pointer (some ⟨p0, 0, none⟩))] Try.func82 rfl rfl rfl rfl ?_
 refine WCode.seq ?_
 refine WCode.region ?_
 refine WOps.p (G.assign rfl) rfl ?_
 refine WOps.nil ?_
 refine WEx.then_ ?_
 refine WCode.seq ?_
 refine WCode.region ?_
 refine WOps.p (G.move rfl) rfl ?_
 refine WOps.p (G.nilp rfl) rfl ?_
 refine WOps.p (G.field T.fld191_1 rfl (show 0 + 1 = 1 from rfl)) rfl ?_
 refine WOps.r (G.load1 T.one189 rfl (cell_blk ((S.fr p0 (lt_of_blk hB2) (hF0 p0 hf3).1).trans hB2) rfl)) rfl ?_
 refine WOps.p (G.len T.el189 rfl) rfl ?_
 obtain ⟨h9, hF⟩ := guard_some hF
 obtain ⟨h10, hF⟩ := guard_some hF
 obtain ⟨A11, G12, w13, E14, hO15, S16, X17⟩ := St.make0 (P := Try.prog) (r := Rp.str) S T.elt77 rfl h9 h10
 refine WOps.e (E14 rfl rfl) rfl ?_
 refine WOps.p (G.assign rfl) rfl ?_
 refine WOps.nil ?_
 refine WEx.then_ ?_
 refine WCode.seq ?_
 refine WCode.seq ?_
 refine WCode.region ?_
 refine WOps.p (G.move rfl) rfl ?_
 refine WOps.p (G.nilp rfl) rfl ?_
 refine WOps.p (G.field T.fld191_1 rfl (show 0 + 1 = 1 from rfl)) rfl ?_
 refine WOps.r (G.load1 T.one189 rfl (cell_blk ((S16.fr p0 (lt_of_blk hB2) (hF0 p0 hf3).1).trans hB2) rfl)) rfl ?_
 refine WOps.p (G.len T.el189 rfl) rfl ?_
 refine WOps.p (G.move rfl) rfl ?_
 refine WOps.nil ?_
 refine WEx.then_ ?_
 refine WCode.forget (l' := [(3, .slice A11 ([] : List (List UInt8)).length (((a0.pairs.length : Int)).toNat)), (15, .slice A6 a0.pairs.length c7), (16, .int .i64 (a0.pairs.length : Int)), (17, .int .i64 0)]) ⟨rfl, rfl, rfl, rfl, trivial⟩ ?_
 refine WCode.block ?_
 refine WCode.forget (l' := [(3, .slice A11 ([] : List (List UInt8)).length (((a0.pairs.length : Int)).toNat)), (15, .slice A6 a0.pairs.length c7), (16, .int .i64 (a0.pairs.length : Int)), (17, .int .i64 0)]) ⟨rfl, rfl, rfl, rfl, trivial⟩ ?_
 refine WCode.loop (fun n_ l_ w_ => ∃ A18 : Option Addr, ∃ c19 : Nat, ∃ l20 : List (List UInt8), ∃ G21 : Grp, ∃ x23 : Int, l_ = [(3, .slice A18 l20.length c19), (15, .slice A6 a0.pairs.length c7), (16, .int .i64 (a0.pairs.length : Int)), (17, .int .i64 x23)] ∧ ss_Keys.l1 n_ a0 l20 x23 = some r_ ∧ (SlO 9 Rp.str (.slice A18 l20.length c19) l20 G21) ∧ St w (KS []) w_ [G21]) k ⟨A11, ((a0.pairs.length : Int)).toNat, ([] : List (List UInt8)), G12, 0, rfl, hF, hO15, S16⟩ ?_
 rintro n27 _ w24 ⟨A18, c19, l20, G21, x23, rfl, hF, hO22, S25⟩
 obtain _ | k26 := n27
 · exact nomatch (show (none : Option (List (List UInt8))) = some r_ from hF)
 rw [ss_Keys.l1] at hF
 refine WCode.seq ?_
 refine WCode.region ?_
 refine WOps.p (G.lss rfl rfl rfl) rfl ?_
 refine WOps.nil ?_
 refine WEx.then_ ?_
 refine WCode.seq ?_
 rcases ite_some hF with ⟨h29, hF⟩ | ⟨h29, hF⟩
 ·
  refine WCode.cond_t (kb (b := decide (x23 < (a0.pairs.length : Int))) rfl (decide_eq_true h29)) ?_
  refine WCode.skip ?_
  refine WEx.then_ ?_
  refine WCode.seq ?_
  refine WCode.block ?_
  refine WCode.seq ?_
  refine WCode.region ?_
  obtain ⟨x30, hc31, hF⟩ := bind_some hF
  obtain ⟨j32, ej33, hj34, hl35⟩ := idx_spec hc31
  obtain ⟨b36, o37, cs38, eA39, hf40, hc41, hr42⟩ := SlR.at_ (hR8.ext (S25.keepF hF0)) hj34
  have hq43 : cs38 = [.string (bs x30.key), .int .i64 x30.value] := hr42
  subst hq43
  change cellsAt _ _ (o37 + j32 * 2) [.string (bs x30.key), .int .i64 x30.value] at hc41
  refine WOps.p (G.idx T.el189 rfl eA39 rfl ej33 hl35) rfl ?_
  refine WOps.r (G.loada T.agg193_2 rfl (cs := [.string (bs x30.key), .int .i64 x30.value]) hc41) rfl ?_
  obtain ⟨b44, w45, E46, S47, X48, L49⟩ := St.var S25 (z := .agg #[.string (bs ([] : List UInt8)), .int .i64 0]) T.zero193
  have c50 := hc41.ext X48
  change St _ _ _ [[(b44, .cells #[.string (bs ([] : List UInt8)), .int .i64 0] 193 (0, 0))], G21] at S47
  refine WOps.e E46 rfl ?_
  obtain ⟨w51, E52, S53⟩ := St.store (P := Try.prog) S47 0 193 (.agg #[.string (bs x30.key), .int .i64 x30.value]) (off := 0) (cur' := #[.string (bs x30.key), .int .i64 x30.value]) rfl T.size193_2 rfl rfl rfl
  change St _ _ _ [[(b44, .cells #[.string (bs x30.key), .int .i64 x30.value] 193 (0, 0))], G21] at S53
  refine WOps.u (E52 rfl rfl) ?_
  refine WOps.nil ?_
  refine WEx.then_ ?_
  refine WCode.region ?_
  refine WOps.p (G.move rfl) rfl ?_
  refine WOps.p (G.field T.fld193_0 rfl (show 0 + 0 = 0 from rfl)) rfl ?_
  refine WOps.r (G.load1 T.one9 rfl (cell_blk (S53.blk 0 rfl) rfl)) rfl ?_
  obtain ⟨b54, w55, E56, S57, X58, L59⟩ := St.lit S53 (P := Try.prog) (t := 77) (e := 9) (n := 1) (vs := [(0, .string (bs x30.key))]) (cs := #[.string (bs x30.key)]) (by kernel_rfl)
  change St _ _ _ [[(b54, .cells #[.string (bs x30.key)] 9 (0, 0))], [(b44, .cells #[.string (bs x30.key), .int .i64 x30.value] 193 (0, 0))], G21] at S57
  refine WOps.e (E56 (evp_cons rfl evp_nil)) rfl ?_
  obtain ⟨l60, hc61, hF⟩ := bind_some hF
  have S62 := S57.front 2 rfl
  change St _ _ _ [G21, [(b54, .cells #[.string (bs x30.key)] 9 (0, 0))], [(b44, .cells #[.string (bs x30.key), .int .i64 x30.value] 193 (0, 0))]] at S62
  obtain ⟨A63, c64, G65, w66, E67, hO68, S69, hk70⟩ := St.appP (P := Try.prog) (r := Rp.str) (M := ([x30.key] : List (List UInt8))) S62 T.elt77 rfl hO22 (Rd.of_blk (S62.blk 1 rfl) (n := 1) (sz := 1) rfl) ⟨_, _, [], [], rfl, rfl, ⟨rfl, rfl⟩, ⟨rfl, rfl⟩⟩ rfl hc61
  change St _ _ _ [G65, [(b54, .cells #[.string (bs x30.key)] 9 (0, 0))], [(b44, .cells #[.string (bs x30.key), .int .i64 x30.value] 193 (0, 0))]] at S69
  refine WOps.e (E67 rfl rfl) rfl ?_
  refine WOps.p (G.assign rfl) rfl ?_
  refine WOps.nil ?_
  refine WEx.in_normal ?_
  refine WEx.then_ ?_
  refine WCode.region ?_
  refine WOps.p (G.add rfl rfl (r := (w64 (x23 + 1))) rfl) rfl ?_
  refine WOps.p (G.move rfl) rfl ?_
  refine WOps.nil ?_
  have S71 := St.keep (As := [G65]) S69
  refine WEx.again _ _ (by omega) ?_ ⟨A63, c64, l60, G65, w64 (x23 + 1), rfl, hF, hO68, S71⟩
  exact ⟨rfl, rfl, rfl, rfl, trivial⟩
 ·
  refine WCode.cond_f (kb (b := decide (x23 < (a0.pairs.length : Int))) rfl (decide_eq_false h29)) ?_
  refine WCode.exit ?_
  refine WEx.then_exit ?_
  refine WEx.then_exit ?_
  refine WEx.in_exit ?_
  refine WEx.then_ ?_
  refine WCode.seq ?_
  refine WCode.region ?_
  refine WOps.p (G.move rfl) rfl ?_
  refine WOps.p (G.assign rfl) rfl ?_
  refine WOps.nil ?_
  refine WEx.then_ ?_
  refine WCode.ret ?_
  obtain rfl := some_eq hF
  refine WEx.ret1 rfl rfl ?_
  exact ⟨A18, c19, G21, rfl, hO22, St.keep (As := [G21]) S25⟩

def ss_del (k : Nat) (a0 : List Pair_string__int_) (a1 : Int) (a2 : Int) : Option (List Pair_string__int_) := (Option.bind (cut a0 a1 a2) fun m3 => (if a1 = a2 then (some a0) else (Option.bind (cut a0 0 a1) fun m8 => (Option.bind (cut a0 a2 (a0.length : Int)) fun m11 => (Option.bind (cat m8 m11) fun l14 => (if a1 ≤ a2 then (if (l14.length : Int) ≤ (a0.length : Int) then (some l14) else none) else none))))))
set_option maxRecDepth 100000 in
set_option maxHeartbeats 1000000 in
theorem ss_del_calls (k : Nat) (a0 : List Pair_string__int_) {A0 : Option Addr} {c0 : Nat} {G0 : Grp} (a1 : Int) (a2 : Int) {w : World} (hO0 : SlO 193 Pair_string__int_.rp (.slice A0 a0.length c0) a0 G0) {r_ : (List Pair_string__int_)} (h_ : ss_del k a0 a1 a2 = some r_) (hp_ : Hp w ([G0]).flatten) :
    Calls Try.prog 107 [.slice A0 a0.length c0, .int .i64 a1, .int .i64 a2].toArray w fun e w' => ∃ A0' : Option Addr, ∃ c0' : Nat, ∃ G0' : Grp, e = .returned (.slice A0' (r_).length c0') ∧ SlO 193 Pair_string__int_.rp (.slice A0' (r_).length c0') (r_) G0' ∧ St w (KS [G0]) w' [G0'] := by
 have hF := h_
 clear h_
 unfold ss_del at hF
 have S := St.initK [G0] hp_
 refine enter 33 [(0, .slice A0 a0.length c0), (1, .int .i64 a1), (2, .int .i64 a2)] Try.func107 rfl rfl rfl rfl ?_
 refine WCode.seq ?_
 refine WCode.region ?_
 refine WOps.p (G.assign rfl) rfl ?_
 refine WOps.nil ?_
 refine WEx.then_ ?_
 refine WCode.seq ?_
 refine WCode.region ?_
 refine WOps.p (G.move rfl) rfl ?_
 refine WOps.p (G.move rfl) rfl ?_
 refine WOps.p (G.move rfl) rfl ?_
 refine WOps.p (G.move rfl) rfl ?_
 refine WOps.p (G.len T.el189 rfl) rfl ?_
 obtain ⟨m3, hc4, hF⟩ := bind_some hF
 refine WOps.p (G.cut_lhm T.el189 rfl rfl rfl rfl hc4 (hO0.rd (fun b o hb => S.grp 0 rfl hb)).cap) rfl ?_
 refine WOps.nil ?_
 refine WEx.then_ ?_
 refine WCode.seq ?_
 refine WCode.seq ?_
 refine WCode.region ?_
 refine WOps.p (G.move rfl) rfl ?_
 refine WOps.p (G.move rfl) rfl ?_
 refine WOps.p (G.eql rfl rfl rfl) rfl ?_
 refine WOps.nil ?_
 refine WEx.then_ ?_
 rcases ite_some hF with ⟨h5, hF⟩ | ⟨h5, hF⟩
 ·
  refine WCode.cond_t (kb (b := decide (a1 = a2)) rfl (decide_eq_true h5)) ?_
  refine WCode.seq ?_
  refine WCode.region ?_
  refine WOps.p (G.move rfl) rfl ?_
  refine WOps.p (G.assign rfl) rfl ?_
  refine WOps.nil ?_
  refine WEx.then_ ?_
  refine WCode.forget (l' := [(6, .slice A0 a0.length c0)]) ⟨rfl, trivial⟩ ?_
  refine WCode.ret ?_
  refine WEx.then_ret ?_
  obtain rfl := some_eq hF
  refine WEx.ret1 rfl rfl ?_
  exact ⟨A0, c0, G0, rfl, hO0, St.keep (As := [G0]) S⟩
 ·
  refine WCode.cond_f (kb (b := decide (a1 = a2)) rfl (decide_eq_false h5)) ?_
  refine WCode.skip ?_
  refine WEx.then_ ?_
  refine WCode.forget (l' := [(0, .slice A0 a0.length c0), (1, .int .i64 a1), (2, .int .i64 a2)]) ⟨rfl, rfl, rfl, trivial⟩ ?_
  refine WCode.seq ?_
  refine WCode.region ?_
  refine WOps.p (G.move rfl) rfl ?_
  refine WOps.p (G.len T.el189 rfl) rfl ?_
  refine WOps.p (G.assign rfl) rfl ?_
  refine WOps.nil ?_
  refine WEx.then_ ?_
  refine WCode.seq ?_
  refine WCode.draw [⟨0, 0, []⟩, ⟨1, 0, []⟩, ⟨2, 0, []⟩, ⟨3, 0, []⟩, ⟨4, 0, []⟩, ⟨5, 0, []⟩, ⟨6, 2, []⟩, ⟨7, 0, []⟩] T.mixed (by kernel_rfl) (by intro _ _ d _ _ h; cases d <;> exact h) rfl (by kernel_rfl) ?_
  have S6 := S.drew
  generalize w.drew = w7 at *
  refine WD.p rfl (G.move rfl) rfl ?_
  refine WD.p rfl (G.move rfl) rfl ?_
  obtain ⟨m8, hc9, hF⟩ := bind_some hF
  have hv10 := (SlO.toV (u := w) hO0 (S6.nd 0 rfl)).cut_h hc9
  refine WD.p rfl (G.cut_h T.el189 rfl rfl hc9 (hO0.rd (fun b o hb => S6.grp 0 rfl hb)).cap) rfl ?_
  refine WD.p rfl (G.move rfl) rfl ?_
  refine WD.p rfl (G.move rfl) rfl ?_
  obtain ⟨m11, hc12, hF⟩ := bind_some hF
  have hv13 := (SlO.toV (u := w) hO0 (S6.nd 0 rfl)).cut_lh hc12
  refine WD.p rfl (G.cut_l T.el189 rfl rfl hc12) rfl ?_
  obtain ⟨l14, hc15, hF⟩ := bind_some hF
  obtain ⟨h16, hF⟩ := guard_some hF
  have hw17 : a0.length ≤ c0 := (hO0.rd (fun b o hb => S6.grp 0 rfl hb)).cap
  obtain ⟨G18, w19, E20, hO21, S22⟩ := St.delApp (P := Try.prog) S6 T.elt189 hO0 hc9 hc12 h16
  have el23 := (cat_spec hc15).2
  rw [← el23] at hO21
  change St _ _ _ [G18] at S22
  refine WD.e rfl (el23 ▸ E20 rfl rfl) rfl ?_
  refine WD.p rfl (G.assign rfl) rfl ?_
  refine WD.nil ?_
  refine WEx.then_ ?_
  refine WCode.forget (l' := [(0, .slice A0 l14.length c0), (7, .int .i64 (a0.length : Int))]) ⟨rfl, rfl, trivial⟩ ?_
  refine WCode.seq ?_
  refine WCode.region ?_
  refine WOps.p (G.move rfl) rfl ?_
  refine WOps.p (G.move rfl) rfl ?_
  refine WOps.p (G.len T.el189 rfl) rfl ?_
  refine WOps.p (G.move rfl) rfl ?_
  obtain ⟨h24, hF⟩ := guard_some hF
  have hj25 : (a0.length : Int) ≤ (c0 : Int) := by have := hw17; omega
  refine WOps.p (G.tail T.el189 rfl rfl rfl h24 hj25) rfl ?_
  obtain ⟨G26, w27, E28, hO29, S30⟩ := St.clearTail (P := Try.prog) (n := ((a0.length : Int) - l14.length).toNat) S22 T.elt189 (by kernel_rfl) hO21 (by omega)
  change St _ _ _ [G26] at S30
  refine WOps.val0 (E28 rfl) ?_
  refine WOps.nil ?_
  refine WEx.then_ ?_
  refine WCode.seq ?_
  refine WCode.region ?_
  refine WOps.p (G.move rfl) rfl ?_
  refine WOps.p (G.assign rfl) rfl ?_
  refine WOps.nil ?_
  refine WEx.then_ ?_
  refine WCode.ret ?_
  obtain rfl := some_eq hF
  refine WEx.ret1 rfl rfl ?_
  exact ⟨A0, c0, G26, rfl, hO29, St.keep (As := [G26]) S30⟩

def ss_Drop (k : Nat) (a0 : Shelf_string__int_) (a1 : List UInt8) : Option (Int × Shelf_string__int_) := (Option.bind (ss_place k a0 a1) fun t11 => (if t11 < 0 then (some (141, a0)) else (Option.bind (ss_del k a0.pairs t11 (w64 (t11 + 1))) fun t20 => (some (0, (⟨a0.most, (t20)⟩ : Shelf_string__int_))))))
set_option maxRecDepth 100000 in
set_option maxHeartbeats 1000000 in
theorem ss_Drop_calls (k : Nat) (a0 : Shelf_string__int_) {p0 : Nat} {G0 : Grp} (a1 : List UInt8) {w : World} (hO0 : ObjO 191 Shelf_string__int_.rp p0 a0 G0) {r_ : Int × Shelf_string__int_} (h_ : ss_Drop k a0 a1 = some r_) (hp_ : Hp w ([G0]).flatten) :
    Calls Try.prog 84 [.pointer (some ⟨p0, 0, none⟩), .string (bs a1)].toArray w fun e w' => ∃ Go0' : Grp, e = .returned (.int .i64 r_.1) ∧ ObjO 191 Shelf_string__int_.rp p0 (r_.2) Go0' ∧ St w (KS [G0]) w' [Go0'] := by
 have hF := h_
 clear h_
 unfold ss_Drop at hF
 have S := St.initK [G0] hp_
 obtain ⟨cs1, G2, ho3, hg4⟩ := hO0
 obtain ⟨A5, c6, G7, rfl, hO8, hq9⟩ := ho3
 have S10 : St _ _ _ [[(p0, .cells #[.int .i64 a0.most, .slice A5 a0.pairs.length c6] 191 (0, 0))], G7] := S.objs (by rw [hg4, hq9]; simp)
 refine enter 22 [(0, .pointer (some ⟨p0, 0, none⟩)), (1, .string (bs a1))] Try.func84 rfl rfl rfl rfl ?_
 refine WCode.seq ?_
 refine WCode.region ?_
 refine WOps.p (G.assign rfl) rfl ?_
 refine WOps.nil ?_
 refine WEx.then_ ?_
 refine WCode.seq ?_
 refine WCode.region ?_
 refine WOps.p (G.move rfl) rfl ?_
 refine WOps.p (G.move rfl) rfl ?_
 obtain ⟨t11, hc12, hF⟩ := bind_some hF
 have hP13 : PtR 191 Shelf_string__int_.rp w (KS [[(p0, .cells #[.int .i64 a0.most, .slice A5 a0.pairs.length c6] 191 (0, 0))], G7]) p0 a0 := ⟨_, S10.blk 0 rfl, KS_at 0 rfl (by simp [keys]), ⟨A5, c6, rfl, ((hO8.rd (fun b o hb => S10.grp 1 rfl hb)).mono (fun b hb => KS_at 1 rfl hb))⟩⟩
 refine WOps.call T.call106 (evs_cons rfl (evs_cons rfl evs_nil)) rfl ?_
 refine (ss_place_calls k a0 a1 hP13 (St.outN (Bs := []) (As := [[(p0, .cells #[.int .i64 a0.most, .slice A5 a0.pairs.length c6] 191 (0, 0))], G7]) S10) hc12).mono ?_
 rintro _ w14 ⟨rfl, T15⟩
 have S16 := St.callN (As := []) S10 T15
 change St _ _ _ [[(p0, .cells #[.int .i64 a0.most, .slice A5 a0.pairs.length c6] 191 (0, 0))], G7] at S16
 refine ⟨_, rfl, ?_⟩
 refine WOps.p (G.assign rfl) rfl ?_
 refine WOps.nil ?_
 refine WEx.then_ ?_
 refine WCode.seq ?_
 refine WCode.seq ?_
 refine WCode.region ?_
 refine WOps.p (G.move rfl) rfl ?_
 refine WOps.p (G.lss rfl rfl rfl) rfl ?_
 refine WOps.nil ?_
 refine WEx.then_ ?_
 rcases ite_some hF with ⟨h17, hF⟩ | ⟨h17, hF⟩
 ·
  refine WCode.cond_t (kb (b := decide (t11 < 0)) rfl (decide_eq_true h17)) ?_
  refine WCode.seq ?_
  refine WCode.region ?_
  refine WOps.p (G.assign rfl) rfl ?_
  refine WOps.nil ?_
  refine WEx.then_ ?_
  refine WCode.ret ?_
  refine WEx.then_ret ?_
  obtain rfl := some_eq hF
  refine WEx.ret1 rfl rfl ?_
  have hO18 : ObjO 191 Shelf_string__int_.rp p0 a0 ([(p0, .cells #[.int .i64 a0.most, .slice A5 a0.pairs.length c6] 191 (0, 0))] ++ (G7)) := ⟨_, _, ⟨A5, c6, G7, rfl, hO8, rfl⟩, rfl⟩
  have S19 : St _ _ _ [[(p0, .cells #[.int .i64 a0.most, .slice A5 a0.pairs.length c6] 191 (0, 0))] ++ (G7)] := S16.objs (by simp)
  exact ⟨[(p0, .cells #[.int .i64 a0.most, .slice A5 a0.pairs.length c6] 191 (0, 0))] ++ (G7), rfl, hO18, St.keep (As := [[(p0, .cells #[.int .i64 a0.most, .slice A5 a0.pairs.length c6] 191 (0, 0))] ++ (G7)]) S19⟩
 ·
  refine WCode.cond_f (kb (b := decide (t11 < 0)) rfl (decide_eq_false h17)) ?_
  refine WCode.skip ?_
  refine WEx.then_ ?_
  refine WCode.seq ?_
  refine WCode.region ?_
  refine WOps.p (G.move rfl) rfl ?_
  refine WOps.p (G.move rfl) rfl ?_
  refine WOps.p (G.nilp rfl) rfl ?_
  refine WOps.p (G.field T.fld191_1 rfl (show 0 + 1 = 1 from rfl)) rfl ?_
  refine WOps.r (G.load1 T.one189 rfl (cell_blk (S16.blk 0 rfl) rfl)) rfl ?_
  refine WOps.p (G.move rfl) rfl ?_
  refine WOps.p (G.move rfl) rfl ?_
  refine WOps.p (G.add rfl rfl (r := (w64 (t11 + 1))) rfl) rfl ?_
  obtain ⟨t20, hc21, hF⟩ := bind_some hF
  have S22 := S16.front 1 rfl
  change St _ _ _ [G7, [(p0, .cells #[.int .i64 a0.most, .slice A5 a0.pairs.length c6] 191 (0, 0))]] at S22
  refine WOps.call T.call107 (evs_cons rfl (evs_cons rfl (evs_cons rfl evs_nil))) rfl ?_
  refine (ss_del_calls k a0.pairs t11 (w64 (t11 + 1)) hO8 hc21 (St.hpN (As := [G7]) S22)).mono ?_
  rintro _ w23 ⟨A26, c27, G28, rfl, hO29, T24⟩
  have S25 := St.callN (As := [G7]) S22 T24
  change St _ _ _ [G28, [(p0, .cells #[.int .i64 a0.most, .slice A5 a0.pairs.length c6] 191 (0, 0))]] at S25
  refine ⟨_, rfl, ?_⟩
  refine WOps.p (G.nilp rfl) rfl ?_
  refine WOps.p (G.field T.fld191_1 rfl (show 0 + 1 = 1 from rfl)) rfl ?_
  obtain ⟨w30, E31, S32⟩ := St.store (P := Try.prog) S25 1 189 (.slice A26 (t20).length c27) (off := 1) (cur' := #[.int .i64 a0.most, .slice A26 (t20).length c27]) rfl T.size189_1 rfl rfl rfl
  change St _ _ _ [G28, [(p0, .cells #[.int .i64 a0.most, .slice A26 (t20).length c27] 191 (0, 0))]] at S32
  refine WOps.u (E31 rfl rfl) ?_
  refine WOps.nil ?_
  refine WEx.then_ ?_
  refine WCode.forget (l' := []) trivial ?_
  refine WCode.seq ?_
  refine WCode.region ?_
  refine WOps.p (G.assign rfl) rfl ?_
  refine WOps.nil ?_
  refine WEx.then_ ?_
  refine WCode.ret ?_
  obtain rfl := some_eq hF
  refine WEx.ret1 rfl rfl ?_
  have S33 := S32.front 1 rfl
  change St _ _ _ [[(p0, .cells #[.int .i64 a0.most, .slice A26 (t20).length c27] 191 (0, 0))], G28] at S33
  have hO34 : ObjO 191 Shelf_string__int_.rp p0 (⟨a0.most, (t20)⟩ : Shelf_string__int_) ([(p0, .cells #[.int .i64 a0.most, .slice A26 (t20).length c27] 191 (0, 0))] ++ (G28)) := ⟨_, _, ⟨A26, c27, G28, rfl, hO29, rfl⟩, rfl⟩
  have S35 : St _ _ _ [[(p0, .cells #[.int .i64 a0.most, .slice A26 (t20).length c27] 191 (0, 0))] ++ (G28)] := S33.objs (by simp)
  exact ⟨[(p0, .cells #[.int .i64 a0.most, .slice A26 (t20).length c27] 191 (0, 0))] ++ (G28), rfl, hO34, St.keep (As := [[(p0, .cells #[.int .i64 a0.most, .slice A26 (t20).length c27] 191 (0, 0))] ++ (G28)]) S35⟩

def sh_pick (k : Nat) (a0 : Int) (a1 : Int) : Option Int := (if a0 < 0 then (if a1 = 0 then none else (some (Int.tmod (w64 (-(w64 (a0 + 1)))) a1))) else (if a1 = 0 then none else (some (Int.tmod a0 a1))))
set_option maxRecDepth 100000 in
set_option maxHeartbeats 1000000 in
theorem sh_pick_calls (k : Nat) (a0 : Int) (a1 : Int) {w : World} {r_ : Int} (h_ : sh_pick k a0 a1 = some r_) :
    Calls Try.prog 54 [.int .i64 a0, .int .i64 a1].toArray w fun e w' => e = .returned (.int .i64 r_) ∧ St w (KS []) w' [] := by
 have hF := h_
 clear h_
 unfold sh_pick at hF
 have S := St.ofFalse (As := []) (St.init0 w)
 refine enter 13 [(0, .int .i64 a0), (1, .int .i64 a1)] Try.func54 rfl rfl rfl rfl ?_
 refine WCode.seq ?_
 refine WCode.region ?_
 refine WOps.p (G.assign rfl) rfl ?_
 refine WOps.nil ?_
 refine WEx.then_ ?_
 refine WCode.seq ?_
 refine WCode.seq ?_
 refine WCode.region ?_
 refine WOps.p (G.move rfl) rfl ?_
 refine WOps.p (G.lss rfl rfl rfl) rfl ?_
 refine WOps.nil ?_
 refine WEx.then_ ?_
 rcases ite_some hF with ⟨h1, hF⟩ | ⟨h1, hF⟩
 ·
  refine WCode.cond_t (kb (b := decide (a0 < 0)) rfl (decide_eq_true h1)) ?_
  refine WCode.region ?_
  refine WOps.p (G.move rfl) rfl ?_
  refine WOps.p (G.add rfl rfl (r := (w64 (a0 + 1))) rfl) rfl ?_
  refine WOps.p (G.neg rfl (r := (w64 (-(w64 (a0 + 1))))) rfl) rfl ?_
  refine WOps.p (G.assign rfl) rfl ?_
  refine WOps.nil ?_
  refine WEx.then_ ?_
  refine WCode.seq ?_
  refine WCode.region ?_
  refine WOps.p (G.move rfl) rfl ?_
  refine WOps.p (G.move rfl) rfl ?_
  obtain ⟨h2, hF⟩ := nguard_some hF
  refine WOps.p (G.remk rfl rfl h2) rfl ?_
  refine WOps.p (G.assign rfl) rfl ?_
  refine WOps.nil ?_
  refine WEx.then_ ?_
  refine WCode.forget (l' := [(4, .int .i64 (Int.tmod (w64 (-(w64 (a0 + 1)))) a1))]) ⟨rfl, trivial⟩ ?_
  refine WCode.ret ?_
  obtain rfl := some_eq hF
  refine WEx.ret1 rfl rfl ?_
  exact ⟨rfl, St.keep (As := []) S⟩
 ·
  refine WCode.cond_f (kb (b := decide (a0 < 0)) rfl (decide_eq_false h1)) ?_
  refine WCode.skip ?_
  refine WEx.then_ ?_
  refine WCode.seq ?_
  refine WCode.region ?_
  refine WOps.p (G.move rfl) rfl ?_
  refine WOps.p (G.move rfl) rfl ?_
  obtain ⟨h3, hF⟩ := nguard_some hF
  refine WOps.p (G.remk rfl rfl h3) rfl ?_
  refine WOps.p (G.assign rfl) rfl ?_
  refine WOps.nil ?_
  refine WEx.then_ ?_
  refine WCode.ret ?_
  obtain rfl := some_eq hF
  refine WEx.ret1 rfl rfl ?_
  exact ⟨rfl, St.keep (As := []) S⟩

def sh_awake (k : Nat) : Option Bool := (Option.bind (ss_New k 2) fun t1 => (Option.bind (ss_New k (-1)) fun t9 => (if (t1.1).isSome = true then (Option.bind (t1.1) fun x18 => (if t1.2 = 0 then (if (t9.1).isSome = true then (Option.bind (t9.1) fun x37 => (some false)) else (if t9.2 = 1 then (Option.bind (ss_Put k x18 ([97] : List UInt8) 1) fun t63 => (Option.bind (ss_Put k t63.2 ([98] : List UInt8) 2) fun t82 => (Option.bind (ss_Put k t82.2 ([99] : List UInt8) 3) fun t101 => (Option.bind (ss_Put k t101.2 ([97] : List UInt8) 9) fun t120 => (Option.bind (ss_Keys k t120.2) fun t137 => (Option.bind (ss_Get k t120.2 ([97] : List UInt8)) fun t147 => (Option.bind (ss_Get k t120.2 ([99] : List UInt8)) fun t154 => (Option.bind (ss_Drop k t120.2 ([97] : List UInt8)) fun t162 => (Option.bind (ss_Drop k t162.2 ([97] : List UInt8)) fun t181 => (if t63.1 = 0 then (if t82.1 = 0 then (if t101.1 = 140 then (if t120.1 = 0 then (if ((t137).length : Int) = 2 then (Option.bind (idx (t137) 0) fun x203 => (if x203 = ([97] : List UInt8) then (Option.bind (idx (t137) 1) fun x218 => (if x218 = ([98] : List UInt8) then (if t147.1 = 9 then (if t147.2 = true then (if t154.2 = true then (some false) else (if t162.1 = 0 then (if t181.1 = 141 then (Option.bind (ss_Len k t181.2) fun t238 => (some (decide (t238 = 1)))) else (some false)) else (some false))) else (some false)) else (some false)) else (some false))) else (some false))) else (some false)) else (some false)) else (some false)) else (some false)) else (some false))))))))))) else (some false))) else (some false))) else (some false))))
set_option maxRecDepth 100000 in
set_option maxHeartbeats 1000000 in
theorem sh_awake_calls (k : Nat)  {w : World} {r_ : Bool} (h_ : sh_awake k = some r_) :
    Calls Try.prog 40 [].toArray w fun e w' => e = .returned (.bool r_) ∧ St w (KS []) w' [] := by
 have hF := h_
 clear h_
 unfold sh_awake at hF
 have S := St.ofFalse (As := []) (St.init0 w)
 refine enter 117 [] Try.func40 rfl rfl rfl rfl ?_
 refine WCode.seq ?_
 refine WCode.region ?_
 refine WOps.p (G.assign rfl) rfl ?_
 refine WOps.nil ?_
 refine WEx.then_ ?_
 refine WCode.seq ?_
 refine WCode.region ?_
 obtain ⟨t1, hc2, hF⟩ := bind_some hF
 refine WOps.call T.call80 (evs_cons rfl evs_nil) rfl ?_
 refine (ss_New_calls k 2 hc2).mono ?_
 rintro _ w3 ⟨v6, G7, rfl, hO8, T4⟩
 have S5 := St.callN (As := []) S T4
 change St _ _ _ [G7] at S5
 refine ⟨_, rfl, ?_⟩
 refine WOps.p (G.move rfl) rfl ?_
 refine WOps.p (G.extract rfl rfl) rfl ?_
 refine WOps.p (G.extract rfl rfl) rfl ?_
 refine WOps.p (G.assign rfl) rfl ?_
 refine WOps.p (G.assign rfl) rfl ?_
 refine WOps.nil ?_
 refine WEx.then_ ?_
 refine WCode.seq ?_
 refine WCode.region ?_
 obtain ⟨t9, hc10, hF⟩ := bind_some hF
 refine WOps.call T.call80 (evs_cons rfl evs_nil) rfl ?_
 refine (ss_New_calls k (-1) hc10).mono ?_
 rintro _ w11 ⟨v14, G15, rfl, hO16, T12⟩
 have S13 := St.callN (As := []) S5 T12
 change St _ _ _ [G15, G7] at S13
 refine ⟨_, rfl, ?_⟩
 refine WOps.p (G.move rfl) rfl ?_
 refine WOps.p (G.extract rfl rfl) rfl ?_
 refine WOps.p (G.extract rfl rfl) rfl ?_
 refine WOps.p (G.assign rfl) rfl ?_
 refine WOps.p (G.assign rfl) rfl ?_
 refine WOps.nil ?_
 refine WEx.then_ ?_
 refine WCode.seq ?_
 refine WCode.seq ?_
 refine WCode.region ?_
 refine WOps.p (G.move rfl) rfl ?_
 rcases ite_some hF with ⟨h17, hF⟩ | ⟨h17, hF⟩
 ·
  obtain ⟨x18, hc19, hF⟩ := bind_some hF
  have ho20 := hO8
  rw [hc19] at ho20
  obtain ⟨p21, hv22, hO23⟩ := ho20
  subst hv22
  have S24 := S13.front 1 rfl
  change St _ _ _ [G7, G15] at S24
  obtain ⟨cs25, G26, ho27, hg28⟩ := hO23
  obtain ⟨A29, c30, G31, rfl, hO32, hq33⟩ := ho27
  have S34 : St _ _ _ [[(p21, .cells #[.int .i64 x18.most, .slice A29 x18.pairs.length c30] 191 (0, 0))], G31, G15] := S24.objs (by rw [hg28, hq33]; simp)
  refine WOps.p (G.eqp_nil Try.underlying141 rfl rfl rfl) rfl ?_
  refine WOps.p (G.move rfl) rfl ?_
  refine WOps.on rfl rfl ?_
  refine WOps.p (G.move rfl) rfl ?_
  refine WOps.on rfl rfl ?_
  refine WOps.p (G.neq rfl rfl rfl) rfl ?_
  refine WOps.p (G.pick_f rfl rfl) rfl ?_
  refine WOps.p (G.move rfl) rfl ?_
  rcases ite_some hF with ⟨h35, hF⟩ | ⟨h35, hF⟩
  ·
   refine WOps.on rfl (kbl (b := !(decide (t1.2 = 0))) rfl (show (!(decide (t1.2 = 0))) = false from by rw [(decide_eq_true h35)]; rfl)) ?_
   refine WOps.p (G.move rfl) rfl ?_
   rcases ite_some hF with ⟨h36, hF⟩ | ⟨h36, hF⟩
   ·
    refine WOps.on rfl (kbl (b := !(decide (t1.2 = 0))) rfl (show (!(decide (t1.2 = 0))) = false from by rw [(decide_eq_true h35)]; rfl)) ?_
    obtain ⟨x37, hc38, hF⟩ := bind_some hF
    have ho39 := hO16
    rw [hc38] at ho39
    obtain ⟨p40, hv41, hO42⟩ := ho39
    subst hv41
    have S43 := S34.front 2 rfl
    change St _ _ _ [G15, [(p21, .cells #[.int .i64 x18.most, .slice A29 x18.pairs.length c30] 191 (0, 0))], G31] at S43
    obtain ⟨cs44, G45, ho46, hg47⟩ := hO42
    obtain ⟨A48, c49, G50, rfl, hO51, hq52⟩ := ho46
    have S53 : St _ _ _ [[(p40, .cells #[.int .i64 x37.most, .slice A48 x37.pairs.length c49] 191 (0, 0))], G50, [(p21, .cells #[.int .i64 x18.most, .slice A29 x18.pairs.length c30] 191 (0, 0))], G31] := S43.objs (by rw [hg47, hq52]; simp)
    refine WOps.p (G.neqp_nil Try.underlying141 rfl rfl rfl) rfl ?_
    refine WOps.p (G.pick_f (kb (b := !(decide (t1.2 = 0))) rfl (show (!(decide (t1.2 = 0))) = false from by rw [(decide_eq_true h35)]; rfl)) rfl) rfl ?_
    refine WOps.p (G.move rfl) rfl ?_
    refine WOps.off rfl rfl rfl rfl ?_
    refine WOps.off rfl rfl rfl rfl ?_
    refine WOps.p (G.pick_t rfl rfl) rfl ?_
    refine WOps.nil ?_
    refine WEx.then_ ?_
    refine WCode.forget (l' := [(1, .pointer (some ⟨p21, 0, none⟩)), (37, .bool true)]) ⟨rfl, rfl, trivial⟩ ?_
    refine WCode.cond_t rfl ?_
    refine WCode.seq ?_
    refine WCode.region ?_
    refine WOps.p (G.assign rfl) rfl ?_
    refine WOps.nil ?_
    refine WEx.then_ ?_
    refine WCode.ret ?_
    refine WEx.then_ret ?_
    obtain rfl := some_eq hF
    refine WEx.ret1 rfl rfl ?_
    exact ⟨rfl, St.keep (As := []) S53⟩
   ·
    refine WOps.on rfl (kbl (b := !(decide (t1.2 = 0))) rfl (show (!(decide (t1.2 = 0))) = false from by rw [(decide_eq_true h35)]; rfl)) ?_
    have hn55 := Option.not_isSome_iff_eq_none.1 h36
    have ho54 := hO16
    rw [hn55] at ho54
    obtain ⟨hv56, hg57⟩ := ho54
    subst hv56
    have S59 := S34.front 2 rfl
    change St _ _ _ [G15, [(p21, .cells #[.int .i64 x18.most, .slice A29 x18.pairs.length c30] 191 (0, 0))], G31] at S59
    have S58 : St _ _ _ [[(p21, .cells #[.int .i64 x18.most, .slice A29 x18.pairs.length c30] 191 (0, 0))], G31] := S59.objs (by rw [hg57]; simp)
    refine WOps.p (G.neqp_nil Try.underlying141 rfl rfl rfl) rfl ?_
    refine WOps.p (G.pick_f (kb (b := !(decide (t1.2 = 0))) rfl (show (!(decide (t1.2 = 0))) = false from by rw [(decide_eq_true h35)]; rfl)) rfl) rfl ?_
    refine WOps.p (G.move rfl) rfl ?_
    refine WOps.on rfl rfl ?_
    refine WOps.p (G.move rfl) rfl ?_
    refine WOps.on rfl rfl ?_
    refine WOps.p (G.neq rfl rfl rfl) rfl ?_
    refine WOps.p (G.pick_f rfl rfl) rfl ?_
    refine WOps.nil ?_
    refine WEx.then_ ?_
    refine WCode.forget (l' := [(1, .pointer (some ⟨p21, 0, none⟩)), (37, .bool (!(decide (t9.2 = 1))))]) ⟨rfl, rfl, trivial⟩ ?_
    rcases ite_some hF with ⟨h60, hF⟩ | ⟨h60, hF⟩
    ·
     refine WCode.cond_f (kb (b := !(decide (t9.2 = 1))) rfl (show (!(decide (t9.2 = 1))) = false from by rw [(decide_eq_true h60)]; rfl)) ?_
     refine WCode.skip ?_
     refine WEx.then_ ?_
     refine WCode.seq ?_
     refine WCode.region ?_
     refine WOps.p (G.move rfl) rfl ?_
     have hO61 : ObjO 191 Shelf_string__int_.rp p21 x18 ([(p21, .cells #[.int .i64 x18.most, .slice A29 x18.pairs.length c30] 191 (0, 0))] ++ (G31)) := ⟨_, _, ⟨A29, c30, G31, rfl, hO32, rfl⟩, rfl⟩
     have S62 : St _ _ _ [[(p21, .cells #[.int .i64 x18.most, .slice A29 x18.pairs.length c30] 191 (0, 0))] ++ (G31)] := S58.objs (by simp)
     obtain ⟨t63, hc64, hF⟩ := bind_some hF
     refine WOps.call T.call81 (evs_cons rfl (evs_cons rfl (evs_cons rfl evs_nil))) rfl ?_
     refine (ss_Put_calls k x18 ([97] : List UInt8) 1 hO61 hc64 (St.hpN (As := [[(p21, .cells #[.int .i64 x18.most, .slice A29 x18.pairs.length c30] 191 (0, 0))] ++ (G31)]) S62)).mono ?_
     rintro _ w65 ⟨G68, rfl, hO69, T66⟩
     have S67 := St.callN (As := [[(p21, .cells #[.int .i64 x18.most, .slice A29 x18.pairs.length c30] 191 (0, 0))] ++ (G31)]) S62 T66
     change St _ _ _ [G68] at S67
     refine ⟨_, rfl, ?_⟩
     obtain ⟨cs70, G71, ho72, hg73⟩ := hO69
     obtain ⟨A74, c75, G76, rfl, hO77, hq78⟩ := ho72
     have S79 : St _ _ _ [[(p21, .cells #[.int .i64 t63.2.most, .slice A74 t63.2.pairs.length c75] 191 (0, 0))], G76] := S67.objs (by rw [hg73, hq78]; simp)
     refine WOps.p (G.assign rfl) rfl ?_
     refine WOps.nil ?_
     refine WEx.then_ ?_
     refine WCode.seq ?_
     refine WCode.region ?_
     refine WOps.p (G.move rfl) rfl ?_
     have hO80 : ObjO 191 Shelf_string__int_.rp p21 t63.2 ([(p21, .cells #[.int .i64 t63.2.most, .slice A74 t63.2.pairs.length c75] 191 (0, 0))] ++ (G76)) := ⟨_, _, ⟨A74, c75, G76, rfl, hO77, rfl⟩, rfl⟩
     have S81 : St _ _ _ [[(p21, .cells #[.int .i64 t63.2.most, .slice A74 t63.2.pairs.length c75] 191 (0, 0))] ++ (G76)] := S79.objs (by simp)
     obtain ⟨t82, hc83, hF⟩ := bind_some hF
     refine WOps.call T.call81 (evs_cons rfl (evs_cons rfl (evs_cons rfl evs_nil))) rfl ?_
     refine (ss_Put_calls k t63.2 ([98] : List UInt8) 2 hO80 hc83 (St.hpN (As := [[(p21, .cells #[.int .i64 t63.2.most, .slice A74 t63.2.pairs.length c75] 191 (0, 0))] ++ (G76)]) S81)).mono ?_
     rintro _ w84 ⟨G87, rfl, hO88, T85⟩
     have S86 := St.callN (As := [[(p21, .cells #[.int .i64 t63.2.most, .slice A74 t63.2.pairs.length c75] 191 (0, 0))] ++ (G76)]) S81 T85
     change St _ _ _ [G87] at S86
     refine ⟨_, rfl, ?_⟩
     obtain ⟨cs89, G90, ho91, hg92⟩ := hO88
     obtain ⟨A93, c94, G95, rfl, hO96, hq97⟩ := ho91
     have S98 : St _ _ _ [[(p21, .cells #[.int .i64 t82.2.most, .slice A93 t82.2.pairs.length c94] 191 (0, 0))], G95] := S86.objs (by rw [hg92, hq97]; simp)
     refine WOps.p (G.assign rfl) rfl ?_
     refine WOps.nil ?_
     refine WEx.then_ ?_
     refine WCode.seq ?_
     refine WCode.region ?_
     refine WOps.p (G.move rfl) rfl ?_
     have hO99 : ObjO 191 Shelf_string__int_.rp p21 t82.2 ([(p21, .cells #[.int .i64 t82.2.most, .slice A93 t82.2.pairs.length c94] 191 (0, 0))] ++ (G95)) := ⟨_, _, ⟨A93, c94, G95, rfl, hO96, rfl⟩, rfl⟩
     have S100 : St _ _ _ [[(p21, .cells #[.int .i64 t82.2.most, .slice A93 t82.2.pairs.length c94] 191 (0, 0))] ++ (G95)] := S98.objs (by simp)
     obtain ⟨t101, hc102, hF⟩ := bind_some hF
     refine WOps.call T.call81 (evs_cons rfl (evs_cons rfl (evs_cons rfl evs_nil))) rfl ?_
     refine (ss_Put_calls k t82.2 ([99] : List UInt8) 3 hO99 hc102 (St.hpN (As := [[(p21, .cells #[.int .i64 t82.2.most, .slice A93 t82.2.pairs.length c94] 191 (0, 0))] ++ (G95)]) S100)).mono ?_
     rintro _ w103 ⟨G106, rfl, hO107, T104⟩
     have S105 := St.callN (As := [[(p21, .cells #[.int .i64 t82.2.most, .slice A93 t82.2.pairs.length c94] 191 (0, 0))] ++ (G95)]) S100 T104
     change St _ _ _ [G106] at S105
     refine ⟨_, rfl, ?_⟩
     obtain ⟨cs108, G109, ho110, hg111⟩ := hO107
     obtain ⟨A112, c113, G114, rfl, hO115, hq116⟩ := ho110
     have S117 : St _ _ _ [[(p21, .cells #[.int .i64 t101.2.most, .slice A112 t101.2.pairs.length c113] 191 (0, 0))], G114] := S105.objs (by rw [hg111, hq116]; simp)
     refine WOps.p (G.assign rfl) rfl ?_
     refine WOps.nil ?_
     refine WEx.then_ ?_
     refine WCode.seq ?_
     refine WCode.region ?_
     refine WOps.p (G.move rfl) rfl ?_
     have hO118 : ObjO 191 Shelf_string__int_.rp p21 t101.2 ([(p21, .cells #[.int .i64 t101.2.most, .slice A112 t101.2.pairs.length c113] 191 (0, 0))] ++ (G114)) := ⟨_, _, ⟨A112, c113, G114, rfl, hO115, rfl⟩, rfl⟩
     have S119 : St _ _ _ [[(p21, .cells #[.int .i64 t101.2.most, .slice A112 t101.2.pairs.length c113] 191 (0, 0))] ++ (G114)] := S117.objs (by simp)
     obtain ⟨t120, hc121, hF⟩ := bind_some hF
     refine WOps.call T.call81 (evs_cons rfl (evs_cons rfl (evs_cons rfl evs_nil))) rfl ?_
     refine (ss_Put_calls k t101.2 ([97] : List UInt8) 9 hO118 hc121 (St.hpN (As := [[(p21, .cells #[.int .i64 t101.2.most, .slice A112 t101.2.pairs.length c113] 191 (0, 0))] ++ (G114)]) S119)).mono ?_
     rintro _ w122 ⟨G125, rfl, hO126, T123⟩
     have S124 := St.callN (As := [[(p21, .cells #[.int .i64 t101.2.most, .slice A112 t101.2.pairs.length c113] 191 (0, 0))] ++ (G114)]) S119 T123
     change St _ _ _ [G125] at S124
     refine ⟨_, rfl, ?_⟩
     obtain ⟨cs127, G128, ho129, hg130⟩ := hO126
     obtain ⟨A131, c132, G133, rfl, hO134, hq135⟩ := ho129
     have S136 : St _ _ _ [[(p21, .cells #[.int .i64 t120.2.most, .slice A131 t120.2.pairs.length c132] 191 (0, 0))], G133] := S124.objs (by rw [hg130, hq135]; simp)
     refine WOps.p (G.assign rfl) rfl ?_
     refine WOps.nil ?_
     refine WEx.then_ ?_
     refine WCode.seq ?_
     refine WCode.region ?_
     refine WOps.p (G.move rfl) rfl ?_
     obtain ⟨t137, hc138, hF⟩ := bind_some hF
     have hP139 : PtR 191 Shelf_string__int_.rp w122 (KS [[(p21, .cells #[.int .i64 t120.2.most, .slice A131 t120.2.pairs.length c132] 191 (0, 0))], G133]) p21 t120.2 := ⟨_, S136.blk 0 rfl, KS_at 0 rfl (by simp [keys]), ⟨A131, c132, rfl, ((hO134.rd (fun b o hb => S136.grp 1 rfl hb)).mono (fun b hb => KS_at 1 rfl hb))⟩⟩
     refine WOps.call T.call82 (evs_cons rfl evs_nil) rfl ?_
     refine (ss_Keys_calls k t120.2 hP139 (St.outN (Bs := []) (As := [[(p21, .cells #[.int .i64 t120.2.most, .slice A131 t120.2.pairs.length c132] 191 (0, 0))], G133]) S136) hc138).mono ?_
     rintro _ w140 ⟨A143, c144, G145, rfl, hO146, T141⟩
     have S142 := St.callN (As := []) S136 T141
     change St _ _ _ [G145, [(p21, .cells #[.int .i64 t120.2.most, .slice A131 t120.2.pairs.length c132] 191 (0, 0))], G133] at S142
     refine ⟨_, rfl, ?_⟩
     refine WOps.p (G.assign rfl) rfl ?_
     refine WOps.nil ?_
     refine WEx.then_ ?_
     refine WCode.forget (l' := [(1, .pointer (some ⟨p21, 0, none⟩)), (5, .int .i64 t63.1), (6, .int .i64 t82.1), (7, .int .i64 t101.1), (8, .int .i64 t120.1), (9, .slice A143 (t137).length c144)]) ⟨rfl, rfl, rfl, rfl, rfl, rfl, trivial⟩ ?_
     refine WCode.seq ?_
     refine WCode.region ?_
     refine WOps.p (G.move rfl) rfl ?_
     obtain ⟨t147, hc148, hF⟩ := bind_some hF
     have S149 := (S142.front 2 rfl).front 2 rfl
     change St _ _ _ [[(p21, .cells #[.int .i64 t120.2.most, .slice A131 t120.2.pairs.length c132] 191 (0, 0))], G133, G145] at S149
     have hP150 : PtR 191 Shelf_string__int_.rp w140 (KS [[(p21, .cells #[.int .i64 t120.2.most, .slice A131 t120.2.pairs.length c132] 191 (0, 0))], G133]) p21 t120.2 := ⟨_, S149.blk 0 rfl, KS_at 0 rfl (by simp [keys]), ⟨A131, c132, rfl, ((hO134.rd (fun b o hb => S149.grp 1 rfl hb)).mono (fun b hb => KS_at 1 rfl hb))⟩⟩
     refine WOps.call T.call83 (evs_cons rfl (evs_cons rfl evs_nil)) rfl ?_
     refine (ss_Get_calls k t120.2 ([97] : List UInt8) hP150 (St.outN (Bs := []) (As := [[(p21, .cells #[.int .i64 t120.2.most, .slice A131 t120.2.pairs.length c132] 191 (0, 0))], G133]) S149) hc148).mono ?_
     rintro _ w151 ⟨rfl, T152⟩
     have S153 := St.callN (As := []) S149 T152
     change St _ _ _ [[(p21, .cells #[.int .i64 t120.2.most, .slice A131 t120.2.pairs.length c132] 191 (0, 0))], G133, G145] at S153
     refine ⟨_, rfl, ?_⟩
     refine WOps.p (G.move rfl) rfl ?_
     refine WOps.p (G.extract rfl rfl) rfl ?_
     refine WOps.p (G.extract rfl rfl) rfl ?_
     refine WOps.p (G.assign rfl) rfl ?_
     refine WOps.p (G.assign rfl) rfl ?_
     refine WOps.nil ?_
     refine WEx.then_ ?_
     refine WCode.seq ?_
     refine WCode.region ?_
     refine WOps.p (G.move rfl) rfl ?_
     obtain ⟨t154, hc155, hF⟩ := bind_some hF
     have hP156 : PtR 191 Shelf_string__int_.rp w151 (KS [[(p21, .cells #[.int .i64 t120.2.most, .slice A131 t120.2.pairs.length c132] 191 (0, 0))], G133]) p21 t120.2 := ⟨_, S153.blk 0 rfl, KS_at 0 rfl (by simp [keys]), ⟨A131, c132, rfl, ((hO134.rd (fun b o hb => S153.grp 1 rfl hb)).mono (fun b hb => KS_at 1 rfl hb))⟩⟩
     refine WOps.call T.call83 (evs_cons rfl (evs_cons rfl evs_nil)) rfl ?_
     refine (ss_Get_calls k t120.2 ([99] : List UInt8) hP156 (St.outN (Bs := []) (As := [[(p21, .cells #[.int .i64 t120.2.most, .slice A131 t120.2.pairs.length c132] 191 (0, 0))], G133]) S153) hc155).mono ?_
     rintro _ w157 ⟨rfl, T158⟩
     have S159 := St.callN (As := []) S153 T158
     change St _ _ _ [[(p21, .cells #[.int .i64 t120.2.most, .slice A131 t120.2.pairs.length c132] 191 (0, 0))], G133, G145] at S159
     refine ⟨_, rfl, ?_⟩
     refine WOps.p (G.move rfl) rfl ?_
     refine WOps.p (G.extract rfl rfl) rfl ?_
     refine WOps.p (G.extract rfl rfl) rfl ?_
     refine WOps.p (G.assign rfl) rfl ?_
     refine WOps.p (G.assign rfl) rfl ?_
     refine WOps.nil ?_
     refine WEx.then_ ?_
     refine WCode.forget (l' := [(1, .pointer (some ⟨p21, 0, none⟩)), (5, .int .i64 t63.1), (6, .int .i64 t82.1), (7, .int .i64 t101.1), (8, .int .i64 t120.1), (9, .slice A143 (t137).length c144), (10, .int .i64 t147.1), (11, .bool t147.2), (13, .bool t154.2)]) ⟨rfl, rfl, rfl, rfl, rfl, rfl, rfl, rfl, rfl, trivial⟩ ?_
     refine WCode.seq ?_
     refine WCode.region ?_
     refine WOps.p (G.move rfl) rfl ?_
     have hO160 : ObjO 191 Shelf_string__int_.rp p21 t120.2 ([(p21, .cells #[.int .i64 t120.2.most, .slice A131 t120.2.pairs.length c132] 191 (0, 0))] ++ (G133)) := ⟨_, _, ⟨A131, c132, G133, rfl, hO134, rfl⟩, rfl⟩
     have S161 : St _ _ _ [[(p21, .cells #[.int .i64 t120.2.most, .slice A131 t120.2.pairs.length c132] 191 (0, 0))] ++ (G133), G145] := S159.objs (by simp)
     obtain ⟨t162, hc163, hF⟩ := bind_some hF
     refine WOps.call T.call84 (evs_cons rfl (evs_cons rfl evs_nil)) rfl ?_
     refine (ss_Drop_calls k t120.2 ([97] : List UInt8) hO160 hc163 (St.hpN (As := [[(p21, .cells #[.int .i64 t120.2.most, .slice A131 t120.2.pairs.length c132] 191 (0, 0))] ++ (G133)]) S161)).mono ?_
     rintro _ w164 ⟨G167, rfl, hO168, T165⟩
     have S166 := St.callN (As := [[(p21, .cells #[.int .i64 t120.2.most, .slice A131 t120.2.pairs.length c132] 191 (0, 0))] ++ (G133)]) S161 T165
     change St _ _ _ [G167, G145] at S166
     refine ⟨_, rfl, ?_⟩
     obtain ⟨cs169, G170, ho171, hg172⟩ := hO168
     obtain ⟨A173, c174, G175, rfl, hO176, hq177⟩ := ho171
     have S178 : St _ _ _ [[(p21, .cells #[.int .i64 t162.2.most, .slice A173 t162.2.pairs.length c174] 191 (0, 0))], G175, G145] := S166.objs (by rw [hg172, hq177]; simp)
     refine WOps.p (G.assign rfl) rfl ?_
     refine WOps.nil ?_
     refine WEx.then_ ?_
     refine WCode.seq ?_
     refine WCode.region ?_
     refine WOps.p (G.move rfl) rfl ?_
     have hO179 : ObjO 191 Shelf_string__int_.rp p21 t162.2 ([(p21, .cells #[.int .i64 t162.2.most, .slice A173 t162.2.pairs.length c174] 191 (0, 0))] ++ (G175)) := ⟨_, _, ⟨A173, c174, G175, rfl, hO176, rfl⟩, rfl⟩
     have S180 : St _ _ _ [[(p21, .cells #[.int .i64 t162.2.most, .slice A173 t162.2.pairs.length c174] 191 (0, 0))] ++ (G175), G145] := S178.objs (by simp)
     obtain ⟨t181, hc182, hF⟩ := bind_some hF
     refine WOps.call T.call84 (evs_cons rfl (evs_cons rfl evs_nil)) rfl ?_
     refine (ss_Drop_calls k t162.2 ([97] : List UInt8) hO179 hc182 (St.hpN (As := [[(p21, .cells #[.int .i64 t162.2.most, .slice A173 t162.2.pairs.length c174] 191 (0, 0))] ++ (G175)]) S180)).mono ?_
     rintro _ w183 ⟨G186, rfl, hO187, T184⟩
     have S185 := St.callN (As := [[(p21, .cells #[.int .i64 t162.2.most, .slice A173 t162.2.pairs.length c174] 191 (0, 0))] ++ (G175)]) S180 T184
     change St _ _ _ [G186, G145] at S185
     refine ⟨_, rfl, ?_⟩
     obtain ⟨cs188, G189, ho190, hg191⟩ := hO187
     obtain ⟨A192, c193, G194, rfl, hO195, hq196⟩ := ho190
     have S197 : St _ _ _ [[(p21, .cells #[.int .i64 t181.2.most, .slice A192 t181.2.pairs.length c193] 191 (0, 0))], G194, G145] := S185.objs (by rw [hg191, hq196]; simp)
     refine WOps.p (G.assign rfl) rfl ?_
     refine WOps.nil ?_
     refine WEx.then_ ?_
     refine WCode.seq ?_
     refine WCode.region ?_
     refine WOps.p (G.move rfl) rfl ?_
     refine WOps.p (G.eql rfl rfl rfl) rfl ?_
     refine WOps.p (G.move rfl) rfl ?_
     rcases ite_some hF with ⟨h198, hF⟩ | ⟨h198, hF⟩
     ·
      refine WOps.on rfl (kbl (b := decide (t63.1 = 0)) rfl (decide_eq_true h198)) ?_
      refine WOps.p (G.move rfl) rfl ?_
      refine WOps.on rfl (kbl (b := decide (t63.1 = 0)) rfl (decide_eq_true h198)) ?_
      refine WOps.p (G.eql rfl rfl rfl) rfl ?_
      refine WOps.p (G.pick_t (kb (b := decide (t63.1 = 0)) rfl (decide_eq_true h198)) rfl) rfl ?_
      refine WOps.p (G.move rfl) rfl ?_
      rcases ite_some hF with ⟨h199, hF⟩ | ⟨h199, hF⟩
      ·
       refine WOps.on rfl (kbl (b := decide (t82.1 = 0)) rfl (decide_eq_true h199)) ?_
       refine WOps.p (G.move rfl) rfl ?_
       refine WOps.on rfl (kbl (b := decide (t82.1 = 0)) rfl (decide_eq_true h199)) ?_
       refine WOps.p (G.eql rfl rfl rfl) rfl ?_
       refine WOps.p (G.pick_t (kb (b := decide (t82.1 = 0)) rfl (decide_eq_true h199)) rfl) rfl ?_
       refine WOps.p (G.move rfl) rfl ?_
       rcases ite_some hF with ⟨h200, hF⟩ | ⟨h200, hF⟩
       ·
        refine WOps.on rfl (kbl (b := decide (t101.1 = 140)) rfl (decide_eq_true h200)) ?_
        refine WOps.p (G.move rfl) rfl ?_
        refine WOps.on rfl (kbl (b := decide (t101.1 = 140)) rfl (decide_eq_true h200)) ?_
        refine WOps.p (G.eql rfl rfl rfl) rfl ?_
        refine WOps.p (G.pick_t (kb (b := decide (t101.1 = 140)) rfl (decide_eq_true h200)) rfl) rfl ?_
        refine WOps.p (G.move rfl) rfl ?_
        rcases ite_some hF with ⟨h201, hF⟩ | ⟨h201, hF⟩
        ·
         refine WOps.on rfl (kbl (b := decide (t120.1 = 0)) rfl (decide_eq_true h201)) ?_
         refine WOps.p (G.move rfl) rfl ?_
         refine WOps.on rfl (kbl (b := decide (t120.1 = 0)) rfl (decide_eq_true h201)) ?_
         refine WOps.p (G.len T.el77 rfl) rfl ?_
         refine WOps.on rfl (kbl (b := decide (t120.1 = 0)) rfl (decide_eq_true h201)) ?_
         refine WOps.p (G.eql rfl rfl rfl) rfl ?_
         refine WOps.p (G.pick_t (kb (b := decide (t120.1 = 0)) rfl (decide_eq_true h201)) rfl) rfl ?_
         refine WOps.p (G.move rfl) rfl ?_
         rcases ite_some hF with ⟨h202, hF⟩ | ⟨h202, hF⟩
         ·
          refine WOps.on rfl (kbl (b := decide (((t137).length : Int) = 2)) rfl (decide_eq_true h202)) ?_
          refine WOps.p (G.move rfl) rfl ?_
          refine WOps.on rfl (kbl (b := decide (((t137).length : Int) = 2)) rfl (decide_eq_true h202)) ?_
          obtain ⟨x203, hc204, hF⟩ := bind_some hF
          obtain ⟨j205, ej206, hj207, hl208⟩ := idx_spec hc204
          obtain ⟨b209, o210, cs211, eA212, hf213, hc214, hr215⟩ := SlR.at_ (hO146.rd (fun b o hb => S197.grp 2 rfl hb)) hj207
          have hq216 : cs211 = [.string (bs x203)] := hr215
          subst hq216
          change cellsAt _ _ (o210 + j205 * 1) [.string (bs x203)] at hc214
          refine WOps.p (G.idx T.el77 rfl eA212 rfl ej206 hl208) rfl ?_
          refine WOps.on rfl (kbl (b := decide (((t137).length : Int) = 2)) rfl (decide_eq_true h202)) ?_
          refine WOps.r (G.load1 T.one9 rfl (cellsAt.at0 hc214)) rfl ?_
          refine WOps.on rfl (kbl (b := decide (((t137).length : Int) = 2)) rfl (decide_eq_true h202)) ?_
          refine WOps.p (G.eqlb' rfl rfl rfl) rfl ?_
          refine WOps.p (G.pick_t (kb (b := decide (((t137).length : Int) = 2)) rfl (decide_eq_true h202)) rfl) rfl ?_
          refine WOps.p (G.move rfl) rfl ?_
          rcases ite_some hF with ⟨h217, hF⟩ | ⟨h217, hF⟩
          ·
           refine WOps.on rfl (kbl (b := decide (x203 = ([97] : List UInt8))) rfl (decide_eq_true h217)) ?_
           refine WOps.p (G.move rfl) rfl ?_
           refine WOps.on rfl (kbl (b := decide (x203 = ([97] : List UInt8))) rfl (decide_eq_true h217)) ?_
           obtain ⟨x218, hc219, hF⟩ := bind_some hF
           obtain ⟨j220, ej221, hj222, hl223⟩ := idx_spec hc219
           obtain ⟨b224, o225, cs226, eA227, hf228, hc229, hr230⟩ := SlR.at_ (hO146.rd (fun b o hb => S197.grp 2 rfl hb)) hj222
           have hq231 : cs226 = [.string (bs x218)] := hr230
           subst hq231
           change cellsAt _ _ (o225 + j220 * 1) [.string (bs x218)] at hc229
           refine WOps.p (G.idx T.el77 rfl eA227 rfl ej221 hl223) rfl ?_
           refine WOps.on rfl (kbl (b := decide (x203 = ([97] : List UInt8))) rfl (decide_eq_true h217)) ?_
           refine WOps.r (G.load1 T.one9 rfl (cellsAt.at0 hc229)) rfl ?_
           refine WOps.on rfl (kbl (b := decide (x203 = ([97] : List UInt8))) rfl (decide_eq_true h217)) ?_
           refine WOps.p (G.eqlb' rfl rfl rfl) rfl ?_
           refine WOps.p (G.pick_t (kb (b := decide (x203 = ([97] : List UInt8))) rfl (decide_eq_true h217)) rfl) rfl ?_
           refine WOps.p (G.move rfl) rfl ?_
           rcases ite_some hF with ⟨h232, hF⟩ | ⟨h232, hF⟩
           ·
            refine WOps.on rfl (kbl (b := decide (x218 = ([98] : List UInt8))) rfl (decide_eq_true h232)) ?_
            refine WOps.p (G.move rfl) rfl ?_
            refine WOps.on rfl (kbl (b := decide (x218 = ([98] : List UInt8))) rfl (decide_eq_true h232)) ?_
            refine WOps.p (G.eql rfl rfl rfl) rfl ?_
            refine WOps.p (G.pick_t (kb (b := decide (x218 = ([98] : List UInt8))) rfl (decide_eq_true h232)) rfl) rfl ?_
            refine WOps.p (G.move rfl) rfl ?_
            rcases ite_some hF with ⟨h233, hF⟩ | ⟨h233, hF⟩
            ·
             refine WOps.on rfl (kbl (b := decide (t147.1 = 9)) rfl (decide_eq_true h233)) ?_
             refine WOps.p (G.move rfl) rfl ?_
             refine WOps.p (G.pick_t (kb (b := decide (t147.1 = 9)) rfl (decide_eq_true h233)) rfl) rfl ?_
             refine WOps.p (G.move rfl) rfl ?_
             rcases ite_some hF with ⟨h234, hF⟩ | ⟨h234, hF⟩
             ·
              refine WOps.on rfl (kbl (b := t147.2) rfl h234) ?_
              refine WOps.p (G.move rfl) rfl ?_
              refine WOps.on rfl (kbl (b := t147.2) rfl h234) ?_
              refine WOps.p (G.not rfl rfl) rfl ?_
              refine WOps.p (G.pick_t (kb (b := t147.2) rfl h234) rfl) rfl ?_
              refine WOps.p (G.move rfl) rfl ?_
              rcases ite_some hF with ⟨h235, hF⟩ | ⟨h235, hF⟩
              ·
               refine WOps.off rfl (kbl (b := !t154.2) rfl (show (!t154.2) = false from by rw [h235]; rfl)) rfl rfl ?_
               refine WOps.off rfl (kbl (b := !t154.2) rfl (show (!t154.2) = false from by rw [h235]; rfl)) rfl rfl ?_
               refine WOps.p (G.pick_f (kb (b := !t154.2) rfl (show (!t154.2) = false from by rw [h235]; rfl)) rfl) rfl ?_
               refine WOps.p (G.move rfl) rfl ?_
               refine WOps.off rfl rfl rfl rfl ?_
               refine WOps.off rfl rfl rfl rfl ?_
               refine WOps.p (G.pick_f rfl rfl) rfl ?_
               refine WOps.p (G.move rfl) rfl ?_
               refine WOps.off rfl rfl rfl rfl ?_
               refine WOps.off rfl rfl rfl rfl ?_
               refine WOps.off rfl rfl rfl rfl ?_
               refine WOps.p (G.pick_f rfl rfl) rfl ?_
               refine WOps.p (G.assign rfl) rfl ?_
               refine WOps.nil ?_
               refine WEx.then_ ?_
               refine WCode.forget (l' := [(0, .bool false)]) ⟨rfl, trivial⟩ ?_
               refine WCode.ret ?_
               obtain rfl := some_eq hF
               refine WEx.ret1 rfl rfl ?_
               exact ⟨rfl, St.keep (As := []) S197⟩
              ·
               refine WOps.on rfl (kbl (b := !t154.2) rfl (show (!t154.2) = true from by rw [(Bool.eq_false_iff.2 h235)]; rfl)) ?_
               refine WOps.p (G.move rfl) rfl ?_
               refine WOps.on rfl (kbl (b := !t154.2) rfl (show (!t154.2) = true from by rw [(Bool.eq_false_iff.2 h235)]; rfl)) ?_
               refine WOps.p (G.eql rfl rfl rfl) rfl ?_
               refine WOps.p (G.pick_t (kb (b := !t154.2) rfl (show (!t154.2) = true from by rw [(Bool.eq_false_iff.2 h235)]; rfl)) rfl) rfl ?_
               refine WOps.p (G.move rfl) rfl ?_
               rcases ite_some hF with ⟨h236, hF⟩ | ⟨h236, hF⟩
               ·
                refine WOps.on rfl (kbl (b := decide (t162.1 = 0)) rfl (decide_eq_true h236)) ?_
                refine WOps.p (G.move rfl) rfl ?_
                refine WOps.on rfl (kbl (b := decide (t162.1 = 0)) rfl (decide_eq_true h236)) ?_
                refine WOps.p (G.eql rfl rfl rfl) rfl ?_
                refine WOps.p (G.pick_t (kb (b := decide (t162.1 = 0)) rfl (decide_eq_true h236)) rfl) rfl ?_
                refine WOps.p (G.move rfl) rfl ?_
                rcases ite_some hF with ⟨h237, hF⟩ | ⟨h237, hF⟩
                ·
                 refine WOps.on rfl (kbl (b := decide (t181.1 = 141)) rfl (decide_eq_true h237)) ?_
                 refine WOps.p (G.move rfl) rfl ?_
                 refine WOps.on rfl (kbl (b := decide (t181.1 = 141)) rfl (decide_eq_true h237)) ?_
                 obtain ⟨t238, hc239, hF⟩ := bind_some hF
                 have hP240 : PtR 191 Shelf_string__int_.rp w183 (KS [[(p21, .cells #[.int .i64 t181.2.most, .slice A192 t181.2.pairs.length c193] 191 (0, 0))], G194]) p21 t181.2 := ⟨_, S197.blk 0 rfl, KS_at 0 rfl (by simp [keys]), ⟨A192, c193, rfl, ((hO195.rd (fun b o hb => S197.grp 1 rfl hb)).mono (fun b hb => KS_at 1 rfl hb))⟩⟩
                 refine WOps.call T.call85 (evs_cons rfl evs_nil) rfl ?_
                 refine (ss_Len_calls k t181.2 hP240 (St.outN (Bs := []) (As := [[(p21, .cells #[.int .i64 t181.2.most, .slice A192 t181.2.pairs.length c193] 191 (0, 0))], G194]) S197) hc239).mono ?_
                 rintro _ w241 ⟨rfl, T242⟩
                 have S243 := St.callN (As := []) S197 T242
                 change St _ _ _ [[(p21, .cells #[.int .i64 t181.2.most, .slice A192 t181.2.pairs.length c193] 191 (0, 0))], G194, G145] at S243
                 refine ⟨_, rfl, ?_⟩
                 refine WOps.on rfl (kbl (b := decide (t181.1 = 141)) rfl (decide_eq_true h237)) ?_
                 refine WOps.p (G.eql rfl rfl rfl) rfl ?_
                 refine WOps.p (G.pick_t (kb (b := decide (t181.1 = 141)) rfl (decide_eq_true h237)) rfl) rfl ?_
                 refine WOps.p (G.assign rfl) rfl ?_
                 refine WOps.nil ?_
                 refine WEx.then_ ?_
                 refine WCode.forget (l' := [(0, .bool (decide (t238 = 1)))]) ⟨rfl, trivial⟩ ?_
                 refine WCode.ret ?_
                 obtain rfl := some_eq hF
                 refine WEx.ret1 rfl rfl ?_
                 exact ⟨rfl, St.keep (As := []) S243⟩
                ·
                 refine WOps.off rfl (kbl (b := decide (t181.1 = 141)) rfl (decide_eq_false h237)) rfl rfl ?_
                 refine WOps.off rfl (kbl (b := decide (t181.1 = 141)) rfl (decide_eq_false h237)) rfl rfl ?_
                 refine WOps.off rfl (kbl (b := decide (t181.1 = 141)) rfl (decide_eq_false h237)) rfl rfl ?_
                 refine WOps.p (G.pick_f (kb (b := decide (t181.1 = 141)) rfl (decide_eq_false h237)) rfl) rfl ?_
                 refine WOps.p (G.assign rfl) rfl ?_
                 refine WOps.nil ?_
                 refine WEx.then_ ?_
                 refine WCode.forget (l' := [(0, .bool false)]) ⟨rfl, trivial⟩ ?_
                 refine WCode.ret ?_
                 obtain rfl := some_eq hF
                 refine WEx.ret1 rfl rfl ?_
                 exact ⟨rfl, St.keep (As := []) S197⟩
               ·
                refine WOps.off rfl (kbl (b := decide (t162.1 = 0)) rfl (decide_eq_false h236)) rfl rfl ?_
                refine WOps.off rfl (kbl (b := decide (t162.1 = 0)) rfl (decide_eq_false h236)) rfl rfl ?_
                refine WOps.p (G.pick_f (kb (b := decide (t162.1 = 0)) rfl (decide_eq_false h236)) rfl) rfl ?_
                refine WOps.p (G.move rfl) rfl ?_
                refine WOps.off rfl rfl rfl rfl ?_
                refine WOps.off rfl rfl rfl rfl ?_
                refine WOps.off rfl rfl rfl rfl ?_
                refine WOps.p (G.pick_f rfl rfl) rfl ?_
                refine WOps.p (G.assign rfl) rfl ?_
                refine WOps.nil ?_
                refine WEx.then_ ?_
                refine WCode.forget (l' := [(0, .bool false)]) ⟨rfl, trivial⟩ ?_
                refine WCode.ret ?_
                obtain rfl := some_eq hF
                refine WEx.ret1 rfl rfl ?_
                exact ⟨rfl, St.keep (As := []) S197⟩
             ·
              refine WOps.off rfl (kbl (b := t147.2) rfl (Bool.eq_false_iff.2 h234)) rfl rfl ?_
              refine WOps.off rfl (kbl (b := t147.2) rfl (Bool.eq_false_iff.2 h234)) rfl rfl ?_
              refine WOps.p (G.pick_f (kb (b := t147.2) rfl (Bool.eq_false_iff.2 h234)) rfl) rfl ?_
              refine WOps.p (G.move rfl) rfl ?_
              refine WOps.off rfl rfl rfl rfl ?_
              refine WOps.off rfl rfl rfl rfl ?_
              refine WOps.p (G.pick_f rfl rfl) rfl ?_
              refine WOps.p (G.move rfl) rfl ?_
              refine WOps.off rfl rfl rfl rfl ?_
              refine WOps.off rfl rfl rfl rfl ?_
              refine WOps.p (G.pick_f rfl rfl) rfl ?_
              refine WOps.p (G.move rfl) rfl ?_
              refine WOps.off rfl rfl rfl rfl ?_
              refine WOps.off rfl rfl rfl rfl ?_
              refine WOps.off rfl rfl rfl rfl ?_
              refine WOps.p (G.pick_f rfl rfl) rfl ?_
              refine WOps.p (G.assign rfl) rfl ?_
              refine WOps.nil ?_
              refine WEx.then_ ?_
              refine WCode.forget (l' := [(0, .bool false)]) ⟨rfl, trivial⟩ ?_
              refine WCode.ret ?_
              obtain rfl := some_eq hF
              refine WEx.ret1 rfl rfl ?_
              exact ⟨rfl, St.keep (As := []) S197⟩
            ·
             refine WOps.off rfl (kbl (b := decide (t147.1 = 9)) rfl (decide_eq_false h233)) rfl rfl ?_
             refine WOps.p (G.pick_f (kb (b := decide (t147.1 = 9)) rfl (decide_eq_false h233)) rfl) rfl ?_
             refine WOps.p (G.move rfl) rfl ?_
             refine WOps.off rfl rfl rfl rfl ?_
             refine WOps.off rfl rfl rfl rfl ?_
             refine WOps.p (G.pick_f rfl rfl) rfl ?_
             refine WOps.p (G.move rfl) rfl ?_
             refine WOps.off rfl rfl rfl rfl ?_
             refine WOps.off rfl rfl rfl rfl ?_
             refine WOps.p (G.pick_f rfl rfl) rfl ?_
             refine WOps.p (G.move rfl) rfl ?_
             refine WOps.off rfl rfl rfl rfl ?_
             refine WOps.off rfl rfl rfl rfl ?_
             refine WOps.p (G.pick_f rfl rfl) rfl ?_
             refine WOps.p (G.move rfl) rfl ?_
             refine WOps.off rfl rfl rfl rfl ?_
             refine WOps.off rfl rfl rfl rfl ?_
             refine WOps.off rfl rfl rfl rfl ?_
             refine WOps.p (G.pick_f rfl rfl) rfl ?_
             refine WOps.p (G.assign rfl) rfl ?_
             refine WOps.nil ?_
             refine WEx.then_ ?_
             refine WCode.forget (l' := [(0, .bool false)]) ⟨rfl, trivial⟩ ?_
             refine WCode.ret ?_
             obtain rfl := some_eq hF
             refine WEx.ret1 rfl rfl ?_
             exact ⟨rfl, St.keep (As := []) S197⟩
           ·
            refine WOps.off rfl (kbl (b := decide (x218 = ([98] : List UInt8))) rfl (decide_eq_false h232)) rfl rfl ?_
            refine WOps.off rfl (kbl (b := decide (x218 = ([98] : List UInt8))) rfl (decide_eq_false h232)) rfl rfl ?_
            refine WOps.p (G.pick_f (kb (b := decide (x218 = ([98] : List UInt8))) rfl (decide_eq_false h232)) rfl) rfl ?_
            refine WOps.p (G.move rfl) rfl ?_
            refine WOps.off rfl rfl rfl rfl ?_
            refine WOps.p (G.pick_f rfl rfl) rfl ?_
            refine WOps.p (G.move rfl) rfl ?_
            refine WOps.off rfl rfl rfl rfl ?_
            refine WOps.off rfl rfl rfl rfl ?_
            refine WOps.p (G.pick_f rfl rfl) rfl ?_
            refine WOps.p (G.move rfl) rfl ?_
            refine WOps.off rfl rfl rfl rfl ?_
            refine WOps.off rfl rfl rfl rfl ?_
            refine WOps.p (G.pick_f rfl rfl) rfl ?_
            refine WOps.p (G.move rfl) rfl ?_
            refine WOps.off rfl rfl rfl rfl ?_
            refine WOps.off rfl rfl rfl rfl ?_
            refine WOps.p (G.pick_f rfl rfl) rfl ?_
            refine WOps.p (G.move rfl) rfl ?_
            refine WOps.off rfl rfl rfl rfl ?_
            refine WOps.off rfl rfl rfl rfl ?_
            refine WOps.off rfl rfl rfl rfl ?_
            refine WOps.p (G.pick_f rfl rfl) rfl ?_
            refine WOps.p (G.assign rfl) rfl ?_
            refine WOps.nil ?_
            refine WEx.then_ ?_
            refine WCode.forget (l' := [(0, .bool false)]) ⟨rfl, trivial⟩ ?_
            refine WCode.ret ?_
            obtain rfl := some_eq hF
            refine WEx.ret1 rfl rfl ?_
            exact ⟨rfl, St.keep (As := []) S197⟩
          ·
           refine WOps.off rfl (kbl (b := decide (x203 = ([97] : List UInt8))) rfl (decide_eq_false h217)) rfl rfl ?_
           refine WOps.off rfl (kbl (b := decide (x203 = ([97] : List UInt8))) rfl (decide_eq_false h217)) rfl rfl ?_
           refine WOps.off rfl (kbl (b := decide (x203 = ([97] : List UInt8))) rfl (decide_eq_false h217)) rfl rfl ?_
           refine WOps.off rfl (kbl (b := decide (x203 = ([97] : List UInt8))) rfl (decide_eq_false h217)) rfl rfl ?_
           refine WOps.p (G.pick_f (kb (b := decide (x203 = ([97] : List UInt8))) rfl (decide_eq_false h217)) rfl) rfl ?_
           refine WOps.p (G.move rfl) rfl ?_
           refine WOps.off rfl rfl rfl rfl ?_
           refine WOps.off rfl rfl rfl rfl ?_
           refine WOps.p (G.pick_f rfl rfl) rfl ?_
           refine WOps.p (G.move rfl) rfl ?_
           refine WOps.off rfl rfl rfl rfl ?_
           refine WOps.p (G.pick_f rfl rfl) rfl ?_
           refine WOps.p (G.move rfl) rfl ?_
           refine WOps.off rfl rfl rfl rfl ?_
           refine WOps.off rfl rfl rfl rfl ?_
           refine WOps.p (G.pick_f rfl rfl) rfl ?_
           refine WOps.p (G.move rfl) rfl ?_
           refine WOps.off rfl rfl rfl rfl ?_
           refine WOps.off rfl rfl rfl rfl ?_
           refine WOps.p (G.pick_f rfl rfl) rfl ?_
           refine WOps.p (G.move rfl) rfl ?_
           refine WOps.off rfl rfl rfl rfl ?_
           refine WOps.off rfl rfl rfl rfl ?_
           refine WOps.p (G.pick_f rfl rfl) rfl ?_
           refine WOps.p (G.move rfl) rfl ?_
           refine WOps.off rfl rfl rfl rfl ?_
           refine WOps.off rfl rfl rfl rfl ?_
           refine WOps.off rfl rfl rfl rfl ?_
           refine WOps.p (G.pick_f rfl rfl) rfl ?_
           refine WOps.p (G.assign rfl) rfl ?_
           refine WOps.nil ?_
           refine WEx.then_ ?_
           refine WCode.forget (l' := [(0, .bool false)]) ⟨rfl, trivial⟩ ?_
           refine WCode.ret ?_
           obtain rfl := some_eq hF
           refine WEx.ret1 rfl rfl ?_
           exact ⟨rfl, St.keep (As := []) S197⟩
         ·
          refine WOps.off rfl (kbl (b := decide (((t137).length : Int) = 2)) rfl (decide_eq_false h202)) rfl rfl ?_
          refine WOps.off rfl (kbl (b := decide (((t137).length : Int) = 2)) rfl (decide_eq_false h202)) rfl rfl ?_
          refine WOps.off rfl (kbl (b := decide (((t137).length : Int) = 2)) rfl (decide_eq_false h202)) rfl rfl ?_
          refine WOps.off rfl (kbl (b := decide (((t137).length : Int) = 2)) rfl (decide_eq_false h202)) rfl rfl ?_
          refine WOps.p (G.pick_f (kb (b := decide (((t137).length : Int) = 2)) rfl (decide_eq_false h202)) rfl) rfl ?_
          refine WOps.p (G.move rfl) rfl ?_
          refine WOps.off rfl rfl rfl rfl ?_
          refine WOps.off rfl rfl rfl rfl ?_
          refine WOps.off rfl rfl rfl rfl ?_
          refine WOps.off rfl rfl rfl rfl ?_
          refine WOps.p (G.pick_f rfl rfl) rfl ?_
          refine WOps.p (G.move rfl) rfl ?_
          refine WOps.off rfl rfl rfl rfl ?_
          refine WOps.off rfl rfl rfl rfl ?_
          refine WOps.p (G.pick_f rfl rfl) rfl ?_
          refine WOps.p (G.move rfl) rfl ?_
          refine WOps.off rfl rfl rfl rfl ?_
          refine WOps.p (G.pick_f rfl rfl) rfl ?_
          refine WOps.p (G.move rfl) rfl ?_
          refine WOps.off rfl rfl rfl rfl ?_
          refine WOps.off rfl rfl rfl rfl ?_
          refine WOps.p (G.pick_f rfl rfl) rfl ?_
          refine WOps.p (G.move rfl) rfl ?_
          refine WOps.off rfl rfl rfl rfl ?_
          refine WOps.off rfl rfl rfl rfl ?_
          refine WOps.p (G.pick_f rfl rfl) rfl ?_
          refine WOps.p (G.move rfl) rfl ?_
          refine WOps.off rfl rfl rfl rfl ?_
          refine WOps.off rfl rfl rfl rfl ?_
          refine WOps.p (G.pick_f rfl rfl) rfl ?_
          refine WOps.p (G.move rfl) rfl ?_
          refine WOps.off rfl rfl rfl rfl ?_
          refine WOps.off rfl rfl rfl rfl ?_
          refine WOps.off rfl rfl rfl rfl ?_
          refine WOps.p (G.pick_f rfl rfl) rfl ?_
          refine WOps.p (G.assign rfl) rfl ?_
          refine WOps.nil ?_
          refine WEx.then_ ?_
          refine WCode.forget (l' := [(0, .bool false)]) ⟨rfl, trivial⟩ ?_
          refine WCode.ret ?_
          obtain rfl := some_eq hF
          refine WEx.ret1 rfl rfl ?_
          exact ⟨rfl, St.keep (As := []) S197⟩
        ·
         refine WOps.off rfl (kbl (b := decide (t120.1 = 0)) rfl (decide_eq_false h201)) rfl rfl ?_
         refine WOps.off rfl (kbl (b := decide (t120.1 = 0)) rfl (decide_eq_false h201)) rfl rfl ?_
         refine WOps.off rfl (kbl (b := decide (t120.1 = 0)) rfl (decide_eq_false h201)) rfl rfl ?_
         refine WOps.p (G.pick_f (kb (b := decide (t120.1 = 0)) rfl (decide_eq_false h201)) rfl) rfl ?_
         refine WOps.p (G.move rfl) rfl ?_
         refine WOps.off rfl rfl rfl rfl ?_
         refine WOps.off rfl rfl rfl rfl ?_
         refine WOps.off rfl rfl rfl rfl ?_
         refine WOps.off rfl rfl rfl rfl ?_
         refine WOps.p (G.pick_f rfl rfl) rfl ?_
         refine WOps.p (G.move rfl) rfl ?_
         refine WOps.off rfl rfl rfl rfl ?_
         refine WOps.off rfl rfl rfl rfl ?_
         refine WOps.off rfl rfl rfl rfl ?_
         refine WOps.off rfl rfl rfl rfl ?_
         refine WOps.p (G.pick_f rfl rfl) rfl ?_
         refine WOps.p (G.move rfl) rfl ?_
         refine WOps.off rfl rfl rfl rfl ?_
         refine WOps.off rfl rfl rfl rfl ?_
         refine WOps.p (G.pick_f rfl rfl) rfl ?_
         refine WOps.p (G.move rfl) rfl ?_
         refine WOps.off rfl rfl rfl rfl ?_
         refine WOps.p (G.pick_f rfl rfl) rfl ?_
         refine WOps.p (G.move rfl) rfl ?_
         refine WOps.off rfl rfl rfl rfl ?_
         refine WOps.off rfl rfl rfl rfl ?_
         refine WOps.p (G.pick_f rfl rfl) rfl ?_
         refine WOps.p (G.move rfl) rfl ?_
         refine WOps.off rfl rfl rfl rfl ?_
         refine WOps.off rfl rfl rfl rfl ?_
         refine WOps.p (G.pick_f rfl rfl) rfl ?_
         refine WOps.p (G.move rfl) rfl ?_
         refine WOps.off rfl rfl rfl rfl ?_
         refine WOps.off rfl rfl rfl rfl ?_
         refine WOps.p (G.pick_f rfl rfl) rfl ?_
         refine WOps.p (G.move rfl) rfl ?_
         refine WOps.off rfl rfl rfl rfl ?_
         refine WOps.off rfl rfl rfl rfl ?_
         refine WOps.off rfl rfl rfl rfl ?_
         refine WOps.p (G.pick_f rfl rfl) rfl ?_
         refine WOps.p (G.assign rfl) rfl ?_
         refine WOps.nil ?_
         refine WEx.then_ ?_
         refine WCode.forget (l' := [(0, .bool false)]) ⟨rfl, trivial⟩ ?_
         refine WCode.ret ?_
         obtain rfl := some_eq hF
         refine WEx.ret1 rfl rfl ?_
         exact ⟨rfl, St.keep (As := []) S197⟩
       ·
        refine WOps.off rfl (kbl (b := decide (t101.1 = 140)) rfl (decide_eq_false h200)) rfl rfl ?_
        refine WOps.off rfl (kbl (b := decide (t101.1 = 140)) rfl (decide_eq_false h200)) rfl rfl ?_
        refine WOps.p (G.pick_f (kb (b := decide (t101.1 = 140)) rfl (decide_eq_false h200)) rfl) rfl ?_
        refine WOps.p (G.move rfl) rfl ?_
        refine WOps.off rfl rfl rfl rfl ?_
        refine WOps.off rfl rfl rfl rfl ?_
        refine WOps.off rfl rfl rfl rfl ?_
        refine WOps.p (G.pick_f rfl rfl) rfl ?_
        refine WOps.p (G.move rfl) rfl ?_
        refine WOps.off rfl rfl rfl rfl ?_
        refine WOps.off rfl rfl rfl rfl ?_
        refine WOps.off rfl rfl rfl rfl ?_
        refine WOps.off rfl rfl rfl rfl ?_
        refine WOps.p (G.pick_f rfl rfl) rfl ?_
        refine WOps.p (G.move rfl) rfl ?_
        refine WOps.off rfl rfl rfl rfl ?_
        refine WOps.off rfl rfl rfl rfl ?_
        refine WOps.off rfl rfl rfl rfl ?_
        refine WOps.off rfl rfl rfl rfl ?_
        refine WOps.p (G.pick_f rfl rfl) rfl ?_
        refine WOps.p (G.move rfl) rfl ?_
        refine WOps.off rfl rfl rfl rfl ?_
        refine WOps.off rfl rfl rfl rfl ?_
        refine WOps.p (G.pick_f rfl rfl) rfl ?_
        refine WOps.p (G.move rfl) rfl ?_
        refine WOps.off rfl rfl rfl rfl ?_
        refine WOps.p (G.pick_f rfl rfl) rfl ?_
        refine WOps.p (G.move rfl) rfl ?_
        refine WOps.off rfl rfl rfl rfl ?_
        refine WOps.off rfl rfl rfl rfl ?_
        refine WOps.p (G.pick_f rfl rfl) rfl ?_
        refine WOps.p (G.move rfl) rfl ?_
        refine WOps.off rfl rfl rfl rfl ?_
        refine WOps.off rfl rfl rfl rfl ?_
        refine WOps.p (G.pick_f rfl rfl) rfl ?_
        refine WOps.p (G.move rfl) rfl ?_
        refine WOps.off rfl rfl rfl rfl ?_
        refine WOps.off rfl rfl rfl rfl ?_
        refine WOps.p (G.pick_f rfl rfl) rfl ?_
        refine WOps.p (G.move rfl) rfl ?_
        refine WOps.off rfl rfl rfl rfl ?_
        refine WOps.off rfl rfl rfl rfl ?_
        refine WOps.off rfl rfl rfl rfl ?_
        refine WOps.p (G.pick_f rfl rfl) rfl ?_
        refine WOps.p (G.assign rfl) rfl ?_
        refine WOps.nil ?_
        refine WEx.then_ ?_
        refine WCode.forget (l' := [(0, .bool false)]) ⟨rfl, trivial⟩ ?_
        refine WCode.ret ?_
        obtain rfl := some_eq hF
        refine WEx.ret1 rfl rfl ?_
        exact ⟨rfl, St.keep (As := []) S197⟩
      ·
       refine WOps.off rfl (kbl (b := decide (t82.1 = 0)) rfl (decide_eq_false h199)) rfl rfl ?_
       refine WOps.off rfl (kbl (b := decide (t82.1 = 0)) rfl (decide_eq_false h199)) rfl rfl ?_
       refine WOps.p (G.pick_f (kb (b := decide (t82.1 = 0)) rfl (decide_eq_false h199)) rfl) rfl ?_
       refine WOps.p (G.move rfl) rfl ?_
       refine WOps.off rfl rfl rfl rfl ?_
       refine WOps.off rfl rfl rfl rfl ?_
       refine WOps.p (G.pick_f rfl rfl) rfl ?_
       refine WOps.p (G.move rfl) rfl ?_
       refine WOps.off rfl rfl rfl rfl ?_
       refine WOps.off rfl rfl rfl rfl ?_
       refine WOps.off rfl rfl rfl rfl ?_
       refine WOps.p (G.pick_f rfl rfl) rfl ?_
       refine WOps.p (G.move rfl) rfl ?_
       refine WOps.off rfl rfl rfl rfl ?_
       refine WOps.off rfl rfl rfl rfl ?_
       refine WOps.off rfl rfl rfl rfl ?_
       refine WOps.off rfl rfl rfl rfl ?_
       refine WOps.p (G.pick_f rfl rfl) rfl ?_
       refine WOps.p (G.move rfl) rfl ?_
       refine WOps.off rfl rfl rfl rfl ?_
       refine WOps.off rfl rfl rfl rfl ?_
       refine WOps.off rfl rfl rfl rfl ?_
       refine WOps.off rfl rfl rfl rfl ?_
       refine WOps.p (G.pick_f rfl rfl) rfl ?_
       refine WOps.p (G.move rfl) rfl ?_
       refine WOps.off rfl rfl rfl rfl ?_
       refine WOps.off rfl rfl rfl rfl ?_
       refine WOps.p (G.pick_f rfl rfl) rfl ?_
       refine WOps.p (G.move rfl) rfl ?_
       refine WOps.off rfl rfl rfl rfl ?_
       refine WOps.p (G.pick_f rfl rfl) rfl ?_
       refine WOps.p (G.move rfl) rfl ?_
       refine WOps.off rfl rfl rfl rfl ?_
       refine WOps.off rfl rfl rfl rfl ?_
       refine WOps.p (G.pick_f rfl rfl) rfl ?_
       refine WOps.p (G.move rfl) rfl ?_
       refine WOps.off rfl rfl rfl rfl ?_
       refine WOps.off rfl rfl rfl rfl ?_
       refine WOps.p (G.pick_f rfl rfl) rfl ?_
       refine WOps.p (G.move rfl) rfl ?_
       refine WOps.off rfl rfl rfl rfl ?_
       refine WOps.off rfl rfl rfl rfl ?_
       refine WOps.p (G.pick_f rfl rfl) rfl ?_
       refine WOps.p (G.move rfl) rfl ?_
       refine WOps.off rfl rfl rfl rfl ?_
       refine WOps.off rfl rfl rfl rfl ?_
       refine WOps.off rfl rfl rfl rfl ?_
       refine WOps.p (G.pick_f rfl rfl) rfl ?_
       refine WOps.p (G.assign rfl) rfl ?_
       refine WOps.nil ?_
       refine WEx.then_ ?_
       refine WCode.forget (l' := [(0, .bool false)]) ⟨rfl, trivial⟩ ?_
       refine WCode.ret ?_
       obtain rfl := some_eq hF
       refine WEx.ret1 rfl rfl ?_
       exact ⟨rfl, St.keep (As := []) S197⟩
     ·
      refine WOps.off rfl (kbl (b := decide (t63.1 = 0)) rfl (decide_eq_false h198)) rfl rfl ?_
      refine WOps.off rfl (kbl (b := decide (t63.1 = 0)) rfl (decide_eq_false h198)) rfl rfl ?_
      refine WOps.p (G.pick_f (kb (b := decide (t63.1 = 0)) rfl (decide_eq_false h198)) rfl) rfl ?_
      refine WOps.p (G.move rfl) rfl ?_
      refine WOps.off rfl rfl rfl rfl ?_
      refine WOps.off rfl rfl rfl rfl ?_
      refine WOps.p (G.pick_f rfl rfl) rfl ?_
      refine WOps.p (G.move rfl) rfl ?_
      refine WOps.off rfl rfl rfl rfl ?_
      refine WOps.off rfl rfl rfl rfl ?_
      refine WOps.p (G.pick_f rfl rfl) rfl ?_
      refine WOps.p (G.move rfl) rfl ?_
      refine WOps.off rfl rfl rfl rfl ?_
      refine WOps.off rfl rfl rfl rfl ?_
      refine WOps.off rfl rfl rfl rfl ?_
      refine WOps.p (G.pick_f rfl rfl) rfl ?_
      refine WOps.p (G.move rfl) rfl ?_
      refine WOps.off rfl rfl rfl rfl ?_
      refine WOps.off rfl rfl rfl rfl ?_
      refine WOps.off rfl rfl rfl rfl ?_
      refine WOps.off rfl rfl rfl rfl ?_
      refine WOps.p (G.pick_f rfl rfl) rfl ?_
      refine WOps.p (G.move rfl) rfl ?_
      refine WOps.off rfl rfl rfl rfl ?_
      refine WOps.off rfl rfl rfl rfl ?_
      refine WOps.off rfl rfl rfl rfl ?_
      refine WOps.off rfl rfl rfl rfl ?_
      refine WOps.p (G.pick_f rfl rfl) rfl ?_
      refine WOps.p (G.move rfl) rfl ?_
      refine WOps.off rfl rfl rfl rfl ?_
      refine WOps.off rfl rfl rfl rfl ?_
      refine WOps.p (G.pick_f rfl rfl) rfl ?_
      refine WOps.p (G.move rfl) rfl ?_
      refine WOps.off rfl rfl rfl rfl ?_
      refine WOps.p (G.pick_f rfl rfl) rfl ?_
      refine WOps.p (G.move rfl) rfl ?_
      refine WOps.off rfl rfl rfl rfl ?_
      refine WOps.off rfl rfl rfl rfl ?_
      refine WOps.p (G.pick_f rfl rfl) rfl ?_
      refine WOps.p (G.move rfl) rfl ?_
      refine WOps.off rfl rfl rfl rfl ?_
      refine WOps.off rfl rfl rfl rfl ?_
      refine WOps.p (G.pick_f rfl rfl) rfl ?_
      refine WOps.p (G.move rfl) rfl ?_
      refine WOps.off rfl rfl rfl rfl ?_
      refine WOps.off rfl rfl rfl rfl ?_
      refine WOps.p (G.pick_f rfl rfl) rfl ?_
      refine WOps.p (G.move rfl) rfl ?_
      refine WOps.off rfl rfl rfl rfl ?_
      refine WOps.off rfl rfl rfl rfl ?_
      refine WOps.off rfl rfl rfl rfl ?_
      refine WOps.p (G.pick_f rfl rfl) rfl ?_
      refine WOps.p (G.assign rfl) rfl ?_
      refine WOps.nil ?_
      refine WEx.then_ ?_
      refine WCode.forget (l' := [(0, .bool false)]) ⟨rfl, trivial⟩ ?_
      refine WCode.ret ?_
      obtain rfl := some_eq hF
      refine WEx.ret1 rfl rfl ?_
      exact ⟨rfl, St.keep (As := []) S197⟩
    ·
     refine WCode.cond_t (kb (b := !(decide (t9.2 = 1))) rfl (show (!(decide (t9.2 = 1))) = true from by rw [(decide_eq_false h60)]; rfl)) ?_
     refine WCode.seq ?_
     refine WCode.region ?_
     refine WOps.p (G.assign rfl) rfl ?_
     refine WOps.nil ?_
     refine WEx.then_ ?_
     refine WCode.ret ?_
     refine WEx.then_ret ?_
     obtain rfl := some_eq hF
     refine WEx.ret1 rfl rfl ?_
     exact ⟨rfl, St.keep (As := []) S58⟩
  ·
   refine WOps.off rfl (kbl (b := !(decide (t1.2 = 0))) rfl (show (!(decide (t1.2 = 0))) = true from by rw [(decide_eq_false h35)]; rfl)) rfl rfl ?_
   refine WOps.off rfl (kbl (b := !(decide (t1.2 = 0))) rfl (show (!(decide (t1.2 = 0))) = true from by rw [(decide_eq_false h35)]; rfl)) rfl rfl ?_
   refine WOps.p (G.pick_t (kb (b := !(decide (t1.2 = 0))) rfl (show (!(decide (t1.2 = 0))) = true from by rw [(decide_eq_false h35)]; rfl)) rfl) rfl ?_
   refine WOps.p (G.move rfl) rfl ?_
   refine WOps.off rfl rfl rfl rfl ?_
   refine WOps.off rfl rfl rfl rfl ?_
   refine WOps.p (G.pick_t rfl rfl) rfl ?_
   refine WOps.nil ?_
   refine WEx.then_ ?_
   refine WCode.forget (l' := [(1, .pointer (some ⟨p21, 0, none⟩)), (37, .bool true)]) ⟨rfl, rfl, trivial⟩ ?_
   refine WCode.cond_t rfl ?_
   refine WCode.seq ?_
   refine WCode.region ?_
   refine WOps.p (G.assign rfl) rfl ?_
   refine WOps.nil ?_
   refine WEx.then_ ?_
   refine WCode.ret ?_
   refine WEx.then_ret ?_
   obtain rfl := some_eq hF
   refine WEx.ret1 rfl rfl ?_
   exact ⟨rfl, St.keep (As := []) S34⟩
 ·
  have hn245 := Option.not_isSome_iff_eq_none.1 h17
  have ho244 := hO8
  rw [hn245] at ho244
  obtain ⟨hv246, hg247⟩ := ho244
  subst hv246
  have S249 := S13.front 1 rfl
  change St _ _ _ [G7, G15] at S249
  have S248 : St _ _ _ [G15] := S249.objs (by rw [hg247]; simp)
  refine WOps.p (G.eqp_nil Try.underlying141 rfl rfl rfl) rfl ?_
  refine WOps.p (G.move rfl) rfl ?_
  refine WOps.off rfl rfl rfl rfl ?_
  refine WOps.off rfl rfl rfl rfl ?_
  refine WOps.p (G.pick_t rfl rfl) rfl ?_
  refine WOps.p (G.move rfl) rfl ?_
  refine WOps.off rfl rfl rfl rfl ?_
  refine WOps.off rfl rfl rfl rfl ?_
  refine WOps.p (G.pick_t rfl rfl) rfl ?_
  refine WOps.p (G.move rfl) rfl ?_
  refine WOps.off rfl rfl rfl rfl ?_
  refine WOps.off rfl rfl rfl rfl ?_
  refine WOps.p (G.pick_t rfl rfl) rfl ?_
  refine WOps.nil ?_
  refine WEx.then_ ?_
  refine WCode.forget (l' := [(1, .pointer none), (37, .bool true)]) ⟨rfl, rfl, trivial⟩ ?_
  refine WCode.cond_t rfl ?_
  refine WCode.seq ?_
  refine WCode.region ?_
  refine WOps.p (G.assign rfl) rfl ?_
  refine WOps.nil ?_
  refine WEx.then_ ?_
  refine WCode.ret ?_
  refine WEx.then_ret ?_
  obtain rfl := some_eq hF
  refine WEx.ret1 rfl rfl ?_
  exact ⟨rfl, St.keep (As := []) S248⟩

def sh_add (k : Nat) (a0 : Int) (a1 : Int) : Option Int := (if 2147483647 < a0 then (some 2147483648) else (if 2147483647 < a1 then (some 2147483648) else (some (w64 (a0 + a1)))))
set_option maxRecDepth 100000 in
set_option maxHeartbeats 1000000 in
theorem sh_add_calls (k : Nat) (a0 : Int) (a1 : Int) {w : World} {r_ : Int} (h_ : sh_add k a0 a1 = some r_) :
    Calls Try.prog 89 [.int .i64 a0, .int .i64 a1].toArray w fun e w' => e = .returned (.int .i64 r_) ∧ St w (KS []) w' [] := by
 have hF := h_
 clear h_
 unfold sh_add at hF
 have S := St.ofFalse (As := []) (St.init0 w)
 refine enter 14 [(0, .int .i64 a0), (1, .int .i64 a1)] Try.func89 rfl rfl rfl rfl ?_
 refine WCode.seq ?_
 refine WCode.region ?_
 refine WOps.p (G.assign rfl) rfl ?_
 refine WOps.nil ?_
 refine WEx.then_ ?_
 refine WCode.seq ?_
 refine WCode.seq ?_
 refine WCode.region ?_
 refine WOps.p (G.move rfl) rfl ?_
 refine WOps.p (G.gtr rfl rfl rfl) rfl ?_
 refine WOps.p (G.move rfl) rfl ?_
 rcases ite_some hF with ⟨h1, hF⟩ | ⟨h1, hF⟩
 ·
  refine WOps.off rfl (kbl (b := decide (2147483647 < a0)) rfl (decide_eq_true h1)) rfl rfl ?_
  refine WOps.off rfl (kbl (b := decide (2147483647 < a0)) rfl (decide_eq_true h1)) rfl rfl ?_
  refine WOps.p (G.pick_t (kb (b := decide (2147483647 < a0)) rfl (decide_eq_true h1)) rfl) rfl ?_
  refine WOps.nil ?_
  refine WEx.then_ ?_
  refine WCode.cond_t rfl ?_
  refine WCode.seq ?_
  refine WCode.region ?_
  refine WOps.p (G.assign rfl) rfl ?_
  refine WOps.nil ?_
  refine WEx.then_ ?_
  refine WCode.ret ?_
  refine WEx.then_ret ?_
  obtain rfl := some_eq hF
  refine WEx.ret1 rfl rfl ?_
  exact ⟨rfl, St.keep (As := []) S⟩
 ·
  refine WOps.on rfl (kbl (b := decide (2147483647 < a0)) rfl (decide_eq_false h1)) ?_
  refine WOps.p (G.move rfl) rfl ?_
  refine WOps.on rfl (kbl (b := decide (2147483647 < a0)) rfl (decide_eq_false h1)) ?_
  refine WOps.p (G.gtr rfl rfl rfl) rfl ?_
  refine WOps.p (G.pick_f (kb (b := decide (2147483647 < a0)) rfl (decide_eq_false h1)) rfl) rfl ?_
  refine WOps.nil ?_
  refine WEx.then_ ?_
  rcases ite_some hF with ⟨h2, hF⟩ | ⟨h2, hF⟩
  ·
   refine WCode.cond_t (kb (b := decide (2147483647 < a1)) rfl (decide_eq_true h2)) ?_
   refine WCode.seq ?_
   refine WCode.region ?_
   refine WOps.p (G.assign rfl) rfl ?_
   refine WOps.nil ?_
   refine WEx.then_ ?_
   refine WCode.ret ?_
   refine WEx.then_ret ?_
   obtain rfl := some_eq hF
   refine WEx.ret1 rfl rfl ?_
   exact ⟨rfl, St.keep (As := []) S⟩
  ·
   refine WCode.cond_f (kb (b := decide (2147483647 < a1)) rfl (decide_eq_false h2)) ?_
   refine WCode.skip ?_
   refine WEx.then_ ?_
   refine WCode.seq ?_
   refine WCode.region ?_
   refine WOps.p (G.move rfl) rfl ?_
   refine WOps.p (G.move rfl) rfl ?_
   refine WOps.p (G.add rfl rfl (r := (w64 (a0 + a1))) rfl) rfl ?_
   refine WOps.p (G.assign rfl) rfl ?_
   refine WOps.nil ?_
   refine WEx.then_ ?_
   refine WCode.forget (l' := [(4, .int .i64 (w64 (a0 + a1)))]) ⟨rfl, trivial⟩ ?_
   refine WCode.ret ?_
   obtain rfl := some_eq hF
   refine WEx.ret1 rfl rfl ?_
   exact ⟨rfl, St.keep (As := []) S⟩

mutual
def sh_weighs.j1 : Nat → List OpS → Int → Int → Bool → Option Int
  | 0, _, _, _, _ => none
  | k19 + 1, a0, x6, x7, b13 => (if b13 = true then (Option.bind (idx a0 x7) fun x21 => (Option.bind (sh_add k19 x6 (x21.K.S.length : Int)) fun t35 => (sh_weighs.l1 k19 a0 t35 (w64 (x7 + 1))))) else (some x6))
def sh_weighs.l1 : Nat → List OpS → Int → Int → Option Int
  | 0, _, _, _ => none
  | k10 + 1, a0, x6, x7 => (if x7 < (a0.length : Int) then (sh_weighs.j1 k10 a0 x6 x7 (decide (x6 ≤ 2147483647))) else (sh_weighs.j1 k10 a0 x6 x7 false))
end
def sh_weighs (k : Nat) (a0 : List OpS) : Option Int := (Option.bind (sh_add k 0 (a0.length : Int)) fun t1 => (sh_weighs.l1 k a0 t1 0))
set_option maxRecDepth 100000 in
set_option maxHeartbeats 1000000 in
theorem sh_weighs_calls (k : Nat) (a0 : List OpS) {A0 : Option Addr} {c0 : Nat} {F0 : Nat → Prop} {w : World} (hR0 : SlR OpS.rp w F0 A0 c0 a0) (hF0 : ∀ b, F0 b → NK w [] b) {r_ : Int} (h_ : sh_weighs k a0 = some r_) :
    Calls Try.prog 51 [.slice A0 a0.length c0].toArray w fun e w' => e = .returned (.int .i64 r_) ∧ St w (KS []) w' [] := by
 have hF := h_
 clear h_
 unfold sh_weighs at hF
 have S := St.ofFalse (As := []) (St.init0 w)
 refine enter 28 [(0, .slice A0 a0.length c0)] Try.func51 rfl rfl rfl rfl ?_
 refine WCode.seq ?_
 refine WCode.region ?_
 refine WOps.p (G.assign rfl) rfl ?_
 refine WOps.nil ?_
 refine WEx.then_ ?_
 refine WCode.seq ?_
 refine WCode.region ?_
 refine WOps.p (G.move rfl) rfl ?_
 refine WOps.p (G.len T.el96 rfl) rfl ?_
 obtain ⟨t1, hc2, hF⟩ := bind_some hF
 refine WOps.call T.call89 (evs_cons rfl (evs_cons rfl evs_nil)) rfl ?_
 refine (sh_add_calls k 0 (a0.length : Int) hc2).mono ?_
 rintro _ w3 ⟨rfl, T4⟩
 have S5 := St.callN (As := []) S T4
 change St _ _ _ [] at S5
 refine ⟨_, rfl, ?_⟩
 refine WOps.p (G.assign rfl) rfl ?_
 refine WOps.nil ?_
 refine WEx.then_ ?_
 refine WCode.seq ?_
 refine WCode.seq ?_
 refine WCode.region ?_
 refine WOps.p (G.assign rfl) rfl ?_
 refine WOps.nil ?_
 refine WEx.then_ ?_
 refine WCode.block ?_
 refine WCode.forget (l' := [(0, .slice A0 a0.length c0), (3, .int .i64 t1), (4, .int .i64 0)]) ⟨rfl, rfl, rfl, trivial⟩ ?_
 refine WCode.loop (fun n_ l_ w_ => ∃ x6 : Int, ∃ x7 : Int, l_ = [(0, .slice A0 a0.length c0), (3, .int .i64 x6), (4, .int .i64 x7)] ∧ sh_weighs.l1 n_ a0 x6 x7 = some r_ ∧ St w (KS []) w_ []) k ⟨t1, 0, rfl, hF, S5⟩ ?_
 rintro n11 _ w8 ⟨x6, x7, rfl, hF, S9⟩
 obtain _ | k10 := n11
 · exact nomatch (show (none : Option Int) = some r_ from hF)
 rw [sh_weighs.l1] at hF
 refine WCode.seq ?_
 refine WCode.cutseq (fun l_ w_ => ∃ q16 : Nat, ∃ b13 : Bool, l_ = [(0, .slice A0 a0.length c0), (3, .int .i64 x6), (4, .int .i64 x7), (15, .bool b13)] ∧ sh_weighs.j1 q16 a0 x6 x7 b13 = some r_ ∧ q16 ≤ k10 ∧ St w (KS []) w_ []) ?_ ?_
 ·
  refine WCode.region ?_
  refine WOps.p (G.move rfl) rfl ?_
  refine WOps.p (G.move rfl) rfl ?_
  refine WOps.p (G.len T.el96 rfl) rfl ?_
  refine WOps.p (G.lss rfl rfl rfl) rfl ?_
  refine WOps.p (G.move rfl) rfl ?_
  rcases ite_some hF with ⟨h18, hF⟩ | ⟨h18, hF⟩
  ·
   refine WOps.on rfl (kbl (b := decide (x7 < (a0.length : Int))) rfl (decide_eq_true h18)) ?_
   refine WOps.p (G.move rfl) rfl ?_
   refine WOps.on rfl (kbl (b := decide (x7 < (a0.length : Int))) rfl (decide_eq_true h18)) ?_
   refine WOps.p (G.leq rfl rfl rfl) rfl ?_
   refine WOps.p (G.pick_t (kb (b := decide (x7 < (a0.length : Int))) rfl (decide_eq_true h18)) rfl) rfl ?_
   refine WOps.nil ?_
   refine WEx.cutend _ ?_ ⟨k10, decide (x6 ≤ 2147483647), rfl, hF, (by omega), S9⟩
   exact ⟨rfl, rfl, rfl, rfl, trivial⟩
  ·
   refine WOps.off rfl (kbl (b := decide (x7 < (a0.length : Int))) rfl (decide_eq_false h18)) rfl rfl ?_
   refine WOps.off rfl (kbl (b := decide (x7 < (a0.length : Int))) rfl (decide_eq_false h18)) rfl rfl ?_
   refine WOps.p (G.pick_f (kb (b := decide (x7 < (a0.length : Int))) rfl (decide_eq_false h18)) rfl) rfl ?_
   refine WOps.nil ?_
   refine WEx.cutend _ ?_ ⟨k10, false, rfl, hF, (by omega), S9⟩
   exact ⟨rfl, rfl, rfl, rfl, trivial⟩
 ·
  rintro _ w14 ⟨q16, b13, rfl, hF, hq17, S15⟩
  obtain _ | k19 := q16
  · exact nomatch (show (none : Option Int) = some r_ from hF)
  rw [sh_weighs.j1] at hF
  rcases ite_some hF with ⟨h20, hF⟩ | ⟨h20, hF⟩
  ·
   refine WCode.cond_t (kb (b := b13) rfl h20) ?_
   refine WCode.skip ?_
   refine WEx.then_ ?_
   refine WCode.seq ?_
   refine WCode.block ?_
   refine WCode.region ?_
   refine WOps.p (G.move rfl) rfl ?_
   refine WOps.p (G.move rfl) rfl ?_
   refine WOps.p (G.move rfl) rfl ?_
   obtain ⟨x21, hc22, hF⟩ := bind_some hF
   obtain ⟨j23, ej24, hj25, hl26⟩ := idx_spec hc22
   obtain ⟨b27, o28, cs29, eA30, hf31, hc32, hr33⟩ := SlR.at_ (hR0.ext (S15.keepF hF0)) hj25
   have hq34 : cs29 = [.int .i64 x21.Kind, .int .i64 x21.On, .string (bs x21.K.S), .int .i64 x21.K.N, .int .i64 x21.V, .int .i64 x21.N, .int .i64 x21.M] := hr33
   subst hq34
   change cellsAt _ _ (o28 + j23 * 7) [.int .i64 x21.Kind, .int .i64 x21.On, .string (bs x21.K.S), .int .i64 x21.K.N, .int .i64 x21.V, .int .i64 x21.N, .int .i64 x21.M] at hc32
   refine WOps.p (G.idx T.el96 rfl eA30 rfl ej24 hl26) rfl ?_
   refine WOps.p (G.field T.fld116_2 rfl (show o28 + j23 * 7 + 2 = o28 + j23 * 7 + 2 from rfl)) rfl ?_
   refine WOps.p (G.field T.fld103_0 rfl (show o28 + j23 * 7 + 2 + 0 = o28 + j23 * 7 + 2 from rfl)) rfl ?_
   refine WOps.r (G.load1 T.one9 rfl (cellsAt.at hc32 2 rfl)) rfl ?_
   refine WOps.p (G.lenb T.str9 rfl) rfl ?_
   obtain ⟨t35, hc36, hF⟩ := bind_some hF
   refine WOps.call T.call89 (evs_cons rfl (evs_cons rfl evs_nil)) rfl ?_
   refine (sh_add_calls k19 x6 (x21.K.S.length : Int) hc36).mono ?_
   rintro _ w37 ⟨rfl, T38⟩
   have S39 := St.callN (As := []) S15 T38
   change St _ _ _ [] at S39
   refine ⟨_, rfl, ?_⟩
   refine WOps.p (G.assign rfl) rfl ?_
   refine WOps.nil ?_
   refine WEx.in_normal ?_
   refine WEx.then_ ?_
   refine WCode.forget (l' := [(0, .slice A0 a0.length c0), (3, .int .i64 t35), (4, .int .i64 x7)]) ⟨rfl, rfl, rfl, trivial⟩ ?_
   refine WCode.region ?_
   refine WOps.p (G.move rfl) rfl ?_
   refine WOps.p (G.add rfl rfl (r := (w64 (x7 + 1))) rfl) rfl ?_
   refine WOps.p (G.assign rfl) rfl ?_
   refine WOps.nil ?_
   refine WEx.again _ _ (by omega) ?_ ⟨t35, w64 (x7 + 1), rfl, hF, S39⟩
   exact ⟨rfl, rfl, rfl, trivial⟩
  ·
   refine WCode.cond_f (kb (b := b13) rfl (Bool.eq_false_iff.2 h20)) ?_
   refine WCode.exit ?_
   refine WEx.then_exit ?_
   refine WEx.then_exit ?_
   refine WEx.in_exit ?_
   refine WEx.then_ ?_
   refine WCode.seq ?_
   refine WCode.region ?_
   refine WOps.p (G.move rfl) rfl ?_
   refine WOps.p (G.assign rfl) rfl ?_
   refine WOps.nil ?_
   refine WEx.then_ ?_
   refine WCode.ret ?_
   obtain rfl := some_eq hF
   refine WEx.ret1 rfl rfl ?_
   exact ⟨rfl, St.keep (As := []) S15⟩

def sh_keys.l1 : Nat → List KeyS → List KeyS → Int → Option Bool
  | 0, _, _, _ => none
  | k5 + 1, a0, a1, x2 => (if x2 < (a0.length : Int) then (Option.bind (idx a0 x2) fun x11 => (Option.bind (idx a1 x2) fun x25 => (if x11 = x25 then (sh_keys.l1 k5 a0 a1 (w64 (x2 + 1))) else (some false)))) else (some true))
def sh_keys (k : Nat) (a0 : List KeyS) (a1 : List KeyS) : Option Bool := (if (a0.length : Int) = (a1.length : Int) then (sh_keys.l1 k a0 a1 0) else (some false))
set_option maxRecDepth 100000 in
set_option maxHeartbeats 1000000 in
theorem sh_keys_calls (k : Nat) (a0 : List KeyS) {A0 : Option Addr} {c0 : Nat} {F0 : Nat → Prop} (a1 : List KeyS) {A1 : Option Addr} {c1 : Nat} {F1 : Nat → Prop} {w : World} (hR0 : SlR KeyS.rp w F0 A0 c0 a0) (hF0 : ∀ b, F0 b → NK w [] b) (hR1 : SlR KeyS.rp w F1 A1 c1 a1) (hF1 : ∀ b, F1 b → NK w [] b) {r_ : Bool} (h_ : sh_keys k a0 a1 = some r_) :
    Calls Try.prog 98 [.slice A0 a0.length c0, .slice A1 a1.length c1].toArray w fun e w' => e = .returned (.bool r_) ∧ St w (KS []) w' [] := by
 have hF := h_
 clear h_
 unfold sh_keys at hF
 have S := St.ofFalse (As := []) (St.init0 w)
 refine enter 26 [(0, .slice A0 a0.length c0), (1, .slice A1 a1.length c1)] Try.func98 rfl rfl rfl rfl ?_
 refine WCode.seq ?_
 refine WCode.region ?_
 refine WOps.p (G.assign rfl) rfl ?_
 refine WOps.nil ?_
 refine WEx.then_ ?_
 refine WCode.seq ?_
 refine WCode.seq ?_
 refine WCode.region ?_
 refine WOps.p (G.move rfl) rfl ?_
 refine WOps.p (G.len T.el176 rfl) rfl ?_
 refine WOps.p (G.move rfl) rfl ?_
 refine WOps.p (G.len T.el176 rfl) rfl ?_
 refine WOps.p (G.neq rfl rfl rfl) rfl ?_
 refine WOps.nil ?_
 refine WEx.then_ ?_
 rcases ite_some hF with ⟨h1, hF⟩ | ⟨h1, hF⟩
 ·
  refine WCode.cond_f (kb (b := !(decide ((a0.length : Int) = (a1.length : Int)))) rfl (show (!(decide ((a0.length : Int) = (a1.length : Int)))) = false from by rw [(decide_eq_true h1)]; rfl)) ?_
  refine WCode.skip ?_
  refine WEx.then_ ?_
  refine WCode.seq ?_
  refine WCode.seq ?_
  refine WCode.region ?_
  refine WOps.p (G.assign rfl) rfl ?_
  refine WOps.nil ?_
  refine WEx.then_ ?_
  refine WCode.block ?_
  refine WCode.forget (l' := [(0, .slice A0 a0.length c0), (1, .slice A1 a1.length c1), (5, .int .i64 0)]) ⟨rfl, rfl, rfl, trivial⟩ ?_
  refine WCode.loop (fun n_ l_ w_ => ∃ x2 : Int, l_ = [(0, .slice A0 a0.length c0), (1, .slice A1 a1.length c1), (5, .int .i64 x2)] ∧ sh_keys.l1 n_ a0 a1 x2 = some r_ ∧ St w (KS []) w_ []) k ⟨0, rfl, hF, S⟩ ?_
  rintro n6 _ w3 ⟨x2, rfl, hF, S4⟩
  obtain _ | k5 := n6
  · exact nomatch (show (none : Option Bool) = some r_ from hF)
  rw [sh_keys.l1] at hF
  refine WCode.seq ?_
  refine WCode.seq ?_
  refine WCode.region ?_
  refine WOps.p (G.move rfl) rfl ?_
  refine WOps.p (G.move rfl) rfl ?_
  refine WOps.p (G.len T.el176 rfl) rfl ?_
  refine WOps.p (G.lss rfl rfl rfl) rfl ?_
  refine WOps.nil ?_
  refine WEx.then_ ?_
  rcases ite_some hF with ⟨h8, hF⟩ | ⟨h8, hF⟩
  ·
   refine WCode.cond_t (kb (b := decide (x2 < (a0.length : Int))) rfl (decide_eq_true h8)) ?_
   refine WCode.skip ?_
   refine WEx.then_ ?_
   refine WCode.seq ?_
   refine WCode.block ?_
   refine WCode.seq ?_
   refine WCode.draw [⟨0, 0, []⟩, ⟨1, 0, []⟩, ⟨2, 0, []⟩, ⟨4, 0, []⟩, ⟨5, 0, []⟩, ⟨6, 0, []⟩, ⟨3, 1, [8]⟩, ⟨7, 1, [8]⟩, ⟨8, 0, []⟩] T.mixed (by kernel_rfl) (by intro _ _ d _ _ h; cases d <;> exact h) rfl (by kernel_rfl) ?_
   have S9 := S4.drew
   generalize w3.drew = w10 at *
   refine WD.p rfl (G.move rfl) rfl ?_
   refine WD.p rfl (G.move rfl) rfl ?_
   obtain ⟨x11, hc12, hF⟩ := bind_some hF
   obtain ⟨j13, ej14, hj15, hl16⟩ := idx_spec hc12
   obtain ⟨b17, o18, cs19, eA20, hf21, hc22, hr23⟩ := SlR.at_ (hR0.ext (S9.keepF hF0)) hj15
   have hq24 : cs19 = [.string (bs x11.S), .int .i64 x11.N] := hr23
   subst hq24
   change cellsAt _ _ (o18 + j13 * 2) [.string (bs x11.S), .int .i64 x11.N] at hc22
   refine WD.p rfl (G.idx T.el176 rfl eA20 rfl ej14 hl16) rfl ?_
   refine WD.p rfl (G.move rfl) rfl ?_
   refine WD.p rfl (G.move rfl) rfl ?_
   obtain ⟨x25, hc26, hF⟩ := bind_some hF
   obtain ⟨j27, ej28, hj29, hl30⟩ := idx_spec hc26
   obtain ⟨b31, o32, cs33, eA34, hf35, hc36, hr37⟩ := SlR.at_ (hR1.ext (S9.keepF hF1)) hj29
   have hq38 : cs33 = [.string (bs x25.S), .int .i64 x25.N] := hr37
   subst hq38
   change cellsAt _ _ (o32 + j27 * 2) [.string (bs x25.S), .int .i64 x25.N] at hc36
   refine WD.p rfl (G.idx T.el176 rfl eA34 rfl ej28 hl30) rfl ?_
   refine WD.r rfl (G.loada T.agg103_2 rfl (cs := [.string (bs x11.S), .int .i64 x11.N]) hc22) rfl ?_
   refine WD.r rfl (G.loada T.agg103_2 rfl (cs := [.string (bs x25.S), .int .i64 x25.N]) hc36) rfl ?_
   refine WD.p rfl (G.neqa rfl rfl (by kernel_rfl) (KeyS.eqIn103 x11 x25) rfl) rfl ?_
   refine WD.nil ?_
   refine WEx.then_ ?_
   refine WCode.forget (l' := [(0, .slice A0 a0.length c0), (1, .slice A1 a1.length c1), (5, .int .i64 x2), (25, .bool (!(decide (x11 = x25))))]) ⟨rfl, rfl, rfl, rfl, trivial⟩ ?_
   rcases ite_some hF with ⟨h39, hF⟩ | ⟨h39, hF⟩
   ·
    refine WCode.cond_f (kb (b := !(decide (x11 = x25))) rfl (show (!(decide (x11 = x25))) = false from by rw [(decide_eq_true h39)]; rfl)) ?_
    refine WCode.skip ?_
    refine WEx.in_normal ?_
    refine WEx.then_ ?_
    refine WCode.region ?_
    refine WOps.p (G.move rfl) rfl ?_
    refine WOps.p (G.add rfl rfl (r := (w64 (x2 + 1))) rfl) rfl ?_
    refine WOps.p (G.assign rfl) rfl ?_
    refine WOps.nil ?_
    refine WEx.again _ _ (by omega) ?_ ⟨w64 (x2 + 1), rfl, hF, S9⟩
    exact ⟨rfl, rfl, rfl, trivial⟩
   ·
    refine WCode.cond_t (kb (b := !(decide (x11 = x25))) rfl (show (!(decide (x11 = x25))) = true from by rw [(decide_eq_false h39)]; rfl)) ?_
    refine WCode.seq ?_
    refine WCode.region ?_
    refine WOps.p (G.assign rfl) rfl ?_
    refine WOps.nil ?_
    refine WEx.then_ ?_
    refine WCode.ret ?_
    refine WEx.in_ret ?_
    refine WEx.then_ret ?_
    refine WEx.then_ret ?_
    refine WEx.in_ret ?_
    refine WEx.then_ret ?_
    obtain rfl := some_eq hF
    refine WEx.ret1 rfl rfl ?_
    exact ⟨rfl, St.keep (As := []) S9⟩
  ·
   refine WCode.cond_f (kb (b := decide (x2 < (a0.length : Int))) rfl (decide_eq_false h8)) ?_
   refine WCode.exit ?_
   refine WEx.then_exit ?_
   refine WEx.then_exit ?_
   refine WEx.in_exit ?_
   refine WEx.then_ ?_
   refine WCode.seq ?_
   refine WCode.region ?_
   refine WOps.p (G.assign rfl) rfl ?_
   refine WOps.nil ?_
   refine WEx.then_ ?_
   refine WCode.ret ?_
   obtain rfl := some_eq hF
   refine WEx.ret1 rfl rfl ?_
   exact ⟨rfl, St.keep (As := []) S4⟩
 ·
  refine WCode.cond_t (kb (b := !(decide ((a0.length : Int) = (a1.length : Int)))) rfl (show (!(decide ((a0.length : Int) = (a1.length : Int)))) = true from by rw [(decide_eq_false h1)]; rfl)) ?_
  refine WCode.seq ?_
  refine WCode.region ?_
  refine WOps.p (G.assign rfl) rfl ?_
  refine WOps.nil ?_
  refine WEx.then_ ?_
  refine WCode.ret ?_
  refine WEx.then_ret ?_
  obtain rfl := some_eq hF
  refine WEx.ret1 rfl rfl ?_
  exact ⟨rfl, St.keep (As := []) S⟩

def sh_mark (k : Nat) (a0 : Int) : Option KeyS := (some (⟨([109, 97, 114, 107] : List UInt8), a0⟩ : KeyS))
set_option maxRecDepth 100000 in
set_option maxHeartbeats 1000000 in
theorem sh_mark_calls (k : Nat) (a0 : Int) {w : World} {r_ : KeyS} (h_ : sh_mark k a0 = some r_) :
    Calls Try.prog 100 [.int .i64 a0].toArray w fun e w' => e = .returned (.agg #[.string (bs r_.S), .int .i64 r_.N]) ∧ St w (KS []) w' [] := by
 have hF := h_
 clear h_
 unfold sh_mark at hF
 have S := St.ofFalse (As := []) (St.init0 w)
 refine enter 5 [(0, .int .i64 a0)] Try.func100 rfl rfl rfl rfl ?_
 refine WCode.seq ?_
 refine WCode.region ?_
 obtain ⟨b1, w2, E3, S4, X5, L6⟩ := St.var S (z := .agg #[.string (bs ([] : List UInt8)), .int .i64 0]) T.zero103
 change St _ _ _ [[(b1, .cells #[.string (bs ([] : List UInt8)), .int .i64 0] 103 (0, 0))]] at S4
 refine WOps.e E3 rfl ?_
 refine WOps.nil ?_
 refine WEx.then_ ?_
 refine WCode.seq ?_
 refine WCode.region ?_
 refine WOps.p (G.move rfl) rfl ?_
 refine WOps.p (G.build (cells := #[.string (bs ([109, 97, 114, 107] : List UInt8)), .int .i64 a0]) (evp_spec (evp_cons rfl (evp_cons rfl evp_nil))) (by kernel_rfl)) rfl ?_
 obtain ⟨w7, E8, S9⟩ := St.store (P := Try.prog) S4 0 103 (.agg #[.string (bs ([109, 97, 114, 107] : List UInt8)), .int .i64 a0]) (off := 0) (cur' := #[.string (bs ([109, 97, 114, 107] : List UInt8)), .int .i64 a0]) rfl T.size103_2 rfl rfl rfl
 change St _ _ _ [[(b1, .cells #[.string (bs ([109, 97, 114, 107] : List UInt8)), .int .i64 a0] 103 (0, 0))]] at S9
 refine WOps.u (E8 rfl rfl) ?_
 refine WOps.nil ?_
 refine WEx.then_ ?_
 refine WCode.ret ?_
 obtain rfl := some_eq hF
 refine WEx.retc rfl rfl (cs := [.string (bs ([109, 97, 114, 107] : List UInt8)), .int .i64 a0]) T.agg103_2 (cellsAt.of_blk (S9.blk 0 rfl) rfl) ?_
 exact ⟨rfl, St.keep (As := []) S9⟩

def sh_busy (k : Nat) (a0 : Int) (a1 : Int) : Option (Int × KeyS) := (Option.bind (sh_pick k a0 6) fun t7 => (Option.bind (sh_pick k (w64 (a1 + a0)) 9) fun t12 => (some (t7, (⟨([107] : List UInt8), t12⟩ : KeyS)))))
set_option maxRecDepth 100000 in
set_option maxHeartbeats 1000000 in
theorem sh_busy_calls (k : Nat) (a0 : Int) (a1 : Int) {w : World} {r_ : Int × KeyS} (h_ : sh_busy k a0 a1 = some r_) :
    Calls Try.prog 130 [.int .i64 a0, .int .i64 a1].toArray w fun e w' => e = .returned (.tuple #[.int .i64 r_.1, .agg #[.string (bs r_.2.S), .int .i64 r_.2.N]]) ∧ St w (KS []) w' [] := by
 have hF := h_
 clear h_
 unfold sh_busy at hF
 have S := St.ofFalse (As := []) (St.init0 w)
 refine enter 13 [(0, .int .i64 a0), (1, .int .i64 a1)] Try.func130 rfl rfl rfl rfl ?_
 refine WCode.seq ?_
 refine WCode.region ?_
 refine WOps.p (G.assign rfl) rfl ?_
 obtain ⟨b1, w2, E3, S4, X5, L6⟩ := St.var S (z := .agg #[.string (bs ([] : List UInt8)), .int .i64 0]) T.zero103
 change St _ _ _ [[(b1, .cells #[.string (bs ([] : List UInt8)), .int .i64 0] 103 (0, 0))]] at S4
 refine WOps.e E3 rfl ?_
 refine WOps.nil ?_
 refine WEx.then_ ?_
 refine WCode.seq ?_
 refine WCode.region ?_
 refine WOps.p (G.move rfl) rfl ?_
 obtain ⟨t7, hc8, hF⟩ := bind_some hF
 refine WOps.call T.call54 (evs_cons rfl (evs_cons rfl evs_nil)) rfl ?_
 refine (sh_pick_calls k a0 6 hc8).mono ?_
 rintro _ w9 ⟨rfl, T10⟩
 have S11 := St.callN (As := []) S4 T10
 change St _ _ _ [[(b1, .cells #[.string (bs ([] : List UInt8)), .int .i64 0] 103 (0, 0))]] at S11
 refine ⟨_, rfl, ?_⟩
 refine WOps.p (G.move rfl) rfl ?_
 refine WOps.p (G.move rfl) rfl ?_
 refine WOps.p (G.add rfl rfl (r := (w64 (a1 + a0))) rfl) rfl ?_
 obtain ⟨t12, hc13, hF⟩ := bind_some hF
 refine WOps.call T.call54 (evs_cons rfl (evs_cons rfl evs_nil)) rfl ?_
 refine (sh_pick_calls k (w64 (a1 + a0)) 9 hc13).mono ?_
 rintro _ w14 ⟨rfl, T15⟩
 have S16 := St.callN (As := []) S11 T15
 change St _ _ _ [[(b1, .cells #[.string (bs ([] : List UInt8)), .int .i64 0] 103 (0, 0))]] at S16
 refine ⟨_, rfl, ?_⟩
 refine WOps.p (G.build (cells := #[.string (bs ([107] : List UInt8)), .int .i64 t12]) (evp_spec (evp_cons rfl (evp_cons rfl evp_nil))) (by kernel_rfl)) rfl ?_
 refine WOps.p (G.assign rfl) rfl ?_
 obtain ⟨w17, E18, S19⟩ := St.store (P := Try.prog) S16 0 103 (.agg #[.string (bs ([107] : List UInt8)), .int .i64 t12]) (off := 0) (cur' := #[.string (bs ([107] : List UInt8)), .int .i64 t12]) rfl T.size103_2 rfl rfl rfl
 change St _ _ _ [[(b1, .cells #[.string (bs ([107] : List UInt8)), .int .i64 t12] 103 (0, 0))]] at S19
 refine WOps.u (E18 rfl rfl) ?_
 refine WOps.nil ?_
 refine WEx.then_ ?_
 refine WCode.ret ?_
 obtain rfl := some_eq hF
 refine WEx.ret1c rfl rfl rfl (cs := [.string (bs ([107] : List UInt8)), .int .i64 t12]) T.agg103_2 (cellsAt.of_blk (S19.blk 0 rfl) rfl) ?_
 exact ⟨rfl, St.keep (As := []) S19⟩

def sh_wanted (k : Nat) (a0 : KeyS) (a1 : Int) : Option Bool := (Option.bind (sh_pick k a1 3) fun t7 => (if 0 < t7 then (some true) else (some (decide (a0.N = 4)))))
set_option maxRecDepth 100000 in
set_option maxHeartbeats 1000000 in
theorem sh_wanted_calls (k : Nat) (a0 : KeyS) (a1 : Int) {w : World} {r_ : Bool} (h_ : sh_wanted k a0 a1 = some r_) :
    Calls Try.prog 131 [.agg #[.string (bs a0.S), .int .i64 a0.N], .int .i64 a1].toArray w fun e w' => e = .returned (.bool r_) ∧ St w (KS []) w' [] := by
 have hF := h_
 clear h_
 unfold sh_wanted at hF
 have S := St.ofFalse (As := []) (St.init0 w)
 refine enter 13 [(0, .agg #[.string (bs a0.S), .int .i64 a0.N]), (1, .int .i64 a1)] Try.func131 rfl rfl rfl rfl ?_
 refine WCode.seq ?_
 refine WCode.region ?_
 obtain ⟨b1, w2, E3, S4, X5, L6⟩ := St.box S Try.prog 103 (.agg #[.string (bs a0.S), .int .i64 a0.N])
 change St _ _ _ [[(b1, .cells #[.string (bs a0.S), .int .i64 a0.N] 103 (0, 0))]] at S4
 refine WOps.e (E3 rfl) rfl ?_
 refine WOps.p (G.assign rfl) rfl ?_
 refine WOps.nil ?_
 refine WEx.then_ ?_
 refine WCode.seq ?_
 refine WCode.region ?_
 refine WOps.p (G.move rfl) rfl ?_
 obtain ⟨t7, hc8, hF⟩ := bind_some hF
 refine WOps.call T.call54 (evs_cons rfl (evs_cons rfl evs_nil)) rfl ?_
 refine (sh_pick_calls k a1 3 hc8).mono ?_
 rintro _ w9 ⟨rfl, T10⟩
 have S11 := St.callN (As := []) S4 T10
 change St _ _ _ [[(b1, .cells #[.string (bs a0.S), .int .i64 a0.N] 103 (0, 0))]] at S11
 refine ⟨_, rfl, ?_⟩
 refine WOps.p (G.gtr rfl rfl rfl) rfl ?_
 refine WOps.p (G.move rfl) rfl ?_
 rcases ite_some hF with ⟨h12, hF⟩ | ⟨h12, hF⟩
 ·
  refine WOps.off rfl (kbl (b := decide (0 < t7)) rfl (decide_eq_true h12)) rfl rfl ?_
  refine WOps.off rfl (kbl (b := decide (0 < t7)) rfl (decide_eq_true h12)) rfl rfl ?_
  refine WOps.off rfl (kbl (b := decide (0 < t7)) rfl (decide_eq_true h12)) rfl rfl ?_
  refine WOps.p (G.pick_t (kb (b := decide (0 < t7)) rfl (decide_eq_true h12)) rfl) rfl ?_
  refine WOps.p (G.assign rfl) rfl ?_
  refine WOps.nil ?_
  refine WEx.then_ ?_
  refine WCode.forget (l' := [(4, .bool true)]) ⟨rfl, trivial⟩ ?_
  refine WCode.ret ?_
  obtain rfl := some_eq hF
  refine WEx.ret1 rfl rfl ?_
  exact ⟨rfl, St.keep (As := []) S11⟩
 ·
  refine WOps.on rfl (kbl (b := decide (0 < t7)) rfl (decide_eq_false h12)) ?_
  refine WOps.p (G.field T.fld103_1 rfl (show 0 + 1 = 1 from rfl)) rfl ?_
  refine WOps.on rfl (kbl (b := decide (0 < t7)) rfl (decide_eq_false h12)) ?_
  refine WOps.r (G.load1 T.one3 rfl (cell_blk (S11.blk 0 rfl) rfl)) rfl ?_
  refine WOps.on rfl (kbl (b := decide (0 < t7)) rfl (decide_eq_false h12)) ?_
  refine WOps.p (G.eql rfl rfl rfl) rfl ?_
  refine WOps.p (G.pick_f (kb (b := decide (0 < t7)) rfl (decide_eq_false h12)) rfl) rfl ?_
  refine WOps.p (G.assign rfl) rfl ?_
  refine WOps.nil ?_
  refine WEx.then_ ?_
  refine WCode.forget (l' := [(4, .bool (decide (a0.N = 4)))]) ⟨rfl, trivial⟩ ?_
  refine WCode.ret ?_
  obtain rfl := some_eq hF
  refine WEx.ret1 rfl rfl ?_
  exact ⟨rfl, St.keep (As := []) S11⟩

end Go.Proofs.Ytoahkjehjmbojaa
