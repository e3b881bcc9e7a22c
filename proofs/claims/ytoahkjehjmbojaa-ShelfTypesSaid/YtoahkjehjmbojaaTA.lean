/- Functions and their walks (printed by auto.py over the engine). -/
import Derived.Test.YtoahkjehjmbojaaProg
import Derived.Test.YtoahkjehjmbojaaHands
namespace Go.Proofs.Ytoahkjehjmbojaa
open Go Go.Eng
set_option linter.unusedSimpArgs false
set_option linter.unusedVariables false
theorem T.mixed : Try.prog.follows .mixedOrders = true := by kernel_rfl
theorem T.agg160_4 : isAggT Try.prog 160 4 = true := by kernel_rfl
theorem T.agg76_3 : isAggT Try.prog 76 3 = true := by kernel_rfl
theorem T.call108 : Callable Try.prog 108 := Callable.mk Try.func108 (by kernel_rfl) (by kernel_rfl)
theorem T.call109 : Callable Try.prog 109 := Callable.mk Try.func109 (by kernel_rfl) (by kernel_rfl)
theorem T.call86 : Callable Try.prog 86 := Callable.mk Try.func86 (by kernel_rfl) (by kernel_rfl)
theorem T.el149 : slEl Try.prog 149 = some 4 := by kernel_rfl
theorem T.elt149 : Elt Try.prog 149 160 4 32 := elt_mk (z := .agg #[.int .u8 0, .int .u8 0, .bool false, .slice none 0 0]) Try.underlying149 (by kernel_rfl) rfl
theorem T.fld151_0 : fldOff Try.prog 151 0 = some 0 := by kernel_rfl
theorem T.fld151_1 : fldOff Try.prog 151 1 = some 1 := by kernel_rfl
theorem T.fld160_0 : fldOff Try.prog 160 0 = some 0 := by kernel_rfl
theorem T.fld160_1 : fldOff Try.prog 160 1 = some 3 := by kernel_rfl
theorem T.one149 : isOneT Try.prog 149 = true := by kernel_rfl
theorem T.one3 : isOneT Try.prog 3 = true := by kernel_rfl
theorem T.one77 : isOneT Try.prog 77 = true := by kernel_rfl
theorem T.size149_1 : sizeT Try.prog 149 = some 1 := by kernel_rfl
theorem T.size77_1 : sizeT Try.prog 77 = some 1 := by kernel_rfl
structure S74 where
  e0 : Int
  e1 : Int
  deriving DecidableEq
def S74.cs (x : S74) : List Value := [.int .u8 x.e0, .int .u8 x.e1]
def S74.rp : Rp S74 := .plain S74.cs 2 (fun _ => rfl) (fun _ => rfl)
structure Two where
  a : S74
  b : Bool
  deriving DecidableEq
def Two.cs (x : Two) : List Value := [.int .u8 x.a.e0, .int .u8 x.a.e1, .bool x.b]
def Two.rp : Rp Two := .plain Two.cs 3 (fun _ => rfl) (fun _ => rfl)
structure Two____string_160 where
  key : Two
  value : Hs
  deriving DecidableEq
def Two____string_160.cs (x : Two____string_160) : List Value := [.int .u8 x.key.a.e0, .int .u8 x.key.a.e1, .bool x.key.b, .slice x.value.1 x.value.2.1 x.value.2.2]
def Two____string_160.rp : Rp Two____string_160 := .plain Two____string_160.cs 4 (fun _ => rfl) (fun _ => rfl)
structure Two____string_ where
  most : Int
  pairs : List Two____string_160
  deriving DecidableEq
def Two____string_.rp : Rp Two____string_ where
  sz := 2
  rd := fun w F x cs => ∃ A1 : Option Addr, ∃ c1 : Nat, cs = [.int .i64 x.most, .slice A1 (x.pairs).length c1] ∧ SlR Two____string_160.rp w F A1 c1 (x.pairs)
  own := fun x cs G => ∃ A1 : Option Addr, ∃ c1 : Nat, ∃ G1 : Grp, cs = [.int .i64 x.most, .slice A1 (x.pairs).length c1] ∧ SlO 160 Two____string_160.rp (.slice A1 (x.pairs).length c1) (x.pairs) G1 ∧ G = G1
  len := by rintro _ _ _ _ ⟨_, _, rfl, _⟩; rfl
  one := by rintro _ _ _ _ ⟨_, _, rfl, _⟩; exact one_of_all rfl
  lenO := by rintro _ _ _ ⟨_, _, _, rfl, _⟩; rfl
  oneO := by rintro _ _ _ ⟨_, _, _, rfl, _⟩; exact one_of_all rfl
  ext := by rintro _ _ _ _ _ ⟨A1, c1, rfl, h1⟩ hE; exact ⟨A1, c1, rfl, h1.ext hE⟩
  mono := by rintro _ _ _ _ _ ⟨A1, c1, rfl, h1⟩ hF; exact ⟨A1, c1, rfl, h1.mono hF⟩
  low := by
    rintro w x cs G ⟨A1, c1, G1, rfl, h1, hGe⟩ hG
    exact ⟨A1, c1, rfl, (h1.rd (fun b o hb => hG b o (by rw [hGe]; simp [hb]))).mono (fun b (hb : b ∈ keys G1) => show b ∈ keys G by rw [hGe]; simp [keys_append, hb])⟩
theorem S74.eq_iff74 (x y : S74) : x = y ↔ x.e0 = y.e0 ∧ x.e1 = y.e1 := by
  cases x; cases y; simp
theorem S74.eqd74 (d : Nat) (a0 : Int) (a1 : Int) (b0 : Int) (b1 : Int) (w : World) : (Op.equalIn (d + 2) 74 (.agg #[.int .u8 a0, .int .u8 a1]) (.agg #[.int .u8 b0, .int .u8 b1])).run Try.prog w = .ok (decide (a0 = b0 ∧ a1 = b1)) w := by
  obtain ⟨i_, hi_⟩ : ∃ i, Try.prog.info? 5 = some i := Option.isSome_iff_exists.1 (by kernel_rfl)
  rw [show d + 2 = (d + 1) + 1 from rfl, run_equalIn_array w (d + 1) _ _ Try.underlying74 hi_, show Try.prog.cellsOf 5 = 1 from by kernel_rfl]
  simp only [show List.range 2 = [0, 1] from rfl, Op.eqItems]
  by_cases h0 : a0 = b0 <;> by_cases h1 : a1 = b1 <;> simp [go_sem, toList_iff, bs_inj, h0, h1]
theorem Two.eq_iff76 (x y : Two) : x = y ↔ x.a.e0 = y.a.e0 ∧ x.a.e1 = y.a.e1 ∧ x.b = y.b := by
  cases x; cases y; simp [S74.eq_iff74, and_assoc]
theorem Two.eqd76 (d : Nat) (a0 : Int) (a1 : Int) (a2 : Bool) (b0 : Int) (b1 : Int) (b2 : Bool) (w : World) : (Op.equalIn (d + 3) 76 (.agg #[.int .u8 a0, .int .u8 a1, .bool a2]) (.agg #[.int .u8 b0, .int .u8 b1, .bool b2])).run Try.prog w = .ok (decide (a0 = b0 ∧ a1 = b1 ∧ a2 = b2)) w := by
  rw [show d + 3 = (d + 2) + 1 from rfl, run_equalIn_struct w (d + 2) 76 _ _ (by kernel_rfl) (by kernel_rfl), show (Try.prog.fieldsOf 76) = _ from by unfold Program.fieldsOf; rw [Try.underlying76]]
  simp only [Op.eqFields]
  by_cases h0 : a0 = b0 <;> by_cases h1 : a1 = b1 <;> by_cases h2 : a2 = b2 <;> simp [go_sem, toList_iff, bs_inj, S74.eqd74, h0, h1, h2]
theorem Two.eqIn76 (x y : Two) (w : World) : (Op.equalIn 10000 76 (.agg #[.int .u8 x.a.e0, .int .u8 x.a.e1, .bool x.b]) (.agg #[.int .u8 y.a.e0, .int .u8 y.a.e1, .bool y.b])).run Try.prog w = .ok (decide (x = y)) w := by
  rw [show (10000 : Nat) = 9997 + 3 from rfl, Two.eqd76]
  simp only [Two.eq_iff76]

def st_New (k : Nat) (a0 : Int) : Option ((Option Two____string_) × Int) := (if a0 < 0 then (some (none, 1)) else (if 1048576 < a0 then (some (none, 1)) else (some (some (⟨a0, []⟩ : Two____string_), 0))))
set_option maxRecDepth 100000 in
set_option maxHeartbeats 1000000 in
theorem st_New_calls (k : Nat) (a0 : Int) {w : World} {r_ : (Option Two____string_) × Int} (h_ : st_New k a0 = some r_) :
    Calls Try.prog 41 [.int .i64 a0].toArray w fun e w' => ∃ v0' : Value, ∃ G0' : Grp, e = .returned (.tuple #[v0', .int .i64 r_.2]) ∧ OptO 151 Two____string_.rp v0' (r_.1) G0' ∧ St w (KS []) w' [G0'] := by
 have hF := h_
 clear h_
 unfold st_New at hF
 have S := St.ofFalse (As := []) (St.init0 w)
 refine enter 13 [(0, .int .i64 a0)] Try.func41 rfl rfl rfl rfl ?_
 refine WCode.seq ?_
 refine WCode.region ?_
 refine WOps.p (G.assign rfl) rfl ?_
 refine WOps.p (G.assign rfl) rfl ?_
 refine WOps.nil ?_
 refine WEx.then_ ?_
 refine WCode.seq ?_
 refine WCode.seq ?_
 refine WCode.region ?_
 refine WOps.p (G.move rfl) rfl ?_
 refine WOps.p (G.lss rfl rfl rfl) rfl ?_
 refine WOps.p (G.move rfl) rfl ?_
 rcases ite_some hF with ⟨h1, hF⟩ | ⟨h1, hF⟩
 ·
  refine WOps.off rfl (kbl (b := decide (a0 < 0)) rfl (decide_eq_true h1)) rfl rfl ?_
  refine WOps.off rfl (kbl (b := decide (a0 < 0)) rfl (decide_eq_true h1)) rfl rfl ?_
  refine WOps.p (G.pick_t (kb (b := decide (a0 < 0)) rfl (decide_eq_true h1)) rfl) rfl ?_
  refine WOps.nil ?_
  refine WEx.then_ ?_
  refine WCode.cond_t rfl ?_
  refine WCode.seq ?_
  refine WCode.region ?_
  refine WOps.p (G.assign rfl) rfl ?_
  refine WOps.p (G.assign rfl) rfl ?_
  refine WOps.nil ?_
  refine WEx.then_ ?_
  refine WCode.ret ?_
  refine WEx.then_ret ?_
  obtain rfl := some_eq hF
  refine WEx.ret2 rfl rfl rfl ?_
  have S2 := S.emp
  exact ⟨.pointer none, ([] : Grp), rfl, ⟨rfl, rfl⟩, St.keep (As := [([] : Grp)]) S2⟩
 ·
  refine WOps.on rfl (kbl (b := decide (a0 < 0)) rfl (decide_eq_false h1)) ?_
  refine WOps.p (G.move rfl) rfl ?_
  refine WOps.on rfl (kbl (b := decide (a0 < 0)) rfl (decide_eq_false h1)) ?_
  refine WOps.p (G.gtr rfl rfl rfl) rfl ?_
  refine WOps.p (G.pick_f (kb (b := decide (a0 < 0)) rfl (decide_eq_false h1)) rfl) rfl ?_
  refine WOps.nil ?_
  refine WEx.then_ ?_
  rcases ite_some hF with ⟨h3, hF⟩ | ⟨h3, hF⟩
  ·
   refine WCode.cond_t (kb (b := decide (1048576 < a0)) rfl (decide_eq_true h3)) ?_
   refine WCode.seq ?_
   refine WCode.region ?_
   refine WOps.p (G.assign rfl) rfl ?_
   refine WOps.p (G.assign rfl) rfl ?_
   refine WOps.nil ?_
   refine WEx.then_ ?_
   refine WCode.ret ?_
   refine WEx.then_ret ?_
   obtain rfl := some_eq hF
   refine WEx.ret2 rfl rfl rfl ?_
   have S4 := S.emp
   exact ⟨.pointer none, ([] : Grp), rfl, ⟨rfl, rfl⟩, St.keep (As := [([] : Grp)]) S4⟩
  ·
   refine WCode.cond_f (kb (b := decide (1048576 < a0)) rfl (decide_eq_false h3)) ?_
   refine WCode.skip ?_
   refine WEx.then_ ?_
   refine WCode.seq ?_
   refine WCode.region ?_
   refine WOps.p (G.move rfl) rfl ?_
   refine WOps.p (G.build (cells := #[.int .i64 a0, .slice none 0 0]) (evp_spec (evp_cons rfl evp_nil)) (by kernel_rfl)) rfl ?_
   obtain ⟨b5, w6, E7, S8, X9, L10⟩ := St.box S Try.prog 151 (.agg #[.int .i64 a0, .slice none 0 0])
   change St _ _ _ [[(b5, .cells #[.int .i64 a0, .slice none 0 0] 151 (0, 0))]] at S8
   refine WOps.e (E7 rfl) rfl ?_
   refine WOps.p (G.assign rfl) rfl ?_
   refine WOps.p (G.assign rfl) rfl ?_
   refine WOps.nil ?_
   refine WEx.then_ ?_
   refine WCode.forget (l' := [(2, .pointer (some ⟨b5, 0, none⟩)), (3, .int .i64 0)]) ⟨rfl, rfl, trivial⟩ ?_
   refine WCode.ret ?_
   obtain rfl := some_eq hF
   refine WEx.ret2 rfl rfl rfl ?_
   have S11 := S8.emp
   have S13 := S11.front 1 rfl
   change St _ _ _ [[(b5, .cells #[.int .i64 a0, .slice none 0 0] 151 (0, 0))], ([] : Grp)] at S13
   have hO14 : ObjO 151 Two____string_.rp b5 (⟨a0, []⟩ : Two____string_) ([(b5, .cells #[.int .i64 a0, .slice none 0 0] 151 (0, 0))] ++ (([] : Grp))) := ⟨_, _, ⟨none, 0, ([] : Grp), rfl, (SlO.nil 160 Two____string_160.rp), rfl⟩, rfl⟩
   have S15 : St _ _ _ [[(b5, .cells #[.int .i64 a0, .slice none 0 0] 151 (0, 0))] ++ (([] : Grp))] := S13.objs (by simp)
   exact ⟨(.pointer (some ⟨b5, 0, none⟩)), [(b5, .cells #[.int .i64 a0, .slice none 0 0] 151 (0, 0))] ++ (([] : Grp)), rfl, ⟨_, rfl, hO14⟩, St.keep (As := [[(b5, .cells #[.int .i64 a0, .slice none 0 0] 151 (0, 0))] ++ (([] : Grp))]) S15⟩

def st_clo (k : Nat) (a0 : Two____string_160) (bc0 : Two) : Option Bool := (some (decide (a0.key = bc0)))
set_option maxRecDepth 100000 in
set_option maxHeartbeats 1000000 in
theorem st_clo_calls (k : Nat) (a0 : Two____string_160) (bc0 : Two) {qc0 : Nat} {w : World} (hBc0 : w.heap[qc0]? = some (.cells #[.int .u8 bc0.a.e0, .int .u8 bc0.a.e1, .bool bc0.b] 76 (0, 0))) (hNc0 : qc0 ∉ keys ([] : List Grp).flatten) {r_ : Bool} (h_ : st_clo k a0 bc0 = some r_) :
    Calls Try.prog 109 [.agg #[.int .u8 a0.key.a.e0, .int .u8 a0.key.a.e1, .bool a0.key.b, .slice a0.value.1 a0.value.2.1 a0.value.2.2], .pointer (some ⟨qc0, 0, none⟩)].toArray w fun e w' => e = .returned (.bool r_) ∧ St w (KS []) w' [] := by
 have hF := h_
 clear h_
 unfold st_clo at hF
 have S := St.ofFalse (As := []) (St.init0 w)
 refine enter 8 [(0, .agg #[.int .u8 a0.key.a.e0, .int .u8 a0.key.a.e1, .bool a0.key.b, .slice a0.value.1 a0.value.2.1 a0.value.2.2]), (1, .pointer (some ⟨qc0, 0, none⟩))] Try.func109 rfl rfl rfl rfl ?_
 refine WCode.seq ?_
 refine WCode.region ?_
 obtain ⟨b1, w2, E3, S4, X5, L6⟩ := St.box S Try.prog 160 (.agg #[.int .u8 a0.key.a.e0, .int .u8 a0.key.a.e1, .bool a0.key.b, .slice a0.value.1 a0.value.2.1 a0.value.2.2])
 change St _ _ _ [[(b1, .cells #[.int .u8 a0.key.a.e0, .int .u8 a0.key.a.e1, .bool a0.key.b, .slice a0.value.1 a0.value.2.1 a0.value.2.2] 160 (0, 0))]] at S4
 refine WOps.e (E3 rfl) rfl ?_
 refine WOps.p (G.assign rfl) rfl ?_
 refine WOps.nil ?_
 refine WEx.then_ ?_
 refine WCode.seq ?_
 refine WCode.region ?_
 refine WOps.p (G.field T.fld160_0 rfl (show 0 + 0 = 0 from rfl)) rfl ?_
 refine WOps.r (G.loada T.agg76_3 rfl (cs := [.int .u8 a0.key.a.e0, .int .u8 a0.key.a.e1, .bool a0.key.b]) (cellsAt.of_blk (S4.blk 0 rfl) rfl)) rfl ?_
 refine WOps.r (G.loada T.agg76_3 rfl (cs := [.int .u8 bc0.a.e0, .int .u8 bc0.a.e1, .bool bc0.b]) (cellsAt.of_blk ((S4.fr qc0 (lt_of_blk hBc0) hNc0).trans hBc0) rfl)) rfl ?_
 refine WOps.p (G.eqa rfl rfl (by kernel_rfl) (Two.eqIn76 a0.key bc0) rfl) rfl ?_
 refine WOps.p (G.assign rfl) rfl ?_
 refine WOps.nil ?_
 refine WEx.then_ ?_
 refine WCode.ret ?_
 obtain rfl := some_eq hF
 refine WEx.ret1 rfl rfl ?_
 exact ⟨rfl, St.keep (As := []) S4⟩

def st_idx.l1 : Nat → List Two____string_160 → Two → Int → Option Int
  | 0, _, _, _ => none
  | k4 + 1, a0, b1_0, x1 => (if x1 < (a0.length : Int) then (Option.bind (idx a0 x1) fun x8 => (Option.bind (st_clo k4 x8 b1_0) fun t22 => (if t22 = true then (some x1) else (st_idx.l1 k4 a0 b1_0 (w64 (x1 + 1)))))) else (some (-1)))
def st_idx (k : Nat) (a0 : List Two____string_160) (b1_0 : Two) : Option Int := (st_idx.l1 k a0 b1_0 0)
set_option maxRecDepth 100000 in
set_option maxHeartbeats 1000000 in
theorem st_idx_calls (k : Nat) (a0 : List Two____string_160) {A0 : Option Addr} {c0 : Nat} {F0 : Nat → Prop} (b1_0 : Two) {q1_0 : Nat} {w : World} (hR0 : SlR Two____string_160.rp w F0 A0 c0 a0) (hF0 : ∀ b, F0 b → NK w [] b) (hB1_0 : w.heap[q1_0]? = some (.cells #[.int .u8 b1_0.a.e0, .int .u8 b1_0.a.e1, .bool b1_0.b] 76 (0, 0))) (hN1_0 : q1_0 ∉ keys ([] : List Grp).flatten) {r_ : Int} (h_ : st_idx k a0 b1_0 = some r_) :
    Calls Try.prog 108 [.slice A0 a0.length c0, .func (.func 109) #[] #[.pointer (some ⟨q1_0, 0, none⟩)]].toArray w fun e w' => e = .returned (.int .i64 r_) ∧ St w (KS []) w' [] := by
 have hF := h_
 clear h_
 unfold st_idx at hF
 have S := St.ofFalse (As := []) (St.init0 w)
 refine enter 19 [(0, .slice A0 a0.length c0), (1, .func (.func 109) #[] #[.pointer (some ⟨q1_0, 0, none⟩)])] Try.func108 rfl rfl rfl rfl ?_
 refine WCode.seq ?_
 refine WCode.region ?_
 refine WOps.p (G.assign rfl) rfl ?_
 refine WOps.nil ?_
 refine WEx.then_ ?_
 refine WCode.seq ?_
 refine WCode.seq ?_
 refine WCode.region ?_
 refine WOps.p (G.move rfl) rfl ?_
 refine WOps.p (G.len T.el149 rfl) rfl ?_
 refine WOps.p (G.move rfl) rfl ?_
 refine WOps.nil ?_
 refine WEx.then_ ?_
 refine WCode.block ?_
 refine WCode.forget (l' := [(0, .slice A0 a0.length c0), (1, .func (.func 109) #[] #[.pointer (some ⟨q1_0, 0, none⟩)]), (7, .int .i64 (a0.length : Int)), (8, .int .i64 0)]) ⟨rfl, rfl, rfl, rfl, trivial⟩ ?_
 refine WCode.loop (fun n_ l_ w_ => ∃ x1 : Int, l_ = [(0, .slice A0 a0.length c0), (1, .func (.func 109) #[] #[.pointer (some ⟨q1_0, 0, none⟩)]), (7, .int .i64 (a0.length : Int)), (8, .int .i64 x1)] ∧ st_idx.l1 n_ a0 b1_0 x1 = some r_ ∧ St w (KS []) w_ []) k ⟨0, rfl, hF, S⟩ ?_
 rintro n5 _ w2 ⟨x1, rfl, hF, S3⟩
 obtain _ | k4 := n5
 · exact nomatch (show (none : Option Int) = some r_ from hF)
 rw [st_idx.l1] at hF
 refine WCode.seq ?_
 refine WCode.region ?_
 refine WOps.p (G.lss rfl rfl rfl) rfl ?_
 refine WOps.nil ?_
 refine WEx.then_ ?_
 refine WCode.seq ?_
 rcases ite_some hF with ⟨h7, hF⟩ | ⟨h7, hF⟩
 ·
  refine WCode.cond_t (kb (b := decide (x1 < (a0.length : Int))) rfl (decide_eq_true h7)) ?_
  refine WCode.skip ?_
  refine WEx.then_ ?_
  refine WCode.seq ?_
  refine WCode.block ?_
  refine WCode.seq ?_
  refine WCode.region ?_
  refine WOps.p (G.move rfl) rfl ?_
  refine WOps.p (G.assign rfl) rfl ?_
  refine WOps.nil ?_
  refine WEx.then_ ?_
  refine WCode.seq ?_
  refine WCode.region ?_
  refine WOps.p (G.move rfl) rfl ?_
  refine WOps.p (G.move rfl) rfl ?_
  refine WOps.p (G.move rfl) rfl ?_
  obtain ⟨x8, hc9, hF⟩ := bind_some hF
  obtain ⟨j10, ej11, hj12, hl13⟩ := idx_spec hc9
  obtain ⟨b14, o15, cs16, eA17, hf18, hc19, hr20⟩ := SlR.at_ (hR0.ext (S3.keepF hF0)) hj12
  have hq21 : cs16 = [.int .u8 x8.key.a.e0, .int .u8 x8.key.a.e1, .bool x8.key.b, .slice x8.value.1 x8.value.2.1 x8.value.2.2] := hr20
  subst hq21
  change cellsAt _ _ (o15 + j10 * 4) [.int .u8 x8.key.a.e0, .int .u8 x8.key.a.e1, .bool x8.key.b, .slice x8.value.1 x8.value.2.1 x8.value.2.2] at hc19
  refine WOps.p (G.idx T.el149 rfl eA17 rfl ej11 hl13) rfl ?_
  refine WOps.r (G.loada T.agg160_4 rfl (cs := [.int .u8 x8.key.a.e0, .int .u8 x8.key.a.e1, .bool x8.key.b, .slice x8.value.1 x8.value.2.1 x8.value.2.2]) hc19) rfl ?_
  obtain ⟨t22, hc23, hF⟩ := bind_some hF
  refine WOps.callv T.call109 rfl (evs_cons rfl evs_nil) rfl ?_
  refine (st_clo_calls k4 x8 b1_0 ((S3.fr q1_0 (lt_of_blk hB1_0) hN1_0).trans hB1_0) (by simp [keys]) hc23).mono ?_
  rintro _ w24 ⟨rfl, T25⟩
  have S26 := St.callN (As := []) S3 T25
  change St _ _ _ [] at S26
  refine ⟨_, rfl, ?_⟩
  refine WOps.nil ?_
  refine WEx.then_ ?_
  rcases ite_some hF with ⟨h27, hF⟩ | ⟨h27, hF⟩
  ·
   refine WCode.cond_t (kb (b := t22) rfl h27) ?_
   refine WCode.seq ?_
   refine WCode.region ?_
   refine WOps.p (G.move rfl) rfl ?_
   refine WOps.p (G.assign rfl) rfl ?_
   refine WOps.nil ?_
   refine WEx.then_ ?_
   refine WCode.forget (l' := [(4, .int .i64 x1)]) ⟨rfl, trivial⟩ ?_
   refine WCode.ret ?_
   refine WEx.in_ret ?_
   refine WEx.then_ret ?_
   refine WEx.then_ret ?_
   refine WEx.in_ret ?_
   refine WEx.then_ret ?_
   obtain rfl := some_eq hF
   refine WEx.ret1 rfl rfl ?_
   exact ⟨rfl, St.keep (As := []) S26⟩
  ·
   refine WCode.cond_f (kb (b := t22) rfl (Bool.eq_false_iff.2 h27)) ?_
   refine WCode.skip ?_
   refine WEx.in_normal ?_
   refine WEx.then_ ?_
   refine WCode.region ?_
   refine WOps.p (G.add rfl rfl (r := (w64 (x1 + 1))) rfl) rfl ?_
   refine WOps.p (G.move rfl) rfl ?_
   refine WOps.nil ?_
   refine WEx.again _ _ (by omega) ?_ ⟨w64 (x1 + 1), rfl, hF, S26⟩
   exact ⟨rfl, rfl, rfl, rfl, trivial⟩
 ·
  refine WCode.cond_f (kb (b := decide (x1 < (a0.length : Int))) rfl (decide_eq_false h7)) ?_
  refine WCode.exit ?_
  refine WEx.then_exit ?_
  refine WEx.then_exit ?_
  refine WEx.in_exit ?_
  refine WEx.then_ ?_
  refine WCode.seq ?_
  refine WCode.region ?_
  refine WOps.p (G.assign rfl) rfl ?_
  refine WOps.nil ?_
  refine WEx.then_ ?_
  refine WCode.ret ?_
  obtain rfl := some_eq hF
  refine WEx.ret1 rfl rfl ?_
  exact ⟨rfl, St.keep (As := []) S3⟩

def st_place (k : Nat) (a0 : Two____string_) (a1 : Two) : Option Int := (Option.bind (st_idx k a0.pairs a1) fun t15 => (some t15))
set_option maxRecDepth 100000 in
set_option maxHeartbeats 1000000 in
theorem st_place_calls (k : Nat) (a0 : Two____string_) {p0 : Nat} {F0 : Nat → Prop} (a1 : Two) {w : World} (hP0 : PtR 151 Two____string_.rp w F0 p0 a0) (hF0 : ∀ b, F0 b → NK w [] b) {r_ : Int} (h_ : st_place k a0 a1 = some r_) :
    Calls Try.prog 86 [.pointer (some ⟨p0, 0, none⟩), .agg #[.int .u8 a1.a.e0, .int .u8 a1.a.e1, .bool a1.b]].toArray w fun e w' => e = .returned (.int .i64 r_) ∧ St w (KS []) w' [] := by
 have hF := h_
 clear h_
 unfold st_place at hF
 have S := St.ofFalse (As := []) (St.init0 w)
 have hPq5 := hP0
 obtain ⟨cs1, hB2, hf3, A6, c7, hq4, hR8⟩ := hPq5
 subst hq4
 change _ = some (Obj.cells #[.int .i64 a0.most, .slice A6 a0.pairs.length c7] 151 (0, 0)) at hB2
 refine enter 11 [(0, .pointer (some ⟨p0, 0, none⟩)), (1, .agg #[.int .u8 a1.a.e0, .int .u8 a1.a.e1, .bool a1.b])] Try.func86 rfl rfl rfl rfl ?_
 refine WCode.seq ?_
 refine WCode.region ?_
 obtain ⟨b9, w10, E11, S12, X13, L14⟩ := St.box S Try.prog 76 (.agg #[.int .u8 a1.a.e0, .int .u8 a1.a.e1, .bool a1.b])
 change St _ _ _ [[(b9, .cells #[.int .u8 a1.a.e0, .int .u8 a1.a.e1, .bool a1.b] 76 (0, 0))]] at S12
 refine WOps.e (E11 rfl) rfl ?_
 refine WOps.p (G.assign rfl) rfl ?_
 refine WOps.nil ?_
 refine WEx.then_ ?_
 refine WCode.seq ?_
 refine WCode.region ?_
 refine WOps.p (G.move rfl) rfl ?_
 refine WOps.p (G.nilp rfl) rfl ?_
 refine WOps.p (G.field T.fld151_1 rfl (show 0 + 1 = 1 from rfl)) rfl ?_
 refine WOps.r (G.load1 T.one149 rfl (cell_blk ((S12.fr p0 (lt_of_blk hB2) (hF0 p0 hf3).1).trans hB2) rfl)) rfl ?_
 refine WOps.p (G.makeFunc (evs_cons rfl evs_nil)) rfl ?_
 obtain ⟨t15, hc16, hF⟩ := bind_some hF
 refine WOps.call T.call108 (evs_cons rfl (evs_cons rfl evs_nil)) rfl ?_
 refine (st_idx_calls k a0.pairs a1 (hR8.ext (S12.keepF hF0)) (St.outF (Bs := []) S12 hF0) (S12.blk 0 rfl) (by simp [keys]) hc16).mono ?_
 rintro _ w17 ⟨rfl, T18⟩
 have S19 := St.callN (As := []) S12 T18
 change St _ _ _ [[(b9, .cells #[.int .u8 a1.a.e0, .int .u8 a1.a.e1, .bool a1.b] 76 (0, 0))]] at S19
 refine ⟨_, rfl, ?_⟩
 refine WOps.p (G.assign rfl) rfl ?_
 refine WOps.nil ?_
 refine WEx.then_ ?_
 refine WCode.ret ?_
 obtain rfl := some_eq hF
 refine WEx.ret1 rfl rfl ?_
 exact ⟨rfl, St.keep (As := []) S19⟩

def st_Len (k : Nat) (a0 : Two____string_) : Option Int := (some (a0.pairs.length : Int))
set_option maxRecDepth 100000 in
set_option maxHeartbeats 1000000 in
theorem st_Len_calls (k : Nat) (a0 : Two____string_) {p0 : Nat} {F0 : Nat → Prop} {w : World} (hP0 : PtR 151 Two____string_.rp w F0 p0 a0) (hF0 : ∀ b, F0 b → NK w [] b) {r_ : Int} (h_ : st_Len k a0 = some r_) :
    Calls Try.prog 50 [.pointer (some ⟨p0, 0, none⟩)].toArray w fun e w' => e = .returned (.int .i64 r_) ∧ St w (KS []) w' [] := by
 have hF := h_
 clear h_
 unfold st_Len at hF
 have S := St.ofFalse (As := []) (St.init0 w)
 have hPq5 := hP0
 obtain ⟨cs1, hB2, hf3, A6, c7, hq4, hR8⟩ := hPq5
 subst hq4
 change _ = some (Obj.cells #[.int .i64 a0.most, .slice A6 a0.pairs.length c7] 151 (0, 0)) at hB2
 refine enter 8 [(0, .pointer (some ⟨p0, 0, none⟩))] Try.func50 rfl rfl rfl rfl ?_
 refine WCode.seq ?_
 refine WCode.region ?_
 refine WOps.p (G.assign rfl) rfl ?_
 refine WOps.nil ?_
 refine WEx.then_ ?_
 refine WCode.seq ?_
 refine WCode.region ?_
 refine WOps.p (G.move rfl) rfl ?_
 refine WOps.p (G.nilp rfl) rfl ?_
 refine WOps.p (G.field T.fld151_1 rfl (show 0 + 1 = 1 from rfl)) rfl ?_
 refine WOps.r (G.load1 T.one149 rfl (cell_blk ((S.fr p0 (lt_of_blk hB2) (hF0 p0 hf3).1).trans hB2) rfl)) rfl ?_
 refine WOps.p (G.len T.el149 rfl) rfl ?_
 refine WOps.p (G.assign rfl) rfl ?_
 refine WOps.nil ?_
 refine WEx.then_ ?_
 refine WCode.ret ?_
 obtain rfl := some_eq hF
 refine WEx.ret1 rfl rfl ?_
 exact ⟨rfl, St.keep (As := []) S⟩

def st_Get (k : Nat) (a0 : Two____string_) (a1 : Two) : Option (Hs × Bool) := (Option.bind (st_place k a0 a1) fun t15 => (if 0 ≤ t15 then (Option.bind (idx a0.pairs t15) fun x21 => (some (x21.value, true))) else (some (((none, 0, 0) : Hs), false))))
set_option maxRecDepth 100000 in
set_option maxHeartbeats 1000000 in
theorem st_Get_calls (k : Nat) (a0 : Two____string_) {p0 : Nat} {F0 : Nat → Prop} (a1 : Two) {w : World} (hP0 : PtR 151 Two____string_.rp w F0 p0 a0) (hF0 : ∀ b, F0 b → NK w [] b) {r_ : Hs × Bool} (h_ : st_Get k a0 a1 = some r_) :
    Calls Try.prog 45 [.pointer (some ⟨p0, 0, none⟩), .agg #[.int .u8 a1.a.e0, .int .u8 a1.a.e1, .bool a1.b]].toArray w fun e w' => e = .returned (.tuple #[.slice r_.1.1 r_.1.2.1 r_.1.2.2, .bool r_.2]) ∧ St w (KS []) w' [] := by
 have hF := h_
 clear h_
 unfold st_Get at hF
 have S := St.ofFalse (As := []) (St.init0 w)
 have hPq5 := hP0
 obtain ⟨cs1, hB2, hf3, A6, c7, hq4, hR8⟩ := hPq5
 subst hq4
 change _ = some (Obj.cells #[.int .i64 a0.most, .slice A6 a0.pairs.length c7] 151 (0, 0)) at hB2
 refine enter 22 [(0, .pointer (some ⟨p0, 0, none⟩)), (1, .agg #[.int .u8 a1.a.e0, .int .u8 a1.a.e1, .bool a1.b])] Try.func45 rfl rfl rfl rfl ?_
 refine WCode.seq ?_
 refine WCode.region ?_
 obtain ⟨b9, w10, E11, S12, X13, L14⟩ := St.box S Try.prog 76 (.agg #[.int .u8 a1.a.e0, .int .u8 a1.a.e1, .bool a1.b])
 change St _ _ _ [[(b9, .cells #[.int .u8 a1.a.e0, .int .u8 a1.a.e1, .bool a1.b] 76 (0, 0))]] at S12
 refine WOps.e (E11 rfl) rfl ?_
 refine WOps.p (G.assign rfl) rfl ?_
 refine WOps.p (G.assign rfl) rfl ?_
 refine WOps.nil ?_
 refine WEx.then_ ?_
 refine WCode.seq ?_
 refine WCode.seq ?_
 refine WCode.region ?_
 refine WOps.p (G.move rfl) rfl ?_
 refine WOps.r (G.loada T.agg76_3 rfl (cs := [.int .u8 a1.a.e0, .int .u8 a1.a.e1, .bool a1.b]) (cellsAt.of_blk (S12.blk 0 rfl) rfl)) rfl ?_
 obtain ⟨t15, hc16, hF⟩ := bind_some hF
 refine WOps.call T.call86 (evs_cons rfl (evs_cons rfl evs_nil)) rfl ?_
 refine (st_place_calls k a0 a1 (hP0.ext (S12.keepF hF0)) (St.outF (Bs := []) S12 hF0) hc16).mono ?_
 rintro _ w17 ⟨rfl, T18⟩
 have S19 := St.callN (As := []) S12 T18
 change St _ _ _ [[(b9, .cells #[.int .u8 a1.a.e0, .int .u8 a1.a.e1, .bool a1.b] 76 (0, 0))]] at S19
 refine ⟨_, rfl, ?_⟩
 refine WOps.p (G.assign rfl) rfl ?_
 refine WOps.nil ?_
 refine WEx.then_ ?_
 refine WCode.seq ?_
 refine WCode.region ?_
 refine WOps.p (G.move rfl) rfl ?_
 refine WOps.p (G.geq rfl rfl rfl) rfl ?_
 refine WOps.nil ?_
 refine WEx.then_ ?_
 rcases ite_some hF with ⟨h20, hF⟩ | ⟨h20, hF⟩
 ·
  refine WCode.cond_t (kb (b := decide (0 ≤ t15)) rfl (decide_eq_true h20)) ?_
  refine WCode.seq ?_
  refine WCode.region ?_
  refine WOps.p (G.move rfl) rfl ?_
  refine WOps.p (G.nilp rfl) rfl ?_
  refine WOps.p (G.field T.fld151_1 rfl (show 0 + 1 = 1 from rfl)) rfl ?_
  refine WOps.r (G.load1 T.one149 rfl (cell_blk ((S19.fr p0 (lt_of_blk hB2) (hF0 p0 hf3).1).trans hB2) rfl)) rfl ?_
  refine WOps.p (G.move rfl) rfl ?_
  obtain ⟨x21, hc22, hF⟩ := bind_some hF
  obtain ⟨j23, ej24, hj25, hl26⟩ := idx_spec hc22
  obtain ⟨b27, o28, cs29, eA30, hf31, hc32, hr33⟩ := SlR.at_ (hR8.ext (S19.keepF hF0)) hj25
  have hq34 : cs29 = [.int .u8 x21.key.a.e0, .int .u8 x21.key.a.e1, .bool x21.key.b, .slice x21.value.1 x21.value.2.1 x21.value.2.2] := hr33
  subst hq34
  change cellsAt _ _ (o28 + j23 * 4) [.int .u8 x21.key.a.e0, .int .u8 x21.key.a.e1, .bool x21.key.b, .slice x21.value.1 x21.value.2.1 x21.value.2.2] at hc32
  refine WOps.p (G.idx T.el149 rfl eA30 rfl ej24 hl26) rfl ?_
  refine WOps.p (G.field T.fld160_1 rfl (show o28 + j23 * 4 + 3 = o28 + j23 * 4 + 3 from rfl)) rfl ?_
  refine WOps.r (G.load1 T.one77 rfl (cellsAt.at hc32 3 rfl)) rfl ?_
  refine WOps.p (G.assign rfl) rfl ?_
  refine WOps.p (G.assign rfl) rfl ?_
  refine WOps.nil ?_
  refine WEx.then_ ?_
  refine WCode.forget (l' := [(4, .slice x21.value.1 x21.value.2.1 x21.value.2.2), (5, .bool true)]) ⟨rfl, rfl, trivial⟩ ?_
  refine WCode.ret ?_
  refine WEx.then_ret ?_
  obtain rfl := some_eq hF
  refine WEx.ret2 rfl rfl rfl ?_
  exact ⟨rfl, St.keep (As := []) S19⟩
 ·
  refine WCode.cond_f (kb (b := decide (0 ≤ t15)) rfl (decide_eq_false h20)) ?_
  refine WCode.skip ?_
  refine WEx.then_ ?_
  refine WCode.forget (l' := []) trivial ?_
  refine WCode.seq ?_
  refine WCode.region ?_
  refine WOps.p (G.assign rfl) rfl ?_
  refine WOps.nil ?_
  refine WEx.then_ ?_
  refine WCode.seq ?_
  refine WCode.region ?_
  refine WOps.p (G.move rfl) rfl ?_
  refine WOps.p (G.assign rfl) rfl ?_
  refine WOps.p (G.assign rfl) rfl ?_
  refine WOps.nil ?_
  refine WEx.then_ ?_
  refine WCode.ret ?_
  obtain rfl := some_eq hF
  refine WEx.ret2 rfl rfl rfl ?_
  exact ⟨rfl, St.keep (As := []) S19⟩

def st_Put (k : Nat) (a0 : Two____string_) (a1 : Two) (a2 : Hs) : Option (Int × Two____string_) := (Option.bind (st_place k a0 a1) fun t17 => (if 0 ≤ t17 then (Option.bind (idx a0.pairs t17) fun x25 => (Option.bind (upd a0.pairs t17 (⟨x25.key, a2⟩ : Two____string_160)) fun l39 => (some (0, (⟨a0.most, l39⟩ : Two____string_))))) else (if (a0.pairs.length : Int) = a0.most then (some (140, a0)) else (Option.bind (cat a0.pairs ([(⟨a1, a2⟩ : Two____string_160)] : List Two____string_160)) fun l65 => (some (0, (⟨a0.most, l65⟩ : Two____string_)))))))
set_option maxRecDepth 100000 in
set_option maxHeartbeats 1000000 in
theorem st_Put_calls (k : Nat) (a0 : Two____string_) {p0 : Nat} {G0 : Grp} (a1 : Two) (a2 : Hs) {w : World} (hO0 : ObjO 151 Two____string_.rp p0 a0 G0) {r_ : Int × Two____string_} (h_ : st_Put k a0 a1 a2 = some r_) (hp_ : Hp w ([G0]).flatten) :
    Calls Try.prog 44 [.pointer (some ⟨p0, 0, none⟩), .agg #[.int .u8 a1.a.e0, .int .u8 a1.a.e1, .bool a1.b], .slice a2.1 a2.2.1 a2.2.2].toArray w fun e w' => ∃ Go0' : Grp, e = .returned (.int .i64 r_.1) ∧ ObjO 151 Two____string_.rp p0 (r_.2) Go0' ∧ St w (KS [G0]) w' [Go0'] := by
 have hF := h_
 clear h_
 unfold st_Put at hF
 have S := St.initK [G0] hp_
 obtain ⟨cs1, G2, ho3, hg4⟩ := hO0
 obtain ⟨A5, c6, G7, rfl, hO8, hq9⟩ := ho3
 have S10 : St _ _ _ [[(p0, .cells #[.int .i64 a0.most, .slice A5 a0.pairs.length c6] 151 (0, 0))], G7] := S.objs (by rw [hg4, hq9]; simp)
 refine enter 43 [(0, .pointer (some ⟨p0, 0, none⟩)), (1, .agg #[.int .u8 a1.a.e0, .int .u8 a1.a.e1, .bool a1.b]), (2, .slice a2.1 a2.2.1 a2.2.2)] Try.func44 rfl rfl rfl rfl ?_
 refine WCode.seq ?_
 refine WCode.region ?_
 obtain ⟨b11, w12, E13, S14, X15, L16⟩ := St.box S10 Try.prog 76 (.agg #[.int .u8 a1.a.e0, .int .u8 a1.a.e1, .bool a1.b])
 change St _ _ _ [[(b11, .cells #[.int .u8 a1.a.e0, .int .u8 a1.a.e1, .bool a1.b] 76 (0, 0))], [(p0, .cells #[.int .i64 a0.most, .slice A5 a0.pairs.length c6] 151 (0, 0))], G7] at S14
 refine WOps.e (E13 rfl) rfl ?_
 refine WOps.p (G.assign rfl) rfl ?_
 refine WOps.nil ?_
 refine WEx.then_ ?_
 refine WCode.seq ?_
 refine WCode.seq ?_
 refine WCode.region ?_
 refine WOps.p (G.move rfl) rfl ?_
 refine WOps.r (G.loada T.agg76_3 rfl (cs := [.int .u8 a1.a.e0, .int .u8 a1.a.e1, .bool a1.b]) (cellsAt.of_blk (S14.blk 0 rfl) rfl)) rfl ?_
 obtain ⟨t17, hc18, hF⟩ := bind_some hF
 have S19 := (S14.front 2 rfl).front 2 rfl
 change St _ _ _ [[(p0, .cells #[.int .i64 a0.most, .slice A5 a0.pairs.length c6] 151 (0, 0))], G7, [(b11, .cells #[.int .u8 a1.a.e0, .int .u8 a1.a.e1, .bool a1.b] 76 (0, 0))]] at S19
 have hP20 : PtR 151 Two____string_.rp w12 (KS [[(p0, .cells #[.int .i64 a0.most, .slice A5 a0.pairs.length c6] 151 (0, 0))], G7]) p0 a0 := ⟨_, S19.blk 0 rfl, KS_at 0 rfl (by simp [keys]), ⟨A5, c6, rfl, ((hO8.rd (fun b o hb => S19.grp 1 rfl hb)).mono (fun b hb => KS_at 1 rfl hb))⟩⟩
 refine WOps.call T.call86 (evs_cons rfl (evs_cons rfl evs_nil)) rfl ?_
 refine (st_place_calls k a0 a1 hP20 (St.outN (Bs := []) (As := [[(p0, .cells #[.int .i64 a0.most, .slice A5 a0.pairs.length c6] 151 (0, 0))], G7]) S19) hc18).mono ?_
 rintro _ w21 ⟨rfl, T22⟩
 have S23 := St.callN (As := []) S19 T22
 change St _ _ _ [[(p0, .cells #[.int .i64 a0.most, .slice A5 a0.pairs.length c6] 151 (0, 0))], G7, [(b11, .cells #[.int .u8 a1.a.e0, .int .u8 a1.a.e1, .bool a1.b] 76 (0, 0))]] at S23
 refine ⟨_, rfl, ?_⟩
 refine WOps.p (G.assign rfl) rfl ?_
 refine WOps.nil ?_
 refine WEx.then_ ?_
 refine WCode.seq ?_
 refine WCode.region ?_
 refine WOps.p (G.move rfl) rfl ?_
 refine WOps.p (G.geq rfl rfl rfl) rfl ?_
 refine WOps.nil ?_
 refine WEx.then_ ?_
 rcases ite_some hF with ⟨h24, hF⟩ | ⟨h24, hF⟩
 ·
  refine WCode.cond_t (kb (b := decide (0 ≤ t17)) rfl (decide_eq_true h24)) ?_
  refine WCode.seq ?_
  refine WCode.region ?_
  refine WOps.p (G.move rfl) rfl ?_
  refine WOps.p (G.nilp rfl) rfl ?_
  refine WOps.p (G.field T.fld151_1 rfl (show 0 + 1 = 1 from rfl)) rfl ?_
  refine WOps.r (G.load1 T.one149 rfl (cell_blk (S23.blk 0 rfl) rfl)) rfl ?_
  refine WOps.p (G.move rfl) rfl ?_
  refine WOps.p (G.move rfl) rfl ?_
  obtain ⟨x25, hc26, hF⟩ := bind_some hF
  obtain ⟨j27, ej28, hj29, hl30⟩ := idx_spec hc26
  obtain ⟨b31, o32, cs33, eA34, hf35, hc36, hr37⟩ := SlR.at_ (hO8.rd (fun b o hb => S23.grp 1 rfl hb)) hj29
  have hq38 : cs33 = [.int .u8 x25.key.a.e0, .int .u8 x25.key.a.e1, .bool x25.key.b, .slice x25.value.1 x25.value.2.1 x25.value.2.2] := hr37
  subst hq38
  change cellsAt _ _ (o32 + j27 * 4) [.int .u8 x25.key.a.e0, .int .u8 x25.key.a.e1, .bool x25.key.b, .slice x25.value.1 x25.value.2.1 x25.value.2.2] at hc36
  refine WOps.p (G.idx T.el149 rfl eA34 rfl ej28 hl30) rfl ?_
  refine WOps.p (G.field T.fld160_1 rfl (show o32 + j27 * 4 + 3 = o32 + j27 * 4 + 3 from rfl)) rfl ?_
  obtain ⟨l39, hc40, hF⟩ := bind_some hF
  have e41 := upd_spec' hc40 ej28
  have S42 := S23.front 1 rfl
  change St _ _ _ [G7, [(p0, .cells #[.int .i64 a0.most, .slice A5 a0.pairs.length c6] 151 (0, 0))], [(b11, .cells #[.int .u8 a1.a.e0, .int .u8 a1.a.e1, .bool a1.b] 76 (0, 0))]] at S42
  obtain ⟨w43, G44, E45, hO46, S47⟩ := St.storeF (P := Try.prog) (T := 77) S42 hO8 T.size77_1 hj29 eA34 (⟨x25.key, a2⟩ : Two____string_160) (v := .slice a2.1 a2.2.1 a2.2.2) [.int .u8 x25.key.a.e0, .int .u8 x25.key.a.e1, .bool x25.key.b] [.slice x25.value.1 x25.value.2.1 x25.value.2.2] [] rfl rfl rfl
  rw [← e41] at hO46
  have hl48 : (a0.pairs).length = l39.length := by rw [e41, List.length_set]
  try rw [hl48] at S47
  try rw [hl48]
  change St _ _ _ [G44, [(p0, .cells #[.int .i64 a0.most, .slice A5 l39.length c6] 151 (0, 0))], [(b11, .cells #[.int .u8 a1.a.e0, .int .u8 a1.a.e1, .bool a1.b] 76 (0, 0))]] at S47
  refine WOps.u (E45 rfl rfl) ?_
  refine WOps.nil ?_
  refine WEx.then_ ?_
  refine WCode.forget (l' := []) trivial ?_
  refine WCode.seq ?_
  refine WCode.region ?_
  refine WOps.p (G.assign rfl) rfl ?_
  refine WOps.nil ?_
  refine WEx.then_ ?_
  refine WCode.ret ?_
  refine WEx.then_ret ?_
  obtain rfl := some_eq hF
  refine WEx.ret1 rfl rfl ?_
  have S49 := S47.front 1 rfl
  change St _ _ _ [[(p0, .cells #[.int .i64 a0.most, .slice A5 l39.length c6] 151 (0, 0))], G44, [(b11, .cells #[.int .u8 a1.a.e0, .int .u8 a1.a.e1, .bool a1.b] 76 (0, 0))]] at S49
  have hO50 : ObjO 151 Two____string_.rp p0 (⟨a0.most, l39⟩ : Two____string_) ([(p0, .cells #[.int .i64 a0.most, .slice A5 l39.length c6] 151 (0, 0))] ++ (G44)) := ⟨_, _, ⟨A5, c6, G44, rfl, hO46, rfl⟩, rfl⟩
  have S51 : St _ _ _ [[(p0, .cells #[.int .i64 a0.most, .slice A5 l39.length c6] 151 (0, 0))] ++ (G44), [(b11, .cells #[.int .u8 a1.a.e0, .int .u8 a1.a.e1, .bool a1.b] 76 (0, 0))]] := S49.objs (by simp)
  exact ⟨[(p0, .cells #[.int .i64 a0.most, .slice A5 l39.length c6] 151 (0, 0))] ++ (G44), rfl, hO50, St.keep (As := [[(p0, .cells #[.int .i64 a0.most, .slice A5 l39.length c6] 151 (0, 0))] ++ (G44)]) S51⟩
 ·
  refine WCode.cond_f (kb (b := decide (0 ≤ t17)) rfl (decide_eq_false h24)) ?_
  refine WCode.skip ?_
  refine WEx.then_ ?_
  refine WCode.seq ?_
  refine WCode.seq ?_
  refine WCode.draw [⟨0, 0, []⟩, ⟨1, 0, []⟩, ⟨2, 0, []⟩, ⟨5, 0, []⟩, ⟨6, 0, []⟩, ⟨7, 0, []⟩, ⟨3, 1, [4, 9]⟩, ⟨4, 0, []⟩, ⟨8, 1, [9]⟩, ⟨9, 0, []⟩] T.mixed (by kernel_rfl) (by intro _ _ d _ _ h; cases d <;> exact h) rfl (by kernel_rfl) ?_
  have S52 := S23.drew
  generalize w21.drew = w53 at *
  refine WD.p rfl (G.move rfl) rfl ?_
  refine WD.p rfl (G.nilp rfl) rfl ?_
  refine WD.p rfl (G.field T.fld151_1 rfl (show 0 + 1 = 1 from rfl)) rfl ?_
  refine WD.p rfl (G.move rfl) rfl ?_
  refine WD.p rfl (G.nilp rfl) rfl ?_
  refine WD.p rfl (G.field T.fld151_0 rfl (show 0 + 0 = 0 from rfl)) rfl ?_
  refine WD.r rfl (G.load1 T.one149 rfl (cell_blk (S52.blk 0 rfl) rfl)) rfl ?_
  refine WD.p rfl (G.len T.el149 rfl) rfl ?_
  refine WD.r rfl (G.load1 T.one3 rfl (cell_blk (S52.blk 0 rfl) rfl)) rfl ?_
  refine WD.p rfl (G.eql rfl rfl rfl) rfl ?_
  refine WD.nil ?_
  refine WEx.then_ ?_
  refine WCode.forget (l' := [(0, .pointer (some ⟨p0, 0, none⟩)), (2, .slice a2.1 a2.2.1 a2.2.2), (4, .pointer (some ⟨b11, 0, none⟩)), (30, .bool (decide ((a0.pairs.length : Int) = a0.most)))]) ⟨rfl, rfl, rfl, rfl, trivial⟩ ?_
  rcases ite_some hF with ⟨h54, hF⟩ | ⟨h54, hF⟩
  ·
   refine WCode.cond_t (kb (b := decide ((a0.pairs.length : Int) = a0.most)) rfl (decide_eq_true h54)) ?_
   refine WCode.seq ?_
   refine WCode.region ?_
   refine WOps.p (G.assign rfl) rfl ?_
   refine WOps.nil ?_
   refine WEx.then_ ?_
   refine WCode.ret ?_
   refine WEx.then_ret ?_
   obtain rfl := some_eq hF
   refine WEx.ret1 rfl rfl ?_
   have hO55 : ObjO 151 Two____string_.rp p0 a0 ([(p0, .cells #[.int .i64 a0.most, .slice A5 a0.pairs.length c6] 151 (0, 0))] ++ (G7)) := ⟨_, _, ⟨A5, c6, G7, rfl, hO8, rfl⟩, rfl⟩
   have S56 : St _ _ _ [[(p0, .cells #[.int .i64 a0.most, .slice A5 a0.pairs.length c6] 151 (0, 0))] ++ (G7), [(b11, .cells #[.int .u8 a1.a.e0, .int .u8 a1.a.e1, .bool a1.b] 76 (0, 0))]] := S52.objs (by simp)
   exact ⟨[(p0, .cells #[.int .i64 a0.most, .slice A5 a0.pairs.length c6] 151 (0, 0))] ++ (G7), rfl, hO55, St.keep (As := [[(p0, .cells #[.int .i64 a0.most, .slice A5 a0.pairs.length c6] 151 (0, 0))] ++ (G7)]) S56⟩
  ·
   refine WCode.cond_f (kb (b := decide ((a0.pairs.length : Int) = a0.most)) rfl (decide_eq_false h54)) ?_
   refine WCode.skip ?_
   refine WEx.then_ ?_
   refine WCode.seq ?_
   refine WCode.draw [⟨0, 0, []⟩, ⟨1, 0, []⟩, ⟨2, 0, []⟩, ⟨3, 0, []⟩, ⟨6, 0, []⟩, ⟨4, 1, [9, 10, 11, 12]⟩, ⟨5, 1, [7, 8, 9, 10, 11, 12]⟩, ⟨7, 0, []⟩, ⟨8, 2, []⟩, ⟨9, 2, []⟩, ⟨10, 0, []⟩, ⟨11, 0, []⟩, ⟨12, 2, []⟩] T.mixed (by kernel_rfl) (by intro _ _ d _ _ h; cases d <;> exact h) rfl (by kernel_rfl) ?_
   have S57 := S52.drew
   generalize w53.drew = w58 at *
   refine WD.p rfl (G.move rfl) rfl ?_
   refine WD.p rfl (G.move rfl) rfl ?_
   refine WD.p rfl (G.nilp rfl) rfl ?_
   refine WD.p rfl (G.field T.fld151_1 rfl (show 0 + 1 = 1 from rfl)) rfl ?_
   refine WD.p rfl (G.move rfl) rfl ?_
   refine WD.r rfl (G.load1 T.one149 rfl (cell_blk (S57.blk 0 rfl) rfl)) rfl ?_
   refine WD.r rfl (G.loada T.agg76_3 rfl (cs := [.int .u8 a1.a.e0, .int .u8 a1.a.e1, .bool a1.b]) (cellsAt.of_blk (S57.blk 2 rfl) rfl)) rfl ?_
   refine WD.p rfl (G.build (cells := #[.int .u8 a1.a.e0, .int .u8 a1.a.e1, .bool a1.b, .slice a2.1 a2.2.1 a2.2.2]) (evp_spec (evp_cons rfl (evp_cons rfl evp_nil))) (by kernel_rfl)) rfl ?_
   obtain ⟨b59, w60, E61, S62, X63, L64⟩ := St.lit S57 (P := Try.prog) (t := 149) (e := 160) (n := 1) (vs := [(0, .agg #[.int .u8 a1.a.e0, .int .u8 a1.a.e1, .bool a1.b, .slice a2.1 a2.2.1 a2.2.2])]) (cs := #[.int .u8 a1.a.e0, .int .u8 a1.a.e1, .bool a1.b, .slice a2.1 a2.2.1 a2.2.2]) (by kernel_rfl)
   change St _ _ _ [[(b59, .cells #[.int .u8 a1.a.e0, .int .u8 a1.a.e1, .bool a1.b, .slice a2.1 a2.2.1 a2.2.2] 160 (0, 0))], [(p0, .cells #[.int .i64 a0.most, .slice A5 a0.pairs.length c6] 151 (0, 0))], G7, [(b11, .cells #[.int .u8 a1.a.e0, .int .u8 a1.a.e1, .bool a1.b] 76 (0, 0))]] at S62
   refine WD.e rfl (E61 (evp_cons rfl evp_nil)) rfl ?_
   obtain ⟨l65, hc66, hF⟩ := bind_some hF
   have S67 := S62.front 2 rfl
   change St _ _ _ [G7, [(b59, .cells #[.int .u8 a1.a.e0, .int .u8 a1.a.e1, .bool a1.b, .slice a2.1 a2.2.1 a2.2.2] 160 (0, 0))], [(p0, .cells #[.int .i64 a0.most, .slice A5 a0.pairs.length c6] 151 (0, 0))], [(b11, .cells #[.int .u8 a1.a.e0, .int .u8 a1.a.e1, .bool a1.b] 76 (0, 0))]] at S67
   obtain ⟨A68, c69, G70, w71, E72, hO73, S75, hk76⟩ := St.appP (P := Try.prog) (r := Two____string_160.rp) (M := ([(⟨a1, a2⟩ : Two____string_160)] : List Two____string_160)) S67 T.elt149 rfl hO8 (Rd.of_blk (S67.blk 1 rfl) (n := 1) (sz := 4) rfl) ⟨_, _, [], [], rfl, rfl, ⟨rfl, rfl⟩, ⟨rfl, rfl⟩⟩ rfl hc66
   change St _ _ _ [G70, [(b59, .cells #[.int .u8 a1.a.e0, .int .u8 a1.a.e1, .bool a1.b, .slice a2.1 a2.2.1 a2.2.2] 160 (0, 0))], [(p0, .cells #[.int .i64 a0.most, .slice A5 a0.pairs.length c6] 151 (0, 0))], [(b11, .cells #[.int .u8 a1.a.e0, .int .u8 a1.a.e1, .bool a1.b] 76 (0, 0))]] at S75
   refine WD.e rfl (E72 rfl rfl) rfl ?_
   refine WD.p rfl (G.nilp rfl) rfl ?_
   refine WD.p rfl (G.field T.fld151_1 rfl (show 0 + 1 = 1 from rfl)) rfl ?_
   obtain ⟨w77, E78, S79⟩ := St.store (P := Try.prog) S75 2 149 (.slice A68 l65.length c69) (off := 1) (cur' := #[.int .i64 a0.most, .slice A68 l65.length c69]) rfl T.size149_1 rfl rfl rfl
   change St _ _ _ [G70, [(b59, .cells #[.int .u8 a1.a.e0, .int .u8 a1.a.e1, .bool a1.b, .slice a2.1 a2.2.1 a2.2.2] 160 (0, 0))], [(p0, .cells #[.int .i64 a0.most, .slice A68 l65.length c69] 151 (0, 0))], [(b11, .cells #[.int .u8 a1.a.e0, .int .u8 a1.a.e1, .bool a1.b] 76 (0, 0))]] at S79
   refine WD.u rfl (E78 rfl rfl) ?_
   refine WD.nil ?_
   refine WEx.then_ ?_
   refine WCode.forget (l' := []) trivial ?_
   refine WCode.seq ?_
   refine WCode.region ?_
   refine WOps.p (G.assign rfl) rfl ?_
   refine WOps.nil ?_
   refine WEx.then_ ?_
   refine WCode.ret ?_
   obtain rfl := some_eq hF
   refine WEx.ret1 rfl rfl ?_
   have S80 := S79.front 2 rfl
   change St _ _ _ [[(p0, .cells #[.int .i64 a0.most, .slice A68 l65.length c69] 151 (0, 0))], G70, [(b59, .cells #[.int .u8 a1.a.e0, .int .u8 a1.a.e1, .bool a1.b, .slice a2.1 a2.2.1 a2.2.2] 160 (0, 0))], [(b11, .cells #[.int .u8 a1.a.e0, .int .u8 a1.a.e1, .bool a1.b] 76 (0, 0))]] at S80
   have hO81 : ObjO 151 Two____string_.rp p0 (⟨a0.most, l65⟩ : Two____string_) ([(p0, .cells #[.int .i64 a0.most, .slice A68 l65.length c69] 151 (0, 0))] ++ (G70)) := ⟨_, _, ⟨A68, c69, G70, rfl, hO73, rfl⟩, rfl⟩
   have S82 : St _ _ _ [[(p0, .cells #[.int .i64 a0.most, .slice A68 l65.length c69] 151 (0, 0))] ++ (G70), [(b59, .cells #[.int .u8 a1.a.e0, .int .u8 a1.a.e1, .bool a1.b, .slice a2.1 a2.2.1 a2.2.2] 160 (0, 0))], [(b11, .cells #[.int .u8 a1.a.e0, .int .u8 a1.a.e1, .bool a1.b] 76 (0, 0))]] := S80.objs (by simp)
   exact ⟨[(p0, .cells #[.int .i64 a0.most, .slice A68 l65.length c69] 151 (0, 0))] ++ (G70), rfl, hO81, St.keep (As := [[(p0, .cells #[.int .i64 a0.most, .slice A68 l65.length c69] 151 (0, 0))] ++ (G70)]) S82⟩

end Go.Proofs.Ytoahkjehjmbojaa
