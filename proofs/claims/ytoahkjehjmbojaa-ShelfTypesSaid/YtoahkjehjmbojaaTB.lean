/- Functions and their walks (printed by auto.py over the engine). -/
import Derived.Test.YtoahkjehjmbojaaProg
import Derived.Test.YtoahkjehjmbojaaTA
namespace Go.Proofs.Ytoahkjehjmbojaa
open Go Go.Eng
set_option linter.unusedSimpArgs false
set_option linter.unusedVariables false

theorem T.agg163_2 : isAggT Try.prog 163 2 = true := by kernel_rfl
theorem T.agg166_1 : isAggT Try.prog 166 1 = true := by kernel_rfl
theorem T.agg85_0 : isAggT Try.prog 85 0 = true := by kernel_rfl
theorem T.call110 : Callable Try.prog 110 := Callable.mk Try.func110 (by kernel_rfl) (by kernel_rfl)
theorem T.call111 : Callable Try.prog 111 := Callable.mk Try.func111 (by kernel_rfl) (by kernel_rfl)
theorem T.call112 : Callable Try.prog 112 := Callable.mk Try.func112 (by kernel_rfl) (by kernel_rfl)
theorem T.call113 : Callable Try.prog 113 := Callable.mk Try.func113 (by kernel_rfl) (by kernel_rfl)
theorem T.call87 : Callable Try.prog 87 := Callable.mk Try.func87 (by kernel_rfl) (by kernel_rfl)
theorem T.call88 : Callable Try.prog 88 := Callable.mk Try.func88 (by kernel_rfl) (by kernel_rfl)
theorem T.el152 : slEl Try.prog 152 = some 2 := by kernel_rfl
theorem T.el155 : slEl Try.prog 155 = some 1 := by kernel_rfl
theorem T.elt152 : Elt Try.prog 152 163 2 24 := elt_mk (z := .agg #[.string ⟨#[]⟩, .pointer none]) Try.underlying152 (by kernel_rfl) rfl
theorem T.elt155 : Elt Try.prog 155 166 1 2 := elt_mk (z := .agg #[.bool false]) Try.underlying155 (by kernel_rfl) rfl
theorem T.fld154_0 : fldOff Try.prog 154 0 = some 0 := by kernel_rfl
theorem T.fld154_1 : fldOff Try.prog 154 1 = some 1 := by kernel_rfl
theorem T.fld157_0 : fldOff Try.prog 157 0 = some 0 := by kernel_rfl
theorem T.fld157_1 : fldOff Try.prog 157 1 = some 1 := by kernel_rfl
theorem T.fld163_0 : fldOff Try.prog 163 0 = some 0 := by kernel_rfl
theorem T.fld163_1 : fldOff Try.prog 163 1 = some 1 := by kernel_rfl
theorem T.fld166_0 : fldOff Try.prog 166 0 = some 0 := by kernel_rfl
theorem T.one152 : isOneT Try.prog 152 = true := by kernel_rfl
theorem T.one155 : isOneT Try.prog 155 = true := by kernel_rfl
theorem T.one4 : isOneT Try.prog 4 = true := by kernel_rfl
theorem T.one81 : isOneT Try.prog 81 = true := by kernel_rfl
theorem T.one9 : isOneT Try.prog 9 = true := by kernel_rfl
theorem T.size152_1 : sizeT Try.prog 152 = some 1 := by kernel_rfl
theorem T.size155_1 : sizeT Try.prog 155 = some 1 := by kernel_rfl
theorem T.size81_1 : sizeT Try.prog 81 = some 1 := by kernel_rfl
theorem T.size85_0 : sizeT Try.prog 85 = some 0 := by kernel_rfl
theorem T.zero85 : zeroOf Try.prog 85 = some (.agg #[]) := by kernel_rfl
structure Pair_string___int_ where
  key : List UInt8
  value : Option Addr
  deriving DecidableEq
def Pair_string___int_.cs (x : Pair_string___int_) : List Value := [.string (bs x.key), .pointer x.value]
def Pair_string___int_.rp : Rp Pair_string___int_ := .plain Pair_string___int_.cs 2 (fun _ => rfl) (fun _ => rfl)
structure Shelf_string___int_ where
  most : Int
  pairs : List Pair_string___int_
  deriving DecidableEq
def Shelf_string___int_.rp : Rp Shelf_string___int_ where
  sz := 2
  rd := fun w F x cs => ∃ A1 : Option Addr, ∃ c1 : Nat, cs = [.int .i64 x.most, .slice A1 (x.pairs).length c1] ∧ SlR Pair_string___int_.rp w F A1 c1 (x.pairs)
  own := fun x cs G => ∃ A1 : Option Addr, ∃ c1 : Nat, ∃ G1 : Grp, cs = [.int .i64 x.most, .slice A1 (x.pairs).length c1] ∧ SlO 163 Pair_string___int_.rp (.slice A1 (x.pairs).length c1) (x.pairs) G1 ∧ G = G1
  len := by rintro _ _ _ _ ⟨_, _, rfl, _⟩; rfl
  one := by rintro _ _ _ _ ⟨_, _, rfl, _⟩; exact one_of_all rfl
  lenO := by rintro _ _ _ ⟨_, _, _, rfl, _⟩; rfl
  oneO := by rintro _ _ _ ⟨_, _, _, rfl, _⟩; exact one_of_all rfl
  ext := by rintro _ _ _ _ _ ⟨A1, c1, rfl, h1⟩ hE; exact ⟨A1, c1, rfl, h1.ext hE⟩
  mono := by rintro _ _ _ _ _ ⟨A1, c1, rfl, h1⟩ hF; exact ⟨A1, c1, rfl, h1.mono hF⟩
  low := by
    rintro w x cs G ⟨A1, c1, G1, rfl, h1, hGe⟩ hG
    exact ⟨A1, c1, rfl, (h1.rd (fun b o hb => hG b o (by rw [hGe]; simp [hb]))).mono (fun b (hb : b ∈ keys G1) => show b ∈ keys G by rw [hGe]; simp [keys_append, hb])⟩
structure S85 where
  deriving DecidableEq
def S85.cs (x : S85) : List Value := []
def S85.rp : Rp S85 := .plain S85.cs 0 (fun _ => rfl) (fun _ => rfl)
structure Pair_bool__struct___ where
  key : Bool
  value : S85
  deriving DecidableEq
def Pair_bool__struct___.cs (x : Pair_bool__struct___) : List Value := [.bool x.key]
def Pair_bool__struct___.rp : Rp Pair_bool__struct___ := .plain Pair_bool__struct___.cs 1 (fun _ => rfl) (fun _ => rfl)
structure Shelf_bool__struct___ where
  most : Int
  pairs : List Pair_bool__struct___
  deriving DecidableEq
def Shelf_bool__struct___.rp : Rp Shelf_bool__struct___ where
  sz := 2
  rd := fun w F x cs => ∃ A1 : Option Addr, ∃ c1 : Nat, cs = [.int .i64 x.most, .slice A1 (x.pairs).length c1] ∧ SlR Pair_bool__struct___.rp w F A1 c1 (x.pairs)
  own := fun x cs G => ∃ A1 : Option Addr, ∃ c1 : Nat, ∃ G1 : Grp, cs = [.int .i64 x.most, .slice A1 (x.pairs).length c1] ∧ SlO 166 Pair_bool__struct___.rp (.slice A1 (x.pairs).length c1) (x.pairs) G1 ∧ G = G1
  len := by rintro _ _ _ _ ⟨_, _, rfl, _⟩; rfl
  one := by rintro _ _ _ _ ⟨_, _, rfl, _⟩; exact one_of_all rfl
  lenO := by rintro _ _ _ ⟨_, _, _, rfl, _⟩; rfl
  oneO := by rintro _ _ _ ⟨_, _, _, rfl, _⟩; exact one_of_all rfl
  ext := by rintro _ _ _ _ _ ⟨A1, c1, rfl, h1⟩ hE; exact ⟨A1, c1, rfl, h1.ext hE⟩
  mono := by rintro _ _ _ _ _ ⟨A1, c1, rfl, h1⟩ hF; exact ⟨A1, c1, rfl, h1.mono hF⟩
  low := by
    rintro w x cs G ⟨A1, c1, G1, rfl, h1, hGe⟩ hG
    exact ⟨A1, c1, rfl, (h1.rd (fun b o hb => hG b o (by rw [hGe]; simp [hb]))).mono (fun b (hb : b ∈ keys G1) => show b ∈ keys G by rw [hGe]; simp [keys_append, hb])⟩


def sp_New (k : Nat) (a0 : Int) : Option ((Option Shelf_string___int_) × Int) := (if a0 < 0 then (some (none, 1)) else (if 1048576 < a0 then (some (none, 1)) else (some (some (⟨a0, []⟩ : Shelf_string___int_), 0))))
set_option maxRecDepth 100000 in
set_option maxHeartbeats 1000000 in
theorem sp_New_calls (k : Nat) (a0 : Int) {w : World} {r_ : (Option Shelf_string___int_) × Int} (h_ : sp_New k a0 = some r_) :
    Calls Try.prog 42 [.int .i64 a0].toArray w fun e w' => ∃ v0' : Value, ∃ G0' : Grp, e = .returned (.tuple #[v0', .int .i64 r_.2]) ∧ OptO 154 Shelf_string___int_.rp v0' (r_.1) G0' ∧ St w (KS []) w' [G0'] := by
 have hF := h_
 clear h_
 unfold sp_New at hF
 have S := St.ofFalse (As := []) (St.init0 w)
 refine enter 13 [(0, .int .i64 a0)] Try.func42 rfl rfl rfl rfl ?_
 refine WCode.seq ?_
 refine WCode.region ?_
 refine WOps.p (G.assign rfl) rfl ?_
 refine WOps.p (G.assign rfl) rfl ?_
 refine WOps.nil ?_
 refine WEx.then_ ?_
 refine WCode.seq ?_
 refine WCode.seq ?_
 refine WCode.region ?_
 refine WOps.p (G.move rfl) rfl ?_
 refine WOps.p (G.lss rfl rfl rfl) rfl ?_
 refine WOps.p (G.move rfl) rfl ?_
 rcases ite_some hF with ⟨h1, hF⟩ | ⟨h1, hF⟩
 ·
  refine WOps.off rfl (kbl (b := decide (a0 < 0)) rfl (decide_eq_true h1)) rfl rfl ?_
  refine WOps.off rfl (kbl (b := decide (a0 < 0)) rfl (decide_eq_true h1)) rfl rfl ?_
  refine WOps.p (G.pick_t (kb (b := decide (a0 < 0)) rfl (decide_eq_true h1)) rfl) rfl ?_
  refine WOps.nil ?_
  refine WEx.then_ ?_
  refine WCode.cond_t rfl ?_
  refine WCode.seq ?_
  refine WCode.region ?_
  refine WOps.p (G.assign rfl) rfl ?_
  refine WOps.p (G.assign rfl) rfl ?_
  refine WOps.nil ?_
  refine WEx.then_ ?_
  refine WCode.ret ?_
  refine WEx.then_ret ?_
  obtain rfl := some_eq hF
  refine WEx.ret2 rfl rfl rfl ?_
  have S2 := S.emp
  exact ⟨.pointer none, ([] : Grp), rfl, ⟨rfl, rfl⟩, St.keep (As := [([] : Grp)]) S2⟩
 ·
  refine WOps.on rfl (kbl (b := decide (a0 < 0)) rfl (decide_eq_false h1)) ?_
  refine WOps.p (G.move rfl) rfl ?_
  refine WOps.on rfl (kbl (b := decide (a0 < 0)) rfl (decide_eq_false h1)) ?_
  refine WOps.p (G.gtr rfl rfl rfl) rfl ?_
  refine WOps.p (G.pick_f (kb (b := decide (a0 < 0)) rfl (decide_eq_false h1)) rfl) rfl ?_
  refine WOps.nil ?_
  refine WEx.then_ ?_
  rcases ite_some hF with ⟨h3, hF⟩ | ⟨h3, hF⟩
  ·
   refine WCode.cond_t (kb (b := decide (1048576 < a0)) rfl (decide_eq_true h3)) ?_
   refine WCode.seq ?_
   refine WCode.region ?_
   refine WOps.p (G.assign rfl) rfl ?_
   refine WOps.p (G.assign rfl) rfl ?_
   refine WOps.nil ?_
   refine WEx.then_ ?_
   refine WCode.ret ?_
   refine WEx.then_ret ?_
   obtain rfl := some_eq hF
   refine WEx.ret2 rfl rfl rfl ?_
   have S4 := S.emp
   exact ⟨.pointer none, ([] : Grp), rfl, ⟨rfl, rfl⟩, St.keep (As := [([] : Grp)]) S4⟩
  ·
   refine WCode.cond_f (kb (b := decide (1048576 < a0)) rfl (decide_eq_false h3)) ?_
   refine WCode.skip ?_
   refine WEx.then_ ?_
   refine WCode.seq ?_
   refine WCode.region ?_
   refine WOps.p (G.move rfl) rfl ?_
   refine WOps.p (G.build (cells := #[.int .i64 a0, .slice none 0 0]) (evp_spec (evp_cons rfl evp_nil)) (by kernel_rfl)) rfl ?_
   obtain ⟨b5, w6, E7, S8, X9, L10⟩ := St.box S Try.prog 154 (.agg #[.int .i64 a0, .slice none 0 0])
   change St _ _ _ [[(b5, .cells #[.int .i64 a0, .slice none 0 0] 154 (0, 0))]] at S8
   refine WOps.e (E7 rfl) rfl ?_
   refine WOps.p (G.assign rfl) rfl ?_
   refine WOps.p (G.assign rfl) rfl ?_
   refine WOps.nil ?_
   refine WEx.then_ ?_
   refine WCode.forget (l' := [(2, .pointer (some ⟨b5, 0, none⟩)), (3, .int .i64 0)]) ⟨rfl, rfl, trivial⟩ ?_
   refine WCode.ret ?_
   obtain rfl := some_eq hF
   refine WEx.ret2 rfl rfl rfl ?_
   have S11 := S8.emp
   have S13 := S11.front 1 rfl
   change St _ _ _ [[(b5, .cells #[.int .i64 a0, .slice none 0 0] 154 (0, 0))], ([] : Grp)] at S13
   have hO14 : ObjO 154 Shelf_string___int_.rp b5 (⟨a0, []⟩ : Shelf_string___int_) ([(b5, .cells #[.int .i64 a0, .slice none 0 0] 154 (0, 0))] ++ (([] : Grp))) := ⟨_, _, ⟨none, 0, ([] : Grp), rfl, (SlO.nil 163 Pair_string___int_.rp), rfl⟩, rfl⟩
   have S15 : St _ _ _ [[(b5, .cells #[.int .i64 a0, .slice none 0 0] 154 (0, 0))] ++ (([] : Grp))] := S13.objs (by simp)
   exact ⟨(.pointer (some ⟨b5, 0, none⟩)), [(b5, .cells #[.int .i64 a0, .slice none 0 0] 154 (0, 0))] ++ (([] : Grp)), rfl, ⟨_, rfl, hO14⟩, St.keep (As := [[(b5, .cells #[.int .i64 a0, .slice none 0 0] 154 (0, 0))] ++ (([] : Grp))]) S15⟩

def sp_clo (k : Nat) (a0 : Pair_string___int_) (bc0 : List UInt8) : Option Bool := (some (decide (a0.key = bc0)))
set_option maxRecDepth 100000 in
set_option maxHeartbeats 1000000 in
theorem sp_clo_calls (k : Nat) (a0 : Pair_string___int_) (bc0 : List UInt8) {qc0 : Nat} {w : World} (hBc0 : w.heap[qc0]? = some (.cells #[.string (bs bc0)] 9 (0, 0))) (hNc0 : qc0 ∉ keys ([] : List Grp).flatten) {r_ : Bool} (h_ : sp_clo k a0 bc0 = some r_) :
    Calls Try.prog 111 [.agg #[.string (bs a0.key), .pointer a0.value], .pointer (some ⟨qc0, 0, none⟩)].toArray w fun e w' => e = .returned (.bool r_) ∧ St w (KS []) w' [] := by
 have hF := h_
 clear h_
 unfold sp_clo at hF
 have S := St.ofFalse (As := []) (St.init0 w)
 refine enter 8 [(0, .agg #[.string (bs a0.key), .pointer a0.value]), (1, .pointer (some ⟨qc0, 0, none⟩))] Try.func111 rfl rfl rfl rfl ?_
 refine WCode.seq ?_
 refine WCode.region ?_
 obtain ⟨b1, w2, E3, S4, X5, L6⟩ := St.box S Try.prog 163 (.agg #[.string (bs a0.key), .pointer a0.value])
 change St _ _ _ [[(b1, .cells #[.string (bs a0.key), .pointer a0.value] 163 (0, 0))]] at S4
 refine WOps.e (E3 rfl) rfl ?_
 refine WOps.p (G.assign rfl) rfl ?_
 refine WOps.nil ?_
 refine WEx.then_ ?_
 refine WCode.seq ?_
 refine WCode.region ?_
 refine WOps.p (G.field T.fld163_0 rfl (show 0 + 0 = 0 from rfl)) rfl ?_
 refine WOps.r (G.load1 T.one9 rfl (cell_blk (S4.blk 0 rfl) rfl)) rfl ?_
 refine WOps.r (G.load1 T.one9 rfl (cell_blk ((S4.fr qc0 (lt_of_blk hBc0) hNc0).trans hBc0) rfl)) rfl ?_
 refine WOps.p (G.eqlb' rfl rfl rfl) rfl ?_
 refine WOps.p (G.assign rfl) rfl ?_
 refine WOps.nil ?_
 refine WEx.then_ ?_
 refine WCode.ret ?_
 obtain rfl := some_eq hF
 refine WEx.ret1 rfl rfl ?_
 exact ⟨rfl, St.keep (As := []) S4⟩

def sp_idx.l1 : Nat → List Pair_string___int_ → List UInt8 → Int → Option Int
  | 0, _, _, _ => none
  | k4 + 1, a0, b1_0, x1 => (if x1 < (a0.length : Int) then (Option.bind (idx a0 x1) fun x8 => (Option.bind (sp_clo k4 x8 b1_0) fun t22 => (if t22 = true then (some x1) else (sp_idx.l1 k4 a0 b1_0 (w64 (x1 + 1)))))) else (some (-1)))
def sp_idx (k : Nat) (a0 : List Pair_string___int_) (b1_0 : List UInt8) : Option Int := (sp_idx.l1 k a0 b1_0 0)
set_option maxRecDepth 100000 in
set_option maxHeartbeats 1000000 in
theorem sp_idx_calls (k : Nat) (a0 : List Pair_string___int_) {A0 : Option Addr} {c0 : Nat} {F0 : Nat → Prop} (b1_0 : List UInt8) {q1_0 : Nat} {w : World} (hR0 : SlR Pair_string___int_.rp w F0 A0 c0 a0) (hF0 : ∀ b, F0 b → NK w [] b) (hB1_0 : w.heap[q1_0]? = some (.cells #[.string (bs b1_0)] 9 (0, 0))) (hN1_0 : q1_0 ∉ keys ([] : List Grp).flatten) {r_ : Int} (h_ : sp_idx k a0 b1_0 = some r_) :
    Calls Try.prog 110 [.slice A0 a0.length c0, .func (.func 111) #[] #[.pointer (some ⟨q1_0, 0, none⟩)]].toArray w fun e w' => e = .returned (.int .i64 r_) ∧ St w (KS []) w' [] := by
 have hF := h_
 clear h_
 unfold sp_idx at hF
 have S := St.ofFalse (As := []) (St.init0 w)
 refine enter 19 [(0, .slice A0 a0.length c0), (1, .func (.func 111) #[] #[.pointer (some ⟨q1_0, 0, none⟩)])] Try.func110 rfl rfl rfl rfl ?_
 refine WCode.seq ?_
 refine WCode.region ?_
 refine WOps.p (G.assign rfl) rfl ?_
 refine WOps.nil ?_
 refine WEx.then_ ?_
 refine WCode.seq ?_
 refine WCode.seq ?_
 refine WCode.region ?_
 refine WOps.p (G.move rfl) rfl ?_
 refine WOps.p (G.len T.el152 rfl) rfl ?_
 refine WOps.p (G.move rfl) rfl ?_
 refine WOps.nil ?_
 refine WEx.then_ ?_
 refine WCode.block ?_
 refine WCode.forget (l' := [(0, .slice A0 a0.length c0), (1, .func (.func 111) #[] #[.pointer (some ⟨q1_0, 0, none⟩)]), (7, .int .i64 (a0.length : Int)), (8, .int .i64 0)]) ⟨rfl, rfl, rfl, rfl, trivial⟩ ?_
 refine WCode.loop (fun n_ l_ w_ => ∃ x1 : Int, l_ = [(0, .slice A0 a0.length c0), (1, .func (.func 111) #[] #[.pointer (some ⟨q1_0, 0, none⟩)]), (7, .int .i64 (a0.length : Int)), (8, .int .i64 x1)] ∧ sp_idx.l1 n_ a0 b1_0 x1 = some r_ ∧ St w (KS []) w_ []) k ⟨0, rfl, hF, S⟩ ?_
 rintro n5 _ w2 ⟨x1, rfl, hF, S3⟩
 obtain _ | k4 := n5
 · exact nomatch (show (none : Option Int) = some r_ from hF)
 rw [sp_idx.l1] at hF
 refine WCode.seq ?_
 refine WCode.region ?_
 refine WOps.p (G.lss rfl rfl rfl) rfl ?_
 refine WOps.nil ?_
 refine WEx.then_ ?_
 refine WCode.seq ?_
 rcases ite_some hF with ⟨h7, hF⟩ | ⟨h7, hF⟩
 ·
  refine WCode.cond_t (kb (b := decide (x1 < (a0.length : Int))) rfl (decide_eq_true h7)) ?_
  refine WCode.skip ?_
  refine WEx.then_ ?_
  refine WCode.seq ?_
  refine WCode.block ?_
  refine WCode.seq ?_
  refine WCode.region ?_
  refine WOps.p (G.move rfl) rfl ?_
  refine WOps.p (G.assign rfl) rfl ?_
  refine WOps.nil ?_
  refine WEx.then_ ?_
  refine WCode.seq ?_
  refine WCode.region ?_
  refine WOps.p (G.move rfl) rfl ?_
  refine WOps.p (G.move rfl) rfl ?_
  refine WOps.p (G.move rfl) rfl ?_
  obtain ⟨x8, hc9, hF⟩ := bind_some hF
  obtain ⟨j10, ej11, hj12, hl13⟩ := idx_spec hc9
  obtain ⟨b14, o15, cs16, eA17, hf18, hc19, hr20⟩ := SlR.at_ (hR0.ext (S3.keepF hF0)) hj12
  have hq21 : cs16 = [.string (bs x8.key), .pointer x8.value] := hr20
  subst hq21
  change cellsAt _ _ (o15 + j10 * 2) [.string (bs x8.key), .pointer x8.value] at hc19
  refine WOps.p (G.idx T.el152 rfl eA17 rfl ej11 hl13) rfl ?_
  refine WOps.r (G.loada T.agg163_2 rfl (cs := [.string (bs x8.key), .pointer x8.value]) hc19) rfl ?_
  obtain ⟨t22, hc23, hF⟩ := bind_some hF
  refine WOps.callv T.call111 rfl (evs_cons rfl evs_nil) rfl ?_
  refine (sp_clo_calls k4 x8 b1_0 ((S3.fr q1_0 (lt_of_blk hB1_0) hN1_0).trans hB1_0) (by simp [keys]) hc23).mono ?_
  rintro _ w24 ⟨rfl, T25⟩
  have S26 := St.callN (As := []) S3 T25
  change St _ _ _ [] at S26
  refine ⟨_, rfl, ?_⟩
  refine WOps.nil ?_
  refine WEx.then_ ?_
  rcases ite_some hF with ⟨h27, hF⟩ | ⟨h27, hF⟩
  ·
   refine WCode.cond_t (kb (b := t22) rfl h27) ?_
   refine WCode.seq ?_
   refine WCode.region ?_
   refine WOps.p (G.move rfl) rfl ?_
   refine WOps.p (G.assign rfl) rfl ?_
   refine WOps.nil ?_
   refine WEx.then_ ?_
   refine WCode.forget (l' := [(4, .int .i64 x1)]) ⟨rfl, trivial⟩ ?_
   refine WCode.ret ?_
   refine WEx.in_ret ?_
   refine WEx.then_ret ?_
   refine WEx.then_ret ?_
   refine WEx.in_ret ?_
   refine WEx.then_ret ?_
   obtain rfl := some_eq hF
   refine WEx.ret1 rfl rfl ?_
   exact ⟨rfl, St.keep (As := []) S26⟩
  ·
   refine WCode.cond_f (kb (b := t22) rfl (Bool.eq_false_iff.2 h27)) ?_
   refine WCode.skip ?_
   refine WEx.in_normal ?_
   refine WEx.then_ ?_
   refine WCode.region ?_
   refine WOps.p (G.add rfl rfl (r := (w64 (x1 + 1))) rfl) rfl ?_
   refine WOps.p (G.move rfl) rfl ?_
   refine WOps.nil ?_
   refine WEx.again _ _ (by omega) ?_ ⟨w64 (x1 + 1), rfl, hF, S26⟩
   exact ⟨rfl, rfl, rfl, rfl, trivial⟩
 ·
  refine WCode.cond_f (kb (b := decide (x1 < (a0.length : Int))) rfl (decide_eq_false h7)) ?_
  refine WCode.exit ?_
  refine WEx.then_exit ?_
  refine WEx.then_exit ?_
  refine WEx.in_exit ?_
  refine WEx.then_ ?_
  refine WCode.seq ?_
  refine WCode.region ?_
  refine WOps.p (G.assign rfl) rfl ?_
  refine WOps.nil ?_
  refine WEx.then_ ?_
  refine WCode.ret ?_
  obtain rfl := some_eq hF
  refine WEx.ret1 rfl rfl ?_
  exact ⟨rfl, St.keep (As := []) S3⟩

def sp_place (k : Nat) (a0 : Shelf_string___int_) (a1 : List UInt8) : Option Int := (Option.bind (sp_idx k a0.pairs a1) fun t15 => (some t15))
set_option maxRecDepth 100000 in
set_option maxHeartbeats 1000000 in
theorem sp_place_calls (k : Nat) (a0 : Shelf_string___int_) {p0 : Nat} {F0 : Nat → Prop} (a1 : List UInt8) {w : World} (hP0 : PtR 154 Shelf_string___int_.rp w F0 p0 a0) (hF0 : ∀ b, F0 b → NK w [] b) {r_ : Int} (h_ : sp_place k a0 a1 = some r_) :
    Calls Try.prog 87 [.pointer (some ⟨p0, 0, none⟩), .string (bs a1)].toArray w fun e w' => e = .returned (.int .i64 r_) ∧ St w (KS []) w' [] := by
 have hF := h_
 clear h_
 unfold sp_place at hF
 have S := St.ofFalse (As := []) (St.init0 w)
 have hPq5 := hP0
 obtain ⟨cs1, hB2, hf3, A6, c7, hq4, hR8⟩ := hPq5
 subst hq4
 change _ = some (Obj.cells #[.int .i64 a0.most, .slice A6 a0.pairs.length c7] 154 (0, 0)) at hB2
 refine enter 11 [(0, .pointer (some ⟨p0, 0, none⟩)), (1, .string (bs a1))] Try.func87 rfl rfl rfl rfl ?_
 refine WCode.seq ?_
 refine WCode.region ?_
 obtain ⟨b9, w10, E11, S12, X13, L14⟩ := St.box S Try.prog 9 (.string (bs a1))
 change St _ _ _ [[(b9, .cells #[.string (bs a1)] 9 (0, 0))]] at S12
 refine WOps.e (E11 rfl) rfl ?_
 refine WOps.p (G.assign rfl) rfl ?_
 refine WOps.nil ?_
 refine WEx.then_ ?_
 refine WCode.seq ?_
 refine WCode.region ?_
 refine WOps.p (G.move rfl) rfl ?_
 refine WOps.p (G.nilp rfl) rfl ?_
 refine WOps.p (G.field T.fld154_1 rfl (show 0 + 1 = 1 from rfl)) rfl ?_
 refine WOps.r (G.load1 T.one152 rfl (cell_blk ((S12.fr p0 (lt_of_blk hB2) (hF0 p0 hf3).1).trans hB2) rfl)) rfl ?_
 refine WOps.p (G.makeFunc (evs_cons rfl evs_nil)) rfl ?_
 obtain ⟨t15, hc16, hF⟩ := bind_some hF
 refine WOps.call T.call110 (evs_cons rfl (evs_cons rfl evs_nil)) rfl ?_
 refine (sp_idx_calls k a0.pairs a1 (hR8.ext (S12.keepF hF0)) (St.outF (Bs := []) S12 hF0) (S12.blk 0 rfl) (by simp [keys]) hc16).mono ?_
 rintro _ w17 ⟨rfl, T18⟩
 have S19 := St.callN (As := []) S12 T18
 change St _ _ _ [[(b9, .cells #[.string (bs a1)] 9 (0, 0))]] at S19
 refine ⟨_, rfl, ?_⟩
 refine WOps.p (G.assign rfl) rfl ?_
 refine WOps.nil ?_
 refine WEx.then_ ?_
 refine WCode.ret ?_
 obtain rfl := some_eq hF
 refine WEx.ret1 rfl rfl ?_
 exact ⟨rfl, St.keep (As := []) S19⟩

def sp_Get (k : Nat) (a0 : Shelf_string___int_) (a1 : List UInt8) : Option ((Option Addr) × Bool) := (Option.bind (sp_place k a0 a1) fun t9 => (if 0 ≤ t9 then (Option.bind (idx a0.pairs t9) fun x15 => (some (x15.value, true))) else (some (none, false))))
set_option maxRecDepth 100000 in
set_option maxHeartbeats 1000000 in
theorem sp_Get_calls (k : Nat) (a0 : Shelf_string___int_) {p0 : Nat} {F0 : Nat → Prop} (a1 : List UInt8) {w : World} (hP0 : PtR 154 Shelf_string___int_.rp w F0 p0 a0) (hF0 : ∀ b, F0 b → NK w [] b) {r_ : (Option Addr) × Bool} (h_ : sp_Get k a0 a1 = some r_) :
    Calls Try.prog 47 [.pointer (some ⟨p0, 0, none⟩), .string (bs a1)].toArray w fun e w' => e = .returned (.tuple #[.pointer r_.1, .bool r_.2]) ∧ St w (KS []) w' [] := by
 have hF := h_
 clear h_
 unfold sp_Get at hF
 have S := St.ofFalse (As := []) (St.init0 w)
 have hPq5 := hP0
 obtain ⟨cs1, hB2, hf3, A6, c7, hq4, hR8⟩ := hPq5
 subst hq4
 change _ = some (Obj.cells #[.int .i64 a0.most, .slice A6 a0.pairs.length c7] 154 (0, 0)) at hB2
 refine enter 22 [(0, .pointer (some ⟨p0, 0, none⟩)), (1, .string (bs a1))] Try.func47 rfl rfl rfl rfl ?_
 refine WCode.seq ?_
 refine WCode.region ?_
 refine WOps.p (G.assign rfl) rfl ?_
 refine WOps.p (G.assign rfl) rfl ?_
 refine WOps.nil ?_
 refine WEx.then_ ?_
 refine WCode.seq ?_
 refine WCode.seq ?_
 refine WCode.region ?_
 refine WOps.p (G.move rfl) rfl ?_
 refine WOps.p (G.move rfl) rfl ?_
 obtain ⟨t9, hc10, hF⟩ := bind_some hF
 refine WOps.call T.call87 (evs_cons rfl (evs_cons rfl evs_nil)) rfl ?_
 refine (sp_place_calls k a0 a1 (hP0.ext (S.keepF hF0)) (St.outF (Bs := []) S hF0) hc10).mono ?_
 rintro _ w11 ⟨rfl, T12⟩
 have S13 := St.callN (As := []) S T12
 change St _ _ _ [] at S13
 refine ⟨_, rfl, ?_⟩
 refine WOps.p (G.assign rfl) rfl ?_
 refine WOps.nil ?_
 refine WEx.then_ ?_
 refine WCode.seq ?_
 refine WCode.region ?_
 refine WOps.p (G.move rfl) rfl ?_
 refine WOps.p (G.geq rfl rfl rfl) rfl ?_
 refine WOps.nil ?_
 refine WEx.then_ ?_
 rcases ite_some hF with ⟨h14, hF⟩ | ⟨h14, hF⟩
 ·
  refine WCode.cond_t (kb (b := decide (0 ≤ t9)) rfl (decide_eq_true h14)) ?_
  refine WCode.seq ?_
  refine WCode.region ?_
  refine WOps.p (G.move rfl) rfl ?_
  refine WOps.p (G.nilp rfl) rfl ?_
  refine WOps.p (G.field T.fld154_1 rfl (show 0 + 1 = 1 from rfl)) rfl ?_
  refine WOps.r (G.load1 T.one152 rfl (cell_blk ((S13.fr p0 (lt_of_blk hB2) (hF0 p0 hf3).1).trans hB2) rfl)) rfl ?_
  refine WOps.p (G.move rfl) rfl ?_
  obtain ⟨x15, hc16, hF⟩ := bind_some hF
  obtain ⟨j17, ej18, hj19, hl20⟩ := idx_spec hc16
  obtain ⟨b21, o22, cs23, eA24, hf25, hc26, hr27⟩ := SlR.at_ (hR8.ext (S13.keepF hF0)) hj19
  have hq28 : cs23 = [.string (bs x15.key), .pointer x15.value] := hr27
  subst hq28
  change cellsAt _ _ (o22 + j17 * 2) [.string (bs x15.key), .pointer x15.value] at hc26
  refine WOps.p (G.idx T.el152 rfl eA24 rfl ej18 hl20) rfl ?_
  refine WOps.p (G.field T.fld163_1 rfl (show o22 + j17 * 2 + 1 = o22 + j17 * 2 + 1 from rfl)) rfl ?_
  refine WOps.r (G.load1 T.one81 rfl (cellsAt.at hc26 1 rfl)) rfl ?_
  refine WOps.p (G.assign rfl) rfl ?_
  refine WOps.p (G.assign rfl) rfl ?_
  refine WOps.nil ?_
  refine WEx.then_ ?_
  refine WCode.forget (l' := [(4, .pointer x15.value), (5, .bool true)]) ⟨rfl, rfl, trivial⟩ ?_
  refine WCode.ret ?_
  refine WEx.then_ret ?_
  obtain rfl := some_eq hF
  refine WEx.ret2 rfl rfl rfl ?_
  exact ⟨rfl, St.keep (As := []) S13⟩
 ·
  refine WCode.cond_f (kb (b := decide (0 ≤ t9)) rfl (decide_eq_false h14)) ?_
  refine WCode.skip ?_
  refine WEx.then_ ?_
  refine WCode.forget (l' := []) trivial ?_
  refine WCode.seq ?_
  refine WCode.region ?_
  refine WOps.p (G.assign rfl) rfl ?_
  refine WOps.nil ?_
  refine WEx.then_ ?_
  refine WCode.seq ?_
  refine WCode.region ?_
  refine WOps.p (G.move rfl) rfl ?_
  refine WOps.p (G.assign rfl) rfl ?_
  refine WOps.p (G.assign rfl) rfl ?_
  refine WOps.nil ?_
  refine WEx.then_ ?_
  refine WCode.ret ?_
  obtain rfl := some_eq hF
  refine WEx.ret2 rfl rfl rfl ?_
  exact ⟨rfl, St.keep (As := []) S13⟩

def sp_Put (k : Nat) (a0 : Shelf_string___int_) (a1 : List UInt8) (a2 : Option Addr) : Option (Int × Shelf_string___int_) := (Option.bind (sp_place k a0 a1) fun t11 => (if 0 ≤ t11 then (Option.bind (idx a0.pairs t11) fun x18 => (Option.bind (upd a0.pairs t11 (⟨x18.key, a2⟩ : Pair_string___int_)) fun l32 => (some (0, (⟨a0.most, l32⟩ : Shelf_string___int_))))) else (if (a0.pairs.length : Int) = a0.most then (some (140, a0)) else (Option.bind (cat a0.pairs ([(⟨a1, a2⟩ : Pair_string___int_)] : List Pair_string___int_)) fun l56 => (some (0, (⟨a0.most, l56⟩ : Shelf_string___int_)))))))
set_option maxRecDepth 100000 in
set_option maxHeartbeats 1000000 in
theorem sp_Put_calls (k : Nat) (a0 : Shelf_string___int_) {p0 : Nat} {G0 : Grp} (a1 : List UInt8) (a2 : Option Addr) {w : World} (hO0 : ObjO 154 Shelf_string___int_.rp p0 a0 G0) {r_ : Int × Shelf_string___int_} (h_ : sp_Put k a0 a1 a2 = some r_) (hp_ : Hp w ([G0]).flatten) :
    Calls Try.prog 46 [.pointer (some ⟨p0, 0, none⟩), .string (bs a1), .pointer a2].toArray w fun e w' => ∃ Go0' : Grp, e = .returned (.int .i64 r_.1) ∧ ObjO 154 Shelf_string___int_.rp p0 (r_.2) Go0' ∧ St w (KS [G0]) w' [Go0'] := by
 have hF := h_
 clear h_
 unfold sp_Put at hF
 have S := St.initK [G0] hp_
 obtain ⟨cs1, G2, ho3, hg4⟩ := hO0
 obtain ⟨A5, c6, G7, rfl, hO8, hq9⟩ := ho3
 have S10 : St _ _ _ [[(p0, .cells #[.int .i64 a0.most, .slice A5 a0.pairs.length c6] 154 (0, 0))], G7] := S.objs (by rw [hg4, hq9]; simp)
 refine enter 43 [(0, .pointer (some ⟨p0, 0, none⟩)), (1, .string (bs a1)), (2, .pointer a2)] Try.func46 rfl rfl rfl rfl ?_
 refine WCode.seq ?_
 refine WCode.region ?_
 refine WOps.p (G.assign rfl) rfl ?_
 refine WOps.nil ?_
 refine WEx.then_ ?_
 refine WCode.seq ?_
 refine WCode.seq ?_
 refine WCode.region ?_
 refine WOps.p (G.move rfl) rfl ?_
 refine WOps.p (G.move rfl) rfl ?_
 obtain ⟨t11, hc12, hF⟩ := bind_some hF
 have hP13 : PtR 154 Shelf_string___int_.rp w (KS [[(p0, .cells #[.int .i64 a0.most, .slice A5 a0.pairs.length c6] 154 (0, 0))], G7]) p0 a0 := ⟨_, S10.blk 0 rfl, KS_at 0 rfl (by simp [keys]), ⟨A5, c6, rfl, ((hO8.rd (fun b o hb => S10.grp 1 rfl hb)).mono (fun b hb => KS_at 1 rfl hb))⟩⟩
 refine WOps.call T.call87 (evs_cons rfl (evs_cons rfl evs_nil)) rfl ?_
 refine (sp_place_calls k a0 a1 hP13 (St.outN (Bs := []) (As := [[(p0, .cells #[.int .i64 a0.most, .slice A5 a0.pairs.length c6] 154 (0, 0))], G7]) S10) hc12).mono ?_
 rintro _ w14 ⟨rfl, T15⟩
 have S16 := St.callN (As := []) S10 T15
 change St _ _ _ [[(p0, .cells #[.int .i64 a0.most, .slice A5 a0.pairs.length c6] 154 (0, 0))], G7] at S16
 refine ⟨_, rfl, ?_⟩
 refine WOps.p (G.assign rfl) rfl ?_
 refine WOps.nil ?_
 refine WEx.then_ ?_
 refine WCode.seq ?_
 refine WCode.region ?_
 refine WOps.p (G.move rfl) rfl ?_
 refine WOps.p (G.geq rfl rfl rfl) rfl ?_
 refine WOps.nil ?_
 refine WEx.then_ ?_
 rcases ite_some hF with ⟨h17, hF⟩ | ⟨h17, hF⟩
 ·
  refine WCode.cond_t (kb (b := decide (0 ≤ t11)) rfl (decide_eq_true h17)) ?_
  refine WCode.seq ?_
  refine WCode.region ?_
  refine WOps.p (G.move rfl) rfl ?_
  refine WOps.p (G.nilp rfl) rfl ?_
  refine WOps.p (G.field T.fld154_1 rfl (show 0 + 1 = 1 from rfl)) rfl ?_
  refine WOps.r (G.load1 T.one152 rfl (cell_blk (S16.blk 0 rfl) rfl)) rfl ?_
  refine WOps.p (G.move rfl) rfl ?_
  refine WOps.p (G.move rfl) rfl ?_
  obtain ⟨x18, hc19, hF⟩ := bind_some hF
  obtain ⟨j20, ej21, hj22, hl23⟩ := idx_spec hc19
  obtain ⟨b24, o25, cs26, eA27, hf28, hc29, hr30⟩ := SlR.at_ (hO8.rd (fun b o hb => S16.grp 1 rfl hb)) hj22
  have hq31 : cs26 = [.string (bs x18.key), .pointer x18.value] := hr30
  subst hq31
  change cellsAt _ _ (o25 + j20 * 2) [.string (bs x18.key), .pointer x18.value] at hc29
  refine WOps.p (G.idx T.el152 rfl eA27 rfl ej21 hl23) rfl ?_
  refine WOps.p (G.field T.fld163_1 rfl (show o25 + j20 * 2 + 1 = o25 + j20 * 2 + 1 from rfl)) rfl ?_
  obtain ⟨l32, hc33, hF⟩ := bind_some hF
  have e34 := upd_spec' hc33 ej21
  have S35 := S16.front 1 rfl
  change St _ _ _ [G7, [(p0, .cells #[.int .i64 a0.most, .slice A5 a0.pairs.length c6] 154 (0, 0))]] at S35
  obtain ⟨w36, G37, E38, hO39, S40⟩ := St.storeF (P := Try.prog) (T := 81) S35 hO8 T.size81_1 hj22 eA27 (⟨x18.key, a2⟩ : Pair_string___int_) (v := .pointer a2) [.string (bs x18.key)] [.pointer x18.value] [] rfl rfl rfl
  rw [← e34] at hO39
  have hl41 : (a0.pairs).length = l32.length := by rw [e34, List.length_set]
  try rw [hl41] at S40
  try rw [hl41]
  change St _ _ _ [G37, [(p0, .cells #[.int .i64 a0.most, .slice A5 l32.length c6] 154 (0, 0))]] at S40
  refine WOps.u (E38 rfl rfl) ?_
  refine WOps.nil ?_
  refine WEx.then_ ?_
  refine WCode.forget (l' := []) trivial ?_
  refine WCode.seq ?_
  refine WCode.region ?_
  refine WOps.p (G.assign rfl) rfl ?_
  refine WOps.nil ?_
  refine WEx.then_ ?_
  refine WCode.ret ?_
  refine WEx.then_ret ?_
  obtain rfl := some_eq hF
  refine WEx.ret1 rfl rfl ?_
  have S42 := S40.front 1 rfl
  change St _ _ _ [[(p0, .cells #[.int .i64 a0.most, .slice A5 l32.length c6] 154 (0, 0))], G37] at S42
  have hO43 : ObjO 154 Shelf_string___int_.rp p0 (⟨a0.most, l32⟩ : Shelf_string___int_) ([(p0, .cells #[.int .i64 a0.most, .slice A5 l32.length c6] 154 (0, 0))] ++ (G37)) := ⟨_, _, ⟨A5, c6, G37, rfl, hO39, rfl⟩, rfl⟩
  have S44 : St _ _ _ [[(p0, .cells #[.int .i64 a0.most, .slice A5 l32.length c6] 154 (0, 0))] ++ (G37)] := S42.objs (by simp)
  exact ⟨[(p0, .cells #[.int .i64 a0.most, .slice A5 l32.length c6] 154 (0, 0))] ++ (G37), rfl, hO43, St.keep (As := [[(p0, .cells #[.int .i64 a0.most, .slice A5 l32.length c6] 154 (0, 0))] ++ (G37)]) S44⟩
 ·
  refine WCode.cond_f (kb (b := decide (0 ≤ t11)) rfl (decide_eq_false h17)) ?_
  refine WCode.skip ?_
  refine WEx.then_ ?_
  refine WCode.seq ?_
  refine WCode.seq ?_
  refine WCode.draw [⟨0, 0, []⟩, ⟨1, 0, []⟩, ⟨2, 0, []⟩, ⟨5, 0, []⟩, ⟨6, 0, []⟩, ⟨7, 0, []⟩, ⟨3, 1, [4, 9]⟩, ⟨4, 0, []⟩, ⟨8, 1, [9]⟩, ⟨9, 0, []⟩] T.mixed (by kernel_rfl) (by intro _ _ d _ _ h; cases d <;> exact h) rfl (by kernel_rfl) ?_
  have S45 := S16.drew
  generalize w14.drew = w46 at *
  refine WD.p rfl (G.move rfl) rfl ?_
  refine WD.p rfl (G.nilp rfl) rfl ?_
  refine WD.p rfl (G.field T.fld154_1 rfl (show 0 + 1 = 1 from rfl)) rfl ?_
  refine WD.p rfl (G.move rfl) rfl ?_
  refine WD.p rfl (G.nilp rfl) rfl ?_
  refine WD.p rfl (G.field T.fld154_0 rfl (show 0 + 0 = 0 from rfl)) rfl ?_
  refine WD.r rfl (G.load1 T.one152 rfl (cell_blk (S45.blk 0 rfl) rfl)) rfl ?_
  refine WD.p rfl (G.len T.el152 rfl) rfl ?_
  refine WD.r rfl (G.load1 T.one3 rfl (cell_blk (S45.blk 0 rfl) rfl)) rfl ?_
  refine WD.p rfl (G.eql rfl rfl rfl) rfl ?_
  refine WD.nil ?_
  refine WEx.then_ ?_
  refine WCode.forget (l' := [(0, .pointer (some ⟨p0, 0, none⟩)), (1, .string (bs a1)), (2, .pointer a2), (30, .bool (decide ((a0.pairs.length : Int) = a0.most)))]) ⟨rfl, rfl, rfl, rfl, trivial⟩ ?_
  rcases ite_some hF with ⟨h47, hF⟩ | ⟨h47, hF⟩
  ·
   refine WCode.cond_t (kb (b := decide ((a0.pairs.length : Int) = a0.most)) rfl (decide_eq_true h47)) ?_
   refine WCode.seq ?_
   refine WCode.region ?_
   refine WOps.p (G.assign rfl) rfl ?_
   refine WOps.nil ?_
   refine WEx.then_ ?_
   refine WCode.ret ?_
   refine WEx.then_ret ?_
   obtain rfl := some_eq hF
   refine WEx.ret1 rfl rfl ?_
   have hO48 : ObjO 154 Shelf_string___int_.rp p0 a0 ([(p0, .cells #[.int .i64 a0.most, .slice A5 a0.pairs.length c6] 154 (0, 0))] ++ (G7)) := ⟨_, _, ⟨A5, c6, G7, rfl, hO8, rfl⟩, rfl⟩
   have S49 : St _ _ _ [[(p0, .cells #[.int .i64 a0.most, .slice A5 a0.pairs.length c6] 154 (0, 0))] ++ (G7)] := S45.objs (by simp)
   exact ⟨[(p0, .cells #[.int .i64 a0.most, .slice A5 a0.pairs.length c6] 154 (0, 0))] ++ (G7), rfl, hO48, St.keep (As := [[(p0, .cells #[.int .i64 a0.most, .slice A5 a0.pairs.length c6] 154 (0, 0))] ++ (G7)]) S49⟩
  ·
   refine WCode.cond_f (kb (b := decide ((a0.pairs.length : Int) = a0.most)) rfl (decide_eq_false h47)) ?_
   refine WCode.skip ?_
   refine WEx.then_ ?_
   refine WCode.seq ?_
   refine WCode.region ?_
   refine WOps.p (G.move rfl) rfl ?_
   refine WOps.p (G.move rfl) rfl ?_
   refine WOps.p (G.nilp rfl) rfl ?_
   refine WOps.p (G.field T.fld154_1 rfl (show 0 + 1 = 1 from rfl)) rfl ?_
   refine WOps.r (G.load1 T.one152 rfl (cell_blk (S45.blk 0 rfl) rfl)) rfl ?_
   refine WOps.p (G.move rfl) rfl ?_
   refine WOps.p (G.move rfl) rfl ?_
   refine WOps.p (G.build (cells := #[.string (bs a1), .pointer a2]) (evp_spec (evp_cons rfl (evp_cons rfl evp_nil))) (by kernel_rfl)) rfl ?_
   obtain ⟨b50, w51, E52, S53, X54, L55⟩ := St.lit S45 (P := Try.prog) (t := 152) (e := 163) (n := 1) (vs := [(0, .agg #[.string (bs a1), .pointer a2])]) (cs := #[.string (bs a1), .pointer a2]) (by kernel_rfl)
   change St _ _ _ [[(b50, .cells #[.string (bs a1), .pointer a2] 163 (0, 0))], [(p0, .cells #[.int .i64 a0.most, .slice A5 a0.pairs.length c6] 154 (0, 0))], G7] at S53
   refine WOps.e (E52 (evp_cons rfl evp_nil)) rfl ?_
   obtain ⟨l56, hc57, hF⟩ := bind_some hF
   have S58 := S53.front 2 rfl
   change St _ _ _ [G7, [(b50, .cells #[.string (bs a1), .pointer a2] 163 (0, 0))], [(p0, .cells #[.int .i64 a0.most, .slice A5 a0.pairs.length c6] 154 (0, 0))]] at S58
   obtain ⟨A59, c60, G61, w62, E63, hO64, S65, hk66⟩ := St.appP (P := Try.prog) (r := Pair_string___int_.rp) (M := ([(⟨a1, a2⟩ : Pair_string___int_)] : List Pair_string___int_)) S58 T.elt152 rfl hO8 (Rd.of_blk (S58.blk 1 rfl) (n := 1) (sz := 2) rfl) ⟨_, _, [], [], rfl, rfl, ⟨rfl, rfl⟩, ⟨rfl, rfl⟩⟩ rfl hc57
   change St _ _ _ [G61, [(b50, .cells #[.string (bs a1), .pointer a2] 163 (0, 0))], [(p0, .cells #[.int .i64 a0.most, .slice A5 a0.pairs.length c6] 154 (0, 0))]] at S65
   refine WOps.e (E63 rfl rfl) rfl ?_
   refine WOps.p (G.nilp rfl) rfl ?_
   refine WOps.p (G.field T.fld154_1 rfl (show 0 + 1 = 1 from rfl)) rfl ?_
   obtain ⟨w67, E68, S69⟩ := St.store (P := Try.prog) S65 2 152 (.slice A59 l56.length c60) (off := 1) (cur' := #[.int .i64 a0.most, .slice A59 l56.length c60]) rfl T.size152_1 rfl rfl rfl
   change St _ _ _ [G61, [(b50, .cells #[.string (bs a1), .pointer a2] 163 (0, 0))], [(p0, .cells #[.int .i64 a0.most, .slice A59 l56.length c60] 154 (0, 0))]] at S69
   refine WOps.u (E68 rfl rfl) ?_
   refine WOps.nil ?_
   refine WEx.then_ ?_
   refine WCode.forget (l' := []) trivial ?_
   refine WCode.seq ?_
   refine WCode.region ?_
   refine WOps.p (G.assign rfl) rfl ?_
   refine WOps.nil ?_
   refine WEx.then_ ?_
   refine WCode.ret ?_
   obtain rfl := some_eq hF
   refine WEx.ret1 rfl rfl ?_
   have S70 := S69.front 2 rfl
   change St _ _ _ [[(p0, .cells #[.int .i64 a0.most, .slice A59 l56.length c60] 154 (0, 0))], G61, [(b50, .cells #[.string (bs a1), .pointer a2] 163 (0, 0))]] at S70
   have hO71 : ObjO 154 Shelf_string___int_.rp p0 (⟨a0.most, l56⟩ : Shelf_string___int_) ([(p0, .cells #[.int .i64 a0.most, .slice A59 l56.length c60] 154 (0, 0))] ++ (G61)) := ⟨_, _, ⟨A59, c60, G61, rfl, hO64, rfl⟩, rfl⟩
   have S72 : St _ _ _ [[(p0, .cells #[.int .i64 a0.most, .slice A59 l56.length c60] 154 (0, 0))] ++ (G61), [(b50, .cells #[.string (bs a1), .pointer a2] 163 (0, 0))]] := S70.objs (by simp)
   exact ⟨[(p0, .cells #[.int .i64 a0.most, .slice A59 l56.length c60] 154 (0, 0))] ++ (G61), rfl, hO71, St.keep (As := [[(p0, .cells #[.int .i64 a0.most, .slice A59 l56.length c60] 154 (0, 0))] ++ (G61)]) S72⟩

def se_New (k : Nat) (a0 : Int) : Option ((Option Shelf_bool__struct___) × Int) := (if a0 < 0 then (some (none, 1)) else (if 1048576 < a0 then (some (none, 1)) else (some (some (⟨a0, []⟩ : Shelf_bool__struct___), 0))))
set_option maxRecDepth 100000 in
set_option maxHeartbeats 1000000 in
theorem se_New_calls (k : Nat) (a0 : Int) {w : World} {r_ : (Option Shelf_bool__struct___) × Int} (h_ : se_New k a0 = some r_) :
    Calls Try.prog 43 [.int .i64 a0].toArray w fun e w' => ∃ v0' : Value, ∃ G0' : Grp, e = .returned (.tuple #[v0', .int .i64 r_.2]) ∧ OptO 157 Shelf_bool__struct___.rp v0' (r_.1) G0' ∧ St w (KS []) w' [G0'] := by
 have hF := h_
 clear h_
 unfold se_New at hF
 have S := St.ofFalse (As := []) (St.init0 w)
 refine enter 13 [(0, .int .i64 a0)] Try.func43 rfl rfl rfl rfl ?_
 refine WCode.seq ?_
 refine WCode.region ?_
 refine WOps.p (G.assign rfl) rfl ?_
 refine WOps.p (G.assign rfl) rfl ?_
 refine WOps.nil ?_
 refine WEx.then_ ?_
 refine WCode.seq ?_
 refine WCode.seq ?_
 refine WCode.region ?_
 refine WOps.p (G.move rfl) rfl ?_
 refine WOps.p (G.lss rfl rfl rfl) rfl ?_
 refine WOps.p (G.move rfl) rfl ?_
 rcases ite_some hF with ⟨h1, hF⟩ | ⟨h1, hF⟩
 ·
  refine WOps.off rfl (kbl (b := decide (a0 < 0)) rfl (decide_eq_true h1)) rfl rfl ?_
  refine WOps.off rfl (kbl (b := decide (a0 < 0)) rfl (decide_eq_true h1)) rfl rfl ?_
  refine WOps.p (G.pick_t (kb (b := decide (a0 < 0)) rfl (decide_eq_true h1)) rfl) rfl ?_
  refine WOps.nil ?_
  refine WEx.then_ ?_
  refine WCode.cond_t rfl ?_
  refine WCode.seq ?_
  refine WCode.region ?_
  refine WOps.p (G.assign rfl) rfl ?_
  refine WOps.p (G.assign rfl) rfl ?_
  refine WOps.nil ?_
  refine WEx.then_ ?_
  refine WCode.ret ?_
  refine WEx.then_ret ?_
  obtain rfl := some_eq hF
  refine WEx.ret2 rfl rfl rfl ?_
  have S2 := S.emp
  exact ⟨.pointer none, ([] : Grp), rfl, ⟨rfl, rfl⟩, St.keep (As := [([] : Grp)]) S2⟩
 ·
  refine WOps.on rfl (kbl (b := decide (a0 < 0)) rfl (decide_eq_false h1)) ?_
  refine WOps.p (G.move rfl) rfl ?_
  refine WOps.on rfl (kbl (b := decide (a0 < 0)) rfl (decide_eq_false h1)) ?_
  refine WOps.p (G.gtr rfl rfl rfl) rfl ?_
  refine WOps.p (G.pick_f (kb (b := decide (a0 < 0)) rfl (decide_eq_false h1)) rfl) rfl ?_
  refine WOps.nil ?_
  refine WEx.then_ ?_
  rcases ite_some hF with ⟨h3, hF⟩ | ⟨h3, hF⟩
  ·
   refine WCode.cond_t (kb (b := decide (1048576 < a0)) rfl (decide_eq_true h3)) ?_
   refine WCode.seq ?_
   refine WCode.region ?_
   refine WOps.p (G.assign rfl) rfl ?_
   refine WOps.p (G.assign rfl) rfl ?_
   refine WOps.nil ?_
   refine WEx.then_ ?_
   refine WCode.ret ?_
   refine WEx.then_ret ?_
   obtain rfl := some_eq hF
   refine WEx.ret2 rfl rfl rfl ?_
   have S4 := S.emp
   exact ⟨.pointer none, ([] : Grp), rfl, ⟨rfl, rfl⟩, St.keep (As := [([] : Grp)]) S4⟩
  ·
   refine WCode.cond_f (kb (b := decide (1048576 < a0)) rfl (decide_eq_false h3)) ?_
   refine WCode.skip ?_
   refine WEx.then_ ?_
   refine WCode.seq ?_
   refine WCode.region ?_
   refine WOps.p (G.move rfl) rfl ?_
   refine WOps.p (G.build (cells := #[.int .i64 a0, .slice none 0 0]) (evp_spec (evp_cons rfl evp_nil)) (by kernel_rfl)) rfl ?_
   obtain ⟨b5, w6, E7, S8, X9, L10⟩ := St.box S Try.prog 157 (.agg #[.int .i64 a0, .slice none 0 0])
   change St _ _ _ [[(b5, .cells #[.int .i64 a0, .slice none 0 0] 157 (0, 0))]] at S8
   refine WOps.e (E7 rfl) rfl ?_
   refine WOps.p (G.assign rfl) rfl ?_
   refine WOps.p (G.assign rfl) rfl ?_
   refine WOps.nil ?_
   refine WEx.then_ ?_
   refine WCode.forget (l' := [(2, .pointer (some ⟨b5, 0, none⟩)), (3, .int .i64 0)]) ⟨rfl, rfl, trivial⟩ ?_
   refine WCode.ret ?_
   obtain rfl := some_eq hF
   refine WEx.ret2 rfl rfl rfl ?_
   have S11 := S8.emp
   have S13 := S11.front 1 rfl
   change St _ _ _ [[(b5, .cells #[.int .i64 a0, .slice none 0 0] 157 (0, 0))], ([] : Grp)] at S13
   have hO14 : ObjO 157 Shelf_bool__struct___.rp b5 (⟨a0, []⟩ : Shelf_bool__struct___) ([(b5, .cells #[.int .i64 a0, .slice none 0 0] 157 (0, 0))] ++ (([] : Grp))) := ⟨_, _, ⟨none, 0, ([] : Grp), rfl, (SlO.nil 166 Pair_bool__struct___.rp), rfl⟩, rfl⟩
   have S15 : St _ _ _ [[(b5, .cells #[.int .i64 a0, .slice none 0 0] 157 (0, 0))] ++ (([] : Grp))] := S13.objs (by simp)
   exact ⟨(.pointer (some ⟨b5, 0, none⟩)), [(b5, .cells #[.int .i64 a0, .slice none 0 0] 157 (0, 0))] ++ (([] : Grp)), rfl, ⟨_, rfl, hO14⟩, St.keep (As := [[(b5, .cells #[.int .i64 a0, .slice none 0 0] 157 (0, 0))] ++ (([] : Grp))]) S15⟩

def se_clo (k : Nat) (a0 : Pair_bool__struct___) (bc0 : Bool) : Option Bool := (some (a0.key == bc0))
set_option maxRecDepth 100000 in
set_option maxHeartbeats 1000000 in
theorem se_clo_calls (k : Nat) (a0 : Pair_bool__struct___) (bc0 : Bool) {qc0 : Nat} {w : World} (hBc0 : w.heap[qc0]? = some (.cells #[.bool bc0] 4 (0, 0))) (hNc0 : qc0 ∉ keys ([] : List Grp).flatten) {r_ : Bool} (h_ : se_clo k a0 bc0 = some r_) :
    Calls Try.prog 113 [.agg #[.bool a0.key], .pointer (some ⟨qc0, 0, none⟩)].toArray w fun e w' => e = .returned (.bool r_) ∧ St w (KS []) w' [] := by
 have hF := h_
 clear h_
 unfold se_clo at hF
 have S := St.ofFalse (As := []) (St.init0 w)
 refine enter 8 [(0, .agg #[.bool a0.key]), (1, .pointer (some ⟨qc0, 0, none⟩))] Try.func113 rfl rfl rfl rfl ?_
 refine WCode.seq ?_
 refine WCode.region ?_
 obtain ⟨b1, w2, E3, S4, X5, L6⟩ := St.box S Try.prog 166 (.agg #[.bool a0.key])
 change St _ _ _ [[(b1, .cells #[.bool a0.key] 166 (0, 0))]] at S4
 refine WOps.e (E3 rfl) rfl ?_
 refine WOps.p (G.assign rfl) rfl ?_
 refine WOps.nil ?_
 refine WEx.then_ ?_
 refine WCode.seq ?_
 refine WCode.region ?_
 refine WOps.p (G.field T.fld166_0 rfl (show 0 + 0 = 0 from rfl)) rfl ?_
 refine WOps.r (G.load1 T.one4 rfl (cell_blk (S4.blk 0 rfl) rfl)) rfl ?_
 refine WOps.r (G.load1 T.one4 rfl (cell_blk ((S4.fr qc0 (lt_of_blk hBc0) hNc0).trans hBc0) rfl)) rfl ?_
 refine WOps.p (G.eqlb Try.underlying4 rfl rfl rfl) rfl ?_
 refine WOps.p (G.assign rfl) rfl ?_
 refine WOps.nil ?_
 refine WEx.then_ ?_
 refine WCode.ret ?_
 obtain rfl := some_eq hF
 refine WEx.ret1 rfl rfl ?_
 exact ⟨rfl, St.keep (As := []) S4⟩

def se_idx.l1 : Nat → List Pair_bool__struct___ → Bool → Int → Option Int
  | 0, _, _, _ => none
  | k4 + 1, a0, b1_0, x1 => (if x1 < (a0.length : Int) then (Option.bind (idx a0 x1) fun x8 => (Option.bind (se_clo k4 (⟨x8.key, (⟨⟩ : S85)⟩ : Pair_bool__struct___) b1_0) fun t22 => (if t22 = true then (some x1) else (se_idx.l1 k4 a0 b1_0 (w64 (x1 + 1)))))) else (some (-1)))
def se_idx (k : Nat) (a0 : List Pair_bool__struct___) (b1_0 : Bool) : Option Int := (se_idx.l1 k a0 b1_0 0)
set_option maxRecDepth 100000 in
set_option maxHeartbeats 1000000 in
theorem se_idx_calls (k : Nat) (a0 : List Pair_bool__struct___) {A0 : Option Addr} {c0 : Nat} {F0 : Nat → Prop} (b1_0 : Bool) {q1_0 : Nat} {w : World} (hR0 : SlR Pair_bool__struct___.rp w F0 A0 c0 a0) (hF0 : ∀ b, F0 b → NK w [] b) (hB1_0 : w.heap[q1_0]? = some (.cells #[.bool b1_0] 4 (0, 0))) (hN1_0 : q1_0 ∉ keys ([] : List Grp).flatten) {r_ : Int} (h_ : se_idx k a0 b1_0 = some r_) :
    Calls Try.prog 112 [.slice A0 a0.length c0, .func (.func 113) #[] #[.pointer (some ⟨q1_0, 0, none⟩)]].toArray w fun e w' => e = .returned (.int .i64 r_) ∧ St w (KS []) w' [] := by
 have hF := h_
 clear h_
 unfold se_idx at hF
 have S := St.ofFalse (As := []) (St.init0 w)
 refine enter 19 [(0, .slice A0 a0.length c0), (1, .func (.func 113) #[] #[.pointer (some ⟨q1_0, 0, none⟩)])] Try.func112 rfl rfl rfl rfl ?_
 refine WCode.seq ?_
 refine WCode.region ?_
 refine WOps.p (G.assign rfl) rfl ?_
 refine WOps.nil ?_
 refine WEx.then_ ?_
 refine WCode.seq ?_
 refine WCode.seq ?_
 refine WCode.region ?_
 refine WOps.p (G.move rfl) rfl ?_
 refine WOps.p (G.len T.el155 rfl) rfl ?_
 refine WOps.p (G.move rfl) rfl ?_
 refine WOps.nil ?_
 refine WEx.then_ ?_
 refine WCode.block ?_
 refine WCode.forget (l' := [(0, .slice A0 a0.length c0), (1, .func (.func 113) #[] #[.pointer (some ⟨q1_0, 0, none⟩)]), (7, .int .i64 (a0.length : Int)), (8, .int .i64 0)]) ⟨rfl, rfl, rfl, rfl, trivial⟩ ?_
 refine WCode.loop (fun n_ l_ w_ => ∃ x1 : Int, l_ = [(0, .slice A0 a0.length c0), (1, .func (.func 113) #[] #[.pointer (some ⟨q1_0, 0, none⟩)]), (7, .int .i64 (a0.length : Int)), (8, .int .i64 x1)] ∧ se_idx.l1 n_ a0 b1_0 x1 = some r_ ∧ St w (KS []) w_ []) k ⟨0, rfl, hF, S⟩ ?_
 rintro n5 _ w2 ⟨x1, rfl, hF, S3⟩
 obtain _ | k4 := n5
 · exact nomatch (show (none : Option Int) = some r_ from hF)
 rw [se_idx.l1] at hF
 refine WCode.seq ?_
 refine WCode.region ?_
 refine WOps.p (G.lss rfl rfl rfl) rfl ?_
 refine WOps.nil ?_
 refine WEx.then_ ?_
 refine WCode.seq ?_
 rcases ite_some hF with ⟨h7, hF⟩ | ⟨h7, hF⟩
 ·
  refine WCode.cond_t (kb (b := decide (x1 < (a0.length : Int))) rfl (decide_eq_true h7)) ?_
  refine WCode.skip ?_
  refine WEx.then_ ?_
  refine WCode.seq ?_
  refine WCode.block ?_
  refine WCode.seq ?_
  refine WCode.region ?_
  refine WOps.p (G.move rfl) rfl ?_
  refine WOps.p (G.assign rfl) rfl ?_
  refine WOps.nil ?_
  refine WEx.then_ ?_
  refine WCode.seq ?_
  refine WCode.region ?_
  refine WOps.p (G.move rfl) rfl ?_
  refine WOps.p (G.move rfl) rfl ?_
  refine WOps.p (G.move rfl) rfl ?_
  obtain ⟨x8, hc9, hF⟩ := bind_some hF
  obtain ⟨j10, ej11, hj12, hl13⟩ := idx_spec hc9
  obtain ⟨b14, o15, cs16, eA17, hf18, hc19, hr20⟩ := SlR.at_ (hR0.ext (S3.keepF hF0)) hj12
  have hq21 : cs16 = [.bool x8.key] := hr20
  subst hq21
  change cellsAt _ _ (o15 + j10 * 1) [.bool x8.key] at hc19
  refine WOps.p (G.idx T.el155 rfl eA17 rfl ej11 hl13) rfl ?_
  refine WOps.r (G.loada T.agg166_1 rfl (cs := [.bool x8.key]) hc19) rfl ?_
  obtain ⟨t22, hc23, hF⟩ := bind_some hF
  refine WOps.callv T.call113 rfl (evs_cons rfl evs_nil) rfl ?_
  refine (se_clo_calls k4 (⟨x8.key, (⟨⟩ : S85)⟩ : Pair_bool__struct___) b1_0 ((S3.fr q1_0 (lt_of_blk hB1_0) hN1_0).trans hB1_0) (by simp [keys]) hc23).mono ?_
  rintro _ w24 ⟨rfl, T25⟩
  have S26 := St.callN (As := []) S3 T25
  change St _ _ _ [] at S26
  refine ⟨_, rfl, ?_⟩
  refine WOps.nil ?_
  refine WEx.then_ ?_
  rcases ite_some hF with ⟨h27, hF⟩ | ⟨h27, hF⟩
  ·
   refine WCode.cond_t (kb (b := t22) rfl h27) ?_
   refine WCode.seq ?_
   refine WCode.region ?_
   refine WOps.p (G.move rfl) rfl ?_
   refine WOps.p (G.assign rfl) rfl ?_
   refine WOps.nil ?_
   refine WEx.then_ ?_
   refine WCode.forget (l' := [(4, .int .i64 x1)]) ⟨rfl, trivial⟩ ?_
   refine WCode.ret ?_
   refine WEx.in_ret ?_
   refine WEx.then_ret ?_
   refine WEx.then_ret ?_
   refine WEx.in_ret ?_
   refine WEx.then_ret ?_
   obtain rfl := some_eq hF
   refine WEx.ret1 rfl rfl ?_
   exact ⟨rfl, St.keep (As := []) S26⟩
  ·
   refine WCode.cond_f (kb (b := t22) rfl (Bool.eq_false_iff.2 h27)) ?_
   refine WCode.skip ?_
   refine WEx.in_normal ?_
   refine WEx.then_ ?_
   refine WCode.region ?_
   refine WOps.p (G.add rfl rfl (r := (w64 (x1 + 1))) rfl) rfl ?_
   refine WOps.p (G.move rfl) rfl ?_
   refine WOps.nil ?_
   refine WEx.again _ _ (by omega) ?_ ⟨w64 (x1 + 1), rfl, hF, S26⟩
   exact ⟨rfl, rfl, rfl, rfl, trivial⟩
 ·
  refine WCode.cond_f (kb (b := decide (x1 < (a0.length : Int))) rfl (decide_eq_false h7)) ?_
  refine WCode.exit ?_
  refine WEx.then_exit ?_
  refine WEx.then_exit ?_
  refine WEx.in_exit ?_
  refine WEx.then_ ?_
  refine WCode.seq ?_
  refine WCode.region ?_
  refine WOps.p (G.assign rfl) rfl ?_
  refine WOps.nil ?_
  refine WEx.then_ ?_
  refine WCode.ret ?_
  obtain rfl := some_eq hF
  refine WEx.ret1 rfl rfl ?_
  exact ⟨rfl, St.keep (As := []) S3⟩

def se_place (k : Nat) (a0 : Shelf_bool__struct___) (a1 : Bool) : Option Int := (Option.bind (se_idx k a0.pairs a1) fun t15 => (some t15))
set_option maxRecDepth 100000 in
set_option maxHeartbeats 1000000 in
theorem se_place_calls (k : Nat) (a0 : Shelf_bool__struct___) {p0 : Nat} {F0 : Nat → Prop} (a1 : Bool) {w : World} (hP0 : PtR 157 Shelf_bool__struct___.rp w F0 p0 a0) (hF0 : ∀ b, F0 b → NK w [] b) {r_ : Int} (h_ : se_place k a0 a1 = some r_) :
    Calls Try.prog 88 [.pointer (some ⟨p0, 0, none⟩), .bool a1].toArray w fun e w' => e = .returned (.int .i64 r_) ∧ St w (KS []) w' [] := by
 have hF := h_
 clear h_
 unfold se_place at hF
 have S := St.ofFalse (As := []) (St.init0 w)
 have hPq5 := hP0
 obtain ⟨cs1, hB2, hf3, A6, c7, hq4, hR8⟩ := hPq5
 subst hq4
 change _ = some (Obj.cells #[.int .i64 a0.most, .slice A6 a0.pairs.length c7] 157 (0, 0)) at hB2
 refine enter 11 [(0, .pointer (some ⟨p0, 0, none⟩)), (1, .bool a1)] Try.func88 rfl rfl rfl rfl ?_
 refine WCode.seq ?_
 refine WCode.region ?_
 obtain ⟨b9, w10, E11, S12, X13, L14⟩ := St.box S Try.prog 4 (.bool a1)
 change St _ _ _ [[(b9, .cells #[.bool a1] 4 (0, 0))]] at S12
 refine WOps.e (E11 rfl) rfl ?_
 refine WOps.p (G.assign rfl) rfl ?_
 refine WOps.nil ?_
 refine WEx.then_ ?_
 refine WCode.seq ?_
 refine WCode.region ?_
 refine WOps.p (G.move rfl) rfl ?_
 refine WOps.p (G.nilp rfl) rfl ?_
 refine WOps.p (G.field T.fld157_1 rfl (show 0 + 1 = 1 from rfl)) rfl ?_
 refine WOps.r (G.load1 T.one155 rfl (cell_blk ((S12.fr p0 (lt_of_blk hB2) (hF0 p0 hf3).1).trans hB2) rfl)) rfl ?_
 refine WOps.p (G.makeFunc (evs_cons rfl evs_nil)) rfl ?_
 obtain ⟨t15, hc16, hF⟩ := bind_some hF
 refine WOps.call T.call112 (evs_cons rfl (evs_cons rfl evs_nil)) rfl ?_
 refine (se_idx_calls k a0.pairs a1 (hR8.ext (S12.keepF hF0)) (St.outF (Bs := []) S12 hF0) (S12.blk 0 rfl) (by simp [keys]) hc16).mono ?_
 rintro _ w17 ⟨rfl, T18⟩
 have S19 := St.callN (As := []) S12 T18
 change St _ _ _ [[(b9, .cells #[.bool a1] 4 (0, 0))]] at S19
 refine ⟨_, rfl, ?_⟩
 refine WOps.p (G.assign rfl) rfl ?_
 refine WOps.nil ?_
 refine WEx.then_ ?_
 refine WCode.ret ?_
 obtain rfl := some_eq hF
 refine WEx.ret1 rfl rfl ?_
 exact ⟨rfl, St.keep (As := []) S19⟩

def se_Get (k : Nat) (a0 : Shelf_bool__struct___) (a1 : Bool) : Option (S85 × Bool) := (Option.bind (se_place k a0 a1) fun t15 => (if 0 ≤ t15 then (Option.bind (idx a0.pairs t15) fun x21 => none) else (some ((⟨⟩ : S85), false))))
set_option maxRecDepth 100000 in
set_option maxHeartbeats 1000000 in
theorem se_Get_calls (k : Nat) (a0 : Shelf_bool__struct___) {p0 : Nat} {F0 : Nat → Prop} (a1 : Bool) {w : World} (hP0 : PtR 157 Shelf_bool__struct___.rp w F0 p0 a0) (hF0 : ∀ b, F0 b → NK w [] b) {r_ : S85 × Bool} (h_ : se_Get k a0 a1 = some r_) :
    Calls Try.prog 49 [.pointer (some ⟨p0, 0, none⟩), .bool a1].toArray w fun e w' => e = .returned (.tuple #[.agg #[], .bool r_.2]) ∧ St w (KS []) w' [] := by
 have hF := h_
 clear h_
 unfold se_Get at hF
 have S := St.ofFalse (As := []) (St.init0 w)
 have hPq5 := hP0
 obtain ⟨cs1, hB2, hf3, A6, c7, hq4, hR8⟩ := hPq5
 subst hq4
 change _ = some (Obj.cells #[.int .i64 a0.most, .slice A6 a0.pairs.length c7] 157 (0, 0)) at hB2
 refine enter 22 [(0, .pointer (some ⟨p0, 0, none⟩)), (1, .bool a1)] Try.func49 rfl rfl rfl rfl ?_
 refine WCode.seq ?_
 refine WCode.region ?_
 obtain ⟨b9, w10, E11, S12, X13, L14⟩ := St.var S (z := .agg #[]) T.zero85
 change St _ _ _ [[(b9, .cells #[] 85 (0, 0))]] at S12
 refine WOps.e E11 rfl ?_
 refine WOps.p (G.assign rfl) rfl ?_
 refine WOps.nil ?_
 refine WEx.then_ ?_
 refine WCode.seq ?_
 refine WCode.seq ?_
 refine WCode.region ?_
 refine WOps.p (G.move rfl) rfl ?_
 refine WOps.p (G.move rfl) rfl ?_
 obtain ⟨t15, hc16, hF⟩ := bind_some hF
 refine WOps.call T.call88 (evs_cons rfl (evs_cons rfl evs_nil)) rfl ?_
 refine (se_place_calls k a0 a1 (hP0.ext (S12.keepF hF0)) (St.outF (Bs := []) S12 hF0) hc16).mono ?_
 rintro _ w17 ⟨rfl, T18⟩
 have S19 := St.callN (As := []) S12 T18
 change St _ _ _ [[(b9, .cells #[] 85 (0, 0))]] at S19
 refine ⟨_, rfl, ?_⟩
 refine WOps.p (G.assign rfl) rfl ?_
 refine WOps.nil ?_
 refine WEx.then_ ?_
 refine WCode.seq ?_
 refine WCode.region ?_
 refine WOps.p (G.move rfl) rfl ?_
 refine WOps.p (G.geq rfl rfl rfl) rfl ?_
 refine WOps.nil ?_
 refine WEx.then_ ?_
 rcases ite_some hF with ⟨h20, hF⟩ | ⟨h20, hF⟩
 ·
  refine WCode.cond_t (kb (b := decide (0 ≤ t15)) rfl (decide_eq_true h20)) ?_
  refine WCode.seq ?_
  refine WCode.region ?_
  refine WOps.p (G.move rfl) rfl ?_
  refine WOps.p (G.nilp rfl) rfl ?_
  refine WOps.p (G.field T.fld157_1 rfl (show 0 + 1 = 1 from rfl)) rfl ?_
  refine WOps.r (G.load1 T.one155 rfl (cell_blk ((S19.fr p0 (lt_of_blk hB2) (hF0 p0 hf3).1).trans hB2) rfl)) rfl ?_
  refine WOps.p (G.move rfl) rfl ?_
  obtain ⟨x21, hc22, hF⟩ := bind_some hF
  obtain ⟨j23, ej24, hj25, hl26⟩ := idx_spec hc22
  obtain ⟨b27, o28, cs29, eA30, hf31, hc32, hr33⟩ := SlR.at_ (hR8.ext (S19.keepF hF0)) hj25
  have hq34 : cs29 = [.bool x21.key] := hr33
  subst hq34
  change cellsAt _ _ (o28 + j23 * 1) [.bool x21.key] at hc32
  refine WOps.p (G.idx T.el155 rfl eA30 rfl ej24 hl26) rfl ?_
  exact nomatch (show (none : Option (S85 × Bool)) = some r_ from hF)
 ·
  refine WCode.cond_f (kb (b := decide (0 ≤ t15)) rfl (decide_eq_false h20)) ?_
  refine WCode.skip ?_
  refine WEx.then_ ?_
  refine WCode.seq ?_
  refine WCode.region ?_
  obtain ⟨b35, w36, E37, S38, X39, L40⟩ := St.var S19 (z := .agg #[]) T.zero85
  change St _ _ _ [[(b35, .cells #[] 85 (0, 0))], [(b9, .cells #[] 85 (0, 0))]] at S38
  refine WOps.e E37 rfl ?_
  refine WOps.nil ?_
  refine WEx.then_ ?_
  refine WCode.seq ?_
  refine WCode.region ?_
  refine WOps.r (G.loada T.agg85_0 rfl (cs := []) (cellsAt.of_blk (S38.blk 0 rfl) rfl)) rfl ?_
  obtain ⟨w41, E42, S43⟩ := St.store (P := Try.prog) S38 1 85 (.agg #[]) (off := 0) (cur' := #[]) rfl T.size85_0 rfl rfl rfl
  change St _ _ _ [[(b35, .cells #[] 85 (0, 0))], [(b9, .cells #[] 85 (0, 0))]] at S43
  refine WOps.u (E42 rfl rfl) ?_
  refine WOps.p (G.assign rfl) rfl ?_
  refine WOps.nil ?_
  refine WEx.then_ ?_
  refine WCode.forget (l' := [(4, .pointer (some ⟨b9, 0, none⟩)), (5, .bool false)]) ⟨rfl, rfl, trivial⟩ ?_
  refine WCode.ret ?_
  obtain rfl := some_eq hF
  refine WEx.retc1 rfl rfl (cs := []) T.agg85_0 (cellsAt.of_blk (S43.blk 1 rfl) rfl) rfl ?_
  exact ⟨rfl, St.keep (As := []) S43⟩

def se_Put (k : Nat) (a0 : Shelf_bool__struct___) (a1 : Bool) (a2 : S85) : Option (Int × Shelf_bool__struct___) := (Option.bind (se_place k a0 a1) fun t17 => (if 0 ≤ t17 then (Option.bind (idx a0.pairs t17) fun x27 => none) else (if (a0.pairs.length : Int) = a0.most then (some (140, a0)) else (Option.bind (cat a0.pairs ([(⟨a1, (⟨⟩ : S85)⟩ : Pair_bool__struct___)] : List Pair_bool__struct___)) fun l54 => (some (0, (⟨a0.most, l54⟩ : Shelf_bool__struct___)))))))
set_option maxRecDepth 100000 in
set_option maxHeartbeats 1000000 in
theorem se_Put_calls (k : Nat) (a0 : Shelf_bool__struct___) {p0 : Nat} {G0 : Grp} (a1 : Bool) (a2 : S85) {w : World} (hO0 : ObjO 157 Shelf_bool__struct___.rp p0 a0 G0) {r_ : Int × Shelf_bool__struct___} (h_ : se_Put k a0 a1 a2 = some r_) (hp_ : Hp w ([G0]).flatten) :
    Calls Try.prog 48 [.pointer (some ⟨p0, 0, none⟩), .bool a1, .agg #[]].toArray w fun e w' => ∃ Go0' : Grp, e = .returned (.int .i64 r_.1) ∧ ObjO 157 Shelf_bool__struct___.rp p0 (r_.2) Go0' ∧ St w (KS [G0]) w' [Go0'] := by
 have hF := h_
 clear h_
 unfold se_Put at hF
 have S := St.initK [G0] hp_
 obtain ⟨cs1, G2, ho3, hg4⟩ := hO0
 obtain ⟨A5, c6, G7, rfl, hO8, hq9⟩ := ho3
 have S10 : St _ _ _ [[(p0, .cells #[.int .i64 a0.most, .slice A5 a0.pairs.length c6] 157 (0, 0))], G7] := S.objs (by rw [hg4, hq9]; simp)
 refine enter 43 [(0, .pointer (some ⟨p0, 0, none⟩)), (1, .bool a1), (2, .agg #[])] Try.func48 rfl rfl rfl rfl ?_
 refine WCode.seq ?_
 refine WCode.region ?_
 obtain ⟨b11, w12, E13, S14, X15, L16⟩ := St.box S10 Try.prog 85 (.agg #[])
 change St _ _ _ [[(b11, .cells #[] 85 (0, 0))], [(p0, .cells #[.int .i64 a0.most, .slice A5 a0.pairs.length c6] 157 (0, 0))], G7] at S14
 refine WOps.e (E13 rfl) rfl ?_
 refine WOps.p (G.assign rfl) rfl ?_
 refine WOps.nil ?_
 refine WEx.then_ ?_
 refine WCode.seq ?_
 refine WCode.seq ?_
 refine WCode.region ?_
 refine WOps.p (G.move rfl) rfl ?_
 refine WOps.p (G.move rfl) rfl ?_
 obtain ⟨t17, hc18, hF⟩ := bind_some hF
 have S19 := (S14.front 2 rfl).front 2 rfl
 change St _ _ _ [[(p0, .cells #[.int .i64 a0.most, .slice A5 a0.pairs.length c6] 157 (0, 0))], G7, [(b11, .cells #[] 85 (0, 0))]] at S19
 have hP20 : PtR 157 Shelf_bool__struct___.rp w12 (KS [[(p0, .cells #[.int .i64 a0.most, .slice A5 a0.pairs.length c6] 157 (0, 0))], G7]) p0 a0 := ⟨_, S19.blk 0 rfl, KS_at 0 rfl (by simp [keys]), ⟨A5, c6, rfl, ((hO8.rd (fun b o hb => S19.grp 1 rfl hb)).mono (fun b hb => KS_at 1 rfl hb))⟩⟩
 refine WOps.call T.call88 (evs_cons rfl (evs_cons rfl evs_nil)) rfl ?_
 refine (se_place_calls k a0 a1 hP20 (St.outN (Bs := []) (As := [[(p0, .cells #[.int .i64 a0.most, .slice A5 a0.pairs.length c6] 157 (0, 0))], G7]) S19) hc18).mono ?_
 rintro _ w21 ⟨rfl, T22⟩
 have S23 := St.callN (As := []) S19 T22
 change St _ _ _ [[(p0, .cells #[.int .i64 a0.most, .slice A5 a0.pairs.length c6] 157 (0, 0))], G7, [(b11, .cells #[] 85 (0, 0))]] at S23
 refine ⟨_, rfl, ?_⟩
 refine WOps.p (G.assign rfl) rfl ?_
 refine WOps.nil ?_
 refine WEx.then_ ?_
 refine WCode.seq ?_
 refine WCode.region ?_
 refine WOps.p (G.move rfl) rfl ?_
 refine WOps.p (G.geq rfl rfl rfl) rfl ?_
 refine WOps.nil ?_
 refine WEx.then_ ?_
 rcases ite_some hF with ⟨h24, hF⟩ | ⟨h24, hF⟩
 ·
  refine WCode.cond_t (kb (b := decide (0 ≤ t17)) rfl (decide_eq_true h24)) ?_
  refine WCode.seq ?_
  refine WCode.draw [⟨0, 0, []⟩, ⟨1, 0, []⟩, ⟨2, 0, []⟩, ⟨4, 0, []⟩, ⟨3, 1, [6, 7, 8]⟩, ⟨5, 1, [6, 7, 8]⟩, ⟨6, 0, []⟩, ⟨7, 0, []⟩, ⟨8, 2, []⟩] T.mixed (by kernel_rfl) (by intro _ _ d _ _ h; cases d <;> exact h) rfl (by kernel_rfl) ?_
  have S25 := S23.drew
  generalize w21.drew = w26 at *
  refine WD.p rfl (G.move rfl) rfl ?_
  refine WD.p rfl (G.nilp rfl) rfl ?_
  refine WD.p rfl (G.field T.fld157_1 rfl (show 0 + 1 = 1 from rfl)) rfl ?_
  refine WD.p rfl (G.move rfl) rfl ?_
  refine WD.r rfl (G.load1 T.one155 rfl (cell_blk (S25.blk 0 rfl) rfl)) rfl ?_
  refine WD.r rfl (G.loada T.agg85_0 rfl (cs := []) (cellsAt.of_blk (S25.blk 2 rfl) rfl)) rfl ?_
  obtain ⟨x27, hc28, hF⟩ := bind_some hF
  obtain ⟨j29, ej30, hj31, hl32⟩ := idx_spec hc28
  obtain ⟨b33, o34, cs35, eA36, hf37, hc38, hr39⟩ := SlR.at_ (hO8.rd (fun b o hb => S25.grp 1 rfl hb)) hj31
  have hq40 : cs35 = [.bool x27.key] := hr39
  subst hq40
  change cellsAt _ _ (o34 + j29 * 1) [.bool x27.key] at hc38
  refine WD.p rfl (G.idx T.el155 rfl eA36 rfl ej30 hl32) rfl ?_
  exact nomatch (show (none : Option (Int × Shelf_bool__struct___)) = some r_ from hF)
 ·
  refine WCode.cond_f (kb (b := decide (0 ≤ t17)) rfl (decide_eq_false h24)) ?_
  refine WCode.skip ?_
  refine WEx.then_ ?_
  refine WCode.seq ?_
  refine WCode.seq ?_
  refine WCode.draw [⟨0, 0, []⟩, ⟨1, 0, []⟩, ⟨2, 0, []⟩, ⟨5, 0, []⟩, ⟨6, 0, []⟩, ⟨7, 0, []⟩, ⟨3, 1, [4, 9]⟩, ⟨4, 0, []⟩, ⟨8, 1, [9]⟩, ⟨9, 0, []⟩] T.mixed (by kernel_rfl) (by intro _ _ d _ _ h; cases d <;> exact h) rfl (by kernel_rfl) ?_
  have S41 := S23.drew
  generalize w21.drew = w42 at *
  refine WD.p rfl (G.move rfl) rfl ?_
  refine WD.p rfl (G.nilp rfl) rfl ?_
  refine WD.p rfl (G.field T.fld157_1 rfl (show 0 + 1 = 1 from rfl)) rfl ?_
  refine WD.p rfl (G.move rfl) rfl ?_
  refine WD.p rfl (G.nilp rfl) rfl ?_
  refine WD.p rfl (G.field T.fld157_0 rfl (show 0 + 0 = 0 from rfl)) rfl ?_
  refine WD.r rfl (G.load1 T.one155 rfl (cell_blk (S41.blk 0 rfl) rfl)) rfl ?_
  refine WD.p rfl (G.len T.el155 rfl) rfl ?_
  refine WD.r rfl (G.load1 T.one3 rfl (cell_blk (S41.blk 0 rfl) rfl)) rfl ?_
  refine WD.p rfl (G.eql rfl rfl rfl) rfl ?_
  refine WD.nil ?_
  refine WEx.then_ ?_
  refine WCode.forget (l' := [(0, .pointer (some ⟨p0, 0, none⟩)), (1, .bool a1), (5, .pointer (some ⟨b11, 0, none⟩)), (30, .bool (decide ((a0.pairs.length : Int) = a0.most)))]) ⟨rfl, rfl, rfl, rfl, trivial⟩ ?_
  rcases ite_some hF with ⟨h43, hF⟩ | ⟨h43, hF⟩
  ·
   refine WCode.cond_t (kb (b := decide ((a0.pairs.length : Int) = a0.most)) rfl (decide_eq_true h43)) ?_
   refine WCode.seq ?_
   refine WCode.region ?_
   refine WOps.p (G.assign rfl) rfl ?_
   refine WOps.nil ?_
   refine WEx.then_ ?_
   refine WCode.ret ?_
   refine WEx.then_ret ?_
   obtain rfl := some_eq hF
   refine WEx.ret1 rfl rfl ?_
   have hO44 : ObjO 157 Shelf_bool__struct___.rp p0 a0 ([(p0, .cells #[.int .i64 a0.most, .slice A5 a0.pairs.length c6] 157 (0, 0))] ++ (G7)) := ⟨_, _, ⟨A5, c6, G7, rfl, hO8, rfl⟩, rfl⟩
   have S45 : St _ _ _ [[(p0, .cells #[.int .i64 a0.most, .slice A5 a0.pairs.length c6] 157 (0, 0))] ++ (G7), [(b11, .cells #[] 85 (0, 0))]] := S41.objs (by simp)
   exact ⟨[(p0, .cells #[.int .i64 a0.most, .slice A5 a0.pairs.length c6] 157 (0, 0))] ++ (G7), rfl, hO44, St.keep (As := [[(p0, .cells #[.int .i64 a0.most, .slice A5 a0.pairs.length c6] 157 (0, 0))] ++ (G7)]) S45⟩
  ·
   refine WCode.cond_f (kb (b := decide ((a0.pairs.length : Int) = a0.most)) rfl (decide_eq_false h43)) ?_
   refine WCode.skip ?_
   refine WEx.then_ ?_
   refine WCode.seq ?_
   refine WCode.draw [⟨0, 0, []⟩, ⟨1, 0, []⟩, ⟨2, 0, []⟩, ⟨3, 0, []⟩, ⟨5, 0, []⟩, ⟨4, 1, [9, 10, 11, 12]⟩, ⟨6, 1, [7, 8, 9, 10, 11, 12]⟩, ⟨7, 0, []⟩, ⟨8, 2, []⟩, ⟨9, 2, []⟩, ⟨10, 0, []⟩, ⟨11, 0, []⟩, ⟨12, 2, []⟩] T.mixed (by kernel_rfl) (by intro _ _ d _ _ h; cases d <;> exact h) rfl (by kernel_rfl) ?_
   have S46 := S41.drew
   generalize w42.drew = w47 at *
   refine WD.p rfl (G.move rfl) rfl ?_
   refine WD.p rfl (G.move rfl) rfl ?_
   refine WD.p rfl (G.nilp rfl) rfl ?_
   refine WD.p rfl (G.field T.fld157_1 rfl (show 0 + 1 = 1 from rfl)) rfl ?_
   refine WD.p rfl (G.move rfl) rfl ?_
   refine WD.r rfl (G.load1 T.one155 rfl (cell_blk (S46.blk 0 rfl) rfl)) rfl ?_
   refine WD.r rfl (G.loada T.agg85_0 rfl (cs := []) (cellsAt.of_blk (S46.blk 2 rfl) rfl)) rfl ?_
   refine WD.p rfl (G.build (cells := #[.bool a1]) (evp_spec (evp_cons rfl (evp_cons rfl evp_nil))) (by kernel_rfl)) rfl ?_
   obtain ⟨b48, w49, E50, S51, X52, L53⟩ := St.lit S46 (P := Try.prog) (t := 155) (e := 166) (n := 1) (vs := [(0, .agg #[.bool a1])]) (cs := #[.bool a1]) (by kernel_rfl)
   change St _ _ _ [[(b48, .cells #[.bool a1] 166 (0, 0))], [(p0, .cells #[.int .i64 a0.most, .slice A5 a0.pairs.length c6] 157 (0, 0))], G7, [(b11, .cells #[] 85 (0, 0))]] at S51
   refine WD.e rfl (E50 (evp_cons rfl evp_nil)) rfl ?_
   obtain ⟨l54, hc55, hF⟩ := bind_some hF
   have S56 := S51.front 2 rfl
   change St _ _ _ [G7, [(b48, .cells #[.bool a1] 166 (0, 0))], [(p0, .cells #[.int .i64 a0.most, .slice A5 a0.pairs.length c6] 157 (0, 0))], [(b11, .cells #[] 85 (0, 0))]] at S56
   obtain ⟨A57, c58, G59, w60, E61, hO62, S63, hk64⟩ := St.appP (P := Try.prog) (r := Pair_bool__struct___.rp) (M := ([(⟨a1, (⟨⟩ : S85)⟩ : Pair_bool__struct___)] : List Pair_bool__struct___)) S56 T.elt155 rfl hO8 (Rd.of_blk (S56.blk 1 rfl) (n := 1) (sz := 1) rfl) ⟨_, _, [], [], rfl, rfl, ⟨rfl, rfl⟩, ⟨rfl, rfl⟩⟩ rfl hc55
   change St _ _ _ [G59, [(b48, .cells #[.bool a1] 166 (0, 0))], [(p0, .cells #[.int .i64 a0.most, .slice A5 a0.pairs.length c6] 157 (0, 0))], [(b11, .cells #[] 85 (0, 0))]] at S63
   refine WD.e rfl (E61 rfl rfl) rfl ?_
   refine WD.p rfl (G.nilp rfl) rfl ?_
   refine WD.p rfl (G.field T.fld157_1 rfl (show 0 + 1 = 1 from rfl)) rfl ?_
   obtain ⟨w65, E66, S67⟩ := St.store (P := Try.prog) S63 2 155 (.slice A57 l54.length c58) (off := 1) (cur' := #[.int .i64 a0.most, .slice A57 l54.length c58]) rfl T.size155_1 rfl rfl rfl
   change St _ _ _ [G59, [(b48, .cells #[.bool a1] 166 (0, 0))], [(p0, .cells #[.int .i64 a0.most, .slice A57 l54.length c58] 157 (0, 0))], [(b11, .cells #[] 85 (0, 0))]] at S67
   refine WD.u rfl (E66 rfl rfl) ?_
   refine WD.nil ?_
   refine WEx.then_ ?_
   refine WCode.forget (l' := []) trivial ?_
   refine WCode.seq ?_
   refine WCode.region ?_
   refine WOps.p (G.assign rfl) rfl ?_
   refine WOps.nil ?_
   refine WEx.then_ ?_
   refine WCode.ret ?_
   obtain rfl := some_eq hF
   refine WEx.ret1 rfl rfl ?_
   have S68 := S67.front 2 rfl
   change St _ _ _ [[(p0, .cells #[.int .i64 a0.most, .slice A57 l54.length c58] 157 (0, 0))], G59, [(b48, .cells #[.bool a1] 166 (0, 0))], [(b11, .cells #[] 85 (0, 0))]] at S68
   have hO69 : ObjO 157 Shelf_bool__struct___.rp p0 (⟨a0.most, l54⟩ : Shelf_bool__struct___) ([(p0, .cells #[.int .i64 a0.most, .slice A57 l54.length c58] 157 (0, 0))] ++ (G59)) := ⟨_, _, ⟨A57, c58, G59, rfl, hO62, rfl⟩, rfl⟩
   have S70 : St _ _ _ [[(p0, .cells #[.int .i64 a0.most, .slice A57 l54.length c58] 157 (0, 0))] ++ (G59), [(b48, .cells #[.bool a1] 166 (0, 0))], [(b11, .cells #[] 85 (0, 0))]] := S68.objs (by simp)
   exact ⟨[(p0, .cells #[.int .i64 a0.most, .slice A57 l54.length c58] 157 (0, 0))] ++ (G59), rfl, hO69, St.keep (As := [[(p0, .cells #[.int .i64 a0.most, .slice A57 l54.length c58] 157 (0, 0))] ++ (G59)]) S70⟩

end Go.Proofs.Ytoahkjehjmbojaa
