/- Functions and their walks (printed by auto.py over the engine). -/
import Derived.Test.YtoahkjehjmbojaaProg
import Derived.Test.YtoahkjehjmbojaaZS
namespace Go.Proofs.Ytoahkjehjmbojaa
open Go Go.Eng
set_option linter.unusedSimpArgs false
set_option linter.unusedVariables false

theorem T.agg193_2 : isAggT Try.prog 193 2 = true := by kernel_rfl
theorem T.call106 : Callable Try.prog 106 := Callable.mk Try.func106 (by kernel_rfl) (by kernel_rfl)
theorem T.call107 : Callable Try.prog 107 := Callable.mk Try.func107 (by kernel_rfl) (by kernel_rfl)
theorem T.call125 : Callable Try.prog 125 := Callable.mk Try.func125 (by kernel_rfl) (by kernel_rfl)
theorem T.call126 : Callable Try.prog 126 := Callable.mk Try.func126 (by kernel_rfl) (by kernel_rfl)
theorem T.call80 : Callable Try.prog 80 := Callable.mk Try.func80 (by kernel_rfl) (by kernel_rfl)
theorem T.call81 : Callable Try.prog 81 := Callable.mk Try.func81 (by kernel_rfl) (by kernel_rfl)
theorem T.call82 : Callable Try.prog 82 := Callable.mk Try.func82 (by kernel_rfl) (by kernel_rfl)
theorem T.call83 : Callable Try.prog 83 := Callable.mk Try.func83 (by kernel_rfl) (by kernel_rfl)
theorem T.call84 : Callable Try.prog 84 := Callable.mk Try.func84 (by kernel_rfl) (by kernel_rfl)
theorem T.call85 : Callable Try.prog 85 := Callable.mk Try.func85 (by kernel_rfl) (by kernel_rfl)
theorem T.el189 : slEl Try.prog 189 = some 2 := by kernel_rfl
theorem T.el77 : slEl Try.prog 77 = some 1 := by kernel_rfl
theorem T.elt189 : Elt Try.prog 189 193 2 24 := elt_mk (z := .agg #[.string ⟨#[]⟩, .int .i64 0]) Try.underlying189 (by kernel_rfl) rfl
theorem T.elt77 : Elt Try.prog 77 9 1 16 := elt_mk (z := .string ⟨#[]⟩) Try.underlying77 (by kernel_rfl) rfl
theorem T.fld191_0 : fldOff Try.prog 191 0 = some 0 := by kernel_rfl
theorem T.fld191_1 : fldOff Try.prog 191 1 = some 1 := by kernel_rfl
theorem T.fld193_0 : fldOff Try.prog 193 0 = some 0 := by kernel_rfl
theorem T.fld193_1 : fldOff Try.prog 193 1 = some 1 := by kernel_rfl
theorem T.one189 : isOneT Try.prog 189 = true := by kernel_rfl
theorem T.size189_1 : sizeT Try.prog 189 = some 1 := by kernel_rfl
theorem T.size193_2 : sizeT Try.prog 193 = some 2 := by kernel_rfl
theorem T.size3_1 : sizeT Try.prog 3 = some 1 := by kernel_rfl
theorem T.zero193 : zeroOf Try.prog 193 = some (.agg #[.string (bs ([] : List UInt8)), .int .i64 0]) := by kernel_rfl
structure Pair_string__int_ where
  key : List UInt8
  value : Int
  deriving DecidableEq
def Pair_string__int_.cs (x : Pair_string__int_) : List Value := [.string (bs x.key), .int .i64 x.value]
def Pair_string__int_.rp : Rp Pair_string__int_ := .plain Pair_string__int_.cs 2 (fun _ => rfl) (fun _ => rfl)
structure Shelf_string__int_ where
  most : Int
  pairs : List Pair_string__int_
  deriving DecidableEq
def Shelf_string__int_.rp : Rp Shelf_string__int_ where
  sz := 2
  rd := fun w F x cs => ∃ A1 : Option Addr, ∃ c1 : Nat, cs = [.int .i64 x.most, .slice A1 (x.pairs).length c1] ∧ SlR Pair_string__int_.rp w F A1 c1 (x.pairs)
  own := fun x cs G => ∃ A1 : Option Addr, ∃ c1 : Nat, ∃ G1 : Grp, cs = [.int .i64 x.most, .slice A1 (x.pairs).length c1] ∧ SlO 193 Pair_string__int_.rp (.slice A1 (x.pairs).length c1) (x.pairs) G1 ∧ G = G1
  len := by rintro _ _ _ _ ⟨_, _, rfl, _⟩; rfl
  one := by rintro _ _ _ _ ⟨_, _, rfl, _⟩; exact one_of_all rfl
  lenO := by rintro _ _ _ ⟨_, _, _, rfl, _⟩; rfl
  oneO := by rintro _ _ _ ⟨_, _, _, rfl, _⟩; exact one_of_all rfl
  ext := by rintro _ _ _ _ _ ⟨A1, c1, rfl, h1⟩ hE; exact ⟨A1, c1, rfl, h1.ext hE⟩
  mono := by rintro _ _ _ _ _ ⟨A1, c1, rfl, h1⟩ hF; exact ⟨A1, c1, rfl, h1.mono hF⟩
  low := by
    rintro w x cs G ⟨A1, c1, G1, rfl, h1, hGe⟩ hG
    exact ⟨A1, c1, rfl, (h1.rd (fun b o hb => hG b o (by rw [hGe]; simp [hb]))).mono (fun b (hb : b ∈ keys G1) => show b ∈ keys G by rw [hGe]; simp [keys_append, hb])⟩

def shs_New (k : Nat) (a0 : Int) : Option ((Option Shelf_string__int_) × Int) := (if a0 < 0 then (some (none, 1)) else (if 1048576 < a0 then (some (none, 1)) else (some (some (⟨a0, []⟩ : Shelf_string__int_), 0))))
set_option maxRecDepth 100000 in
set_option maxHeartbeats 1000000 in
theorem shs_New_calls (k : Nat) (a0 : Int) {w : World} {r_ : (Option Shelf_string__int_) × Int} (h_ : shs_New k a0 = some r_) :
    Calls Try.prog 80 [.int .i64 a0].toArray w fun e w' => ∃ v0' : Value, ∃ G0' : Grp, e = .returned (.tuple #[v0', .int .i64 r_.2]) ∧ OptO 191 Shelf_string__int_.rp v0' (r_.1) G0' ∧ St w (KS []) w' [G0'] := by
  have hF := h_
  clear h_
  unfold shs_New at hF
  have S := St.ofFalse (As := []) (St.init0 w)
  refine enter 13 [(0, .int .i64 a0)] Try.func80 rfl rfl rfl rfl ?_
  refine WCode.seq ?_
  refine WCode.region ?_
  refine WOps.p (G.assign rfl) rfl ?_
  refine WOps.p (G.assign rfl) rfl ?_
  refine WOps.nil ?_
  refine WEx.then_ ?_
  refine WCode.seq ?_
  refine WCode.seq ?_
  refine WCode.region ?_
  refine WOps.p (G.move rfl) rfl ?_
  refine WOps.p (G.lss rfl rfl rfl) rfl ?_
  refine WOps.p (G.move rfl) rfl ?_
  rcases ite_some hF with ⟨h1, hF⟩ | ⟨h1, hF⟩
  ·
    refine WOps.off rfl (kbl (b := decide (a0 < 0)) rfl (decide_eq_true h1)) rfl rfl ?_
    refine WOps.off rfl (kbl (b := decide (a0 < 0)) rfl (decide_eq_true h1)) rfl rfl ?_
    refine WOps.p (G.pick_t (kb (b := decide (a0 < 0)) rfl (decide_eq_true h1)) rfl) rfl ?_
    refine WOps.nil ?_
    refine WEx.then_ ?_
    refine WCode.cond_t rfl ?_
    refine WCode.seq ?_
    refine WCode.region ?_
    refine WOps.p (G.assign rfl) rfl ?_
    refine WOps.p (G.assign rfl) rfl ?_
    refine WOps.nil ?_
    refine WEx.then_ ?_
    refine WCode.ret ?_
    refine WEx.then_ret ?_
    obtain rfl := some_eq hF
    refine WEx.ret2 rfl rfl rfl ?_
    have S2 := S.emp
    exact ⟨.pointer none, ([] : Grp), rfl, ⟨rfl, rfl⟩, St.keep (As := [([] : Grp)]) S2⟩
  ·
    refine WOps.on rfl (kbl (b := decide (a0 < 0)) rfl (decide_eq_false h1)) ?_
    refine WOps.p (G.move rfl) rfl ?_
    refine WOps.on rfl (kbl (b := decide (a0 < 0)) rfl (decide_eq_false h1)) ?_
    refine WOps.p (G.gtr rfl rfl rfl) rfl ?_
    refine WOps.p (G.pick_f (kb (b := decide (a0 < 0)) rfl (decide_eq_false h1)) rfl) rfl ?_
    refine WOps.nil ?_
    refine WEx.then_ ?_
    rcases ite_some hF with ⟨h3, hF⟩ | ⟨h3, hF⟩
    ·
      refine WCode.cond_t (kb (b := decide (1048576 < a0)) rfl (decide_eq_true h3)) ?_
      refine WCode.seq ?_
      refine WCode.region ?_
      refine WOps.p (G.assign rfl) rfl ?_
      refine WOps.p (G.assign rfl) rfl ?_
      refine WOps.nil ?_
      refine WEx.then_ ?_
      refine WCode.ret ?_
      refine WEx.then_ret ?_
      obtain rfl := some_eq hF
      refine WEx.ret2 rfl rfl rfl ?_
      have S4 := S.emp
      exact ⟨.pointer none, ([] : Grp), rfl, ⟨rfl, rfl⟩, St.keep (As := [([] : Grp)]) S4⟩
    ·
      refine WCode.cond_f (kb (b := decide (1048576 < a0)) rfl (decide_eq_false h3)) ?_
      refine WCode.skip ?_
      refine WEx.then_ ?_
      refine WCode.seq ?_
      refine WCode.region ?_
      refine WOps.p (G.move rfl) rfl ?_
      refine WOps.p (G.build (cells := #[.int .i64 a0, .slice none 0 0]) (evp_spec (evp_cons rfl evp_nil)) (by kernel_rfl)) rfl ?_
      obtain ⟨b5, w6, E7, S8, X9, L10⟩ := St.box S Try.prog 191 (.agg #[.int .i64 a0, .slice none 0 0])
      change St _ _ _ [[(b5, .cells #[.int .i64 a0, .slice none 0 0] 191 (0, 0))]] at S8
      refine WOps.e (E7 rfl) rfl ?_
      refine WOps.p (G.assign rfl) rfl ?_
      refine WOps.p (G.assign rfl) rfl ?_
      refine WOps.nil ?_
      refine WEx.then_ ?_
      refine WCode.forget (l' := [(2, .pointer (some ⟨b5, 0, none⟩)), (3, .int .i64 0)]) ⟨rfl, rfl, trivial⟩ ?_
      refine WCode.ret ?_
      obtain rfl := some_eq hF
      refine WEx.ret2 rfl rfl rfl ?_
      have S11 := S8.emp
      have S13 := S11.front 1 rfl
      change St _ _ _ [[(b5, .cells #[.int .i64 a0, .slice none 0 0] 191 (0, 0))], ([] : Grp)] at S13
      have hO14 : ObjO 191 Shelf_string__int_.rp b5 (⟨a0, []⟩ : Shelf_string__int_) ([(b5, .cells #[.int .i64 a0, .slice none 0 0] 191 (0, 0))] ++ (([] : Grp))) := ⟨_, _, ⟨none, 0, ([] : Grp), rfl, (SlO.nil 193 Pair_string__int_.rp), rfl⟩, rfl⟩
      have S15 : St _ _ _ [[(b5, .cells #[.int .i64 a0, .slice none 0 0] 191 (0, 0))] ++ (([] : Grp))] := S13.objs (by simp)
      exact ⟨(.pointer (some ⟨b5, 0, none⟩)), [(b5, .cells #[.int .i64 a0, .slice none 0 0] 191 (0, 0))] ++ (([] : Grp)), rfl, ⟨_, rfl, hO14⟩, St.keep (As := [[(b5, .cells #[.int .i64 a0, .slice none 0 0] 191 (0, 0))] ++ (([] : Grp))]) S15⟩

def shs_clo (k : Nat) (a0 : Pair_string__int_) (bc0 : List UInt8) : Option Bool := (some (decide (a0.key = bc0)))
set_option maxRecDepth 100000 in
set_option maxHeartbeats 1000000 in
theorem shs_clo_calls (k : Nat) (a0 : Pair_string__int_) (bc0 : List UInt8) {qc0 : Nat} {w : World} (hBc0 : w.heap[qc0]? = some (.cells #[.string (bs bc0)] 9 (0, 0))) (hNc0 : qc0 ∉ keys ([] : List Grp).flatten) {r_ : Bool} (h_ : shs_clo k a0 bc0 = some r_) :
    Calls Try.prog 126 [.agg #[.string (bs a0.key), .int .i64 a0.value], .pointer (some ⟨qc0, 0, none⟩)].toArray w fun e w' => e = .returned (.bool r_) ∧ St w (KS []) w' [] := by
  have hF := h_
  clear h_
  unfold shs_clo at hF
  have S := St.ofFalse (As := []) (St.init0 w)
  refine enter 8 [(0, .agg #[.string (bs a0.key), .int .i64 a0.value]), (1, .pointer (some ⟨qc0, 0, none⟩))] Try.func126 rfl rfl rfl rfl ?_
  refine WCode.seq ?_
  refine WCode.region ?_
  obtain ⟨b1, w2, E3, S4, X5, L6⟩ := St.box S Try.prog 193 (.agg #[.string (bs a0.key), .int .i64 a0.value])
  change St _ _ _ [[(b1, .cells #[.string (bs a0.key), .int .i64 a0.value] 193 (0, 0))]] at S4
  refine WOps.e (E3 rfl) rfl ?_
  refine WOps.p (G.assign rfl) rfl ?_
  refine WOps.nil ?_
  refine WEx.then_ ?_
  refine WCode.seq ?_
  refine WCode.region ?_
  refine WOps.p (G.field T.fld193_0 rfl (show 0 + 0 = 0 from rfl)) rfl ?_
  refine WOps.r (G.load1 T.one9 rfl (cell_blk (S4.blk 0 rfl) rfl)) rfl ?_
  refine WOps.r (G.load1 T.one9 rfl (cell_blk ((S4.fr qc0 (lt_of_blk hBc0) hNc0).trans hBc0) rfl)) rfl ?_
  refine WOps.p (G.eqlb' rfl rfl rfl) rfl ?_
  refine WOps.p (G.assign rfl) rfl ?_
  refine WOps.nil ?_
  refine WEx.then_ ?_
  refine WCode.ret ?_
  obtain rfl := some_eq hF
  refine WEx.ret1 rfl rfl ?_
  exact ⟨rfl, St.keep (As := []) S4⟩

def shs_idx.l1 : Nat → List Pair_string__int_ → List UInt8 → Int → Option Int
  | 0, _, _, _ => none
  | k4 + 1, a0, b1_0, x1 => (if x1 < (a0.length : Int) then (Option.bind (idx a0 x1) fun x8 => (Option.bind (shs_clo k4 x8 b1_0) fun t22 => (if t22 = true then (some x1) else (shs_idx.l1 k4 a0 b1_0 (w64 (x1 + 1)))))) else (some (-1)))
def shs_idx (k : Nat) (a0 : List Pair_string__int_) (b1_0 : List UInt8) : Option Int := (shs_idx.l1 k a0 b1_0 0)
set_option maxRecDepth 100000 in
set_option maxHeartbeats 1000000 in
theorem shs_idx_calls (k : Nat) (a0 : List Pair_string__int_) {A0 : Option Addr} {c0 : Nat} {F0 : Nat → Prop} (b1_0 : List UInt8) {q1_0 : Nat} {w : World} (hR0 : SlR Pair_string__int_.rp w F0 A0 c0 a0) (hF0 : ∀ b, F0 b → NK w [] b) (hB1_0 : w.heap[q1_0]? = some (.cells #[.string (bs b1_0)] 9 (0, 0))) (hN1_0 : q1_0 ∉ keys ([] : List Grp).flatten) {r_ : Int} (h_ : shs_idx k a0 b1_0 = some r_) :
    Calls Try.prog 125 [.slice A0 a0.length c0, .func (.func 126) #[] #[.pointer (some ⟨q1_0, 0, none⟩)]].toArray w fun e w' => e = .returned (.int .i64 r_) ∧ St w (KS []) w' [] := by
  have hF := h_
  clear h_
  unfold shs_idx at hF
  have S := St.ofFalse (As := []) (St.init0 w)
  refine enter 19 [(0, .slice A0 a0.length c0), (1, .func (.func 126) #[] #[.pointer (some ⟨q1_0, 0, none⟩)])] Try.func125 rfl rfl rfl rfl ?_
  refine WCode.seq ?_
  refine WCode.region ?_
  refine WOps.p (G.assign rfl) rfl ?_
  refine WOps.nil ?_
  refine WEx.then_ ?_
  refine WCode.seq ?_
  refine WCode.seq ?_
  refine WCode.region ?_
  refine WOps.p (G.move rfl) rfl ?_
  refine WOps.p (G.len T.el189 rfl) rfl ?_
  refine WOps.p (G.move rfl) rfl ?_
  refine WOps.nil ?_
  refine WEx.then_ ?_
  refine WCode.block ?_
  refine WCode.forget (l' := [(0, .slice A0 a0.length c0), (1, .func (.func 126) #[] #[.pointer (some ⟨q1_0, 0, none⟩)]), (7, .int .i64 (a0.length : Int)), (8, .int .i64 0)]) ⟨rfl, rfl, rfl, rfl, trivial⟩ ?_
  refine WCode.loop (fun n_ l_ w_ => ∃ x1 : Int, l_ = [(0, .slice A0 a0.length c0), (1, .func (.func 126) #[] #[.pointer (some ⟨q1_0, 0, none⟩)]), (7, .int .i64 (a0.length : Int)), (8, .int .i64 x1)] ∧ shs_idx.l1 n_ a0 b1_0 x1 = some r_ ∧ St w (KS []) w_ []) k ⟨0, rfl, hF, S⟩ ?_
  rintro n5 _ w2 ⟨x1, rfl, hF, S3⟩
  obtain _ | k4 := n5
  · exact nomatch (show (none : Option Int) = some r_ from hF)
  rw [shs_idx.l1] at hF
  refine WCode.seq ?_
  refine WCode.region ?_
  refine WOps.p (G.lss rfl rfl rfl) rfl ?_
  refine WOps.nil ?_
  refine WEx.then_ ?_
  refine WCode.seq ?_
  rcases ite_some hF with ⟨h7, hF⟩ | ⟨h7, hF⟩
  ·
    refine WCode.cond_t (kb (b := decide (x1 < (a0.length : Int))) rfl (decide_eq_true h7)) ?_
    refine WCode.skip ?_
    refine WEx.then_ ?_
    refine WCode.seq ?_
    refine WCode.block ?_
    refine WCode.seq ?_
    refine WCode.region ?_
    refine WOps.p (G.move rfl) rfl ?_
    refine WOps.p (G.assign rfl) rfl ?_
    refine WOps.nil ?_
    refine WEx.then_ ?_
    refine WCode.seq ?_
    refine WCode.region ?_
    refine WOps.p (G.move rfl) rfl ?_
    refine WOps.p (G.move rfl) rfl ?_
    refine WOps.p (G.move rfl) rfl ?_
    obtain ⟨x8, hc9, hF⟩ := bind_some hF
    obtain ⟨j10, ej11, hj12, hl13⟩ := idx_spec hc9
    obtain ⟨b14, o15, cs16, eA17, hf18, hc19, hr20⟩ := SlR.at_ (hR0.ext (S3.keepF hF0)) hj12
    have hq21 : cs16 = [.string (bs x8.key), .int .i64 x8.value] := hr20
    subst hq21
    change cellsAt _ _ (o15 + j10 * 2) [.string (bs x8.key), .int .i64 x8.value] at hc19
    refine WOps.p (G.idx T.el189 rfl eA17 rfl ej11 hl13) rfl ?_
    refine WOps.r (G.loada T.agg193_2 rfl (cs := [.string (bs x8.key), .int .i64 x8.value]) hc19) rfl ?_
    obtain ⟨t22, hc23, hF⟩ := bind_some hF
    refine WOps.callv T.call126 rfl (evs_cons rfl evs_nil) rfl ?_
    refine (shs_clo_calls k4 x8 b1_0 ((S3.fr q1_0 (lt_of_blk hB1_0) hN1_0).trans hB1_0) (by simp [keys]) hc23).mono ?_
    rintro _ w24 ⟨rfl, T25⟩
    have S26 := St.callN (As := []) S3 T25
    change St _ _ _ [] at S26
    refine ⟨_, rfl, ?_⟩
    refine WOps.nil ?_
    refine WEx.then_ ?_
    rcases ite_some hF with ⟨h27, hF⟩ | ⟨h27, hF⟩
    ·
      refine WCode.cond_t (kb (b := t22) rfl h27) ?_
      refine WCode.seq ?_
      refine WCode.region ?_
      refine WOps.p (G.move rfl) rfl ?_
      refine WOps.p (G.assign rfl) rfl ?_
      refine WOps.nil ?_
      refine WEx.then_ ?_
      refine WCode.forget (l' := [(4, .int .i64 x1)]) ⟨rfl, trivial⟩ ?_
      refine WCode.ret ?_
      refine WEx.in_ret ?_
      refine WEx.then_ret ?_
      refine WEx.then_ret ?_
      refine WEx.in_ret ?_
      refine WEx.then_ret ?_
      obtain rfl := some_eq hF
      refine WEx.ret1 rfl rfl ?_
      exact ⟨rfl, St.keep (As := []) S26⟩
    ·
      refine WCode.cond_f (kb (b := t22) rfl (Bool.eq_false_iff.2 h27)) ?_
      refine WCode.skip ?_
      refine WEx.in_normal ?_
      refine WEx.then_ ?_
      refine WCode.region ?_
      refine WOps.p (G.add rfl rfl (r := (w64 (x1 + 1))) rfl) rfl ?_
      refine WOps.p (G.move rfl) rfl ?_
      refine WOps.nil ?_
      refine WEx.again _ _ (by omega) ?_ ⟨w64 (x1 + 1), rfl, hF, S26⟩
      exact ⟨rfl, rfl, rfl, rfl, trivial⟩
  ·
    refine WCode.cond_f (kb (b := decide (x1 < (a0.length : Int))) rfl (decide_eq_false h7)) ?_
    refine WCode.exit ?_
    refine WEx.then_exit ?_
    refine WEx.then_exit ?_
    refine WEx.in_exit ?_
    refine WEx.then_ ?_
    refine WCode.seq ?_
    refine WCode.region ?_
    refine WOps.p (G.assign rfl) rfl ?_
    refine WOps.nil ?_
    refine WEx.then_ ?_
    refine WCode.ret ?_
    obtain rfl := some_eq hF
    refine WEx.ret1 rfl rfl ?_
    exact ⟨rfl, St.keep (As := []) S3⟩

def shs_place (k : Nat) (a0 : Shelf_string__int_) (a1 : List UInt8) : Option (Int × Shelf_string__int_) := (Option.bind (shs_idx k a0.pairs a1) fun t17 => (some (t17, a0)))
set_option maxRecDepth 100000 in
set_option maxHeartbeats 1000000 in
theorem shs_place_calls (k : Nat) (a0 : Shelf_string__int_) {p0 : Nat} {G0 : Grp} (a1 : List UInt8) {w : World} (hO0 : ObjO 191 Shelf_string__int_.rp p0 a0 G0) {r_ : Int × Shelf_string__int_} (h_ : shs_place k a0 a1 = some r_) (hp_ : Hp w ([G0]).flatten) :
    Calls Try.prog 106 [.pointer (some ⟨p0, 0, none⟩), .string (bs a1)].toArray w fun e w' => ∃ Go0' : Grp, e = .returned (.int .i64 r_.1) ∧ ObjO 191 Shelf_string__int_.rp p0 (r_.2) Go0' ∧ St w (KS [G0]) w' [Go0'] := by
  have hF := h_
  clear h_
  unfold shs_place at hF
  have S := St.initK [G0] hp_
  obtain ⟨cs1, G2, ho3, hg4⟩ := hO0
  obtain ⟨A5, c6, G7, rfl, hO8, hq9⟩ := ho3
  have S10 : St _ _ _ [[(p0, .cells #[.int .i64 a0.most, .slice A5 a0.pairs.length c6] 191 (0, 0))], G7] := S.objs (by rw [hg4, hq9]; simp)
  refine enter 11 [(0, .pointer (some ⟨p0, 0, none⟩)), (1, .string (bs a1))] Try.func106 rfl rfl rfl rfl ?_
  refine WCode.seq ?_
  refine WCode.region ?_
  obtain ⟨b11, w12, E13, S14, X15, L16⟩ := St.box S10 Try.prog 9 (.string (bs a1))
  change St _ _ _ [[(b11, .cells #[.string (bs a1)] 9 (0, 0))], [(p0, .cells #[.int .i64 a0.most, .slice A5 a0.pairs.length c6] 191 (0, 0))], G7] at S14
  refine WOps.e (E13 rfl) rfl ?_
  refine WOps.p (G.assign rfl) rfl ?_
  refine WOps.nil ?_
  refine WEx.then_ ?_
  refine WCode.seq ?_
  refine WCode.region ?_
  refine WOps.p (G.move rfl) rfl ?_
  refine WOps.p (G.nilp rfl) rfl ?_
  refine WOps.p (G.field T.fld191_1 rfl (show 0 + 1 = 1 from rfl)) rfl ?_
  refine WOps.r (G.load1 T.one189 rfl (cell_blk (S14.blk 1 rfl) rfl)) rfl ?_
  refine WOps.p (G.makeFunc (evs_cons rfl evs_nil)) rfl ?_
  obtain ⟨t17, hc18, hF⟩ := bind_some hF
  refine WOps.call T.call125 (evs_cons rfl (evs_cons rfl evs_nil)) rfl ?_
  refine (shs_idx_calls k a0.pairs a1 (hO8.rd (fun b o hb => S14.grp 2 rfl hb)) (St.outG (Bs := []) S14 2 rfl) (S14.blk 0 rfl) (by simp [keys]) hc18).mono ?_
  rintro _ w19 ⟨rfl, T20⟩
  have S21 := St.callN (As := []) S14 T20
  change St _ _ _ [[(b11, .cells #[.string (bs a1)] 9 (0, 0))], [(p0, .cells #[.int .i64 a0.most, .slice A5 a0.pairs.length c6] 191 (0, 0))], G7] at S21
  refine ⟨_, rfl, ?_⟩
  refine WOps.p (G.assign rfl) rfl ?_
  refine WOps.nil ?_
  refine WEx.then_ ?_
  refine WCode.ret ?_
  obtain rfl := some_eq hF
  refine WEx.ret1 rfl rfl ?_
  have S22 := S21.front 2 rfl
  change St _ _ _ [G7, [(b11, .cells #[.string (bs a1)] 9 (0, 0))], [(p0, .cells #[.int .i64 a0.most, .slice A5 a0.pairs.length c6] 191 (0, 0))]] at S22
  have S23 := S22.front 2 rfl
  change St _ _ _ [[(p0, .cells #[.int .i64 a0.most, .slice A5 a0.pairs.length c6] 191 (0, 0))], G7, [(b11, .cells #[.string (bs a1)] 9 (0, 0))]] at S23
  have hO24 : ObjO 191 Shelf_string__int_.rp p0 a0 ([(p0, .cells #[.int .i64 a0.most, .slice A5 a0.pairs.length c6] 191 (0, 0))] ++ (G7)) := ⟨_, _, ⟨A5, c6, G7, rfl, hO8, rfl⟩, rfl⟩
  have S25 : St _ _ _ [[(p0, .cells #[.int .i64 a0.most, .slice A5 a0.pairs.length c6] 191 (0, 0))] ++ (G7), [(b11, .cells #[.string (bs a1)] 9 (0, 0))]] := S23.objs (by simp)
  exact ⟨[(p0, .cells #[.int .i64 a0.most, .slice A5 a0.pairs.length c6] 191 (0, 0))] ++ (G7), rfl, hO24, St.keep (As := [[(p0, .cells #[.int .i64 a0.most, .slice A5 a0.pairs.length c6] 191 (0, 0))] ++ (G7)]) S25⟩

def shs_Len (k : Nat) (a0 : Shelf_string__int_) : Option (Int × Shelf_string__int_) := (some ((a0.pairs.length : Int), a0))
set_option maxRecDepth 100000 in
set_option maxHeartbeats 1000000 in
theorem shs_Len_calls (k : Nat) (a0 : Shelf_string__int_) {p0 : Nat} {G0 : Grp} {w : World} (hO0 : ObjO 191 Shelf_string__int_.rp p0 a0 G0) {r_ : Int × Shelf_string__int_} (h_ : shs_Len k a0 = some r_) (hp_ : Hp w ([G0]).flatten) :
    Calls Try.prog 85 [.pointer (some ⟨p0, 0, none⟩)].toArray w fun e w' => ∃ Go0' : Grp, e = .returned (.int .i64 r_.1) ∧ ObjO 191 Shelf_string__int_.rp p0 (r_.2) Go0' ∧ St w (KS [G0]) w' [Go0'] := by
  have hF := h_
  clear h_
  unfold shs_Len at hF
  have S := St.initK [G0] hp_
  obtain ⟨cs1, G2, ho3, hg4⟩ := hO0
  obtain ⟨A5, c6, G7, rfl, hO8, hq9⟩ := ho3
  have S10 : St _ _ _ [[(p0, .cells #[.int .i64 a0.most, .slice A5 a0.pairs.length c6] 191 (0, 0))], G7] := S.objs (by rw [hg4, hq9]; simp)
  refine enter 8 [(0, .pointer (some ⟨p0, 0, none⟩))] Try.func85 rfl rfl rfl rfl ?_
  refine WCode.seq ?_
  refine WCode.region ?_
  refine WOps.p (G.assign rfl) rfl ?_
  refine WOps.nil ?_
  refine WEx.then_ ?_
  refine WCode.seq ?_
  refine WCode.region ?_
  refine WOps.p (G.move rfl) rfl ?_
  refine WOps.p (G.nilp rfl) rfl ?_
  refine WOps.p (G.field T.fld191_1 rfl (show 0 + 1 = 1 from rfl)) rfl ?_
  refine WOps.r (G.load1 T.one189 rfl (cell_blk (S10.blk 0 rfl) rfl)) rfl ?_
  refine WOps.p (G.len T.el189 rfl) rfl ?_
  refine WOps.p (G.assign rfl) rfl ?_
  refine WOps.nil ?_
  refine WEx.then_ ?_
  refine WCode.ret ?_
  obtain rfl := some_eq hF
  refine WEx.ret1 rfl rfl ?_
  have S11 := S10.front 1 rfl
  change St _ _ _ [G7, [(p0, .cells #[.int .i64 a0.most, .slice A5 a0.pairs.length c6] 191 (0, 0))]] at S11
  have S12 := S11.front 1 rfl
  change St _ _ _ [[(p0, .cells #[.int .i64 a0.most, .slice A5 a0.pairs.length c6] 191 (0, 0))], G7] at S12
  have hO13 : ObjO 191 Shelf_string__int_.rp p0 a0 ([(p0, .cells #[.int .i64 a0.most, .slice A5 a0.pairs.length c6] 191 (0, 0))] ++ (G7)) := ⟨_, _, ⟨A5, c6, G7, rfl, hO8, rfl⟩, rfl⟩
  have S14 : St _ _ _ [[(p0, .cells #[.int .i64 a0.most, .slice A5 a0.pairs.length c6] 191 (0, 0))] ++ (G7)] := S12.objs (by simp)
  exact ⟨[(p0, .cells #[.int .i64 a0.most, .slice A5 a0.pairs.length c6] 191 (0, 0))] ++ (G7), rfl, hO13, St.keep (As := [[(p0, .cells #[.int .i64 a0.most, .slice A5 a0.pairs.length c6] 191 (0, 0))] ++ (G7)]) S14⟩

def shs_Get (k : Nat) (a0 : Shelf_string__int_) (a1 : List UInt8) : Option (Int × Bool × Shelf_string__int_) := (Option.bind (shs_place k a0 a1) fun t15 => (if 0 ≤ t15.1 then (Option.bind (idx t15.2.pairs t15.1) fun x33 => (some (x33.value, true, t15.2))) else (some (0, false, t15.2))))
set_option maxRecDepth 100000 in
set_option maxHeartbeats 1000000 in
theorem shs_Get_calls (k : Nat) (a0 : Shelf_string__int_) {p0 : Nat} {G0 : Grp} (a1 : List UInt8) {w : World} (hO0 : ObjO 191 Shelf_string__int_.rp p0 a0 G0) {r_ : Int × Bool × Shelf_string__int_} (h_ : shs_Get k a0 a1 = some r_) (hp_ : Hp w ([G0]).flatten) :
    Calls Try.prog 83 [.pointer (some ⟨p0, 0, none⟩), .string (bs a1)].toArray w fun e w' => ∃ Go0' : Grp, e = .returned (.tuple #[.int .i64 r_.1, .bool r_.2.1]) ∧ ObjO 191 Shelf_string__int_.rp p0 (r_.2.2) Go0' ∧ St w (KS [G0]) w' [Go0'] := by
  have hF := h_
  clear h_
  unfold shs_Get at hF
  have S := St.initK [G0] hp_
  obtain ⟨cs1, G2, ho3, hg4⟩ := hO0
  obtain ⟨A5, c6, G7, rfl, hO8, hq9⟩ := ho3
  have S10 : St _ _ _ [[(p0, .cells #[.int .i64 a0.most, .slice A5 a0.pairs.length c6] 191 (0, 0))], G7] := S.objs (by rw [hg4, hq9]; simp)
  refine enter 22 [(0, .pointer (some ⟨p0, 0, none⟩)), (1, .string (bs a1))] Try.func83 rfl rfl rfl rfl ?_
  refine WCode.seq ?_
  refine WCode.region ?_
  refine WOps.p (G.assign rfl) rfl ?_
  refine WOps.p (G.assign rfl) rfl ?_
  refine WOps.nil ?_
  refine WEx.then_ ?_
  refine WCode.seq ?_
  refine WCode.seq ?_
  refine WCode.region ?_
  refine WOps.p (G.move rfl) rfl ?_
  refine WOps.p (G.move rfl) rfl ?_
  have S11 := S10.front 1 rfl
  change St _ _ _ [G7, [(p0, .cells #[.int .i64 a0.most, .slice A5 a0.pairs.length c6] 191 (0, 0))]] at S11
  have S12 := S11.front 1 rfl
  change St _ _ _ [[(p0, .cells #[.int .i64 a0.most, .slice A5 a0.pairs.length c6] 191 (0, 0))], G7] at S12
  have hO13 : ObjO 191 Shelf_string__int_.rp p0 a0 ([(p0, .cells #[.int .i64 a0.most, .slice A5 a0.pairs.length c6] 191 (0, 0))] ++ (G7)) := ⟨_, _, ⟨A5, c6, G7, rfl, hO8, rfl⟩, rfl⟩
  have S14 : St _ _ _ [[(p0, .cells #[.int .i64 a0.most, .slice A5 a0.pairs.length c6] 191 (0, 0))] ++ (G7)] := S12.objs (by simp)
  obtain ⟨t15, hc16, hF⟩ := bind_some hF
  refine WOps.call T.call106 (evs_cons rfl (evs_cons rfl evs_nil)) rfl ?_
  refine (shs_place_calls k a0 a1 hO13 hc16 (St.hpN (As := [[(p0, .cells #[.int .i64 a0.most, .slice A5 a0.pairs.length c6] 191 (0, 0))] ++ (G7)]) S14)).mono ?_
  rintro _ w17 ⟨G20, rfl, hO21, T18⟩
  have S19 := St.callN (As := [[(p0, .cells #[.int .i64 a0.most, .slice A5 a0.pairs.length c6] 191 (0, 0))] ++ (G7)]) S14 T18
  change St _ _ _ [G20] at S19
  refine ⟨_, rfl, ?_⟩
  obtain ⟨cs22, G23, ho24, hg25⟩ := hO21
  obtain ⟨A26, c27, G28, rfl, hO29, hq30⟩ := ho24
  have S31 : St _ _ _ [[(p0, .cells #[.int .i64 t15.2.most, .slice A26 t15.2.pairs.length c27] 191 (0, 0))], G28] := S19.objs (by rw [hg25, hq30]; simp)
  refine WOps.p (G.assign rfl) rfl ?_
  refine WOps.nil ?_
  refine WEx.then_ ?_
  refine WCode.seq ?_
  refine WCode.region ?_
  refine WOps.p (G.move rfl) rfl ?_
  refine WOps.p (G.geq rfl rfl rfl) rfl ?_
  refine WOps.nil ?_
  refine WEx.then_ ?_
  rcases ite_some hF with ⟨h32, hF⟩ | ⟨h32, hF⟩
  ·
    refine WCode.cond_t (kb (b := decide (0 ≤ t15.1)) rfl (decide_eq_true h32)) ?_
    refine WCode.seq ?_
    refine WCode.region ?_
    refine WOps.p (G.move rfl) rfl ?_
    refine WOps.p (G.nilp rfl) rfl ?_
    refine WOps.p (G.field T.fld191_1 rfl (show 0 + 1 = 1 from rfl)) rfl ?_
    refine WOps.r (G.load1 T.one189 rfl (cell_blk (S31.blk 0 rfl) rfl)) rfl ?_
    refine WOps.p (G.move rfl) rfl ?_
    obtain ⟨x33, hc34, hF⟩ := bind_some hF
    obtain ⟨j35, ej36, hj37, hl38⟩ := idx_spec hc34
    obtain ⟨b39, o40, cs41, eA42, hf43, hc44, hr45⟩ := SlR.at_ (hO29.rd (fun b o hb => S31.grp 1 rfl hb)) hj37
    have hq46 : cs41 = [.string (bs x33.key), .int .i64 x33.value] := hr45
    subst hq46
    change cellsAt _ _ (o40 + j35 * 2) [.string (bs x33.key), .int .i64 x33.value] at hc44
    refine WOps.p (G.idx T.el189 rfl eA42 rfl ej36 hl38) rfl ?_
    refine WOps.p (G.field T.fld193_1 rfl (show o40 + j35 * 2 + 1 = o40 + j35 * 2 + 1 from rfl)) rfl ?_
    refine WOps.r (G.load1 T.one3 rfl (cellsAt.at hc44 1 rfl)) rfl ?_
    refine WOps.p (G.assign rfl) rfl ?_
    refine WOps.p (G.assign rfl) rfl ?_
    refine WOps.nil ?_
    refine WEx.then_ ?_
    refine WCode.forget (l' := [(4, .int .i64 x33.value), (5, .bool true)]) ⟨rfl, rfl, trivial⟩ ?_
    refine WCode.ret ?_
    refine WEx.then_ret ?_
    obtain rfl := some_eq hF
    refine WEx.ret2 rfl rfl rfl ?_
    have S47 := S31.front 1 rfl
    change St _ _ _ [G28, [(p0, .cells #[.int .i64 t15.2.most, .slice A26 t15.2.pairs.length c27] 191 (0, 0))]] at S47
    have S48 := S47.front 1 rfl
    change St _ _ _ [[(p0, .cells #[.int .i64 t15.2.most, .slice A26 t15.2.pairs.length c27] 191 (0, 0))], G28] at S48
    have hO49 : ObjO 191 Shelf_string__int_.rp p0 t15.2 ([(p0, .cells #[.int .i64 t15.2.most, .slice A26 t15.2.pairs.length c27] 191 (0, 0))] ++ (G28)) := ⟨_, _, ⟨A26, c27, G28, rfl, hO29, rfl⟩, rfl⟩
    have S50 : St _ _ _ [[(p0, .cells #[.int .i64 t15.2.most, .slice A26 t15.2.pairs.length c27] 191 (0, 0))] ++ (G28)] := S48.objs (by simp)
    exact ⟨[(p0, .cells #[.int .i64 t15.2.most, .slice A26 t15.2.pairs.length c27] 191 (0, 0))] ++ (G28), rfl, hO49, St.keep (As := [[(p0, .cells #[.int .i64 t15.2.most, .slice A26 t15.2.pairs.length c27] 191 (0, 0))] ++ (G28)]) S50⟩
  ·
    refine WCode.cond_f (kb (b := decide (0 ≤ t15.1)) rfl (decide_eq_false h32)) ?_
    refine WCode.skip ?_
    refine WEx.then_ ?_
    refine WCode.forget (l' := []) trivial ?_
    refine WCode.seq ?_
    refine WCode.region ?_
    refine WOps.p (G.assign rfl) rfl ?_
    refine WOps.nil ?_
    refine WEx.then_ ?_
    refine WCode.seq ?_
    refine WCode.region ?_
    refine WOps.p (G.move rfl) rfl ?_
    refine WOps.p (G.assign rfl) rfl ?_
    refine WOps.p (G.assign rfl) rfl ?_
    refine WOps.nil ?_
    refine WEx.then_ ?_
    refine WCode.ret ?_
    obtain rfl := some_eq hF
    refine WEx.ret2 rfl rfl rfl ?_
    have S51 := S31.front 1 rfl
    change St _ _ _ [G28, [(p0, .cells #[.int .i64 t15.2.most, .slice A26 t15.2.pairs.length c27] 191 (0, 0))]] at S51
    have S52 := S51.front 1 rfl
    change St _ _ _ [[(p0, .cells #[.int .i64 t15.2.most, .slice A26 t15.2.pairs.length c27] 191 (0, 0))], G28] at S52
    have hO53 : ObjO 191 Shelf_string__int_.rp p0 t15.2 ([(p0, .cells #[.int .i64 t15.2.most, .slice A26 t15.2.pairs.length c27] 191 (0, 0))] ++ (G28)) := ⟨_, _, ⟨A26, c27, G28, rfl, hO29, rfl⟩, rfl⟩
    have S54 : St _ _ _ [[(p0, .cells #[.int .i64 t15.2.most, .slice A26 t15.2.pairs.length c27] 191 (0, 0))] ++ (G28)] := S52.objs (by simp)
    exact ⟨[(p0, .cells #[.int .i64 t15.2.most, .slice A26 t15.2.pairs.length c27] 191 (0, 0))] ++ (G28), rfl, hO53, St.keep (As := [[(p0, .cells #[.int .i64 t15.2.most, .slice A26 t15.2.pairs.length c27] 191 (0, 0))] ++ (G28)]) S54⟩

def shs_Put (k : Nat) (a0 : Shelf_string__int_) (a1 : List UInt8) (a2 : Int) : Option (Int × Shelf_string__int_) := (Option.bind (shs_place k a0 a1) fun t15 => (if 0 ≤ t15.1 then (Option.bind (idx t15.2.pairs t15.1) fun x33 => (Option.bind (upd t15.2.pairs t15.1 (⟨x33.key, a2⟩ : Pair_string__int_)) fun l47 => (some (0, (⟨t15.2.most, l47⟩ : Shelf_string__int_))))) else (if (t15.2.pairs.length : Int) = t15.2.most then (some (140, t15.2)) else (Option.bind (cat t15.2.pairs ([(⟨a1, a2⟩ : Pair_string__int_)] : List Pair_string__int_)) fun l73 => (some (0, (⟨t15.2.most, l73⟩ : Shelf_string__int_)))))))
set_option maxRecDepth 100000 in
set_option maxHeartbeats 1000000 in
theorem shs_Put_calls (k : Nat) (a0 : Shelf_string__int_) {p0 : Nat} {G0 : Grp} (a1 : List UInt8) (a2 : Int) {w : World} (hO0 : ObjO 191 Shelf_string__int_.rp p0 a0 G0) {r_ : Int × Shelf_string__int_} (h_ : shs_Put k a0 a1 a2 = some r_) (hp_ : Hp w ([G0]).flatten) :
    Calls Try.prog 81 [.pointer (some ⟨p0, 0, none⟩), .string (bs a1), .int .i64 a2].toArray w fun e w' => ∃ Go0' : Grp, e = .returned (.int .i64 r_.1) ∧ ObjO 191 Shelf_string__int_.rp p0 (r_.2) Go0' ∧ St w (KS [G0]) w' [Go0'] := by
  have hF := h_
  clear h_
  unfold shs_Put at hF
  have S := St.initK [G0] hp_
  obtain ⟨cs1, G2, ho3, hg4⟩ := hO0
  obtain ⟨A5, c6, G7, rfl, hO8, hq9⟩ := ho3
  have S10 : St _ _ _ [[(p0, .cells #[.int .i64 a0.most, .slice A5 a0.pairs.length c6] 191 (0, 0))], G7] := S.objs (by rw [hg4, hq9]; simp)
  refine enter 43 [(0, .pointer (some ⟨p0, 0, none⟩)), (1, .string (bs a1)), (2, .int .i64 a2)] Try.func81 rfl rfl rfl rfl ?_
  refine WCode.seq ?_
  refine WCode.region ?_
  refine WOps.p (G.assign rfl) rfl ?_
  refine WOps.nil ?_
  refine WEx.then_ ?_
  refine WCode.seq ?_
  refine WCode.seq ?_
  refine WCode.region ?_
  refine WOps.p (G.move rfl) rfl ?_
  refine WOps.p (G.move rfl) rfl ?_
  have S11 := S10.front 1 rfl
  change St _ _ _ [G7, [(p0, .cells #[.int .i64 a0.most, .slice A5 a0.pairs.length c6] 191 (0, 0))]] at S11
  have S12 := S11.front 1 rfl
  change St _ _ _ [[(p0, .cells #[.int .i64 a0.most, .slice A5 a0.pairs.length c6] 191 (0, 0))], G7] at S12
  have hO13 : ObjO 191 Shelf_string__int_.rp p0 a0 ([(p0, .cells #[.int .i64 a0.most, .slice A5 a0.pairs.length c6] 191 (0, 0))] ++ (G7)) := ⟨_, _, ⟨A5, c6, G7, rfl, hO8, rfl⟩, rfl⟩
  have S14 : St _ _ _ [[(p0, .cells #[.int .i64 a0.most, .slice A5 a0.pairs.length c6] 191 (0, 0))] ++ (G7)] := S12.objs (by simp)
  obtain ⟨t15, hc16, hF⟩ := bind_some hF
  refine WOps.call T.call106 (evs_cons rfl (evs_cons rfl evs_nil)) rfl ?_
  refine (shs_place_calls k a0 a1 hO13 hc16 (St.hpN (As := [[(p0, .cells #[.int .i64 a0.most, .slice A5 a0.pairs.length c6] 191 (0, 0))] ++ (G7)]) S14)).mono ?_
  rintro _ w17 ⟨G20, rfl, hO21, T18⟩
  have S19 := St.callN (As := [[(p0, .cells #[.int .i64 a0.most, .slice A5 a0.pairs.length c6] 191 (0, 0))] ++ (G7)]) S14 T18
  change St _ _ _ [G20] at S19
  refine ⟨_, rfl, ?_⟩
  obtain ⟨cs22, G23, ho24, hg25⟩ := hO21
  obtain ⟨A26, c27, G28, rfl, hO29, hq30⟩ := ho24
  have S31 : St _ _ _ [[(p0, .cells #[.int .i64 t15.2.most, .slice A26 t15.2.pairs.length c27] 191 (0, 0))], G28] := S19.objs (by rw [hg25, hq30]; simp)
  refine WOps.p (G.assign rfl) rfl ?_
  refine WOps.nil ?_
  refine WEx.then_ ?_
  refine WCode.seq ?_
  refine WCode.region ?_
  refine WOps.p (G.move rfl) rfl ?_
  refine WOps.p (G.geq rfl rfl rfl) rfl ?_
  refine WOps.nil ?_
  refine WEx.then_ ?_
  rcases ite_some hF with ⟨h32, hF⟩ | ⟨h32, hF⟩
  ·
    refine WCode.cond_t (kb (b := decide (0 ≤ t15.1)) rfl (decide_eq_true h32)) ?_
    refine WCode.seq ?_
    refine WCode.region ?_
    refine WOps.p (G.move rfl) rfl ?_
    refine WOps.p (G.nilp rfl) rfl ?_
    refine WOps.p (G.field T.fld191_1 rfl (show 0 + 1 = 1 from rfl)) rfl ?_
    refine WOps.r (G.load1 T.one189 rfl (cell_blk (S31.blk 0 rfl) rfl)) rfl ?_
    refine WOps.p (G.move rfl) rfl ?_
    refine WOps.p (G.move rfl) rfl ?_
    obtain ⟨x33, hc34, hF⟩ := bind_some hF
    obtain ⟨j35, ej36, hj37, hl38⟩ := idx_spec hc34
    obtain ⟨b39, o40, cs41, eA42, hf43, hc44, hr45⟩ := SlR.at_ (hO29.rd (fun b o hb => S31.grp 1 rfl hb)) hj37
    have hq46 : cs41 = [.string (bs x33.key), .int .i64 x33.value] := hr45
    subst hq46
    change cellsAt _ _ (o40 + j35 * 2) [.string (bs x33.key), .int .i64 x33.value] at hc44
    refine WOps.p (G.idx T.el189 rfl eA42 rfl ej36 hl38) rfl ?_
    refine WOps.p (G.field T.fld193_1 rfl (show o40 + j35 * 2 + 1 = o40 + j35 * 2 + 1 from rfl)) rfl ?_
    obtain ⟨l47, hc48, hF⟩ := bind_some hF
    have e49 := upd_spec' hc48 ej36
    have S50 := S31.front 1 rfl
    change St _ _ _ [G28, [(p0, .cells #[.int .i64 t15.2.most, .slice A26 t15.2.pairs.length c27] 191 (0, 0))]] at S50
    obtain ⟨w51, G52, E53, hO54, S55⟩ := St.storeF (P := Try.prog) (T := 3) S50 hO29 T.size3_1 hj37 eA42 (⟨x33.key, a2⟩ : Pair_string__int_) (v := .int .i64 a2) [.string (bs x33.key)] [.int .i64 x33.value] [] rfl rfl rfl
    rw [← e49] at hO54
    have hl56 : (t15.2.pairs).length = l47.length := by rw [e49, List.length_set]
    try rw [hl56] at S55
    try rw [hl56]
    change St _ _ _ [G52, [(p0, .cells #[.int .i64 t15.2.most, .slice A26 l47.length c27] 191 (0, 0))]] at S55
    refine WOps.u (E53 rfl rfl) ?_
    refine WOps.nil ?_
    refine WEx.then_ ?_
    refine WCode.forget (l' := []) trivial ?_
    refine WCode.seq ?_
    refine WCode.region ?_
    refine WOps.p (G.assign rfl) rfl ?_
    refine WOps.nil ?_
    refine WEx.then_ ?_
    refine WCode.ret ?_
    refine WEx.then_ret ?_
    obtain rfl := some_eq hF
    refine WEx.ret1 rfl rfl ?_
    have S57 := S55.front 1 rfl
    change St _ _ _ [[(p0, .cells #[.int .i64 t15.2.most, .slice A26 l47.length c27] 191 (0, 0))], G52] at S57
    have hO58 : ObjO 191 Shelf_string__int_.rp p0 (⟨t15.2.most, l47⟩ : Shelf_string__int_) ([(p0, .cells #[.int .i64 t15.2.most, .slice A26 l47.length c27] 191 (0, 0))] ++ (G52)) := ⟨_, _, ⟨A26, c27, G52, rfl, hO54, rfl⟩, rfl⟩
    have S59 : St _ _ _ [[(p0, .cells #[.int .i64 t15.2.most, .slice A26 l47.length c27] 191 (0, 0))] ++ (G52)] := S57.objs (by simp)
    exact ⟨[(p0, .cells #[.int .i64 t15.2.most, .slice A26 l47.length c27] 191 (0, 0))] ++ (G52), rfl, hO58, St.keep (As := [[(p0, .cells #[.int .i64 t15.2.most, .slice A26 l47.length c27] 191 (0, 0))] ++ (G52)]) S59⟩
  ·
    refine WCode.cond_f (kb (b := decide (0 ≤ t15.1)) rfl (decide_eq_false h32)) ?_
    refine WCode.skip ?_
    refine WEx.then_ ?_
    refine WCode.seq ?_
    refine WCode.seq ?_
    refine WCode.draw [⟨0, 0, []⟩, ⟨1, 0, []⟩, ⟨2, 0, []⟩, ⟨5, 0, []⟩, ⟨6, 0, []⟩, ⟨7, 0, []⟩, ⟨3, 1, [4, 9]⟩, ⟨4, 0, []⟩, ⟨8, 1, [9]⟩, ⟨9, 0, []⟩] T.mixed (by kernel_rfl) (by intro _ _ d _ _ h; cases d <;> exact h) rfl (by kernel_rfl) ?_
    have S60 := S31.drew
    generalize w17.drew = w61 at *
    refine WD.p rfl (G.move rfl) rfl ?_
    refine WD.p rfl (G.nilp rfl) rfl ?_
    refine WD.p rfl (G.field T.fld191_1 rfl (show 0 + 1 = 1 from rfl)) rfl ?_
    refine WD.p rfl (G.move rfl) rfl ?_
    refine WD.p rfl (G.nilp rfl) rfl ?_
    refine WD.p rfl (G.field T.fld191_0 rfl (show 0 + 0 = 0 from rfl)) rfl ?_
    refine WD.r rfl (G.load1 T.one189 rfl (cell_blk (S60.blk 0 rfl) rfl)) rfl ?_
    refine WD.p rfl (G.len T.el189 rfl) rfl ?_
    refine WD.r rfl (G.load1 T.one3 rfl (cell_blk (S60.blk 0 rfl) rfl)) rfl ?_
    refine WD.p rfl (G.eql rfl rfl rfl) rfl ?_
    refine WD.nil ?_
    refine WEx.then_ ?_
    refine WCode.forget (l' := [(0, .pointer (some ⟨p0, 0, none⟩)), (1, .string (bs a1)), (2, .int .i64 a2), (30, .bool (decide ((t15.2.pairs.length : Int) = t15.2.most)))]) ⟨rfl, rfl, rfl, rfl, trivial⟩ ?_
    rcases ite_some hF with ⟨h62, hF⟩ | ⟨h62, hF⟩
    ·
      refine WCode.cond_t (kb (b := decide ((t15.2.pairs.length : Int) = t15.2.most)) rfl (decide_eq_true h62)) ?_
      refine WCode.seq ?_
      refine WCode.region ?_
      refine WOps.p (G.assign rfl) rfl ?_
      refine WOps.nil ?_
      refine WEx.then_ ?_
      refine WCode.ret ?_
      refine WEx.then_ret ?_
      obtain rfl := some_eq hF
      refine WEx.ret1 rfl rfl ?_
      have S63 := S60.front 1 rfl
      change St _ _ _ [G28, [(p0, .cells #[.int .i64 t15.2.most, .slice A26 t15.2.pairs.length c27] 191 (0, 0))]] at S63
      have S64 := S63.front 1 rfl
      change St _ _ _ [[(p0, .cells #[.int .i64 t15.2.most, .slice A26 t15.2.pairs.length c27] 191 (0, 0))], G28] at S64
      have hO65 : ObjO 191 Shelf_string__int_.rp p0 t15.2 ([(p0, .cells #[.int .i64 t15.2.most, .slice A26 t15.2.pairs.length c27] 191 (0, 0))] ++ (G28)) := ⟨_, _, ⟨A26, c27, G28, rfl, hO29, rfl⟩, rfl⟩
      have S66 : St _ _ _ [[(p0, .cells #[.int .i64 t15.2.most, .slice A26 t15.2.pairs.length c27] 191 (0, 0))] ++ (G28)] := S64.objs (by simp)
      exact ⟨[(p0, .cells #[.int .i64 t15.2.most, .slice A26 t15.2.pairs.length c27] 191 (0, 0))] ++ (G28), rfl, hO65, St.keep (As := [[(p0, .cells #[.int .i64 t15.2.most, .slice A26 t15.2.pairs.length c27] 191 (0, 0))] ++ (G28)]) S66⟩
    ·
      refine WCode.cond_f (kb (b := decide ((t15.2.pairs.length : Int) = t15.2.most)) rfl (decide_eq_false h62)) ?_
      refine WCode.skip ?_
      refine WEx.then_ ?_
      refine WCode.seq ?_
      refine WCode.region ?_
      refine WOps.p (G.move rfl) rfl ?_
      refine WOps.p (G.move rfl) rfl ?_
      refine WOps.p (G.nilp rfl) rfl ?_
      refine WOps.p (G.field T.fld191_1 rfl (show 0 + 1 = 1 from rfl)) rfl ?_
      refine WOps.r (G.load1 T.one189 rfl (cell_blk (S60.blk 0 rfl) rfl)) rfl ?_
      refine WOps.p (G.move rfl) rfl ?_
      refine WOps.p (G.move rfl) rfl ?_
      refine WOps.p (G.build (cells := #[.string (bs a1), .int .i64 a2]) (evp_spec (evp_cons rfl (evp_cons rfl evp_nil))) (by kernel_rfl)) rfl ?_
      obtain ⟨b67, w68, E69, S70, X71, L72⟩ := St.lit S60 (P := Try.prog) (t := 189) (e := 193) (n := 1) (vs := [(0, .agg #[.string (bs a1), .int .i64 a2])]) (cs := #[.string (bs a1), .int .i64 a2]) (by kernel_rfl)
      change St _ _ _ [[(b67, .cells #[.string (bs a1), .int .i64 a2] 193 (0, 0))], [(p0, .cells #[.int .i64 t15.2.most, .slice A26 t15.2.pairs.length c27] 191 (0, 0))], G28] at S70
      refine WOps.e (E69 (evp_cons rfl evp_nil)) rfl ?_
      obtain ⟨l73, hc74, hF⟩ := bind_some hF
      have S75 := S70.front 2 rfl
      change St _ _ _ [G28, [(b67, .cells #[.string (bs a1), .int .i64 a2] 193 (0, 0))], [(p0, .cells #[.int .i64 t15.2.most, .slice A26 t15.2.pairs.length c27] 191 (0, 0))]] at S75
      obtain ⟨A76, c77, G78, w79, E80, hO81, S82, hk83⟩ := St.appP (P := Try.prog) (r := Pair_string__int_.rp) (M := ([(⟨a1, a2⟩ : Pair_string__int_)] : List Pair_string__int_)) S75 T.elt189 rfl hO29 (Rd.of_blk (S75.blk 1 rfl) (n := 1) (sz := 2) rfl) ⟨_, _, [], [], rfl, rfl, ⟨rfl, rfl⟩, ⟨rfl, rfl⟩⟩ rfl hc74
      change St _ _ _ [G78, [(b67, .cells #[.string (bs a1), .int .i64 a2] 193 (0, 0))], [(p0, .cells #[.int .i64 t15.2.most, .slice A26 t15.2.pairs.length c27] 191 (0, 0))]] at S82
      refine WOps.e (E80 rfl rfl) rfl ?_
      refine WOps.p (G.nilp rfl) rfl ?_
      refine WOps.p (G.field T.fld191_1 rfl (show 0 + 1 = 1 from rfl)) rfl ?_
      obtain ⟨w84, E85, S86⟩ := St.store (P := Try.prog) S82 2 189 (.slice A76 l73.length c77) (off := 1) (cur' := #[.int .i64 t15.2.most, .slice A76 l73.length c77]) rfl T.size189_1 rfl rfl rfl
      change St _ _ _ [G78, [(b67, .cells #[.string (bs a1), .int .i64 a2] 193 (0, 0))], [(p0, .cells #[.int .i64 t15.2.most, .slice A76 l73.length c77] 191 (0, 0))]] at S86
      refine WOps.u (E85 rfl rfl) ?_
      refine WOps.nil ?_
      refine WEx.then_ ?_
      refine WCode.forget (l' := []) trivial ?_
      refine WCode.seq ?_
      refine WCode.region ?_
      refine WOps.p (G.assign rfl) rfl ?_
      refine WOps.nil ?_
      refine WEx.then_ ?_
      refine WCode.ret ?_
      obtain rfl := some_eq hF
      refine WEx.ret1 rfl rfl ?_
      have S87 := S86.front 2 rfl
      change St _ _ _ [[(p0, .cells #[.int .i64 t15.2.most, .slice A76 l73.length c77] 191 (0, 0))], G78, [(b67, .cells #[.string (bs a1), .int .i64 a2] 193 (0, 0))]] at S87
      have hO88 : ObjO 191 Shelf_string__int_.rp p0 (⟨t15.2.most, l73⟩ : Shelf_string__int_) ([(p0, .cells #[.int .i64 t15.2.most, .slice A76 l73.length c77] 191 (0, 0))] ++ (G78)) := ⟨_, _, ⟨A76, c77, G78, rfl, hO81, rfl⟩, rfl⟩
      have S89 : St _ _ _ [[(p0, .cells #[.int .i64 t15.2.most, .slice A76 l73.length c77] 191 (0, 0))] ++ (G78), [(b67, .cells #[.string (bs a1), .int .i64 a2] 193 (0, 0))]] := S87.objs (by simp)
      exact ⟨[(p0, .cells #[.int .i64 t15.2.most, .slice A76 l73.length c77] 191 (0, 0))] ++ (G78), rfl, hO88, St.keep (As := [[(p0, .cells #[.int .i64 t15.2.most, .slice A76 l73.length c77] 191 (0, 0))] ++ (G78)]) S89⟩

def shs_Keys.l1 : Nat → Shelf_string__int_ → List (List UInt8) → Int → Option ((List (List UInt8)) × Shelf_string__int_)
  | 0, _, _, _ => none
  | k28 + 1, a0, l22, x25 => (if x25 < (a0.pairs.length : Int) then (Option.bind (idx a0.pairs x25) fun x34 => (Option.bind (cat l22 ([x34.key] : List (List UInt8))) fun l64 => (shs_Keys.l1 k28 a0 l64 (w64 (x25 + 1))))) else (some (l22, a0)))
def shs_Keys (k : Nat) (a0 : Shelf_string__int_) : Option ((List (List UInt8)) × Shelf_string__int_) := (if 0 ≤ (a0.pairs.length : Int) then (if (a0.pairs.length : Int) ≤ 68719476736 then (shs_Keys.l1 k a0 ([] : List (List UInt8)) 0) else none) else none)
set_option maxRecDepth 100000 in
set_option maxHeartbeats 1000000 in
theorem shs_Keys_calls (k : Nat) (a0 : Shelf_string__int_) {p0 : Nat} {G0 : Grp} {w : World} (hO0 : ObjO 191 Shelf_string__int_.rp p0 a0 G0) {r_ : (List (List UInt8)) × Shelf_string__int_} (h_ : shs_Keys k a0 = some r_) (hp_ : Hp w ([G0]).flatten) :
    Calls Try.prog 82 [.pointer (some ⟨p0, 0, none⟩)].toArray w fun e w' => ∃ A0' : Option Addr, ∃ c0' : Nat, ∃ G0' : Grp, ∃ Go0' : Grp, e = .returned (.slice A0' (r_.1).length c0') ∧ SlO 9 Rp.str (.slice A0' (r_.1).length c0') (r_.1) G0' ∧ ObjO 191 Shelf_string__int_.rp p0 (r_.2) Go0' ∧ St w (KS [G0]) w' [G0', Go0'] := by
  have hF := h_
  clear h_
  unfold shs_Keys at hF
  have S := St.initK [G0] hp_
  obtain ⟨cs1, G2, ho3, hg4⟩ := hO0
  obtain ⟨A5, c6, G7, rfl, hO8, hq9⟩ := ho3
  have S10 : St _ _ _ [[(p0, .cells #[.int .i64 a0.most, .slice A5 a0.pairs.length c6] 191 (0, 0))], G7] := S.objs (by rw [hg4, hq9]; simp)
  refine enter 28 [(0, .pointer (some ⟨p0, 0, none⟩))] Try.func82 rfl rfl rfl rfl ?_
  refine WCode.seq ?_
  refine WCode.region ?_
  refine WOps.p (G.assign rfl) rfl ?_
  refine WOps.nil ?_
  refine WEx.then_ ?_
  refine WCode.seq ?_
  refine WCode.region ?_
  refine WOps.p (G.move rfl) rfl ?_
  refine WOps.p (G.nilp rfl) rfl ?_
  refine WOps.p (G.field T.fld191_1 rfl (show 0 + 1 = 1 from rfl)) rfl ?_
  refine WOps.r (G.load1 T.one189 rfl (cell_blk (S10.blk 0 rfl) rfl)) rfl ?_
  refine WOps.p (G.len T.el189 rfl) rfl ?_
  obtain ⟨h11, hF⟩ := guard_some hF
  obtain ⟨h12, hF⟩ := guard_some hF
  obtain ⟨A13, G14, w15, E16, hO17, S18, X19⟩ := St.make0 (P := Try.prog) (r := Rp.str) S10 T.elt77 rfl h11 h12
  refine WOps.e (E16 rfl rfl) rfl ?_
  refine WOps.p (G.assign rfl) rfl ?_
  refine WOps.nil ?_
  refine WEx.then_ ?_
  refine WCode.seq ?_
  refine WCode.seq ?_
  refine WCode.region ?_
  refine WOps.p (G.move rfl) rfl ?_
  refine WOps.p (G.nilp rfl) rfl ?_
  refine WOps.p (G.field T.fld191_1 rfl (show 0 + 1 = 1 from rfl)) rfl ?_
  refine WOps.r (G.load1 T.one189 rfl (cell_blk (S18.blk 1 rfl) rfl)) rfl ?_
  refine WOps.p (G.len T.el189 rfl) rfl ?_
  refine WOps.p (G.move rfl) rfl ?_
  refine WOps.nil ?_
  refine WEx.then_ ?_
  refine WCode.forget (l' := [(3, .slice A13 ([] : List (List UInt8)).length (((a0.pairs.length : Int)).toNat)), (15, .slice A5 a0.pairs.length c6), (16, .int .i64 (a0.pairs.length : Int)), (17, .int .i64 0)]) ⟨rfl, rfl, rfl, rfl, trivial⟩ ?_
  refine WCode.block ?_
  have S30 := S18.front 2 rfl
  change St _ _ _ [G7, G14, [(p0, .cells #[.int .i64 a0.most, .slice A5 a0.pairs.length c6] 191 (0, 0))]] at S30
  have S31 := S30.front 2 rfl
  change St _ _ _ [[(p0, .cells #[.int .i64 a0.most, .slice A5 a0.pairs.length c6] 191 (0, 0))], G7, G14] at S31
  refine WCode.forget (l' := [(3, .slice A13 ([] : List (List UInt8)).length (((a0.pairs.length : Int)).toNat)), (15, .slice A5 a0.pairs.length c6), (16, .int .i64 (a0.pairs.length : Int)), (17, .int .i64 0)]) ⟨rfl, rfl, rfl, rfl, trivial⟩ ?_
  refine WCode.loop (fun n_ l_ w_ => ∃ A20 : Option Addr, ∃ c21 : Nat, ∃ l22 : List (List UInt8), ∃ G23 : Grp, ∃ x25 : Int, l_ = [(3, .slice A20 l22.length c21), (15, .slice A5 a0.pairs.length c6), (16, .int .i64 (a0.pairs.length : Int)), (17, .int .i64 x25)] ∧ shs_Keys.l1 n_ a0 l22 x25 = some r_ ∧ (SlO 9 Rp.str (.slice A20 l22.length c21) l22 G23) ∧ St w (KS [G0]) w_ [[(p0, .cells #[.int .i64 a0.most, .slice A5 a0.pairs.length c6] 191 (0, 0))], G7, G23]) k ⟨A13, ((a0.pairs.length : Int)).toNat, ([] : List (List UInt8)), G14, 0, rfl, hF, hO17, S31⟩ ?_
  rintro n29 _ w26 ⟨A20, c21, l22, G23, x25, rfl, hF, hO24, S27⟩
  obtain _ | k28 := n29
  · exact nomatch (show (none : Option ((List (List UInt8)) × Shelf_string__int_)) = some r_ from hF)
  rw [shs_Keys.l1] at hF
  refine WCode.seq ?_
  refine WCode.region ?_
  refine WOps.p (G.lss rfl rfl rfl) rfl ?_
  refine WOps.nil ?_
  refine WEx.then_ ?_
  refine WCode.seq ?_
  rcases ite_some hF with ⟨h33, hF⟩ | ⟨h33, hF⟩
  ·
    refine WCode.cond_t (kb (b := decide (x25 < (a0.pairs.length : Int))) rfl (decide_eq_true h33)) ?_
    refine WCode.skip ?_
    refine WEx.then_ ?_
    refine WCode.seq ?_
    refine WCode.block ?_
    refine WCode.seq ?_
    refine WCode.region ?_
    obtain ⟨x34, hc35, hF⟩ := bind_some hF
    obtain ⟨j36, ej37, hj38, hl39⟩ := idx_spec hc35
    obtain ⟨b40, o41, cs42, eA43, hf44, hc45, hr46⟩ := SlR.at_ (hO8.rd (fun b o hb => S27.grp 1 rfl hb)) hj38
    have hq47 : cs42 = [.string (bs x34.key), .int .i64 x34.value] := hr46
    subst hq47
    change cellsAt _ _ (o41 + j36 * 2) [.string (bs x34.key), .int .i64 x34.value] at hc45
    refine WOps.p (G.idx T.el189 rfl eA43 rfl ej37 hl39) rfl ?_
    refine WOps.r (G.loada T.agg193_2 rfl (cs := [.string (bs x34.key), .int .i64 x34.value]) hc45) rfl ?_
    obtain ⟨b48, w49, E50, S51, X52, L53⟩ := St.var S27 (z := .agg #[.string (bs ([] : List UInt8)), .int .i64 0]) T.zero193
    have c54 := hc45.ext X52
    change St _ _ _ [[(b48, .cells #[.string (bs ([] : List UInt8)), .int .i64 0] 193 (0, 0))], [(p0, .cells #[.int .i64 a0.most, .slice A5 a0.pairs.length c6] 191 (0, 0))], G7, G23] at S51
    refine WOps.e E50 rfl ?_
    obtain ⟨w55, E56, S57⟩ := St.store (P := Try.prog) S51 0 193 (.agg #[.string (bs x34.key), .int .i64 x34.value]) (off := 0) (cur' := #[.string (bs x34.key), .int .i64 x34.value]) rfl T.size193_2 rfl rfl rfl
    change St _ _ _ [[(b48, .cells #[.string (bs x34.key), .int .i64 x34.value] 193 (0, 0))], [(p0, .cells #[.int .i64 a0.most, .slice A5 a0.pairs.length c6] 191 (0, 0))], G7, G23] at S57
    refine WOps.u (E56 rfl rfl) ?_
    refine WOps.nil ?_
    refine WEx.then_ ?_
    refine WCode.region ?_
    refine WOps.p (G.move rfl) rfl ?_
    refine WOps.p (G.field T.fld193_0 rfl (show 0 + 0 = 0 from rfl)) rfl ?_
    refine WOps.r (G.load1 T.one9 rfl (cell_blk (S57.blk 0 rfl) rfl)) rfl ?_
    obtain ⟨b58, w59, E60, S61, X62, L63⟩ := St.lit S57 (P := Try.prog) (t := 77) (e := 9) (n := 1) (vs := [(0, .string (bs x34.key))]) (cs := #[.string (bs x34.key)]) (by kernel_rfl)
    change St _ _ _ [[(b58, .cells #[.string (bs x34.key)] 9 (0, 0))], [(b48, .cells #[.string (bs x34.key), .int .i64 x34.value] 193 (0, 0))], [(p0, .cells #[.int .i64 a0.most, .slice A5 a0.pairs.length c6] 191 (0, 0))], G7, G23] at S61
    refine WOps.e (E60 (evp_cons rfl evp_nil)) rfl ?_
    obtain ⟨l64, hc65, hF⟩ := bind_some hF
    have S66 := S61.front 4 rfl
    change St _ _ _ [G23, [(b58, .cells #[.string (bs x34.key)] 9 (0, 0))], [(b48, .cells #[.string (bs x34.key), .int .i64 x34.value] 193 (0, 0))], [(p0, .cells #[.int .i64 a0.most, .slice A5 a0.pairs.length c6] 191 (0, 0))], G7] at S66
    obtain ⟨A67, c68, G69, w70, E71, hO72, S73, hk74⟩ := St.appP (P := Try.prog) (r := Rp.str) (M := ([x34.key] : List (List UInt8))) S66 T.elt77 rfl hO24 (Rd.of_blk (S66.blk 1 rfl) (n := 1) (sz := 1) rfl) ⟨_, _, [], [], rfl, rfl, ⟨rfl, rfl⟩, ⟨rfl, rfl⟩⟩ rfl hc65
    change St _ _ _ [G69, [(b58, .cells #[.string (bs x34.key)] 9 (0, 0))], [(b48, .cells #[.string (bs x34.key), .int .i64 x34.value] 193 (0, 0))], [(p0, .cells #[.int .i64 a0.most, .slice A5 a0.pairs.length c6] 191 (0, 0))], G7] at S73
    refine WOps.e (E71 rfl rfl) rfl ?_
    refine WOps.p (G.assign rfl) rfl ?_
    refine WOps.nil ?_
    refine WEx.in_normal ?_
    refine WEx.then_ ?_
    refine WCode.region ?_
    refine WOps.p (G.add rfl rfl (r := (w64 (x25 + 1))) rfl) rfl ?_
    refine WOps.p (G.move rfl) rfl ?_
    refine WOps.nil ?_
    have S75 := S73.front 4 rfl
    change St _ _ _ [G7, G69, [(b58, .cells #[.string (bs x34.key)] 9 (0, 0))], [(b48, .cells #[.string (bs x34.key), .int .i64 x34.value] 193 (0, 0))], [(p0, .cells #[.int .i64 a0.most, .slice A5 a0.pairs.length c6] 191 (0, 0))]] at S75
    have S76 := S75.front 4 rfl
    change St _ _ _ [[(p0, .cells #[.int .i64 a0.most, .slice A5 a0.pairs.length c6] 191 (0, 0))], G7, G69, [(b58, .cells #[.string (bs x34.key)] 9 (0, 0))], [(b48, .cells #[.string (bs x34.key), .int .i64 x34.value] 193 (0, 0))]] at S76
    have S77 := St.keep (As := [[(p0, .cells #[.int .i64 a0.most, .slice A5 a0.pairs.length c6] 191 (0, 0))], G7, G69]) S76
    refine WEx.again _ _ (by omega) ?_ ⟨A67, c68, l64, G69, w64 (x25 + 1), rfl, hF, hO72, S77⟩
    exact ⟨rfl, rfl, rfl, rfl, trivial⟩
  ·
    refine WCode.cond_f (kb (b := decide (x25 < (a0.pairs.length : Int))) rfl (decide_eq_false h33)) ?_
    refine WCode.exit ?_
    refine WEx.then_exit ?_
    refine WEx.then_exit ?_
    refine WEx.in_exit ?_
    refine WEx.then_ ?_
    refine WCode.seq ?_
    refine WCode.region ?_
    refine WOps.p (G.move rfl) rfl ?_
    refine WOps.p (G.assign rfl) rfl ?_
    refine WOps.nil ?_
    refine WEx.then_ ?_
    refine WCode.ret ?_
    obtain rfl := some_eq hF
    refine WEx.ret1 rfl rfl ?_
    have S78 := S27.front 1 rfl
    change St _ _ _ [G7, [(p0, .cells #[.int .i64 a0.most, .slice A5 a0.pairs.length c6] 191 (0, 0))], G23] at S78
    have S79 := S78.front 1 rfl
    change St _ _ _ [[(p0, .cells #[.int .i64 a0.most, .slice A5 a0.pairs.length c6] 191 (0, 0))], G7, G23] at S79
    have hO80 : ObjO 191 Shelf_string__int_.rp p0 a0 ([(p0, .cells #[.int .i64 a0.most, .slice A5 a0.pairs.length c6] 191 (0, 0))] ++ (G7)) := ⟨_, _, ⟨A5, c6, G7, rfl, hO8, rfl⟩, rfl⟩
    have S81 : St _ _ _ [[(p0, .cells #[.int .i64 a0.most, .slice A5 a0.pairs.length c6] 191 (0, 0))] ++ (G7), G23] := S79.objs (by simp)
    have S82 := S81.front 1 rfl
    change St _ _ _ [G23, [(p0, .cells #[.int .i64 a0.most, .slice A5 a0.pairs.length c6] 191 (0, 0))] ++ (G7)] at S82
    exact ⟨A20, c21, G23, [(p0, .cells #[.int .i64 a0.most, .slice A5 a0.pairs.length c6] 191 (0, 0))] ++ (G7), rfl, hO24, hO80, St.keep (As := [G23, [(p0, .cells #[.int .i64 a0.most, .slice A5 a0.pairs.length c6] 191 (0, 0))] ++ (G7)]) S82⟩

def shs_del (k : Nat) (a0 : List Pair_string__int_) (a1 : Int) (a2 : Int) : Option (List Pair_string__int_) := (Option.bind (cut a0 a1 a2) fun m1 => (if a1 = a2 then (some a0) else (Option.bind (cut a0 0 a1) fun m6 => (Option.bind (cut a0 a2 (a0.length : Int)) fun m9 => (Option.bind (cat m6 m9) fun l12 => (if a1 ≤ a2 then (if (l12.length : Int) ≤ (a0.length : Int) then (some l12) else none) else none))))))
set_option maxRecDepth 100000 in
set_option maxHeartbeats 1000000 in
theorem shs_del_calls (k : Nat) (a0 : List Pair_string__int_) {A0 : Option Addr} {c0 : Nat} {G0 : Grp} (a1 : Int) (a2 : Int) {w : World} (hO0 : SlO 193 Pair_string__int_.rp (.slice A0 a0.length c0) a0 G0) {r_ : (List Pair_string__int_)} (h_ : shs_del k a0 a1 a2 = some r_) (hp_ : Hp w ([G0]).flatten) :
    Calls Try.prog 107 [.slice A0 a0.length c0, .int .i64 a1, .int .i64 a2].toArray w fun e w' => ∃ A0' : Option Addr, ∃ c0' : Nat, ∃ G0' : Grp, e = .returned (.slice A0' (r_).length c0') ∧ SlO 193 Pair_string__int_.rp (.slice A0' (r_).length c0') (r_) G0' ∧ St w (KS [G0]) w' [G0'] := by
  have hF := h_
  clear h_
  unfold shs_del at hF
  have S := St.initK [G0] hp_
  refine enter 33 [(0, .slice A0 a0.length c0), (1, .int .i64 a1), (2, .int .i64 a2)] Try.func107 rfl rfl rfl rfl ?_
  refine WCode.seq ?_
  refine WCode.region ?_
  refine WOps.p (G.assign rfl) rfl ?_
  refine WOps.nil ?_
  refine WEx.then_ ?_
  refine WCode.seq ?_
  refine WCode.region ?_
  refine WOps.p (G.move rfl) rfl ?_
  refine WOps.p (G.move rfl) rfl ?_
  refine WOps.p (G.move rfl) rfl ?_
  refine WOps.p (G.move rfl) rfl ?_
  refine WOps.p (G.len T.el189 rfl) rfl ?_
  obtain ⟨m1, hc2, hF⟩ := bind_some hF
  refine WOps.p (G.cut_lhm T.el189 rfl rfl rfl rfl hc2 (hO0.rd (fun b o hb => S.grp 0 rfl hb)).cap) rfl ?_
  refine WOps.nil ?_
  refine WEx.then_ ?_
  refine WCode.seq ?_
  refine WCode.seq ?_
  refine WCode.region ?_
  refine WOps.p (G.move rfl) rfl ?_
  refine WOps.p (G.move rfl) rfl ?_
  refine WOps.p (G.eql rfl rfl rfl) rfl ?_
  refine WOps.nil ?_
  refine WEx.then_ ?_
  rcases ite_some hF with ⟨h3, hF⟩ | ⟨h3, hF⟩
  ·
    refine WCode.cond_t (kb (b := decide (a1 = a2)) rfl (decide_eq_true h3)) ?_
    refine WCode.seq ?_
    refine WCode.region ?_
    refine WOps.p (G.move rfl) rfl ?_
    refine WOps.p (G.assign rfl) rfl ?_
    refine WOps.nil ?_
    refine WEx.then_ ?_
    refine WCode.forget (l' := [(6, .slice A0 a0.length c0)]) ⟨rfl, trivial⟩ ?_
    refine WCode.ret ?_
    refine WEx.then_ret ?_
    obtain rfl := some_eq hF
    refine WEx.ret1 rfl rfl ?_
    exact ⟨A0, c0, G0, rfl, hO0, St.keep (As := [G0]) S⟩
  ·
    refine WCode.cond_f (kb (b := decide (a1 = a2)) rfl (decide_eq_false h3)) ?_
    refine WCode.skip ?_
    refine WEx.then_ ?_
    refine WCode.forget (l' := [(0, .slice A0 a0.length c0), (1, .int .i64 a1), (2, .int .i64 a2)]) ⟨rfl, rfl, rfl, trivial⟩ ?_
    refine WCode.seq ?_
    refine WCode.region ?_
    refine WOps.p (G.move rfl) rfl ?_
    refine WOps.p (G.len T.el189 rfl) rfl ?_
    refine WOps.p (G.assign rfl) rfl ?_
    refine WOps.nil ?_
    refine WEx.then_ ?_
    refine WCode.seq ?_
    refine WCode.draw [⟨0, 0, []⟩, ⟨1, 0, []⟩, ⟨2, 0, []⟩, ⟨3, 0, []⟩, ⟨4, 0, []⟩, ⟨5, 0, []⟩, ⟨6, 2, []⟩, ⟨7, 0, []⟩] T.mixed (by kernel_rfl) (by intro _ _ d _ _ h; cases d <;> exact h) rfl (by kernel_rfl) ?_
    have S4 := S.drew
    generalize w.drew = w5 at *
    refine WD.p rfl (G.move rfl) rfl ?_
    refine WD.p rfl (G.move rfl) rfl ?_
    obtain ⟨m6, hc7, hF⟩ := bind_some hF
    have hv8 := (SlO.toG hO0).cut_h hc7
    refine WD.p rfl (G.cut_h T.el189 rfl rfl hc7 (hO0.rd (fun b o hb => S4.grp 0 rfl hb)).cap) rfl ?_
    refine WD.p rfl (G.move rfl) rfl ?_
    refine WD.p rfl (G.move rfl) rfl ?_
    obtain ⟨m9, hc10, hF⟩ := bind_some hF
    have hv11 := (SlO.toG hO0).cut_lh hc10
    refine WD.p rfl (G.cut_l T.el189 rfl rfl hc10) rfl ?_
    obtain ⟨l12, hc13, hF⟩ := bind_some hF
    obtain ⟨h14, hF⟩ := guard_some hF
    have hw15 : a0.length ≤ c0 := (hO0.rd (fun b o hb => S4.grp 0 rfl hb)).cap
    obtain ⟨G16, w17, E18, hO19, S20⟩ := St.delApp (P := Try.prog) S4 T.elt189 hO0 hc7 hc10 h14
    have el21 := (cat_spec hc13).2
    rw [← el21] at hO19
    change St _ _ _ [G16] at S20
    refine WD.e rfl (el21 ▸ E18 rfl rfl) rfl ?_
    refine WD.p rfl (G.assign rfl) rfl ?_
    refine WD.nil ?_
    refine WEx.then_ ?_
    refine WCode.forget (l' := [(0, .slice A0 l12.length c0), (7, .int .i64 (a0.length : Int))]) ⟨rfl, rfl, trivial⟩ ?_
    refine WCode.seq ?_
    refine WCode.region ?_
    refine WOps.p (G.move rfl) rfl ?_
    refine WOps.p (G.move rfl) rfl ?_
    refine WOps.p (G.len T.el189 rfl) rfl ?_
    refine WOps.p (G.move rfl) rfl ?_
    obtain ⟨h22, hF⟩ := guard_some hF
    have hj23 : (a0.length : Int) ≤ (c0 : Int) := by have := hw15; omega
    refine WOps.p (G.tail T.el189 rfl rfl rfl h22 hj23) rfl ?_
    obtain ⟨G24, w25, E26, hO27, S28⟩ := St.clearTail (P := Try.prog) (n := ((a0.length : Int) - l12.length).toNat) S20 T.elt189 (by kernel_rfl) hO19 (by omega)
    change St _ _ _ [G24] at S28
    refine WOps.val0 (E26 rfl) ?_
    refine WOps.nil ?_
    refine WEx.then_ ?_
    refine WCode.seq ?_
    refine WCode.region ?_
    refine WOps.p (G.move rfl) rfl ?_
    refine WOps.p (G.assign rfl) rfl ?_
    refine WOps.nil ?_
    refine WEx.then_ ?_
    refine WCode.ret ?_
    obtain rfl := some_eq hF
    refine WEx.ret1 rfl rfl ?_
    exact ⟨A0, c0, G24, rfl, hO27, St.keep (As := [G24]) S28⟩

def shs_Drop (k : Nat) (a0 : Shelf_string__int_) (a1 : List UInt8) : Option (Int × Shelf_string__int_) := (Option.bind (shs_place k a0 a1) fun t15 => (if t15.1 < 0 then (some (141, t15.2)) else (Option.bind (shs_del k t15.2.pairs t15.1 (w64 (t15.1 + 1))) fun t37 => (some (0, (⟨t15.2.most, (t37)⟩ : Shelf_string__int_))))))
set_option maxRecDepth 100000 in
set_option maxHeartbeats 1000000 in
theorem shs_Drop_calls (k : Nat) (a0 : Shelf_string__int_) {p0 : Nat} {G0 : Grp} (a1 : List UInt8) {w : World} (hO0 : ObjO 191 Shelf_string__int_.rp p0 a0 G0) {r_ : Int × Shelf_string__int_} (h_ : shs_Drop k a0 a1 = some r_) (hp_ : Hp w ([G0]).flatten) :
    Calls Try.prog 84 [.pointer (some ⟨p0, 0, none⟩), .string (bs a1)].toArray w fun e w' => ∃ Go0' : Grp, e = .returned (.int .i64 r_.1) ∧ ObjO 191 Shelf_string__int_.rp p0 (r_.2) Go0' ∧ St w (KS [G0]) w' [Go0'] := by
  have hF := h_
  clear h_
  unfold shs_Drop at hF
  have S := St.initK [G0] hp_
  obtain ⟨cs1, G2, ho3, hg4⟩ := hO0
  obtain ⟨A5, c6, G7, rfl, hO8, hq9⟩ := ho3
  have S10 : St _ _ _ [[(p0, .cells #[.int .i64 a0.most, .slice A5 a0.pairs.length c6] 191 (0, 0))], G7] := S.objs (by rw [hg4, hq9]; simp)
  refine enter 22 [(0, .pointer (some ⟨p0, 0, none⟩)), (1, .string (bs a1))] Try.func84 rfl rfl rfl rfl ?_
  refine WCode.seq ?_
  refine WCode.region ?_
  refine WOps.p (G.assign rfl) rfl ?_
  refine WOps.nil ?_
  refine WEx.then_ ?_
  refine WCode.seq ?_
  refine WCode.region ?_
  refine WOps.p (G.move rfl) rfl ?_
  refine WOps.p (G.move rfl) rfl ?_
  have S11 := S10.front 1 rfl
  change St _ _ _ [G7, [(p0, .cells #[.int .i64 a0.most, .slice A5 a0.pairs.length c6] 191 (0, 0))]] at S11
  have S12 := S11.front 1 rfl
  change St _ _ _ [[(p0, .cells #[.int .i64 a0.most, .slice A5 a0.pairs.length c6] 191 (0, 0))], G7] at S12
  have hO13 : ObjO 191 Shelf_string__int_.rp p0 a0 ([(p0, .cells #[.int .i64 a0.most, .slice A5 a0.pairs.length c6] 191 (0, 0))] ++ (G7)) := ⟨_, _, ⟨A5, c6, G7, rfl, hO8, rfl⟩, rfl⟩
  have S14 : St _ _ _ [[(p0, .cells #[.int .i64 a0.most, .slice A5 a0.pairs.length c6] 191 (0, 0))] ++ (G7)] := S12.objs (by simp)
  obtain ⟨t15, hc16, hF⟩ := bind_some hF
  refine WOps.call T.call106 (evs_cons rfl (evs_cons rfl evs_nil)) rfl ?_
  refine (shs_place_calls k a0 a1 hO13 hc16 (St.hpN (As := [[(p0, .cells #[.int .i64 a0.most, .slice A5 a0.pairs.length c6] 191 (0, 0))] ++ (G7)]) S14)).mono ?_
  rintro _ w17 ⟨G20, rfl, hO21, T18⟩
  have S19 := St.callN (As := [[(p0, .cells #[.int .i64 a0.most, .slice A5 a0.pairs.length c6] 191 (0, 0))] ++ (G7)]) S14 T18
  change St _ _ _ [G20] at S19
  refine ⟨_, rfl, ?_⟩
  obtain ⟨cs22, G23, ho24, hg25⟩ := hO21
  obtain ⟨A26, c27, G28, rfl, hO29, hq30⟩ := ho24
  have S31 : St _ _ _ [[(p0, .cells #[.int .i64 t15.2.most, .slice A26 t15.2.pairs.length c27] 191 (0, 0))], G28] := S19.objs (by rw [hg25, hq30]; simp)
  refine WOps.p (G.assign rfl) rfl ?_
  refine WOps.nil ?_
  refine WEx.then_ ?_
  refine WCode.seq ?_
  refine WCode.seq ?_
  refine WCode.region ?_
  refine WOps.p (G.move rfl) rfl ?_
  refine WOps.p (G.lss rfl rfl rfl) rfl ?_
  refine WOps.nil ?_
  refine WEx.then_ ?_
  rcases ite_some hF with ⟨h32, hF⟩ | ⟨h32, hF⟩
  ·
    refine WCode.cond_t (kb (b := decide (t15.1 < 0)) rfl (decide_eq_true h32)) ?_
    refine WCode.seq ?_
    refine WCode.region ?_
    refine WOps.p (G.assign rfl) rfl ?_
    refine WOps.nil ?_
    refine WEx.then_ ?_
    refine WCode.ret ?_
    refine WEx.then_ret ?_
    obtain rfl := some_eq hF
    refine WEx.ret1 rfl rfl ?_
    have S33 := S31.front 1 rfl
    change St _ _ _ [G28, [(p0, .cells #[.int .i64 t15.2.most, .slice A26 t15.2.pairs.length c27] 191 (0, 0))]] at S33
    have S34 := S33.front 1 rfl
    change St _ _ _ [[(p0, .cells #[.int .i64 t15.2.most, .slice A26 t15.2.pairs.length c27] 191 (0, 0))], G28] at S34
    have hO35 : ObjO 191 Shelf_string__int_.rp p0 t15.2 ([(p0, .cells #[.int .i64 t15.2.most, .slice A26 t15.2.pairs.length c27] 191 (0, 0))] ++ (G28)) := ⟨_, _, ⟨A26, c27, G28, rfl, hO29, rfl⟩, rfl⟩
    have S36 : St _ _ _ [[(p0, .cells #[.int .i64 t15.2.most, .slice A26 t15.2.pairs.length c27] 191 (0, 0))] ++ (G28)] := S34.objs (by simp)
    exact ⟨[(p0, .cells #[.int .i64 t15.2.most, .slice A26 t15.2.pairs.length c27] 191 (0, 0))] ++ (G28), rfl, hO35, St.keep (As := [[(p0, .cells #[.int .i64 t15.2.most, .slice A26 t15.2.pairs.length c27] 191 (0, 0))] ++ (G28)]) S36⟩
  ·
    refine WCode.cond_f (kb (b := decide (t15.1 < 0)) rfl (decide_eq_false h32)) ?_
    refine WCode.skip ?_
    refine WEx.then_ ?_
    refine WCode.seq ?_
    refine WCode.region ?_
    refine WOps.p (G.move rfl) rfl ?_
    refine WOps.p (G.move rfl) rfl ?_
    refine WOps.p (G.nilp rfl) rfl ?_
    refine WOps.p (G.field T.fld191_1 rfl (show 0 + 1 = 1 from rfl)) rfl ?_
    refine WOps.r (G.load1 T.one189 rfl (cell_blk (S31.blk 0 rfl) rfl)) rfl ?_
    refine WOps.p (G.move rfl) rfl ?_
    refine WOps.p (G.move rfl) rfl ?_
    refine WOps.p (G.add rfl rfl (r := (w64 (t15.1 + 1))) rfl) rfl ?_
    obtain ⟨t37, hc38, hF⟩ := bind_some hF
    have S39 := S31.front 1 rfl
    change St _ _ _ [G28, [(p0, .cells #[.int .i64 t15.2.most, .slice A26 t15.2.pairs.length c27] 191 (0, 0))]] at S39
    refine WOps.call T.call107 (evs_cons rfl (evs_cons rfl (evs_cons rfl evs_nil))) rfl ?_
    refine (shs_del_calls k t15.2.pairs t15.1 (w64 (t15.1 + 1)) hO29 hc38 (St.hpN (As := [G28]) S39)).mono ?_
    rintro _ w40 ⟨A43, c44, G45, rfl, hO46, T41⟩
    have S42 := St.callN (As := [G28]) S39 T41
    change St _ _ _ [G45, [(p0, .cells #[.int .i64 t15.2.most, .slice A26 t15.2.pairs.length c27] 191 (0, 0))]] at S42
    refine ⟨_, rfl, ?_⟩
    refine WOps.p (G.nilp rfl) rfl ?_
    refine WOps.p (G.field T.fld191_1 rfl (show 0 + 1 = 1 from rfl)) rfl ?_
    obtain ⟨w47, E48, S49⟩ := St.store (P := Try.prog) S42 1 189 (.slice A43 (t37).length c44) (off := 1) (cur' := #[.int .i64 t15.2.most, .slice A43 (t37).length c44]) rfl T.size189_1 rfl rfl rfl
    change St _ _ _ [G45, [(p0, .cells #[.int .i64 t15.2.most, .slice A43 (t37).length c44] 191 (0, 0))]] at S49
    refine WOps.u (E48 rfl rfl) ?_
    refine WOps.nil ?_
    refine WEx.then_ ?_
    refine WCode.forget (l' := []) trivial ?_
    refine WCode.seq ?_
    refine WCode.region ?_
    refine WOps.p (G.assign rfl) rfl ?_
    refine WOps.nil ?_
    refine WEx.then_ ?_
    refine WCode.ret ?_
    obtain rfl := some_eq hF
    refine WEx.ret1 rfl rfl ?_
    have S50 := S49.front 1 rfl
    change St _ _ _ [[(p0, .cells #[.int .i64 t15.2.most, .slice A43 (t37).length c44] 191 (0, 0))], G45] at S50
    have hO51 : ObjO 191 Shelf_string__int_.rp p0 (⟨t15.2.most, (t37)⟩ : Shelf_string__int_) ([(p0, .cells #[.int .i64 t15.2.most, .slice A43 (t37).length c44] 191 (0, 0))] ++ (G45)) := ⟨_, _, ⟨A43, c44, G45, rfl, hO46, rfl⟩, rfl⟩
    have S52 : St _ _ _ [[(p0, .cells #[.int .i64 t15.2.most, .slice A43 (t37).length c44] 191 (0, 0))] ++ (G45)] := S50.objs (by simp)
    exact ⟨[(p0, .cells #[.int .i64 t15.2.most, .slice A43 (t37).length c44] 191 (0, 0))] ++ (G45), rfl, hO51, St.keep (As := [[(p0, .cells #[.int .i64 t15.2.most, .slice A43 (t37).length c44] 191 (0, 0))] ++ (G45)]) S52⟩

def sh_pick (k : Nat) (a0 : Int) (a1 : Int) : Option Int := (if a0 < 0 then (if a1 = 0 then none else (some (Int.tmod (w64 (-(w64 (a0 + 1)))) a1))) else (if a1 = 0 then none else (some (Int.tmod a0 a1))))
set_option maxRecDepth 100000 in
set_option maxHeartbeats 1000000 in
theorem sh_pick_calls (k : Nat) (a0 : Int) (a1 : Int) {w : World} {r_ : Int} (h_ : sh_pick k a0 a1 = some r_) :
    Calls Try.prog 54 [.int .i64 a0, .int .i64 a1].toArray w fun e w' => e = .returned (.int .i64 r_) ∧ St w (KS []) w' [] := by
  have hF := h_
  clear h_
  unfold sh_pick at hF
  have S := St.ofFalse (As := []) (St.init0 w)
  refine enter 13 [(0, .int .i64 a0), (1, .int .i64 a1)] Try.func54 rfl rfl rfl rfl ?_
  refine WCode.seq ?_
  refine WCode.region ?_
  refine WOps.p (G.assign rfl) rfl ?_
  refine WOps.nil ?_
  refine WEx.then_ ?_
  refine WCode.seq ?_
  refine WCode.seq ?_
  refine WCode.region ?_
  refine WOps.p (G.move rfl) rfl ?_
  refine WOps.p (G.lss rfl rfl rfl) rfl ?_
  refine WOps.nil ?_
  refine WEx.then_ ?_
  rcases ite_some hF with ⟨h1, hF⟩ | ⟨h1, hF⟩
  ·
    refine WCode.cond_t (kb (b := decide (a0 < 0)) rfl (decide_eq_true h1)) ?_
    refine WCode.region ?_
    refine WOps.p (G.move rfl) rfl ?_
    refine WOps.p (G.add rfl rfl (r := (w64 (a0 + 1))) rfl) rfl ?_
    refine WOps.p (G.neg rfl (r := (w64 (-(w64 (a0 + 1))))) rfl) rfl ?_
    refine WOps.p (G.assign rfl) rfl ?_
    refine WOps.nil ?_
    refine WEx.then_ ?_
    refine WCode.seq ?_
    refine WCode.region ?_
    refine WOps.p (G.move rfl) rfl ?_
    refine WOps.p (G.move rfl) rfl ?_
    obtain ⟨h2, hF⟩ := nguard_some hF
    refine WOps.p (G.remk rfl rfl h2) rfl ?_
    refine WOps.p (G.assign rfl) rfl ?_
    refine WOps.nil ?_
    refine WEx.then_ ?_
    refine WCode.forget (l' := [(4, .int .i64 (Int.tmod (w64 (-(w64 (a0 + 1)))) a1))]) ⟨rfl, trivial⟩ ?_
    refine WCode.ret ?_
    obtain rfl := some_eq hF
    refine WEx.ret1 rfl rfl ?_
    exact ⟨rfl, St.keep (As := []) S⟩
  ·
    refine WCode.cond_f (kb (b := decide (a0 < 0)) rfl (decide_eq_false h1)) ?_
    refine WCode.skip ?_
    refine WEx.then_ ?_
    refine WCode.seq ?_
    refine WCode.region ?_
    refine WOps.p (G.move rfl) rfl ?_
    refine WOps.p (G.move rfl) rfl ?_
    obtain ⟨h3, hF⟩ := nguard_some hF
    refine WOps.p (G.remk rfl rfl h3) rfl ?_
    refine WOps.p (G.assign rfl) rfl ?_
    refine WOps.nil ?_
    refine WEx.then_ ?_
    refine WCode.ret ?_
    obtain rfl := some_eq hF
    refine WEx.ret1 rfl rfl ?_
    exact ⟨rfl, St.keep (As := []) S⟩

def sh_awake (k : Nat) : Option Bool := (Option.bind (shs_New k 2) fun t1 => (Option.bind (shs_New k (-1)) fun t9 => (if (t1.1).isSome = true then (Option.bind (t1.1) fun x18 => (if t1.2 = 0 then (if (t9.1).isSome = true then (Option.bind (t9.1) fun x37 => (some false)) else (if t9.2 = 1 then (Option.bind (shs_Put k x18 ([97] : List UInt8) 1) fun t65 => (Option.bind (shs_Put k t65.2 ([98] : List UInt8) 2) fun t86 => (Option.bind (shs_Put k t86.2 ([99] : List UInt8) 3) fun t107 => (Option.bind (shs_Put k t107.2 ([97] : List UInt8) 9) fun t128 => (Option.bind (shs_Keys k t128.2) fun t149 => (Option.bind (shs_Get k t149.2 ([97] : List UInt8)) fun t175 => (Option.bind (shs_Get k t175.2.2 ([99] : List UInt8)) fun t196 => (Option.bind (shs_Drop k t196.2.2 ([97] : List UInt8)) fun t217 => (Option.bind (shs_Drop k t217.2 ([97] : List UInt8)) fun t238 => (if t65.1 = 0 then (if t86.1 = 0 then (if t107.1 = 140 then (if t128.1 = 0 then (if ((t149.1).length : Int) = 2 then (Option.bind (idx (t149.1) 0) fun x260 => (if x260 = ([97] : List UInt8) then (Option.bind (idx (t149.1) 1) fun x275 => (if x275 = ([98] : List UInt8) then (if t175.1 = 9 then (if t175.2.1 = true then (if t196.2.1 = true then (some false) else (if t217.1 = 0 then (if t238.1 = 141 then (Option.bind (shs_Len k t238.2) fun t299 => (some (decide (t299.1 = 1)))) else (some false)) else (some false))) else (some false)) else (some false)) else (some false))) else (some false))) else (some false)) else (some false)) else (some false)) else (some false)) else (some false))))))))))) else (some false))) else (some false))) else (some false))))
set_option maxRecDepth 100000 in
set_option maxHeartbeats 1000000 in
theorem sh_awake_calls (k : Nat)  {w : World} {r_ : Bool} (h_ : sh_awake k = some r_) :
    Calls Try.prog 40 [].toArray w fun e w' => e = .returned (.bool r_) ∧ St w (KS []) w' [] := by
  have hF := h_
  clear h_
  unfold sh_awake at hF
  have S := St.ofFalse (As := []) (St.init0 w)
  refine enter 117 [] Try.func40 rfl rfl rfl rfl ?_
  refine WCode.seq ?_
  refine WCode.region ?_
  refine WOps.p (G.assign rfl) rfl ?_
  refine WOps.nil ?_
  refine WEx.then_ ?_
  refine WCode.seq ?_
  refine WCode.region ?_
  obtain ⟨t1, hc2, hF⟩ := bind_some hF
  refine WOps.call T.call80 (evs_cons rfl evs_nil) rfl ?_
  refine (shs_New_calls k 2 hc2).mono ?_
  rintro _ w3 ⟨v6, G7, rfl, hO8, T4⟩
  have S5 := St.callN (As := []) S T4
  change St _ _ _ [G7] at S5
  refine ⟨_, rfl, ?_⟩
  refine WOps.p (G.move rfl) rfl ?_
  refine WOps.p (G.extract rfl rfl) rfl ?_
  refine WOps.p (G.extract rfl rfl) rfl ?_
  refine WOps.p (G.assign rfl) rfl ?_
  refine WOps.p (G.assign rfl) rfl ?_
  refine WOps.nil ?_
  refine WEx.then_ ?_
  refine WCode.seq ?_
  refine WCode.region ?_
  obtain ⟨t9, hc10, hF⟩ := bind_some hF
  refine WOps.call T.call80 (evs_cons rfl evs_nil) rfl ?_
  refine (shs_New_calls k (-1) hc10).mono ?_
  rintro _ w11 ⟨v14, G15, rfl, hO16, T12⟩
  have S13 := St.callN (As := []) S5 T12
  change St _ _ _ [G15, G7] at S13
  refine ⟨_, rfl, ?_⟩
  refine WOps.p (G.move rfl) rfl ?_
  refine WOps.p (G.extract rfl rfl) rfl ?_
  refine WOps.p (G.extract rfl rfl) rfl ?_
  refine WOps.p (G.assign rfl) rfl ?_
  refine WOps.p (G.assign rfl) rfl ?_
  refine WOps.nil ?_
  refine WEx.then_ ?_
  refine WCode.seq ?_
  refine WCode.seq ?_
  refine WCode.region ?_
  refine WOps.p (G.move rfl) rfl ?_
  rcases ite_some hF with ⟨h17, hF⟩ | ⟨h17, hF⟩
  ·
    obtain ⟨x18, hc19, hF⟩ := bind_some hF
    have ho20 := hO8
    rw [hc19] at ho20
    obtain ⟨p21, hv22, hO23⟩ := ho20
    subst hv22
    have S24 := S13.front 1 rfl
    change St _ _ _ [G7, G15] at S24
    obtain ⟨cs25, G26, ho27, hg28⟩ := hO23
    obtain ⟨A29, c30, G31, rfl, hO32, hq33⟩ := ho27
    have S34 : St _ _ _ [[(p21, .cells #[.int .i64 x18.most, .slice A29 x18.pairs.length c30] 191 (0, 0))], G31, G15] := S24.objs (by rw [hg28, hq33]; simp)
    refine WOps.p (G.eqp_nil Try.underlying141 rfl rfl rfl) rfl ?_
    refine WOps.p (G.move rfl) rfl ?_
    refine WOps.on rfl rfl ?_
    refine WOps.p (G.move rfl) rfl ?_
    refine WOps.on rfl rfl ?_
    refine WOps.p (G.neq rfl rfl rfl) rfl ?_
    refine WOps.p (G.pick_f rfl rfl) rfl ?_
    refine WOps.p (G.move rfl) rfl ?_
    rcases ite_some hF with ⟨h35, hF⟩ | ⟨h35, hF⟩
    ·
      refine WOps.on rfl (kbl (b := !(decide (t1.2 = 0))) rfl (show (!(decide (t1.2 = 0))) = false from by rw [(decide_eq_true h35)]; rfl)) ?_
      refine WOps.p (G.move rfl) rfl ?_
      rcases ite_some hF with ⟨h36, hF⟩ | ⟨h36, hF⟩
      ·
        refine WOps.on rfl (kbl (b := !(decide (t1.2 = 0))) rfl (show (!(decide (t1.2 = 0))) = false from by rw [(decide_eq_true h35)]; rfl)) ?_
        obtain ⟨x37, hc38, hF⟩ := bind_some hF
        have ho39 := hO16
        rw [hc38] at ho39
        obtain ⟨p40, hv41, hO42⟩ := ho39
        subst hv41
        have S43 := S34.front 2 rfl
        change St _ _ _ [G15, [(p21, .cells #[.int .i64 x18.most, .slice A29 x18.pairs.length c30] 191 (0, 0))], G31] at S43
        obtain ⟨cs44, G45, ho46, hg47⟩ := hO42
        obtain ⟨A48, c49, G50, rfl, hO51, hq52⟩ := ho46
        have S53 : St _ _ _ [[(p40, .cells #[.int .i64 x37.most, .slice A48 x37.pairs.length c49] 191 (0, 0))], G50, [(p21, .cells #[.int .i64 x18.most, .slice A29 x18.pairs.length c30] 191 (0, 0))], G31] := S43.objs (by rw [hg47, hq52]; simp)
        refine WOps.p (G.neqp_nil Try.underlying141 rfl rfl rfl) rfl ?_
        refine WOps.p (G.pick_f (kb (b := !(decide (t1.2 = 0))) rfl (show (!(decide (t1.2 = 0))) = false from by rw [(decide_eq_true h35)]; rfl)) rfl) rfl ?_
        refine WOps.p (G.move rfl) rfl ?_
        refine WOps.off rfl rfl rfl rfl ?_
        refine WOps.off rfl rfl rfl rfl ?_
        refine WOps.p (G.pick_t rfl rfl) rfl ?_
        refine WOps.nil ?_
        refine WEx.then_ ?_
        refine WCode.forget (l' := [(1, .pointer (some ⟨p21, 0, none⟩)), (37, .bool true)]) ⟨rfl, rfl, trivial⟩ ?_
        refine WCode.cond_t rfl ?_
        refine WCode.seq ?_
        refine WCode.region ?_
        refine WOps.p (G.assign rfl) rfl ?_
        refine WOps.nil ?_
        refine WEx.then_ ?_
        refine WCode.ret ?_
        refine WEx.then_ret ?_
        obtain rfl := some_eq hF
        refine WEx.ret1 rfl rfl ?_
        exact ⟨rfl, St.keep (As := []) S53⟩
      ·
        refine WOps.on rfl (kbl (b := !(decide (t1.2 = 0))) rfl (show (!(decide (t1.2 = 0))) = false from by rw [(decide_eq_true h35)]; rfl)) ?_
        have hn55 := Option.not_isSome_iff_eq_none.1 h36
        have ho54 := hO16
        rw [hn55] at ho54
        obtain ⟨hv56, hg57⟩ := ho54
        subst hv56
        have S59 := S34.front 2 rfl
        change St _ _ _ [G15, [(p21, .cells #[.int .i64 x18.most, .slice A29 x18.pairs.length c30] 191 (0, 0))], G31] at S59
        have S58 : St _ _ _ [[(p21, .cells #[.int .i64 x18.most, .slice A29 x18.pairs.length c30] 191 (0, 0))], G31] := S59.objs (by rw [hg57]; simp)
        refine WOps.p (G.neqp_nil Try.underlying141 rfl rfl rfl) rfl ?_
        refine WOps.p (G.pick_f (kb (b := !(decide (t1.2 = 0))) rfl (show (!(decide (t1.2 = 0))) = false from by rw [(decide_eq_true h35)]; rfl)) rfl) rfl ?_
        refine WOps.p (G.move rfl) rfl ?_
        refine WOps.on rfl rfl ?_
        refine WOps.p (G.move rfl) rfl ?_
        refine WOps.on rfl rfl ?_
        refine WOps.p (G.neq rfl rfl rfl) rfl ?_
        refine WOps.p (G.pick_f rfl rfl) rfl ?_
        refine WOps.nil ?_
        refine WEx.then_ ?_
        refine WCode.forget (l' := [(1, .pointer (some ⟨p21, 0, none⟩)), (37, .bool (!(decide (t9.2 = 1))))]) ⟨rfl, rfl, trivial⟩ ?_
        rcases ite_some hF with ⟨h60, hF⟩ | ⟨h60, hF⟩
        ·
          refine WCode.cond_f (kb (b := !(decide (t9.2 = 1))) rfl (show (!(decide (t9.2 = 1))) = false from by rw [(decide_eq_true h60)]; rfl)) ?_
          refine WCode.skip ?_
          refine WEx.then_ ?_
          refine WCode.seq ?_
          refine WCode.region ?_
          refine WOps.p (G.move rfl) rfl ?_
          have S61 := S58.front 1 rfl
          change St _ _ _ [G31, [(p21, .cells #[.int .i64 x18.most, .slice A29 x18.pairs.length c30] 191 (0, 0))]] at S61
          have S62 := S61.front 1 rfl
          change St _ _ _ [[(p21, .cells #[.int .i64 x18.most, .slice A29 x18.pairs.length c30] 191 (0, 0))], G31] at S62
          have hO63 : ObjO 191 Shelf_string__int_.rp p21 x18 ([(p21, .cells #[.int .i64 x18.most, .slice A29 x18.pairs.length c30] 191 (0, 0))] ++ (G31)) := ⟨_, _, ⟨A29, c30, G31, rfl, hO32, rfl⟩, rfl⟩
          have S64 : St _ _ _ [[(p21, .cells #[.int .i64 x18.most, .slice A29 x18.pairs.length c30] 191 (0, 0))] ++ (G31)] := S62.objs (by simp)
          obtain ⟨t65, hc66, hF⟩ := bind_some hF
          refine WOps.call T.call81 (evs_cons rfl (evs_cons rfl (evs_cons rfl evs_nil))) rfl ?_
          refine (shs_Put_calls k x18 ([97] : List UInt8) 1 hO63 hc66 (St.hpN (As := [[(p21, .cells #[.int .i64 x18.most, .slice A29 x18.pairs.length c30] 191 (0, 0))] ++ (G31)]) S64)).mono ?_
          rintro _ w67 ⟨G70, rfl, hO71, T68⟩
          have S69 := St.callN (As := [[(p21, .cells #[.int .i64 x18.most, .slice A29 x18.pairs.length c30] 191 (0, 0))] ++ (G31)]) S64 T68
          change St _ _ _ [G70] at S69
          refine ⟨_, rfl, ?_⟩
          obtain ⟨cs72, G73, ho74, hg75⟩ := hO71
          obtain ⟨A76, c77, G78, rfl, hO79, hq80⟩ := ho74
          have S81 : St _ _ _ [[(p21, .cells #[.int .i64 t65.2.most, .slice A76 t65.2.pairs.length c77] 191 (0, 0))], G78] := S69.objs (by rw [hg75, hq80]; simp)
          refine WOps.p (G.assign rfl) rfl ?_
          refine WOps.nil ?_
          refine WEx.then_ ?_
          refine WCode.seq ?_
          refine WCode.region ?_
          refine WOps.p (G.move rfl) rfl ?_
          have S82 := S81.front 1 rfl
          change St _ _ _ [G78, [(p21, .cells #[.int .i64 t65.2.most, .slice A76 t65.2.pairs.length c77] 191 (0, 0))]] at S82
          have S83 := S82.front 1 rfl
          change St _ _ _ [[(p21, .cells #[.int .i64 t65.2.most, .slice A76 t65.2.pairs.length c77] 191 (0, 0))], G78] at S83
          have hO84 : ObjO 191 Shelf_string__int_.rp p21 t65.2 ([(p21, .cells #[.int .i64 t65.2.most, .slice A76 t65.2.pairs.length c77] 191 (0, 0))] ++ (G78)) := ⟨_, _, ⟨A76, c77, G78, rfl, hO79, rfl⟩, rfl⟩
          have S85 : St _ _ _ [[(p21, .cells #[.int .i64 t65.2.most, .slice A76 t65.2.pairs.length c77] 191 (0, 0))] ++ (G78)] := S83.objs (by simp)
          obtain ⟨t86, hc87, hF⟩ := bind_some hF
          refine WOps.call T.call81 (evs_cons rfl (evs_cons rfl (evs_cons rfl evs_nil))) rfl ?_
          refine (shs_Put_calls k t65.2 ([98] : List UInt8) 2 hO84 hc87 (St.hpN (As := [[(p21, .cells #[.int .i64 t65.2.most, .slice A76 t65.2.pairs.length c77] 191 (0, 0))] ++ (G78)]) S85)).mono ?_
          rintro _ w88 ⟨G91, rfl, hO92, T89⟩
          have S90 := St.callN (As := [[(p21, .cells #[.int .i64 t65.2.most, .slice A76 t65.2.pairs.length c77] 191 (0, 0))] ++ (G78)]) S85 T89
          change St _ _ _ [G91] at S90
          refine ⟨_, rfl, ?_⟩
          obtain ⟨cs93, G94, ho95, hg96⟩ := hO92
          obtain ⟨A97, c98, G99, rfl, hO100, hq101⟩ := ho95
          have S102 : St _ _ _ [[(p21, .cells #[.int .i64 t86.2.most, .slice A97 t86.2.pairs.length c98] 191 (0, 0))], G99] := S90.objs (by rw [hg96, hq101]; simp)
          refine WOps.p (G.assign rfl) rfl ?_
          refine WOps.nil ?_
          refine WEx.then_ ?_
          refine WCode.seq ?_
          refine WCode.region ?_
          refine WOps.p (G.move rfl) rfl ?_
          have S103 := S102.front 1 rfl
          change St _ _ _ [G99, [(p21, .cells #[.int .i64 t86.2.most, .slice A97 t86.2.pairs.length c98] 191 (0, 0))]] at S103
          have S104 := S103.front 1 rfl
          change St _ _ _ [[(p21, .cells #[.int .i64 t86.2.most, .slice A97 t86.2.pairs.length c98] 191 (0, 0))], G99] at S104
          have hO105 : ObjO 191 Shelf_string__int_.rp p21 t86.2 ([(p21, .cells #[.int .i64 t86.2.most, .slice A97 t86.2.pairs.length c98] 191 (0, 0))] ++ (G99)) := ⟨_, _, ⟨A97, c98, G99, rfl, hO100, rfl⟩, rfl⟩
          have S106 : St _ _ _ [[(p21, .cells #[.int .i64 t86.2.most, .slice A97 t86.2.pairs.length c98] 191 (0, 0))] ++ (G99)] := S104.objs (by simp)
          obtain ⟨t107, hc108, hF⟩ := bind_some hF
          refine WOps.call T.call81 (evs_cons rfl (evs_cons rfl (evs_cons rfl evs_nil))) rfl ?_
          refine (shs_Put_calls k t86.2 ([99] : List UInt8) 3 hO105 hc108 (St.hpN (As := [[(p21, .cells #[.int .i64 t86.2.most, .slice A97 t86.2.pairs.length c98] 191 (0, 0))] ++ (G99)]) S106)).mono ?_
          rintro _ w109 ⟨G112, rfl, hO113, T110⟩
          have S111 := St.callN (As := [[(p21, .cells #[.int .i64 t86.2.most, .slice A97 t86.2.pairs.length c98] 191 (0, 0))] ++ (G99)]) S106 T110
          change St _ _ _ [G112] at S111
          refine ⟨_, rfl, ?_⟩
          obtain ⟨cs114, G115, ho116, hg117⟩ := hO113
          obtain ⟨A118, c119, G120, rfl, hO121, hq122⟩ := ho116
          have S123 : St _ _ _ [[(p21, .cells #[.int .i64 t107.2.most, .slice A118 t107.2.pairs.length c119] 191 (0, 0))], G120] := S111.objs (by rw [hg117, hq122]; simp)
          refine WOps.p (G.assign rfl) rfl ?_
          refine WOps.nil ?_
          refine WEx.then_ ?_
          refine WCode.seq ?_
          refine WCode.region ?_
          refine WOps.p (G.move rfl) rfl ?_
          have S124 := S123.front 1 rfl
          change St _ _ _ [G120, [(p21, .cells #[.int .i64 t107.2.most, .slice A118 t107.2.pairs.length c119] 191 (0, 0))]] at S124
          have S125 := S124.front 1 rfl
          change St _ _ _ [[(p21, .cells #[.int .i64 t107.2.most, .slice A118 t107.2.pairs.length c119] 191 (0, 0))], G120] at S125
          have hO126 : ObjO 191 Shelf_string__int_.rp p21 t107.2 ([(p21, .cells #[.int .i64 t107.2.most, .slice A118 t107.2.pairs.length c119] 191 (0, 0))] ++ (G120)) := ⟨_, _, ⟨A118, c119, G120, rfl, hO121, rfl⟩, rfl⟩
          have S127 : St _ _ _ [[(p21, .cells #[.int .i64 t107.2.most, .slice A118 t107.2.pairs.length c119] 191 (0, 0))] ++ (G120)] := S125.objs (by simp)
          obtain ⟨t128, hc129, hF⟩ := bind_some hF
          refine WOps.call T.call81 (evs_cons rfl (evs_cons rfl (evs_cons rfl evs_nil))) rfl ?_
          refine (shs_Put_calls k t107.2 ([97] : List UInt8) 9 hO126 hc129 (St.hpN (As := [[(p21, .cells #[.int .i64 t107.2.most, .slice A118 t107.2.pairs.length c119] 191 (0, 0))] ++ (G120)]) S127)).mono ?_
          rintro _ w130 ⟨G133, rfl, hO134, T131⟩
          have S132 := St.callN (As := [[(p21, .cells #[.int .i64 t107.2.most, .slice A118 t107.2.pairs.length c119] 191 (0, 0))] ++ (G120)]) S127 T131
          change St _ _ _ [G133] at S132
          refine ⟨_, rfl, ?_⟩
          obtain ⟨cs135, G136, ho137, hg138⟩ := hO134
          obtain ⟨A139, c140, G141, rfl, hO142, hq143⟩ := ho137
          have S144 : St _ _ _ [[(p21, .cells #[.int .i64 t128.2.most, .slice A139 t128.2.pairs.length c140] 191 (0, 0))], G141] := S132.objs (by rw [hg138, hq143]; simp)
          refine WOps.p (G.assign rfl) rfl ?_
          refine WOps.nil ?_
          refine WEx.then_ ?_
          refine WCode.seq ?_
          refine WCode.region ?_
          refine WOps.p (G.move rfl) rfl ?_
          have S145 := S144.front 1 rfl
          change St _ _ _ [G141, [(p21, .cells #[.int .i64 t128.2.most, .slice A139 t128.2.pairs.length c140] 191 (0, 0))]] at S145
          have S146 := S145.front 1 rfl
          change St _ _ _ [[(p21, .cells #[.int .i64 t128.2.most, .slice A139 t128.2.pairs.length c140] 191 (0, 0))], G141] at S146
          have hO147 : ObjO 191 Shelf_string__int_.rp p21 t128.2 ([(p21, .cells #[.int .i64 t128.2.most, .slice A139 t128.2.pairs.length c140] 191 (0, 0))] ++ (G141)) := ⟨_, _, ⟨A139, c140, G141, rfl, hO142, rfl⟩, rfl⟩
          have S148 : St _ _ _ [[(p21, .cells #[.int .i64 t128.2.most, .slice A139 t128.2.pairs.length c140] 191 (0, 0))] ++ (G141)] := S146.objs (by simp)
          obtain ⟨t149, hc150, hF⟩ := bind_some hF
          refine WOps.call T.call82 (evs_cons rfl evs_nil) rfl ?_
          refine (shs_Keys_calls k t128.2 hO147 hc150 (St.hpN (As := [[(p21, .cells #[.int .i64 t128.2.most, .slice A139 t128.2.pairs.length c140] 191 (0, 0))] ++ (G141)]) S148)).mono ?_
          rintro _ w151 ⟨A154, c155, G156, G158, rfl, hO157, hO159, T152⟩
          have S153 := St.callN (As := [[(p21, .cells #[.int .i64 t128.2.most, .slice A139 t128.2.pairs.length c140] 191 (0, 0))] ++ (G141)]) S148 T152
          change St _ _ _ [G156, G158] at S153
          refine ⟨_, rfl, ?_⟩
          have S160 := S153.front 1 rfl
          change St _ _ _ [G158, G156] at S160
          obtain ⟨cs161, G162, ho163, hg164⟩ := hO159
          obtain ⟨A165, c166, G167, rfl, hO168, hq169⟩ := ho163
          have S170 : St _ _ _ [[(p21, .cells #[.int .i64 t149.2.most, .slice A165 t149.2.pairs.length c166] 191 (0, 0))], G167, G156] := S160.objs (by rw [hg164, hq169]; simp)
          refine WOps.p (G.assign rfl) rfl ?_
          refine WOps.nil ?_
          refine WEx.then_ ?_
          refine WCode.forget (l' := [(1, .pointer (some ⟨p21, 0, none⟩)), (5, .int .i64 t65.1), (6, .int .i64 t86.1), (7, .int .i64 t107.1), (8, .int .i64 t128.1), (9, .slice A154 (t149.1).length c155)]) ⟨rfl, rfl, rfl, rfl, rfl, rfl, trivial⟩ ?_
          refine WCode.seq ?_
          refine WCode.region ?_
          refine WOps.p (G.move rfl) rfl ?_
          have S171 := S170.front 1 rfl
          change St _ _ _ [G167, [(p21, .cells #[.int .i64 t149.2.most, .slice A165 t149.2.pairs.length c166] 191 (0, 0))], G156] at S171
          have S172 := S171.front 1 rfl
          change St _ _ _ [[(p21, .cells #[.int .i64 t149.2.most, .slice A165 t149.2.pairs.length c166] 191 (0, 0))], G167, G156] at S172
          have hO173 : ObjO 191 Shelf_string__int_.rp p21 t149.2 ([(p21, .cells #[.int .i64 t149.2.most, .slice A165 t149.2.pairs.length c166] 191 (0, 0))] ++ (G167)) := ⟨_, _, ⟨A165, c166, G167, rfl, hO168, rfl⟩, rfl⟩
          have S174 : St _ _ _ [[(p21, .cells #[.int .i64 t149.2.most, .slice A165 t149.2.pairs.length c166] 191 (0, 0))] ++ (G167), G156] := S172.objs (by simp)
          obtain ⟨t175, hc176, hF⟩ := bind_some hF
          refine WOps.call T.call83 (evs_cons rfl (evs_cons rfl evs_nil)) rfl ?_
          refine (shs_Get_calls k t149.2 ([97] : List UInt8) hO173 hc176 (St.hpN (As := [[(p21, .cells #[.int .i64 t149.2.most, .slice A165 t149.2.pairs.length c166] 191 (0, 0))] ++ (G167)]) S174)).mono ?_
          rintro _ w177 ⟨G180, rfl, hO181, T178⟩
          have S179 := St.callN (As := [[(p21, .cells #[.int .i64 t149.2.most, .slice A165 t149.2.pairs.length c166] 191 (0, 0))] ++ (G167)]) S174 T178
          change St _ _ _ [G180, G156] at S179
          refine ⟨_, rfl, ?_⟩
          obtain ⟨cs182, G183, ho184, hg185⟩ := hO181
          obtain ⟨A186, c187, G188, rfl, hO189, hq190⟩ := ho184
          have S191 : St _ _ _ [[(p21, .cells #[.int .i64 t175.2.2.most, .slice A186 t175.2.2.pairs.length c187] 191 (0, 0))], G188, G156] := S179.objs (by rw [hg185, hq190]; simp)
          refine WOps.p (G.move rfl) rfl ?_
          refine WOps.p (G.extract rfl rfl) rfl ?_
          refine WOps.p (G.extract rfl rfl) rfl ?_
          refine WOps.p (G.assign rfl) rfl ?_
          refine WOps.p (G.assign rfl) rfl ?_
          refine WOps.nil ?_
          refine WEx.then_ ?_
          refine WCode.seq ?_
          refine WCode.region ?_
          refine WOps.p (G.move rfl) rfl ?_
          have S192 := S191.front 1 rfl
          change St _ _ _ [G188, [(p21, .cells #[.int .i64 t175.2.2.most, .slice A186 t175.2.2.pairs.length c187] 191 (0, 0))], G156] at S192
          have S193 := S192.front 1 rfl
          change St _ _ _ [[(p21, .cells #[.int .i64 t175.2.2.most, .slice A186 t175.2.2.pairs.length c187] 191 (0, 0))], G188, G156] at S193
          have hO194 : ObjO 191 Shelf_string__int_.rp p21 t175.2.2 ([(p21, .cells #[.int .i64 t175.2.2.most, .slice A186 t175.2.2.pairs.length c187] 191 (0, 0))] ++ (G188)) := ⟨_, _, ⟨A186, c187, G188, rfl, hO189, rfl⟩, rfl⟩
          have S195 : St _ _ _ [[(p21, .cells #[.int .i64 t175.2.2.most, .slice A186 t175.2.2.pairs.length c187] 191 (0, 0))] ++ (G188), G156] := S193.objs (by simp)
          obtain ⟨t196, hc197, hF⟩ := bind_some hF
          refine WOps.call T.call83 (evs_cons rfl (evs_cons rfl evs_nil)) rfl ?_
          refine (shs_Get_calls k t175.2.2 ([99] : List UInt8) hO194 hc197 (St.hpN (As := [[(p21, .cells #[.int .i64 t175.2.2.most, .slice A186 t175.2.2.pairs.length c187] 191 (0, 0))] ++ (G188)]) S195)).mono ?_
          rintro _ w198 ⟨G201, rfl, hO202, T199⟩
          have S200 := St.callN (As := [[(p21, .cells #[.int .i64 t175.2.2.most, .slice A186 t175.2.2.pairs.length c187] 191 (0, 0))] ++ (G188)]) S195 T199
          change St _ _ _ [G201, G156] at S200
          refine ⟨_, rfl, ?_⟩
          obtain ⟨cs203, G204, ho205, hg206⟩ := hO202
          obtain ⟨A207, c208, G209, rfl, hO210, hq211⟩ := ho205
          have S212 : St _ _ _ [[(p21, .cells #[.int .i64 t196.2.2.most, .slice A207 t196.2.2.pairs.length c208] 191 (0, 0))], G209, G156] := S200.objs (by rw [hg206, hq211]; simp)
          refine WOps.p (G.move rfl) rfl ?_
          refine WOps.p (G.extract rfl rfl) rfl ?_
          refine WOps.p (G.extract rfl rfl) rfl ?_
          refine WOps.p (G.assign rfl) rfl ?_
          refine WOps.p (G.assign rfl) rfl ?_
          refine WOps.nil ?_
          refine WEx.then_ ?_
          refine WCode.forget (l' := [(1, .pointer (some ⟨p21, 0, none⟩)), (5, .int .i64 t65.1), (6, .int .i64 t86.1), (7, .int .i64 t107.1), (8, .int .i64 t128.1), (9, .slice A154 (t149.1).length c155), (10, .int .i64 t175.1), (11, .bool t175.2.1), (13, .bool t196.2.1)]) ⟨rfl, rfl, rfl, rfl, rfl, rfl, rfl, rfl, rfl, trivial⟩ ?_
          refine WCode.seq ?_
          refine WCode.region ?_
          refine WOps.p (G.move rfl) rfl ?_
          have S213 := S212.front 1 rfl
          change St _ _ _ [G209, [(p21, .cells #[.int .i64 t196.2.2.most, .slice A207 t196.2.2.pairs.length c208] 191 (0, 0))], G156] at S213
          have S214 := S213.front 1 rfl
          change St _ _ _ [[(p21, .cells #[.int .i64 t196.2.2.most, .slice A207 t196.2.2.pairs.length c208] 191 (0, 0))], G209, G156] at S214
          have hO215 : ObjO 191 Shelf_string__int_.rp p21 t196.2.2 ([(p21, .cells #[.int .i64 t196.2.2.most, .slice A207 t196.2.2.pairs.length c208] 191 (0, 0))] ++ (G209)) := ⟨_, _, ⟨A207, c208, G209, rfl, hO210, rfl⟩, rfl⟩
          have S216 : St _ _ _ [[(p21, .cells #[.int .i64 t196.2.2.most, .slice A207 t196.2.2.pairs.length c208] 191 (0, 0))] ++ (G209), G156] := S214.objs (by simp)
          obtain ⟨t217, hc218, hF⟩ := bind_some hF
          refine WOps.call T.call84 (evs_cons rfl (evs_cons rfl evs_nil)) rfl ?_
          refine (shs_Drop_calls k t196.2.2 ([97] : List UInt8) hO215 hc218 (St.hpN (As := [[(p21, .cells #[.int .i64 t196.2.2.most, .slice A207 t196.2.2.pairs.length c208] 191 (0, 0))] ++ (G209)]) S216)).mono ?_
          rintro _ w219 ⟨G222, rfl, hO223, T220⟩
          have S221 := St.callN (As := [[(p21, .cells #[.int .i64 t196.2.2.most, .slice A207 t196.2.2.pairs.length c208] 191 (0, 0))] ++ (G209)]) S216 T220
          change St _ _ _ [G222, G156] at S221
          refine ⟨_, rfl, ?_⟩
          obtain ⟨cs224, G225, ho226, hg227⟩ := hO223
          obtain ⟨A228, c229, G230, rfl, hO231, hq232⟩ := ho226
          have S233 : St _ _ _ [[(p21, .cells #[.int .i64 t217.2.most, .slice A228 t217.2.pairs.length c229] 191 (0, 0))], G230, G156] := S221.objs (by rw [hg227, hq232]; simp)
          refine WOps.p (G.assign rfl) rfl ?_
          refine WOps.nil ?_
          refine WEx.then_ ?_
          refine WCode.seq ?_
          refine WCode.region ?_
          refine WOps.p (G.move rfl) rfl ?_
          have S234 := S233.front 1 rfl
          change St _ _ _ [G230, [(p21, .cells #[.int .i64 t217.2.most, .slice A228 t217.2.pairs.length c229] 191 (0, 0))], G156] at S234
          have S235 := S234.front 1 rfl
          change St _ _ _ [[(p21, .cells #[.int .i64 t217.2.most, .slice A228 t217.2.pairs.length c229] 191 (0, 0))], G230, G156] at S235
          have hO236 : ObjO 191 Shelf_string__int_.rp p21 t217.2 ([(p21, .cells #[.int .i64 t217.2.most, .slice A228 t217.2.pairs.length c229] 191 (0, 0))] ++ (G230)) := ⟨_, _, ⟨A228, c229, G230, rfl, hO231, rfl⟩, rfl⟩
          have S237 : St _ _ _ [[(p21, .cells #[.int .i64 t217.2.most, .slice A228 t217.2.pairs.length c229] 191 (0, 0))] ++ (G230), G156] := S235.objs (by simp)
          obtain ⟨t238, hc239, hF⟩ := bind_some hF
          refine WOps.call T.call84 (evs_cons rfl (evs_cons rfl evs_nil)) rfl ?_
          refine (shs_Drop_calls k t217.2 ([97] : List UInt8) hO236 hc239 (St.hpN (As := [[(p21, .cells #[.int .i64 t217.2.most, .slice A228 t217.2.pairs.length c229] 191 (0, 0))] ++ (G230)]) S237)).mono ?_
          rintro _ w240 ⟨G243, rfl, hO244, T241⟩
          have S242 := St.callN (As := [[(p21, .cells #[.int .i64 t217.2.most, .slice A228 t217.2.pairs.length c229] 191 (0, 0))] ++ (G230)]) S237 T241
          change St _ _ _ [G243, G156] at S242
          refine ⟨_, rfl, ?_⟩
          obtain ⟨cs245, G246, ho247, hg248⟩ := hO244
          obtain ⟨A249, c250, G251, rfl, hO252, hq253⟩ := ho247
          have S254 : St _ _ _ [[(p21, .cells #[.int .i64 t238.2.most, .slice A249 t238.2.pairs.length c250] 191 (0, 0))], G251, G156] := S242.objs (by rw [hg248, hq253]; simp)
          refine WOps.p (G.assign rfl) rfl ?_
          refine WOps.nil ?_
          refine WEx.then_ ?_
          refine WCode.seq ?_
          refine WCode.region ?_
          refine WOps.p (G.move rfl) rfl ?_
          refine WOps.p (G.eql rfl rfl rfl) rfl ?_
          refine WOps.p (G.move rfl) rfl ?_
          rcases ite_some hF with ⟨h255, hF⟩ | ⟨h255, hF⟩
          ·
            refine WOps.on rfl (kbl (b := decide (t65.1 = 0)) rfl (decide_eq_true h255)) ?_
            refine WOps.p (G.move rfl) rfl ?_
            refine WOps.on rfl (kbl (b := decide (t65.1 = 0)) rfl (decide_eq_true h255)) ?_
            refine WOps.p (G.eql rfl rfl rfl) rfl ?_
            refine WOps.p (G.pick_t (kb (b := decide (t65.1 = 0)) rfl (decide_eq_true h255)) rfl) rfl ?_
            refine WOps.p (G.move rfl) rfl ?_
            rcases ite_some hF with ⟨h256, hF⟩ | ⟨h256, hF⟩
            ·
              refine WOps.on rfl (kbl (b := decide (t86.1 = 0)) rfl (decide_eq_true h256)) ?_
              refine WOps.p (G.move rfl) rfl ?_
              refine WOps.on rfl (kbl (b := decide (t86.1 = 0)) rfl (decide_eq_true h256)) ?_
              refine WOps.p (G.eql rfl rfl rfl) rfl ?_
              refine WOps.p (G.pick_t (kb (b := decide (t86.1 = 0)) rfl (decide_eq_true h256)) rfl) rfl ?_
              refine WOps.p (G.move rfl) rfl ?_
              rcases ite_some hF with ⟨h257, hF⟩ | ⟨h257, hF⟩
              ·
                refine WOps.on rfl (kbl (b := decide (t107.1 = 140)) rfl (decide_eq_true h257)) ?_
                refine WOps.p (G.move rfl) rfl ?_
                refine WOps.on rfl (kbl (b := decide (t107.1 = 140)) rfl (decide_eq_true h257)) ?_
                refine WOps.p (G.eql rfl rfl rfl) rfl ?_
                refine WOps.p (G.pick_t (kb (b := decide (t107.1 = 140)) rfl (decide_eq_true h257)) rfl) rfl ?_
                refine WOps.p (G.move rfl) rfl ?_
                rcases ite_some hF with ⟨h258, hF⟩ | ⟨h258, hF⟩
                ·
                  refine WOps.on rfl (kbl (b := decide (t128.1 = 0)) rfl (decide_eq_true h258)) ?_
                  refine WOps.p (G.move rfl) rfl ?_
                  refine WOps.on rfl (kbl (b := decide (t128.1 = 0)) rfl (decide_eq_true h258)) ?_
                  refine WOps.p (G.len T.el77 rfl) rfl ?_
                  refine WOps.on rfl (kbl (b := decide (t128.1 = 0)) rfl (decide_eq_true h258)) ?_
                  refine WOps.p (G.eql rfl rfl rfl) rfl ?_
                  refine WOps.p (G.pick_t (kb (b := decide (t128.1 = 0)) rfl (decide_eq_true h258)) rfl) rfl ?_
                  refine WOps.p (G.move rfl) rfl ?_
                  rcases ite_some hF with ⟨h259, hF⟩ | ⟨h259, hF⟩
                  ·
                    refine WOps.on rfl (kbl (b := decide (((t149.1).length : Int) = 2)) rfl (decide_eq_true h259)) ?_
                    refine WOps.p (G.move rfl) rfl ?_
                    refine WOps.on rfl (kbl (b := decide (((t149.1).length : Int) = 2)) rfl (decide_eq_true h259)) ?_
                    obtain ⟨x260, hc261, hF⟩ := bind_some hF
                    obtain ⟨j262, ej263, hj264, hl265⟩ := idx_spec hc261
                    obtain ⟨b266, o267, cs268, eA269, hf270, hc271, hr272⟩ := SlR.at_ (hO157.rd (fun b o hb => S254.grp 2 rfl hb)) hj264
                    have hq273 : cs268 = [.string (bs x260)] := hr272
                    subst hq273
                    change cellsAt _ _ (o267 + j262 * 1) [.string (bs x260)] at hc271
                    refine WOps.p (G.idx T.el77 rfl eA269 rfl ej263 hl265) rfl ?_
                    refine WOps.on rfl (kbl (b := decide (((t149.1).length : Int) = 2)) rfl (decide_eq_true h259)) ?_
                    refine WOps.r (G.load1 T.one9 rfl (cellsAt.at0 hc271)) rfl ?_
                    refine WOps.on rfl (kbl (b := decide (((t149.1).length : Int) = 2)) rfl (decide_eq_true h259)) ?_
                    refine WOps.p (G.eqlb' rfl rfl rfl) rfl ?_
                    refine WOps.p (G.pick_t (kb (b := decide (((t149.1).length : Int) = 2)) rfl (decide_eq_true h259)) rfl) rfl ?_
                    refine WOps.p (G.move rfl) rfl ?_
                    rcases ite_some hF with ⟨h274, hF⟩ | ⟨h274, hF⟩
                    ·
                      refine WOps.on rfl (kbl (b := decide (x260 = ([97] : List UInt8))) rfl (decide_eq_true h274)) ?_
                      refine WOps.p (G.move rfl) rfl ?_
                      refine WOps.on rfl (kbl (b := decide (x260 = ([97] : List UInt8))) rfl (decide_eq_true h274)) ?_
                      obtain ⟨x275, hc276, hF⟩ := bind_some hF
                      obtain ⟨j277, ej278, hj279, hl280⟩ := idx_spec hc276
                      obtain ⟨b281, o282, cs283, eA284, hf285, hc286, hr287⟩ := SlR.at_ (hO157.rd (fun b o hb => S254.grp 2 rfl hb)) hj279
                      have hq288 : cs283 = [.string (bs x275)] := hr287
                      subst hq288
                      change cellsAt _ _ (o282 + j277 * 1) [.string (bs x275)] at hc286
                      refine WOps.p (G.idx T.el77 rfl eA284 rfl ej278 hl280) rfl ?_
                      refine WOps.on rfl (kbl (b := decide (x260 = ([97] : List UInt8))) rfl (decide_eq_true h274)) ?_
                      refine WOps.r (G.load1 T.one9 rfl (cellsAt.at0 hc286)) rfl ?_
                      refine WOps.on rfl (kbl (b := decide (x260 = ([97] : List UInt8))) rfl (decide_eq_true h274)) ?_
                      refine WOps.p (G.eqlb' rfl rfl rfl) rfl ?_
                      refine WOps.p (G.pick_t (kb (b := decide (x260 = ([97] : List UInt8))) rfl (decide_eq_true h274)) rfl) rfl ?_
                      refine WOps.p (G.move rfl) rfl ?_
                      rcases ite_some hF with ⟨h289, hF⟩ | ⟨h289, hF⟩
                      ·
                        refine WOps.on rfl (kbl (b := decide (x275 = ([98] : List UInt8))) rfl (decide_eq_true h289)) ?_
                        refine WOps.p (G.move rfl) rfl ?_
                        refine WOps.on rfl (kbl (b := decide (x275 = ([98] : List UInt8))) rfl (decide_eq_true h289)) ?_
                        refine WOps.p (G.eql rfl rfl rfl) rfl ?_
                        refine WOps.p (G.pick_t (kb (b := decide (x275 = ([98] : List UInt8))) rfl (decide_eq_true h289)) rfl) rfl ?_
                        refine WOps.p (G.move rfl) rfl ?_
                        rcases ite_some hF with ⟨h290, hF⟩ | ⟨h290, hF⟩
                        ·
                          refine WOps.on rfl (kbl (b := decide (t175.1 = 9)) rfl (decide_eq_true h290)) ?_
                          refine WOps.p (G.move rfl) rfl ?_
                          refine WOps.p (G.pick_t (kb (b := decide (t175.1 = 9)) rfl (decide_eq_true h290)) rfl) rfl ?_
                          refine WOps.p (G.move rfl) rfl ?_
                          rcases ite_some hF with ⟨h291, hF⟩ | ⟨h291, hF⟩
                          ·
                            refine WOps.on rfl (kbl (b := t175.2.1) rfl h291) ?_
                            refine WOps.p (G.move rfl) rfl ?_
                            refine WOps.on rfl (kbl (b := t175.2.1) rfl h291) ?_
                            refine WOps.p (G.not rfl rfl) rfl ?_
                            refine WOps.p (G.pick_t (kb (b := t175.2.1) rfl h291) rfl) rfl ?_
                            refine WOps.p (G.move rfl) rfl ?_
                            rcases ite_some hF with ⟨h292, hF⟩ | ⟨h292, hF⟩
                            ·
                              refine WOps.off rfl (kbl (b := !t196.2.1) rfl (show (!t196.2.1) = false from by rw [h292]; rfl)) rfl rfl ?_
                              refine WOps.off rfl (kbl (b := !t196.2.1) rfl (show (!t196.2.1) = false from by rw [h292]; rfl)) rfl rfl ?_
                              refine WOps.p (G.pick_f (kb (b := !t196.2.1) rfl (show (!t196.2.1) = false from by rw [h292]; rfl)) rfl) rfl ?_
                              refine WOps.p (G.move rfl) rfl ?_
                              refine WOps.off rfl rfl rfl rfl ?_
                              refine WOps.off rfl rfl rfl rfl ?_
                              refine WOps.p (G.pick_f rfl rfl) rfl ?_
                              refine WOps.p (G.move rfl) rfl ?_
                              refine WOps.off rfl rfl rfl rfl ?_
                              refine WOps.off rfl rfl rfl rfl ?_
                              refine WOps.off rfl rfl rfl rfl ?_
                              refine WOps.p (G.pick_f rfl rfl) rfl ?_
                              refine WOps.p (G.assign rfl) rfl ?_
                              refine WOps.nil ?_
                              refine WEx.then_ ?_
                              refine WCode.forget (l' := [(0, .bool false)]) ⟨rfl, trivial⟩ ?_
                              refine WCode.ret ?_
                              obtain rfl := some_eq hF
                              refine WEx.ret1 rfl rfl ?_
                              exact ⟨rfl, St.keep (As := []) S254⟩
                            ·
                              refine WOps.on rfl (kbl (b := !t196.2.1) rfl (show (!t196.2.1) = true from by rw [(Bool.eq_false_iff.2 h292)]; rfl)) ?_
                              refine WOps.p (G.move rfl) rfl ?_
                              refine WOps.on rfl (kbl (b := !t196.2.1) rfl (show (!t196.2.1) = true from by rw [(Bool.eq_false_iff.2 h292)]; rfl)) ?_
                              refine WOps.p (G.eql rfl rfl rfl) rfl ?_
                              refine WOps.p (G.pick_t (kb (b := !t196.2.1) rfl (show (!t196.2.1) = true from by rw [(Bool.eq_false_iff.2 h292)]; rfl)) rfl) rfl ?_
                              refine WOps.p (G.move rfl) rfl ?_
                              rcases ite_some hF with ⟨h293, hF⟩ | ⟨h293, hF⟩
                              ·
                                refine WOps.on rfl (kbl (b := decide (t217.1 = 0)) rfl (decide_eq_true h293)) ?_
                                refine WOps.p (G.move rfl) rfl ?_
                                refine WOps.on rfl (kbl (b := decide (t217.1 = 0)) rfl (decide_eq_true h293)) ?_
                                refine WOps.p (G.eql rfl rfl rfl) rfl ?_
                                refine WOps.p (G.pick_t (kb (b := decide (t217.1 = 0)) rfl (decide_eq_true h293)) rfl) rfl ?_
                                refine WOps.p (G.move rfl) rfl ?_
                                rcases ite_some hF with ⟨h294, hF⟩ | ⟨h294, hF⟩
                                ·
                                  refine WOps.on rfl (kbl (b := decide (t238.1 = 141)) rfl (decide_eq_true h294)) ?_
                                  refine WOps.p (G.move rfl) rfl ?_
                                  refine WOps.on rfl (kbl (b := decide (t238.1 = 141)) rfl (decide_eq_true h294)) ?_
                                  have S295 := S254.front 1 rfl
                                  change St _ _ _ [G251, [(p21, .cells #[.int .i64 t238.2.most, .slice A249 t238.2.pairs.length c250] 191 (0, 0))], G156] at S295
                                  have S296 := S295.front 1 rfl
                                  change St _ _ _ [[(p21, .cells #[.int .i64 t238.2.most, .slice A249 t238.2.pairs.length c250] 191 (0, 0))], G251, G156] at S296
                                  have hO297 : ObjO 191 Shelf_string__int_.rp p21 t238.2 ([(p21, .cells #[.int .i64 t238.2.most, .slice A249 t238.2.pairs.length c250] 191 (0, 0))] ++ (G251)) := ⟨_, _, ⟨A249, c250, G251, rfl, hO252, rfl⟩, rfl⟩
                                  have S298 : St _ _ _ [[(p21, .cells #[.int .i64 t238.2.most, .slice A249 t238.2.pairs.length c250] 191 (0, 0))] ++ (G251), G156] := S296.objs (by simp)
                                  obtain ⟨t299, hc300, hF⟩ := bind_some hF
                                  refine WOps.call T.call85 (evs_cons rfl evs_nil) rfl ?_
                                  refine (shs_Len_calls k t238.2 hO297 hc300 (St.hpN (As := [[(p21, .cells #[.int .i64 t238.2.most, .slice A249 t238.2.pairs.length c250] 191 (0, 0))] ++ (G251)]) S298)).mono ?_
                                  rintro _ w301 ⟨G304, rfl, hO305, T302⟩
                                  have S303 := St.callN (As := [[(p21, .cells #[.int .i64 t238.2.most, .slice A249 t238.2.pairs.length c250] 191 (0, 0))] ++ (G251)]) S298 T302
                                  change St _ _ _ [G304, G156] at S303
                                  refine ⟨_, rfl, ?_⟩
                                  obtain ⟨cs306, G307, ho308, hg309⟩ := hO305
                                  obtain ⟨A310, c311, G312, rfl, hO313, hq314⟩ := ho308
                                  have S315 : St _ _ _ [[(p21, .cells #[.int .i64 t299.2.most, .slice A310 t299.2.pairs.length c311] 191 (0, 0))], G312, G156] := S303.objs (by rw [hg309, hq314]; simp)
                                  refine WOps.on rfl (kbl (b := decide (t238.1 = 141)) rfl (decide_eq_true h294)) ?_
                                  refine WOps.p (G.eql rfl rfl rfl) rfl ?_
                                  refine WOps.p (G.pick_t (kb (b := decide (t238.1 = 141)) rfl (decide_eq_true h294)) rfl) rfl ?_
                                  refine WOps.p (G.assign rfl) rfl ?_
                                  refine WOps.nil ?_
                                  refine WEx.then_ ?_
                                  refine WCode.forget (l' := [(0, .bool (decide (t299.1 = 1)))]) ⟨rfl, trivial⟩ ?_
                                  refine WCode.ret ?_
                                  obtain rfl := some_eq hF
                                  refine WEx.ret1 rfl rfl ?_
                                  exact ⟨rfl, St.keep (As := []) S315⟩
                                ·
                                  refine WOps.off rfl (kbl (b := decide (t238.1 = 141)) rfl (decide_eq_false h294)) rfl rfl ?_
                                  refine WOps.off rfl (kbl (b := decide (t238.1 = 141)) rfl (decide_eq_false h294)) rfl rfl ?_
                                  refine WOps.off rfl (kbl (b := decide (t238.1 = 141)) rfl (decide_eq_false h294)) rfl rfl ?_
                                  refine WOps.p (G.pick_f (kb (b := decide (t238.1 = 141)) rfl (decide_eq_false h294)) rfl) rfl ?_
                                  refine WOps.p (G.assign rfl) rfl ?_
                                  refine WOps.nil ?_
                                  refine WEx.then_ ?_
                                  refine WCode.forget (l' := [(0, .bool false)]) ⟨rfl, trivial⟩ ?_
                                  refine WCode.ret ?_
                                  obtain rfl := some_eq hF
                                  refine WEx.ret1 rfl rfl ?_
                                  exact ⟨rfl, St.keep (As := []) S254⟩
                              ·
                                refine WOps.off rfl (kbl (b := decide (t217.1 = 0)) rfl (decide_eq_false h293)) rfl rfl ?_
                                refine WOps.off rfl (kbl (b := decide (t217.1 = 0)) rfl (decide_eq_false h293)) rfl rfl ?_
                                refine WOps.p (G.pick_f (kb (b := decide (t217.1 = 0)) rfl (decide_eq_false h293)) rfl) rfl ?_
                                refine WOps.p (G.move rfl) rfl ?_
                                refine WOps.off rfl rfl rfl rfl ?_
                                refine WOps.off rfl rfl rfl rfl ?_
                                refine WOps.off rfl rfl rfl rfl ?_
                                refine WOps.p (G.pick_f rfl rfl) rfl ?_
                                refine WOps.p (G.assign rfl) rfl ?_
                                refine WOps.nil ?_
                                refine WEx.then_ ?_
                                refine WCode.forget (l' := [(0, .bool false)]) ⟨rfl, trivial⟩ ?_
                                refine WCode.ret ?_
                                obtain rfl := some_eq hF
                                refine WEx.ret1 rfl rfl ?_
                                exact ⟨rfl, St.keep (As := []) S254⟩
                          ·
                            refine WOps.off rfl (kbl (b := t175.2.1) rfl (Bool.eq_false_iff.2 h291)) rfl rfl ?_
                            refine WOps.off rfl (kbl (b := t175.2.1) rfl (Bool.eq_false_iff.2 h291)) rfl rfl ?_
                            refine WOps.p (G.pick_f (kb (b := t175.2.1) rfl (Bool.eq_false_iff.2 h291)) rfl) rfl ?_
                            refine WOps.p (G.move rfl) rfl ?_
                            refine WOps.off rfl rfl rfl rfl ?_
                            refine WOps.off rfl rfl rfl rfl ?_
                            refine WOps.p (G.pick_f rfl rfl) rfl ?_
                            refine WOps.p (G.move rfl) rfl ?_
                            refine WOps.off rfl rfl rfl rfl ?_
                            refine WOps.off rfl rfl rfl rfl ?_
                            refine WOps.p (G.pick_f rfl rfl) rfl ?_
                            refine WOps.p (G.move rfl) rfl ?_
                            refine WOps.off rfl rfl rfl rfl ?_
                            refine WOps.off rfl rfl rfl rfl ?_
                            refine WOps.off rfl rfl rfl rfl ?_
                            refine WOps.p (G.pick_f rfl rfl) rfl ?_
                            refine WOps.p (G.assign rfl) rfl ?_
                            refine WOps.nil ?_
                            refine WEx.then_ ?_
                            refine WCode.forget (l' := [(0, .bool false)]) ⟨rfl, trivial⟩ ?_
                            refine WCode.ret ?_
                            obtain rfl := some_eq hF
                            refine WEx.ret1 rfl rfl ?_
                            exact ⟨rfl, St.keep (As := []) S254⟩
                        ·
                          refine WOps.off rfl (kbl (b := decide (t175.1 = 9)) rfl (decide_eq_false h290)) rfl rfl ?_
                          refine WOps.p (G.pick_f (kb (b := decide (t175.1 = 9)) rfl (decide_eq_false h290)) rfl) rfl ?_
                          refine WOps.p (G.move rfl) rfl ?_
                          refine WOps.off rfl rfl rfl rfl ?_
                          refine WOps.off rfl rfl rfl rfl ?_
                          refine WOps.p (G.pick_f rfl rfl) rfl ?_
                          refine WOps.p (G.move rfl) rfl ?_
                          refine WOps.off rfl rfl rfl rfl ?_
                          refine WOps.off rfl rfl rfl rfl ?_
                          refine WOps.p (G.pick_f rfl rfl) rfl ?_
                          refine WOps.p (G.move rfl) rfl ?_
                          refine WOps.off rfl rfl rfl rfl ?_
                          refine WOps.off rfl rfl rfl rfl ?_
                          refine WOps.p (G.pick_f rfl rfl) rfl ?_
                          refine WOps.p (G.move rfl) rfl ?_
                          refine WOps.off rfl rfl rfl rfl ?_
                          refine WOps.off rfl rfl rfl rfl ?_
                          refine WOps.off rfl rfl rfl rfl ?_
                          refine WOps.p (G.pick_f rfl rfl) rfl ?_
                          refine WOps.p (G.assign rfl) rfl ?_
                          refine WOps.nil ?_
                          refine WEx.then_ ?_
                          refine WCode.forget (l' := [(0, .bool false)]) ⟨rfl, trivial⟩ ?_
                          refine WCode.ret ?_
                          obtain rfl := some_eq hF
                          refine WEx.ret1 rfl rfl ?_
                          exact ⟨rfl, St.keep (As := []) S254⟩
                      ·
                        refine WOps.off rfl (kbl (b := decide (x275 = ([98] : List UInt8))) rfl (decide_eq_false h289)) rfl rfl ?_
                        refine WOps.off rfl (kbl (b := decide (x275 = ([98] : List UInt8))) rfl (decide_eq_false h289)) rfl rfl ?_
                        refine WOps.p (G.pick_f (kb (b := decide (x275 = ([98] : List UInt8))) rfl (decide_eq_false h289)) rfl) rfl ?_
                        refine WOps.p (G.move rfl) rfl ?_
                        refine WOps.off rfl rfl rfl rfl ?_
                        refine WOps.p (G.pick_f rfl rfl) rfl ?_
                        refine WOps.p (G.move rfl) rfl ?_
                        refine WOps.off rfl rfl rfl rfl ?_
                        refine WOps.off rfl rfl rfl rfl ?_
                        refine WOps.p (G.pick_f rfl rfl) rfl ?_
                        refine WOps.p (G.move rfl) rfl ?_
                        refine WOps.off rfl rfl rfl rfl ?_
                        refine WOps.off rfl rfl rfl rfl ?_
                        refine WOps.p (G.pick_f rfl rfl) rfl ?_
                        refine WOps.p (G.move rfl) rfl ?_
                        refine WOps.off rfl rfl rfl rfl ?_
                        refine WOps.off rfl rfl rfl rfl ?_
                        refine WOps.p (G.pick_f rfl rfl) rfl ?_
                        refine WOps.p (G.move rfl) rfl ?_
                        refine WOps.off rfl rfl rfl rfl ?_
                        refine WOps.off rfl rfl rfl rfl ?_
                        refine WOps.off rfl rfl rfl rfl ?_
                        refine WOps.p (G.pick_f rfl rfl) rfl ?_
                        refine WOps.p (G.assign rfl) rfl ?_
                        refine WOps.nil ?_
                        refine WEx.then_ ?_
                        refine WCode.forget (l' := [(0, .bool false)]) ⟨rfl, trivial⟩ ?_
                        refine WCode.ret ?_
                        obtain rfl := some_eq hF
                        refine WEx.ret1 rfl rfl ?_
                        exact ⟨rfl, St.keep (As := []) S254⟩
                    ·
                      refine WOps.off rfl (kbl (b := decide (x260 = ([97] : List UInt8))) rfl (decide_eq_false h274)) rfl rfl ?_
                      refine WOps.off rfl (kbl (b := decide (x260 = ([97] : List UInt8))) rfl (decide_eq_false h274)) rfl rfl ?_
                      refine WOps.off rfl (kbl (b := decide (x260 = ([97] : List UInt8))) rfl (decide_eq_false h274)) rfl rfl ?_
                      refine WOps.off rfl (kbl (b := decide (x260 = ([97] : List UInt8))) rfl (decide_eq_false h274)) rfl rfl ?_
                      refine WOps.p (G.pick_f (kb (b := decide (x260 = ([97] : List UInt8))) rfl (decide_eq_false h274)) rfl) rfl ?_
                      refine WOps.p (G.move rfl) rfl ?_
                      refine WOps.off rfl rfl rfl rfl ?_
                      refine WOps.off rfl rfl rfl rfl ?_
                      refine WOps.p (G.pick_f rfl rfl) rfl ?_
                      refine WOps.p (G.move rfl) rfl ?_
                      refine WOps.off rfl rfl rfl rfl ?_
                      refine WOps.p (G.pick_f rfl rfl) rfl ?_
                      refine WOps.p (G.move rfl) rfl ?_
                      refine WOps.off rfl rfl rfl rfl ?_
                      refine WOps.off rfl rfl rfl rfl ?_
                      refine WOps.p (G.pick_f rfl rfl) rfl ?_
                      refine WOps.p (G.move rfl) rfl ?_
                      refine WOps.off rfl rfl rfl rfl ?_
                      refine WOps.off rfl rfl rfl rfl ?_
                      refine WOps.p (G.pick_f rfl rfl) rfl ?_
                      refine WOps.p (G.move rfl) rfl ?_
                      refine WOps.off rfl rfl rfl rfl ?_
                      refine WOps.off rfl rfl rfl rfl ?_
                      refine WOps.p (G.pick_f rfl rfl) rfl ?_
                      refine WOps.p (G.move rfl) rfl ?_
                      refine WOps.off rfl rfl rfl rfl ?_
                      refine WOps.off rfl rfl rfl rfl ?_
                      refine WOps.off rfl rfl rfl rfl ?_
                      refine WOps.p (G.pick_f rfl rfl) rfl ?_
                      refine WOps.p (G.assign rfl) rfl ?_
                      refine WOps.nil ?_
                      refine WEx.then_ ?_
                      refine WCode.forget (l' := [(0, .bool false)]) ⟨rfl, trivial⟩ ?_
                      refine WCode.ret ?_
                      obtain rfl := some_eq hF
                      refine WEx.ret1 rfl rfl ?_
                      exact ⟨rfl, St.keep (As := []) S254⟩
                  ·
                    refine WOps.off rfl (kbl (b := decide (((t149.1).length : Int) = 2)) rfl (decide_eq_false h259)) rfl rfl ?_
                    refine WOps.off rfl (kbl (b := decide (((t149.1).length : Int) = 2)) rfl (decide_eq_false h259)) rfl rfl ?_
                    refine WOps.off rfl (kbl (b := decide (((t149.1).length : Int) = 2)) rfl (decide_eq_false h259)) rfl rfl ?_
                    refine WOps.off rfl (kbl (b := decide (((t149.1).length : Int) = 2)) rfl (decide_eq_false h259)) rfl rfl ?_
                    refine WOps.p (G.pick_f (kb (b := decide (((t149.1).length : Int) = 2)) rfl (decide_eq_false h259)) rfl) rfl ?_
                    refine WOps.p (G.move rfl) rfl ?_
                    refine WOps.off rfl rfl rfl rfl ?_
                    refine WOps.off rfl rfl rfl rfl ?_
                    refine WOps.off rfl rfl rfl rfl ?_
                    refine WOps.off rfl rfl rfl rfl ?_
                    refine WOps.p (G.pick_f rfl rfl) rfl ?_
                    refine WOps.p (G.move rfl) rfl ?_
                    refine WOps.off rfl rfl rfl rfl ?_
                    refine WOps.off rfl rfl rfl rfl ?_
                    refine WOps.p (G.pick_f rfl rfl) rfl ?_
                    refine WOps.p (G.move rfl) rfl ?_
                    refine WOps.off rfl rfl rfl rfl ?_
                    refine WOps.p (G.pick_f rfl rfl) rfl ?_
                    refine WOps.p (G.move rfl) rfl ?_
                    refine WOps.off rfl rfl rfl rfl ?_
                    refine WOps.off rfl rfl rfl rfl ?_
                    refine WOps.p (G.pick_f rfl rfl) rfl ?_
                    refine WOps.p (G.move rfl) rfl ?_
                    refine WOps.off rfl rfl rfl rfl ?_
                    refine WOps.off rfl rfl rfl rfl ?_
                    refine WOps.p (G.pick_f rfl rfl) rfl ?_
                    refine WOps.p (G.move rfl) rfl ?_
                    refine WOps.off rfl rfl rfl rfl ?_
                    refine WOps.off rfl rfl rfl rfl ?_
                    refine WOps.p (G.pick_f rfl rfl) rfl ?_
                    refine WOps.p (G.move rfl) rfl ?_
                    refine WOps.off rfl rfl rfl rfl ?_
                    refine WOps.off rfl rfl rfl rfl ?_
                    refine WOps.off rfl rfl rfl rfl ?_
                    refine WOps.p (G.pick_f rfl rfl) rfl ?_
                    refine WOps.p (G.assign rfl) rfl ?_
                    refine WOps.nil ?_
                    refine WEx.then_ ?_
                    refine WCode.forget (l' := [(0, .bool false)]) ⟨rfl, trivial⟩ ?_
                    refine WCode.ret ?_
                    obtain rfl := some_eq hF
                    refine WEx.ret1 rfl rfl ?_
                    exact ⟨rfl, St.keep (As := []) S254⟩
                ·
                  refine WOps.off rfl (kbl (b := decide (t128.1 = 0)) rfl (decide_eq_false h258)) rfl rfl ?_
                  refine WOps.off rfl (kbl (b := decide (t128.1 = 0)) rfl (decide_eq_false h258)) rfl rfl ?_
                  refine WOps.off rfl (kbl (b := decide (t128.1 = 0)) rfl (decide_eq_false h258)) rfl rfl ?_
                  refine WOps.p (G.pick_f (kb (b := decide (t128.1 = 0)) rfl (decide_eq_false h258)) rfl) rfl ?_
                  refine WOps.p (G.move rfl) rfl ?_
                  refine WOps.off rfl rfl rfl rfl ?_
                  refine WOps.off rfl rfl rfl rfl ?_
                  refine WOps.off rfl rfl rfl rfl ?_
                  refine WOps.off rfl rfl rfl rfl ?_
                  refine WOps.p (G.pick_f rfl rfl) rfl ?_
                  refine WOps.p (G.move rfl) rfl ?_
                  refine WOps.off rfl rfl rfl rfl ?_
                  refine WOps.off rfl rfl rfl rfl ?_
                  refine WOps.off rfl rfl rfl rfl ?_
                  refine WOps.off rfl rfl rfl rfl ?_
                  refine WOps.p (G.pick_f rfl rfl) rfl ?_
                  refine WOps.p (G.move rfl) rfl ?_
                  refine WOps.off rfl rfl rfl rfl ?_
                  refine WOps.off rfl rfl rfl rfl ?_
                  refine WOps.p (G.pick_f rfl rfl) rfl ?_
                  refine WOps.p (G.move rfl) rfl ?_
                  refine WOps.off rfl rfl rfl rfl ?_
                  refine WOps.p (G.pick_f rfl rfl) rfl ?_
                  refine WOps.p (G.move rfl) rfl ?_
                  refine WOps.off rfl rfl rfl rfl ?_
                  refine WOps.off rfl rfl rfl rfl ?_
                  refine WOps.p (G.pick_f rfl rfl) rfl ?_
                  refine WOps.p (G.move rfl) rfl ?_
                  refine WOps.off rfl rfl rfl rfl ?_
                  refine WOps.off rfl rfl rfl rfl ?_
                  refine WOps.p (G.pick_f rfl rfl) rfl ?_
                  refine WOps.p (G.move rfl) rfl ?_
                  refine WOps.off rfl rfl rfl rfl ?_
                  refine WOps.off rfl rfl rfl rfl ?_
                  refine WOps.p (G.pick_f rfl rfl) rfl ?_
                  refine WOps.p (G.move rfl) rfl ?_
                  refine WOps.off rfl rfl rfl rfl ?_
                  refine WOps.off rfl rfl rfl rfl ?_
                  refine WOps.off rfl rfl rfl rfl ?_
                  refine WOps.p (G.pick_f rfl rfl) rfl ?_
                  refine WOps.p (G.assign rfl) rfl ?_
                  refine WOps.nil ?_
                  refine WEx.then_ ?_
                  refine WCode.forget (l' := [(0, .bool false)]) ⟨rfl, trivial⟩ ?_
                  refine WCode.ret ?_
                  obtain rfl := some_eq hF
                  refine WEx.ret1 rfl rfl ?_
                  exact ⟨rfl, St.keep (As := []) S254⟩
              ·
                refine WOps.off rfl (kbl (b := decide (t107.1 = 140)) rfl (decide_eq_false h257)) rfl rfl ?_
                refine WOps.off rfl (kbl (b := decide (t107.1 = 140)) rfl (decide_eq_false h257)) rfl rfl ?_
                refine WOps.p (G.pick_f (kb (b := decide (t107.1 = 140)) rfl (decide_eq_false h257)) rfl) rfl ?_
                refine WOps.p (G.move rfl) rfl ?_
                refine WOps.off rfl rfl rfl rfl ?_
                refine WOps.off rfl rfl rfl rfl ?_
                refine WOps.off rfl rfl rfl rfl ?_
                refine WOps.p (G.pick_f rfl rfl) rfl ?_
                refine WOps.p (G.move rfl) rfl ?_
                refine WOps.off rfl rfl rfl rfl ?_
                refine WOps.off rfl rfl rfl rfl ?_
                refine WOps.off rfl rfl rfl rfl ?_
                refine WOps.off rfl rfl rfl rfl ?_
                refine WOps.p (G.pick_f rfl rfl) rfl ?_
                refine WOps.p (G.move rfl) rfl ?_
                refine WOps.off rfl rfl rfl rfl ?_
                refine WOps.off rfl rfl rfl rfl ?_
                refine WOps.off rfl rfl rfl rfl ?_
                refine WOps.off rfl rfl rfl rfl ?_
                refine WOps.p (G.pick_f rfl rfl) rfl ?_
                refine WOps.p (G.move rfl) rfl ?_
                refine WOps.off rfl rfl rfl rfl ?_
                refine WOps.off rfl rfl rfl rfl ?_
                refine WOps.p (G.pick_f rfl rfl) rfl ?_
                refine WOps.p (G.move rfl) rfl ?_
                refine WOps.off rfl rfl rfl rfl ?_
                refine WOps.p (G.pick_f rfl rfl) rfl ?_
                refine WOps.p (G.move rfl) rfl ?_
                refine WOps.off rfl rfl rfl rfl ?_
                refine WOps.off rfl rfl rfl rfl ?_
                refine WOps.p (G.pick_f rfl rfl) rfl ?_
                refine WOps.p (G.move rfl) rfl ?_
                refine WOps.off rfl rfl rfl rfl ?_
                refine WOps.off rfl rfl rfl rfl ?_
                refine WOps.p (G.pick_f rfl rfl) rfl ?_
                refine WOps.p (G.move rfl) rfl ?_
                refine WOps.off rfl rfl rfl rfl ?_
                refine WOps.off rfl rfl rfl rfl ?_
                refine WOps.p (G.pick_f rfl rfl) rfl ?_
                refine WOps.p (G.move rfl) rfl ?_
                refine WOps.off rfl rfl rfl rfl ?_
                refine WOps.off rfl rfl rfl rfl ?_
                refine WOps.off rfl rfl rfl rfl ?_
                refine WOps.p (G.pick_f rfl rfl) rfl ?_
                refine WOps.p (G.assign rfl) rfl ?_
                refine WOps.nil ?_
                refine WEx.then_ ?_
                refine WCode.forget (l' := [(0, .bool false)]) ⟨rfl, trivial⟩ ?_
                refine WCode.ret ?_
                obtain rfl := some_eq hF
                refine WEx.ret1 rfl rfl ?_
                exact ⟨rfl, St.keep (As := []) S254⟩
            ·
              refine WOps.off rfl (kbl (b := decide (t86.1 = 0)) rfl (decide_eq_false h256)) rfl rfl ?_
              refine WOps.off rfl (kbl (b := decide (t86.1 = 0)) rfl (decide_eq_false h256)) rfl rfl ?_
              refine WOps.p (G.pick_f (kb (b := decide (t86.1 = 0)) rfl (decide_eq_false h256)) rfl) rfl ?_
              refine WOps.p (G.move rfl) rfl ?_
              refine WOps.off rfl rfl rfl rfl ?_
              refine WOps.off rfl rfl rfl rfl ?_
              refine WOps.p (G.pick_f rfl rfl) rfl ?_
              refine WOps.p (G.move rfl) rfl ?_
              refine WOps.off rfl rfl rfl rfl ?_
              refine WOps.off rfl rfl rfl rfl ?_
              refine WOps.off rfl rfl rfl rfl ?_
              refine WOps.p (G.pick_f rfl rfl) rfl ?_
              refine WOps.p (G.move rfl) rfl ?_
              refine WOps.off rfl rfl rfl rfl ?_
              refine WOps.off rfl rfl rfl rfl ?_
              refine WOps.off rfl rfl rfl rfl ?_
              refine WOps.off rfl rfl rfl rfl ?_
              refine WOps.p (G.pick_f rfl rfl) rfl ?_
              refine WOps.p (G.move rfl) rfl ?_
              refine WOps.off rfl rfl rfl rfl ?_
              refine WOps.off rfl rfl rfl rfl ?_
              refine WOps.off rfl rfl rfl rfl ?_
              refine WOps.off rfl rfl rfl rfl ?_
              refine WOps.p (G.pick_f rfl rfl) rfl ?_
              refine WOps.p (G.move rfl) rfl ?_
              refine WOps.off rfl rfl rfl rfl ?_
              refine WOps.off rfl rfl rfl rfl ?_
              refine WOps.p (G.pick_f rfl rfl) rfl ?_
              refine WOps.p (G.move rfl) rfl ?_
              refine WOps.off rfl rfl rfl rfl ?_
              refine WOps.p (G.pick_f rfl rfl) rfl ?_
              refine WOps.p (G.move rfl) rfl ?_
              refine WOps.off rfl rfl rfl rfl ?_
              refine WOps.off rfl rfl rfl rfl ?_
              refine WOps.p (G.pick_f rfl rfl) rfl ?_
              refine WOps.p (G.move rfl) rfl ?_
              refine WOps.off rfl rfl rfl rfl ?_
              refine WOps.off rfl rfl rfl rfl ?_
              refine WOps.p (G.pick_f rfl rfl) rfl ?_
              refine WOps.p (G.move rfl) rfl ?_
              refine WOps.off rfl rfl rfl rfl ?_
              refine WOps.off rfl rfl rfl rfl ?_
              refine WOps.p (G.pick_f rfl rfl) rfl ?_
              refine WOps.p (G.move rfl) rfl ?_
              refine WOps.off rfl rfl rfl rfl ?_
              refine WOps.off rfl rfl rfl rfl ?_
              refine WOps.off rfl rfl rfl rfl ?_
              refine WOps.p (G.pick_f rfl rfl) rfl ?_
              refine WOps.p (G.assign rfl) rfl ?_
              refine WOps.nil ?_
              refine WEx.then_ ?_
              refine WCode.forget (l' := [(0, .bool false)]) ⟨rfl, trivial⟩ ?_
              refine WCode.ret ?_
              obtain rfl := some_eq hF
              refine WEx.ret1 rfl rfl ?_
              exact ⟨rfl, St.keep (As := []) S254⟩
          ·
            refine WOps.off rfl (kbl (b := decide (t65.1 = 0)) rfl (decide_eq_false h255)) rfl rfl ?_
            refine WOps.off rfl (kbl (b := decide (t65.1 = 0)) rfl (decide_eq_false h255)) rfl rfl ?_
            refine WOps.p (G.pick_f (kb (b := decide (t65.1 = 0)) rfl (decide_eq_false h255)) rfl) rfl ?_
            refine WOps.p (G.move rfl) rfl ?_
            refine WOps.off rfl rfl rfl rfl ?_
            refine WOps.off rfl rfl rfl rfl ?_
            refine WOps.p (G.pick_f rfl rfl) rfl ?_
            refine WOps.p (G.move rfl) rfl ?_
            refine WOps.off rfl rfl rfl rfl ?_
            refine WOps.off rfl rfl rfl rfl ?_
            refine WOps.p (G.pick_f rfl rfl) rfl ?_
            refine WOps.p (G.move rfl) rfl ?_
            refine WOps.off rfl rfl rfl rfl ?_
            refine WOps.off rfl rfl rfl rfl ?_
            refine WOps.off rfl rfl rfl rfl ?_
            refine WOps.p (G.pick_f rfl rfl) rfl ?_
            refine WOps.p (G.move rfl) rfl ?_
            refine WOps.off rfl rfl rfl rfl ?_
            refine WOps.off rfl rfl rfl rfl ?_
            refine WOps.off rfl rfl rfl rfl ?_
            refine WOps.off rfl rfl rfl rfl ?_
            refine WOps.p (G.pick_f rfl rfl) rfl ?_
            refine WOps.p (G.move rfl) rfl ?_
            refine WOps.off rfl rfl rfl rfl ?_
            refine WOps.off rfl rfl rfl rfl ?_
            refine WOps.off rfl rfl rfl rfl ?_
            refine WOps.off rfl rfl rfl rfl ?_
            refine WOps.p (G.pick_f rfl rfl) rfl ?_
            refine WOps.p (G.move rfl) rfl ?_
            refine WOps.off rfl rfl rfl rfl ?_
            refine WOps.off rfl rfl rfl rfl ?_
            refine WOps.p (G.pick_f rfl rfl) rfl ?_
            refine WOps.p (G.move rfl) rfl ?_
            refine WOps.off rfl rfl rfl rfl ?_
            refine WOps.p (G.pick_f rfl rfl) rfl ?_
            refine WOps.p (G.move rfl) rfl ?_
            refine WOps.off rfl rfl rfl rfl ?_
            refine WOps.off rfl rfl rfl rfl ?_
            refine WOps.p (G.pick_f rfl rfl) rfl ?_
            refine WOps.p (G.move rfl) rfl ?_
            refine WOps.off rfl rfl rfl rfl ?_
            refine WOps.off rfl rfl rfl rfl ?_
            refine WOps.p (G.pick_f rfl rfl) rfl ?_
            refine WOps.p (G.move rfl) rfl ?_
            refine WOps.off rfl rfl rfl rfl ?_
            refine WOps.off rfl rfl rfl rfl ?_
            refine WOps.p (G.pick_f rfl rfl) rfl ?_
            refine WOps.p (G.move rfl) rfl ?_
            refine WOps.off rfl rfl rfl rfl ?_
            refine WOps.off rfl rfl rfl rfl ?_
            refine WOps.off rfl rfl rfl rfl ?_
            refine WOps.p (G.pick_f rfl rfl) rfl ?_
            refine WOps.p (G.assign rfl) rfl ?_
            refine WOps.nil ?_
            refine WEx.then_ ?_
            refine WCode.forget (l' := [(0, .bool false)]) ⟨rfl, trivial⟩ ?_
            refine WCode.ret ?_
            obtain rfl := some_eq hF
            refine WEx.ret1 rfl rfl ?_
            exact ⟨rfl, St.keep (As := []) S254⟩
        ·
          refine WCode.cond_t (kb (b := !(decide (t9.2 = 1))) rfl (show (!(decide (t9.2 = 1))) = true from by rw [(decide_eq_false h60)]; rfl)) ?_
          refine WCode.seq ?_
          refine WCode.region ?_
          refine WOps.p (G.assign rfl) rfl ?_
          refine WOps.nil ?_
          refine WEx.then_ ?_
          refine WCode.ret ?_
          refine WEx.then_ret ?_
          obtain rfl := some_eq hF
          refine WEx.ret1 rfl rfl ?_
          exact ⟨rfl, St.keep (As := []) S58⟩
    ·
      refine WOps.off rfl (kbl (b := !(decide (t1.2 = 0))) rfl (show (!(decide (t1.2 = 0))) = true from by rw [(decide_eq_false h35)]; rfl)) rfl rfl ?_
      refine WOps.off rfl (kbl (b := !(decide (t1.2 = 0))) rfl (show (!(decide (t1.2 = 0))) = true from by rw [(decide_eq_false h35)]; rfl)) rfl rfl ?_
      refine WOps.p (G.pick_t (kb (b := !(decide (t1.2 = 0))) rfl (show (!(decide (t1.2 = 0))) = true from by rw [(decide_eq_false h35)]; rfl)) rfl) rfl ?_
      refine WOps.p (G.move rfl) rfl ?_
      refine WOps.off rfl rfl rfl rfl ?_
      refine WOps.off rfl rfl rfl rfl ?_
      refine WOps.p (G.pick_t rfl rfl) rfl ?_
      refine WOps.nil ?_
      refine WEx.then_ ?_
      refine WCode.forget (l' := [(1, .pointer (some ⟨p21, 0, none⟩)), (37, .bool true)]) ⟨rfl, rfl, trivial⟩ ?_
      refine WCode.cond_t rfl ?_
      refine WCode.seq ?_
      refine WCode.region ?_
      refine WOps.p (G.assign rfl) rfl ?_
      refine WOps.nil ?_
      refine WEx.then_ ?_
      refine WCode.ret ?_
      refine WEx.then_ret ?_
      obtain rfl := some_eq hF
      refine WEx.ret1 rfl rfl ?_
      exact ⟨rfl, St.keep (As := []) S34⟩
  ·
    have hn317 := Option.not_isSome_iff_eq_none.1 h17
    have ho316 := hO8
    rw [hn317] at ho316
    obtain ⟨hv318, hg319⟩ := ho316
    subst hv318
    have S321 := S13.front 1 rfl
    change St _ _ _ [G7, G15] at S321
    have S320 : St _ _ _ [G15] := S321.objs (by rw [hg319]; simp)
    refine WOps.p (G.eqp_nil Try.underlying141 rfl rfl rfl) rfl ?_
    refine WOps.p (G.move rfl) rfl ?_
    refine WOps.off rfl rfl rfl rfl ?_
    refine WOps.off rfl rfl rfl rfl ?_
    refine WOps.p (G.pick_t rfl rfl) rfl ?_
    refine WOps.p (G.move rfl) rfl ?_
    refine WOps.off rfl rfl rfl rfl ?_
    refine WOps.off rfl rfl rfl rfl ?_
    refine WOps.p (G.pick_t rfl rfl) rfl ?_
    refine WOps.p (G.move rfl) rfl ?_
    refine WOps.off rfl rfl rfl rfl ?_
    refine WOps.off rfl rfl rfl rfl ?_
    refine WOps.p (G.pick_t rfl rfl) rfl ?_
    refine WOps.nil ?_
    refine WEx.then_ ?_
    refine WCode.forget (l' := [(1, .pointer none), (37, .bool true)]) ⟨rfl, rfl, trivial⟩ ?_
    refine WCode.cond_t rfl ?_
    refine WCode.seq ?_
    refine WCode.region ?_
    refine WOps.p (G.assign rfl) rfl ?_
    refine WOps.nil ?_
    refine WEx.then_ ?_
    refine WCode.ret ?_
    refine WEx.then_ret ?_
    obtain rfl := some_eq hF
    refine WEx.ret1 rfl rfl ?_
    exact ⟨rfl, St.keep (As := []) S320⟩

end Go.Proofs.Ytoahkjehjmbojaa
