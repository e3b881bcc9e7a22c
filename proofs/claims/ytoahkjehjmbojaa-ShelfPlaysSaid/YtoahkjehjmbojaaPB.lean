/- Functions and their walks (printed by auto.py over the engine). -/
import Derived.Test.YtoahkjehjmbojaaProg
import Derived.Test.YtoahkjehjmbojaaPA
namespace Go.Proofs.Ytoahkjehjmbojaa
open Go Go.Eng
set_option linter.unusedSimpArgs false
set_option linter.unusedVariables false

theorem T.agg203_3 : isAggT Try.prog 203 3 = true := by kernel_rfl
theorem T.call114 : Callable Try.prog 114 := Callable.mk Try.func114 (by kernel_rfl) (by kernel_rfl)
theorem T.call115 : Callable Try.prog 115 := Callable.mk Try.func115 (by kernel_rfl) (by kernel_rfl)
theorem T.call116 : Callable Try.prog 116 := Callable.mk Try.func116 (by kernel_rfl) (by kernel_rfl)
theorem T.call127 : Callable Try.prog 127 := Callable.mk Try.func127 (by kernel_rfl) (by kernel_rfl)
theorem T.call128 : Callable Try.prog 128 := Callable.mk Try.func128 (by kernel_rfl) (by kernel_rfl)
theorem T.call95 : Callable Try.prog 95 := Callable.mk Try.func95 (by kernel_rfl) (by kernel_rfl)
theorem T.el167 : slEl Try.prog 167 = some 3 := by kernel_rfl
theorem T.el170 : slEl Try.prog 170 = some 3 := by kernel_rfl
theorem T.elt167 : Elt Try.prog 167 203 3 32 := elt_mk (z := .agg #[.string ⟨#[]⟩, .int .i64 0, .int .i64 0]) Try.underlying167 (by kernel_rfl) rfl
theorem T.elt170 : Elt Try.prog 170 205 3 32 := elt_mk (z := .agg #[.string ⟨#[]⟩, .int .i64 0, .int .i64 0]) Try.underlying170 (by kernel_rfl) rfl
theorem T.elt176 : Elt Try.prog 176 103 2 24 := elt_mk (z := .agg #[.string ⟨#[]⟩, .int .i64 0]) Try.underlying176 (by kernel_rfl) rfl
theorem T.fld169_0 : fldOff Try.prog 169 0 = some 0 := by kernel_rfl
theorem T.fld169_1 : fldOff Try.prog 169 1 = some 1 := by kernel_rfl
theorem T.fld172_0 : fldOff Try.prog 172 0 = some 0 := by kernel_rfl
theorem T.fld172_1 : fldOff Try.prog 172 1 = some 1 := by kernel_rfl
theorem T.fld203_0 : fldOff Try.prog 203 0 = some 0 := by kernel_rfl
theorem T.fld203_1 : fldOff Try.prog 203 1 = some 2 := by kernel_rfl
theorem T.fld205_0 : fldOff Try.prog 205 0 = some 0 := by kernel_rfl
theorem T.fld205_1 : fldOff Try.prog 205 1 = some 2 := by kernel_rfl
theorem T.one167 : isOneT Try.prog 167 = true := by kernel_rfl
theorem T.one170 : isOneT Try.prog 170 = true := by kernel_rfl
theorem T.size167_1 : sizeT Try.prog 167 = some 1 := by kernel_rfl
theorem T.size170_1 : sizeT Try.prog 170 = some 1 := by kernel_rfl
theorem T.size203_3 : sizeT Try.prog 203 = some 3 := by kernel_rfl
theorem T.zero203 : zeroOf Try.prog 203 = some (.agg #[.string (bs ([] : List UInt8)), .int .i64 0, .int .i64 0]) := by kernel_rfl
structure Key__int_ where
  key : KeyS
  value : Int
  deriving DecidableEq
def Key__int_.cs (x : Key__int_) : List Value := [.string (bs x.key.S), .int .i64 x.key.N, .int .i64 x.value]
def Key__int_.rp : Rp Key__int_ := .plain Key__int_.cs 3 (fun _ => rfl) (fun _ => rfl)
structure ShK where
  most : Int
  pairs : List Key__int_
  deriving DecidableEq
def ShK.rp : Rp ShK where
  sz := 2
  rd := fun w F x cs => ∃ A1 : Option Addr, ∃ c1 : Nat, cs = [.int .i64 x.most, .slice A1 (x.pairs).length c1] ∧ SlR Key__int_.rp w F A1 c1 (x.pairs)
  own := fun x cs G => ∃ A1 : Option Addr, ∃ c1 : Nat, ∃ G1 : Grp, cs = [.int .i64 x.most, .slice A1 (x.pairs).length c1] ∧ SlO 203 Key__int_.rp (.slice A1 (x.pairs).length c1) (x.pairs) G1 ∧ G = G1
  len := by rintro _ _ _ _ ⟨_, _, rfl, _⟩; rfl
  one := by rintro _ _ _ _ ⟨_, _, rfl, _⟩; exact one_of_all rfl
  lenO := by rintro _ _ _ ⟨_, _, _, rfl, _⟩; rfl
  oneO := by rintro _ _ _ ⟨_, _, _, rfl, _⟩; exact one_of_all rfl
  ext := by rintro _ _ _ _ _ ⟨A1, c1, rfl, h1⟩ hE; exact ⟨A1, c1, rfl, h1.ext hE⟩
  mono := by rintro _ _ _ _ _ ⟨A1, c1, rfl, h1⟩ hF; exact ⟨A1, c1, rfl, h1.mono hF⟩
  low := by
    rintro w x cs G ⟨A1, c1, G1, rfl, h1, hGe⟩ hG
    exact ⟨A1, c1, rfl, (h1.rd (fun b o hb => hG b o (by rw [hGe]; simp [hb]))).mono (fun b (hb : b ∈ keys G1) => show b ∈ keys G by rw [hGe]; simp [keys_append, hb])⟩
structure Pair where
  K : KeyS
  V : Int
  deriving DecidableEq
def Pair.cs (x : Pair) : List Value := [.string (bs x.K.S), .int .i64 x.K.N, .int .i64 x.V]
def Pair.rp : Rp Pair := .plain Pair.cs 3 (fun _ => rfl) (fun _ => rfl)
structure ShR where
  Most : Int
  L : List Pair
  deriving DecidableEq
def ShR.rp : Rp ShR where
  sz := 2
  rd := fun w F x cs => ∃ A1 : Option Addr, ∃ c1 : Nat, cs = [.int .i64 x.Most, .slice A1 (x.L).length c1] ∧ SlR Pair.rp w F A1 c1 (x.L)
  own := fun x cs G => ∃ A1 : Option Addr, ∃ c1 : Nat, ∃ G1 : Grp, cs = [.int .i64 x.Most, .slice A1 (x.L).length c1] ∧ SlO 205 Pair.rp (.slice A1 (x.L).length c1) (x.L) G1 ∧ G = G1
  len := by rintro _ _ _ _ ⟨_, _, rfl, _⟩; rfl
  one := by rintro _ _ _ _ ⟨_, _, rfl, _⟩; exact one_of_all rfl
  lenO := by rintro _ _ _ ⟨_, _, _, rfl, _⟩; rfl
  oneO := by rintro _ _ _ ⟨_, _, _, rfl, _⟩; exact one_of_all rfl
  ext := by rintro _ _ _ _ _ ⟨A1, c1, rfl, h1⟩ hE; exact ⟨A1, c1, rfl, h1.ext hE⟩
  mono := by rintro _ _ _ _ _ ⟨A1, c1, rfl, h1⟩ hF; exact ⟨A1, c1, rfl, h1.mono hF⟩
  low := by
    rintro w x cs G ⟨A1, c1, G1, rfl, h1, hGe⟩ hG
    exact ⟨A1, c1, rfl, (h1.rd (fun b o hb => hG b o (by rw [hGe]; simp [hb]))).mono (fun b (hb : b ∈ keys G1) => show b ∈ keys G by rw [hGe]; simp [keys_append, hb])⟩


def sk_New (k : Nat) (a0 : Int) : Option ((Option ShK) × Int) := (if a0 < 0 then (some (none, 1)) else (if 1048576 < a0 then (some (none, 1)) else (some (some (⟨a0, []⟩ : ShK), 0))))
set_option maxRecDepth 100000 in
set_option maxHeartbeats 1000000 in
theorem sk_New_calls (k : Nat) (a0 : Int) {w : World} {r_ : (Option ShK) × Int} (h_ : sk_New k a0 = some r_) :
    Calls Try.prog 52 [.int .i64 a0].toArray w fun e w' => ∃ v0' : Value, ∃ G0' : Grp, e = .returned (.tuple #[v0', .int .i64 r_.2]) ∧ OptO 169 ShK.rp v0' (r_.1) G0' ∧ St w (KS []) w' [G0'] := by
 have hF := h_
 clear h_
 unfold sk_New at hF
 have S := St.ofFalse (As := []) (St.init0 w)
 refine enter 13 [(0, .int .i64 a0)] Try.func52 rfl rfl rfl rfl ?_
 refine WCode.seq ?_
 refine WCode.region ?_
 refine WOps.p (G.assign rfl) rfl ?_
 refine WOps.p (G.assign rfl) rfl ?_
 refine WOps.nil ?_
 refine WEx.then_ ?_
 refine WCode.seq ?_
 refine WCode.seq ?_
 refine WCode.region ?_
 refine WOps.p (G.move rfl) rfl ?_
 refine WOps.p (G.lss rfl rfl rfl) rfl ?_
 refine WOps.p (G.move rfl) rfl ?_
 rcases ite_some hF with ⟨h1, hF⟩ | ⟨h1, hF⟩
 ·
  refine WOps.off rfl (kbl (b := decide (a0 < 0)) rfl (decide_eq_true h1)) rfl rfl ?_
  refine WOps.off rfl (kbl (b := decide (a0 < 0)) rfl (decide_eq_true h1)) rfl rfl ?_
  refine WOps.p (G.pick_t (kb (b := decide (a0 < 0)) rfl (decide_eq_true h1)) rfl) rfl ?_
  refine WOps.nil ?_
  refine WEx.then_ ?_
  refine WCode.cond_t rfl ?_
  refine WCode.seq ?_
  refine WCode.region ?_
  refine WOps.p (G.assign rfl) rfl ?_
  refine WOps.p (G.assign rfl) rfl ?_
  refine WOps.nil ?_
  refine WEx.then_ ?_
  refine WCode.ret ?_
  refine WEx.then_ret ?_
  obtain rfl := some_eq hF
  refine WEx.ret2 rfl rfl rfl ?_
  have S2 := S.emp
  exact ⟨.pointer none, ([] : Grp), rfl, ⟨rfl, rfl⟩, St.keep (As := [([] : Grp)]) S2⟩
 ·
  refine WOps.on rfl (kbl (b := decide (a0 < 0)) rfl (decide_eq_false h1)) ?_
  refine WOps.p (G.move rfl) rfl ?_
  refine WOps.on rfl (kbl (b := decide (a0 < 0)) rfl (decide_eq_false h1)) ?_
  refine WOps.p (G.gtr rfl rfl rfl) rfl ?_
  refine WOps.p (G.pick_f (kb (b := decide (a0 < 0)) rfl (decide_eq_false h1)) rfl) rfl ?_
  refine WOps.nil ?_
  refine WEx.then_ ?_
  rcases ite_some hF with ⟨h3, hF⟩ | ⟨h3, hF⟩
  ·
   refine WCode.cond_t (kb (b := decide (1048576 < a0)) rfl (decide_eq_true h3)) ?_
   refine WCode.seq ?_
   refine WCode.region ?_
   refine WOps.p (G.assign rfl) rfl ?_
   refine WOps.p (G.assign rfl) rfl ?_
   refine WOps.nil ?_
   refine WEx.then_ ?_
   refine WCode.ret ?_
   refine WEx.then_ret ?_
   obtain rfl := some_eq hF
   refine WEx.ret2 rfl rfl rfl ?_
   have S4 := S.emp
   exact ⟨.pointer none, ([] : Grp), rfl, ⟨rfl, rfl⟩, St.keep (As := [([] : Grp)]) S4⟩
  ·
   refine WCode.cond_f (kb (b := decide (1048576 < a0)) rfl (decide_eq_false h3)) ?_
   refine WCode.skip ?_
   refine WEx.then_ ?_
   refine WCode.seq ?_
   refine WCode.region ?_
   refine WOps.p (G.move rfl) rfl ?_
   refine WOps.p (G.build (cells := #[.int .i64 a0, .slice none 0 0]) (evp_spec (evp_cons rfl evp_nil)) (by kernel_rfl)) rfl ?_
   obtain ⟨b5, w6, E7, S8, X9, L10⟩ := St.box S Try.prog 169 (.agg #[.int .i64 a0, .slice none 0 0])
   change St _ _ _ [[(b5, .cells #[.int .i64 a0, .slice none 0 0] 169 (0, 0))]] at S8
   refine WOps.e (E7 rfl) rfl ?_
   refine WOps.p (G.assign rfl) rfl ?_
   refine WOps.p (G.assign rfl) rfl ?_
   refine WOps.nil ?_
   refine WEx.then_ ?_
   refine WCode.forget (l' := [(2, .pointer (some ⟨b5, 0, none⟩)), (3, .int .i64 0)]) ⟨rfl, rfl, trivial⟩ ?_
   refine WCode.ret ?_
   obtain rfl := some_eq hF
   refine WEx.ret2 rfl rfl rfl ?_
   have S11 := S8.emp
   have S13 := S11.front 1 rfl
   change St _ _ _ [[(b5, .cells #[.int .i64 a0, .slice none 0 0] 169 (0, 0))], ([] : Grp)] at S13
   have hO14 : ObjO 169 ShK.rp b5 (⟨a0, []⟩ : ShK) ([(b5, .cells #[.int .i64 a0, .slice none 0 0] 169 (0, 0))] ++ (([] : Grp))) := ⟨_, _, ⟨none, 0, ([] : Grp), rfl, (SlO.nil 203 Key__int_.rp), rfl⟩, rfl⟩
   have S15 : St _ _ _ [[(b5, .cells #[.int .i64 a0, .slice none 0 0] 169 (0, 0))] ++ (([] : Grp))] := S13.objs (by simp)
   exact ⟨(.pointer (some ⟨b5, 0, none⟩)), [(b5, .cells #[.int .i64 a0, .slice none 0 0] 169 (0, 0))] ++ (([] : Grp)), rfl, ⟨_, rfl, hO14⟩, St.keep (As := [[(b5, .cells #[.int .i64 a0, .slice none 0 0] 169 (0, 0))] ++ (([] : Grp))]) S15⟩

def sk_clo (k : Nat) (a0 : Key__int_) (bc0 : KeyS) : Option Bool := (some (decide (a0.key = bc0)))
set_option maxRecDepth 100000 in
set_option maxHeartbeats 1000000 in
theorem sk_clo_calls (k : Nat) (a0 : Key__int_) (bc0 : KeyS) {qc0 : Nat} {w : World} (hBc0 : w.heap[qc0]? = some (.cells #[.string (bs bc0.S), .int .i64 bc0.N] 103 (0, 0))) (hNc0 : qc0 ∉ keys ([] : List Grp).flatten) {r_ : Bool} (h_ : sk_clo k a0 bc0 = some r_) :
    Calls Try.prog 128 [.agg #[.string (bs a0.key.S), .int .i64 a0.key.N, .int .i64 a0.value], .pointer (some ⟨qc0, 0, none⟩)].toArray w fun e w' => e = .returned (.bool r_) ∧ St w (KS []) w' [] := by
 have hF := h_
 clear h_
 unfold sk_clo at hF
 have S := St.ofFalse (As := []) (St.init0 w)
 refine enter 8 [(0, .agg #[.string (bs a0.key.S), .int .i64 a0.key.N, .int .i64 a0.value]), (1, .pointer (some ⟨qc0, 0, none⟩))] Try.func128 rfl rfl rfl rfl ?_
 refine WCode.seq ?_
 refine WCode.region ?_
 obtain ⟨b1, w2, E3, S4, X5, L6⟩ := St.box S Try.prog 203 (.agg #[.string (bs a0.key.S), .int .i64 a0.key.N, .int .i64 a0.value])
 change St _ _ _ [[(b1, .cells #[.string (bs a0.key.S), .int .i64 a0.key.N, .int .i64 a0.value] 203 (0, 0))]] at S4
 refine WOps.e (E3 rfl) rfl ?_
 refine WOps.p (G.assign rfl) rfl ?_
 refine WOps.nil ?_
 refine WEx.then_ ?_
 refine WCode.seq ?_
 refine WCode.region ?_
 refine WOps.p (G.field T.fld203_0 rfl (show 0 + 0 = 0 from rfl)) rfl ?_
 refine WOps.r (G.loada T.agg103_2 rfl (cs := [.string (bs a0.key.S), .int .i64 a0.key.N]) (cellsAt.of_blk (S4.blk 0 rfl) rfl)) rfl ?_
 refine WOps.r (G.loada T.agg103_2 rfl (cs := [.string (bs bc0.S), .int .i64 bc0.N]) (cellsAt.of_blk ((S4.fr qc0 (lt_of_blk hBc0) hNc0).trans hBc0) rfl)) rfl ?_
 refine WOps.p (G.eqa rfl rfl (by kernel_rfl) (KeyS.eqIn103 a0.key bc0) rfl) rfl ?_
 refine WOps.p (G.assign rfl) rfl ?_
 refine WOps.nil ?_
 refine WEx.then_ ?_
 refine WCode.ret ?_
 obtain rfl := some_eq hF
 refine WEx.ret1 rfl rfl ?_
 exact ⟨rfl, St.keep (As := []) S4⟩

def sk_idx.l1 : Nat → List Key__int_ → KeyS → Int → Option Int
  | 0, _, _, _ => none
  | k4 + 1, a0, b1_0, x1 => (if x1 < (a0.length : Int) then (Option.bind (idx a0 x1) fun x8 => (Option.bind (sk_clo k4 x8 b1_0) fun t22 => (if t22 = true then (some x1) else (sk_idx.l1 k4 a0 b1_0 (w64 (x1 + 1)))))) else (some (-1)))
def sk_idx (k : Nat) (a0 : List Key__int_) (b1_0 : KeyS) : Option Int := (sk_idx.l1 k a0 b1_0 0)
set_option maxRecDepth 100000 in
set_option maxHeartbeats 1000000 in
theorem sk_idx_calls (k : Nat) (a0 : List Key__int_) {A0 : Option Addr} {c0 : Nat} {F0 : Nat → Prop} (b1_0 : KeyS) {q1_0 : Nat} {w : World} (hR0 : SlR Key__int_.rp w F0 A0 c0 a0) (hF0 : ∀ b, F0 b → NK w [] b) (hB1_0 : w.heap[q1_0]? = some (.cells #[.string (bs b1_0.S), .int .i64 b1_0.N] 103 (0, 0))) (hN1_0 : q1_0 ∉ keys ([] : List Grp).flatten) {r_ : Int} (h_ : sk_idx k a0 b1_0 = some r_) :
    Calls Try.prog 127 [.slice A0 a0.length c0, .func (.func 128) #[] #[.pointer (some ⟨q1_0, 0, none⟩)]].toArray w fun e w' => e = .returned (.int .i64 r_) ∧ St w (KS []) w' [] := by
 have hF := h_
 clear h_
 unfold sk_idx at hF
 have S := St.ofFalse (As := []) (St.init0 w)
 refine enter 19 [(0, .slice A0 a0.length c0), (1, .func (.func 128) #[] #[.pointer (some ⟨q1_0, 0, none⟩)])] Try.func127 rfl rfl rfl rfl ?_
 refine WCode.seq ?_
 refine WCode.region ?_
 refine WOps.p (G.assign rfl) rfl ?_
 refine WOps.nil ?_
 refine WEx.then_ ?_
 refine WCode.seq ?_
 refine WCode.seq ?_
 refine WCode.region ?_
 refine WOps.p (G.move rfl) rfl ?_
 refine WOps.p (G.len T.el167 rfl) rfl ?_
 refine WOps.p (G.move rfl) rfl ?_
 refine WOps.nil ?_
 refine WEx.then_ ?_
 refine WCode.block ?_
 refine WCode.forget (l' := [(0, .slice A0 a0.length c0), (1, .func (.func 128) #[] #[.pointer (some ⟨q1_0, 0, none⟩)]), (7, .int .i64 (a0.length : Int)), (8, .int .i64 0)]) ⟨rfl, rfl, rfl, rfl, trivial⟩ ?_
 refine WCode.loop (fun n_ l_ w_ => ∃ x1 : Int, l_ = [(0, .slice A0 a0.length c0), (1, .func (.func 128) #[] #[.pointer (some ⟨q1_0, 0, none⟩)]), (7, .int .i64 (a0.length : Int)), (8, .int .i64 x1)] ∧ sk_idx.l1 n_ a0 b1_0 x1 = some r_ ∧ St w (KS []) w_ []) k ⟨0, rfl, hF, S⟩ ?_
 rintro n5 _ w2 ⟨x1, rfl, hF, S3⟩
 obtain _ | k4 := n5
 · exact nomatch (show (none : Option Int) = some r_ from hF)
 rw [sk_idx.l1] at hF
 refine WCode.seq ?_
 refine WCode.region ?_
 refine WOps.p (G.lss rfl rfl rfl) rfl ?_
 refine WOps.nil ?_
 refine WEx.then_ ?_
 refine WCode.seq ?_
 rcases ite_some hF with ⟨h7, hF⟩ | ⟨h7, hF⟩
 ·
  refine WCode.cond_t (kb (b := decide (x1 < (a0.length : Int))) rfl (decide_eq_true h7)) ?_
  refine WCode.skip ?_
  refine WEx.then_ ?_
  refine WCode.seq ?_
  refine WCode.block ?_
  refine WCode.seq ?_
  refine WCode.region ?_
  refine WOps.p (G.move rfl) rfl ?_
  refine WOps.p (G.assign rfl) rfl ?_
  refine WOps.nil ?_
  refine WEx.then_ ?_
  refine WCode.seq ?_
  refine WCode.region ?_
  refine WOps.p (G.move rfl) rfl ?_
  refine WOps.p (G.move rfl) rfl ?_
  refine WOps.p (G.move rfl) rfl ?_
  obtain ⟨x8, hc9, hF⟩ := bind_some hF
  obtain ⟨j10, ej11, hj12, hl13⟩ := idx_spec hc9
  obtain ⟨b14, o15, cs16, eA17, hf18, hc19, hr20⟩ := SlR.at_ (hR0.ext (S3.keepF hF0)) hj12
  have hq21 : cs16 = [.string (bs x8.key.S), .int .i64 x8.key.N, .int .i64 x8.value] := hr20
  subst hq21
  change cellsAt _ _ (o15 + j10 * 3) [.string (bs x8.key.S), .int .i64 x8.key.N, .int .i64 x8.value] at hc19
  refine WOps.p (G.idx T.el167 rfl eA17 rfl ej11 hl13) rfl ?_
  refine WOps.r (G.loada T.agg203_3 rfl (cs := [.string (bs x8.key.S), .int .i64 x8.key.N, .int .i64 x8.value]) hc19) rfl ?_
  obtain ⟨t22, hc23, hF⟩ := bind_some hF
  refine WOps.callv T.call128 rfl (evs_cons rfl evs_nil) rfl ?_
  refine (sk_clo_calls k4 x8 b1_0 ((S3.fr q1_0 (lt_of_blk hB1_0) hN1_0).trans hB1_0) (by simp [keys]) hc23).mono ?_
  rintro _ w24 ⟨rfl, T25⟩
  have S26 := St.callN (As := []) S3 T25
  change St _ _ _ [] at S26
  refine ⟨_, rfl, ?_⟩
  refine WOps.nil ?_
  refine WEx.then_ ?_
  rcases ite_some hF with ⟨h27, hF⟩ | ⟨h27, hF⟩
  ·
   refine WCode.cond_t (kb (b := t22) rfl h27) ?_
   refine WCode.seq ?_
   refine WCode.region ?_
   refine WOps.p (G.move rfl) rfl ?_
   refine WOps.p (G.assign rfl) rfl ?_
   refine WOps.nil ?_
   refine WEx.then_ ?_
   refine WCode.forget (l' := [(4, .int .i64 x1)]) ⟨rfl, trivial⟩ ?_
   refine WCode.ret ?_
   refine WEx.in_ret ?_
   refine WEx.then_ret ?_
   refine WEx.then_ret ?_
   refine WEx.in_ret ?_
   refine WEx.then_ret ?_
   obtain rfl := some_eq hF
   refine WEx.ret1 rfl rfl ?_
   exact ⟨rfl, St.keep (As := []) S26⟩
  ·
   refine WCode.cond_f (kb (b := t22) rfl (Bool.eq_false_iff.2 h27)) ?_
   refine WCode.skip ?_
   refine WEx.in_normal ?_
   refine WEx.then_ ?_
   refine WCode.region ?_
   refine WOps.p (G.add rfl rfl (r := (w64 (x1 + 1))) rfl) rfl ?_
   refine WOps.p (G.move rfl) rfl ?_
   refine WOps.nil ?_
   refine WEx.again _ _ (by omega) ?_ ⟨w64 (x1 + 1), rfl, hF, S26⟩
   exact ⟨rfl, rfl, rfl, rfl, trivial⟩
 ·
  refine WCode.cond_f (kb (b := decide (x1 < (a0.length : Int))) rfl (decide_eq_false h7)) ?_
  refine WCode.exit ?_
  refine WEx.then_exit ?_
  refine WEx.then_exit ?_
  refine WEx.in_exit ?_
  refine WEx.then_ ?_
  refine WCode.seq ?_
  refine WCode.region ?_
  refine WOps.p (G.assign rfl) rfl ?_
  refine WOps.nil ?_
  refine WEx.then_ ?_
  refine WCode.ret ?_
  obtain rfl := some_eq hF
  refine WEx.ret1 rfl rfl ?_
  exact ⟨rfl, St.keep (As := []) S3⟩

def sk_place (k : Nat) (a0 : ShK) (a1 : KeyS) : Option Int := (Option.bind (sk_idx k a0.pairs a1) fun t15 => (some t15))
set_option maxRecDepth 100000 in
set_option maxHeartbeats 1000000 in
theorem sk_place_calls (k : Nat) (a0 : ShK) {p0 : Nat} {F0 : Nat → Prop} (a1 : KeyS) {w : World} (hP0 : PtR 169 ShK.rp w F0 p0 a0) (hF0 : ∀ b, F0 b → NK w [] b) {r_ : Int} (h_ : sk_place k a0 a1 = some r_) :
    Calls Try.prog 114 [.pointer (some ⟨p0, 0, none⟩), .agg #[.string (bs a1.S), .int .i64 a1.N]].toArray w fun e w' => e = .returned (.int .i64 r_) ∧ St w (KS []) w' [] := by
 have hF := h_
 clear h_
 unfold sk_place at hF
 have S := St.ofFalse (As := []) (St.init0 w)
 have hPq5 := hP0
 obtain ⟨cs1, hB2, hf3, A6, c7, hq4, hR8⟩ := hPq5
 subst hq4
 change _ = some (Obj.cells #[.int .i64 a0.most, .slice A6 a0.pairs.length c7] 169 (0, 0)) at hB2
 refine enter 11 [(0, .pointer (some ⟨p0, 0, none⟩)), (1, .agg #[.string (bs a1.S), .int .i64 a1.N])] Try.func114 rfl rfl rfl rfl ?_
 refine WCode.seq ?_
 refine WCode.region ?_
 obtain ⟨b9, w10, E11, S12, X13, L14⟩ := St.box S Try.prog 103 (.agg #[.string (bs a1.S), .int .i64 a1.N])
 change St _ _ _ [[(b9, .cells #[.string (bs a1.S), .int .i64 a1.N] 103 (0, 0))]] at S12
 refine WOps.e (E11 rfl) rfl ?_
 refine WOps.p (G.assign rfl) rfl ?_
 refine WOps.nil ?_
 refine WEx.then_ ?_
 refine WCode.seq ?_
 refine WCode.region ?_
 refine WOps.p (G.move rfl) rfl ?_
 refine WOps.p (G.nilp rfl) rfl ?_
 refine WOps.p (G.field T.fld169_1 rfl (show 0 + 1 = 1 from rfl)) rfl ?_
 refine WOps.r (G.load1 T.one167 rfl (cell_blk ((S12.fr p0 (lt_of_blk hB2) (hF0 p0 hf3).1).trans hB2) rfl)) rfl ?_
 refine WOps.p (G.makeFunc (evs_cons rfl evs_nil)) rfl ?_
 obtain ⟨t15, hc16, hF⟩ := bind_some hF
 refine WOps.call T.call127 (evs_cons rfl (evs_cons rfl evs_nil)) rfl ?_
 refine (sk_idx_calls k a0.pairs a1 (hR8.ext (S12.keepF hF0)) (St.outF (Bs := []) S12 hF0) (S12.blk 0 rfl) (by simp [keys]) hc16).mono ?_
 rintro _ w17 ⟨rfl, T18⟩
 have S19 := St.callN (As := []) S12 T18
 change St _ _ _ [[(b9, .cells #[.string (bs a1.S), .int .i64 a1.N] 103 (0, 0))]] at S19
 refine ⟨_, rfl, ?_⟩
 refine WOps.p (G.assign rfl) rfl ?_
 refine WOps.nil ?_
 refine WEx.then_ ?_
 refine WCode.ret ?_
 obtain rfl := some_eq hF
 refine WEx.ret1 rfl rfl ?_
 exact ⟨rfl, St.keep (As := []) S19⟩

def sk_Len (k : Nat) (a0 : ShK) : Option Int := (some (a0.pairs.length : Int))
set_option maxRecDepth 100000 in
set_option maxHeartbeats 1000000 in
theorem sk_Len_calls (k : Nat) (a0 : ShK) {p0 : Nat} {F0 : Nat → Prop} {w : World} (hP0 : PtR 169 ShK.rp w F0 p0 a0) (hF0 : ∀ b, F0 b → NK w [] b) {r_ : Int} (h_ : sk_Len k a0 = some r_) :
    Calls Try.prog 101 [.pointer (some ⟨p0, 0, none⟩)].toArray w fun e w' => e = .returned (.int .i64 r_) ∧ St w (KS []) w' [] := by
 have hF := h_
 clear h_
 unfold sk_Len at hF
 have S := St.ofFalse (As := []) (St.init0 w)
 have hPq5 := hP0
 obtain ⟨cs1, hB2, hf3, A6, c7, hq4, hR8⟩ := hPq5
 subst hq4
 change _ = some (Obj.cells #[.int .i64 a0.most, .slice A6 a0.pairs.length c7] 169 (0, 0)) at hB2
 refine enter 8 [(0, .pointer (some ⟨p0, 0, none⟩))] Try.func101 rfl rfl rfl rfl ?_
 refine WCode.seq ?_
 refine WCode.region ?_
 refine WOps.p (G.assign rfl) rfl ?_
 refine WOps.nil ?_
 refine WEx.then_ ?_
 refine WCode.seq ?_
 refine WCode.region ?_
 refine WOps.p (G.move rfl) rfl ?_
 refine WOps.p (G.nilp rfl) rfl ?_
 refine WOps.p (G.field T.fld169_1 rfl (show 0 + 1 = 1 from rfl)) rfl ?_
 refine WOps.r (G.load1 T.one167 rfl (cell_blk ((S.fr p0 (lt_of_blk hB2) (hF0 p0 hf3).1).trans hB2) rfl)) rfl ?_
 refine WOps.p (G.len T.el167 rfl) rfl ?_
 refine WOps.p (G.assign rfl) rfl ?_
 refine WOps.nil ?_
 refine WEx.then_ ?_
 refine WCode.ret ?_
 obtain rfl := some_eq hF
 refine WEx.ret1 rfl rfl ?_
 exact ⟨rfl, St.keep (As := []) S⟩

def sk_Get (k : Nat) (a0 : ShK) (a1 : KeyS) : Option (Int × Bool) := (Option.bind (sk_place k a0 a1) fun t15 => (if 0 ≤ t15 then (Option.bind (idx a0.pairs t15) fun x21 => (some (x21.value, true))) else (some (0, false))))
set_option maxRecDepth 100000 in
set_option maxHeartbeats 1000000 in
theorem sk_Get_calls (k : Nat) (a0 : ShK) {p0 : Nat} {F0 : Nat → Prop} (a1 : KeyS) {w : World} (hP0 : PtR 169 ShK.rp w F0 p0 a0) (hF0 : ∀ b, F0 b → NK w [] b) {r_ : Int × Bool} (h_ : sk_Get k a0 a1 = some r_) :
    Calls Try.prog 92 [.pointer (some ⟨p0, 0, none⟩), .agg #[.string (bs a1.S), .int .i64 a1.N]].toArray w fun e w' => e = .returned (.tuple #[.int .i64 r_.1, .bool r_.2]) ∧ St w (KS []) w' [] := by
 have hF := h_
 clear h_
 unfold sk_Get at hF
 have S := St.ofFalse (As := []) (St.init0 w)
 have hPq5 := hP0
 obtain ⟨cs1, hB2, hf3, A6, c7, hq4, hR8⟩ := hPq5
 subst hq4
 change _ = some (Obj.cells #[.int .i64 a0.most, .slice A6 a0.pairs.length c7] 169 (0, 0)) at hB2
 refine enter 22 [(0, .pointer (some ⟨p0, 0, none⟩)), (1, .agg #[.string (bs a1.S), .int .i64 a1.N])] Try.func92 rfl rfl rfl rfl ?_
 refine WCode.seq ?_
 refine WCode.region ?_
 obtain ⟨b9, w10, E11, S12, X13, L14⟩ := St.box S Try.prog 103 (.agg #[.string (bs a1.S), .int .i64 a1.N])
 change St _ _ _ [[(b9, .cells #[.string (bs a1.S), .int .i64 a1.N] 103 (0, 0))]] at S12
 refine WOps.e (E11 rfl) rfl ?_
 refine WOps.p (G.assign rfl) rfl ?_
 refine WOps.p (G.assign rfl) rfl ?_
 refine WOps.nil ?_
 refine WEx.then_ ?_
 refine WCode.seq ?_
 refine WCode.seq ?_
 refine WCode.region ?_
 refine WOps.p (G.move rfl) rfl ?_
 refine WOps.r (G.loada T.agg103_2 rfl (cs := [.string (bs a1.S), .int .i64 a1.N]) (cellsAt.of_blk (S12.blk 0 rfl) rfl)) rfl ?_
 obtain ⟨t15, hc16, hF⟩ := bind_some hF
 refine WOps.call T.call114 (evs_cons rfl (evs_cons rfl evs_nil)) rfl ?_
 refine (sk_place_calls k a0 a1 (hP0.ext (S12.keepF hF0)) (St.outF (Bs := []) S12 hF0) hc16).mono ?_
 rintro _ w17 ⟨rfl, T18⟩
 have S19 := St.callN (As := []) S12 T18
 change St _ _ _ [[(b9, .cells #[.string (bs a1.S), .int .i64 a1.N] 103 (0, 0))]] at S19
 refine ⟨_, rfl, ?_⟩
 refine WOps.p (G.assign rfl) rfl ?_
 refine WOps.nil ?_
 refine WEx.then_ ?_
 refine WCode.seq ?_
 refine WCode.region ?_
 refine WOps.p (G.move rfl) rfl ?_
 refine WOps.p (G.geq rfl rfl rfl) rfl ?_
 refine WOps.nil ?_
 refine WEx.then_ ?_
 rcases ite_some hF with ⟨h20, hF⟩ | ⟨h20, hF⟩
 ·
  refine WCode.cond_t (kb (b := decide (0 ≤ t15)) rfl (decide_eq_true h20)) ?_
  refine WCode.seq ?_
  refine WCode.region ?_
  refine WOps.p (G.move rfl) rfl ?_
  refine WOps.p (G.nilp rfl) rfl ?_
  refine WOps.p (G.field T.fld169_1 rfl (show 0 + 1 = 1 from rfl)) rfl ?_
  refine WOps.r (G.load1 T.one167 rfl (cell_blk ((S19.fr p0 (lt_of_blk hB2) (hF0 p0 hf3).1).trans hB2) rfl)) rfl ?_
  refine WOps.p (G.move rfl) rfl ?_
  obtain ⟨x21, hc22, hF⟩ := bind_some hF
  obtain ⟨j23, ej24, hj25, hl26⟩ := idx_spec hc22
  obtain ⟨b27, o28, cs29, eA30, hf31, hc32, hr33⟩ := SlR.at_ (hR8.ext (S19.keepF hF0)) hj25
  have hq34 : cs29 = [.string (bs x21.key.S), .int .i64 x21.key.N, .int .i64 x21.value] := hr33
  subst hq34
  change cellsAt _ _ (o28 + j23 * 3) [.string (bs x21.key.S), .int .i64 x21.key.N, .int .i64 x21.value] at hc32
  refine WOps.p (G.idx T.el167 rfl eA30 rfl ej24 hl26) rfl ?_
  refine WOps.p (G.field T.fld203_1 rfl (show o28 + j23 * 3 + 2 = o28 + j23 * 3 + 2 from rfl)) rfl ?_
  refine WOps.r (G.load1 T.one3 rfl (cellsAt.at hc32 2 rfl)) rfl ?_
  refine WOps.p (G.assign rfl) rfl ?_
  refine WOps.p (G.assign rfl) rfl ?_
  refine WOps.nil ?_
  refine WEx.then_ ?_
  refine WCode.forget (l' := [(4, .int .i64 x21.value), (5, .bool true)]) ⟨rfl, rfl, trivial⟩ ?_
  refine WCode.ret ?_
  refine WEx.then_ret ?_
  obtain rfl := some_eq hF
  refine WEx.ret2 rfl rfl rfl ?_
  exact ⟨rfl, St.keep (As := []) S19⟩
 ·
  refine WCode.cond_f (kb (b := decide (0 ≤ t15)) rfl (decide_eq_false h20)) ?_
  refine WCode.skip ?_
  refine WEx.then_ ?_
  refine WCode.forget (l' := []) trivial ?_
  refine WCode.seq ?_
  refine WCode.region ?_
  refine WOps.p (G.assign rfl) rfl ?_
  refine WOps.nil ?_
  refine WEx.then_ ?_
  refine WCode.seq ?_
  refine WCode.region ?_
  refine WOps.p (G.move rfl) rfl ?_
  refine WOps.p (G.assign rfl) rfl ?_
  refine WOps.p (G.assign rfl) rfl ?_
  refine WOps.nil ?_
  refine WEx.then_ ?_
  refine WCode.ret ?_
  obtain rfl := some_eq hF
  refine WEx.ret2 rfl rfl rfl ?_
  exact ⟨rfl, St.keep (As := []) S19⟩

def sk_Put (k : Nat) (a0 : ShK) (a1 : KeyS) (a2 : Int) : Option (Int × ShK) := (Option.bind (sk_place k a0 a1) fun t19 => (if 0 ≤ t19 then (Option.bind (idx a0.pairs t19) fun x27 => (Option.bind (upd a0.pairs t19 (⟨x27.key, a2⟩ : Key__int_)) fun l41 => (some (0, (⟨a0.most, l41⟩ : ShK))))) else (if (a0.pairs.length : Int) = a0.most then (some (140, a0)) else (Option.bind (cat a0.pairs ([(⟨a1, a2⟩ : Key__int_)] : List Key__int_)) fun l67 => (some (0, (⟨a0.most, l67⟩ : ShK)))))))
set_option maxRecDepth 100000 in
set_option maxHeartbeats 1000000 in
theorem sk_Put_calls (k : Nat) (a0 : ShK) {p0 : Nat} {G0 : Grp} (a1 : KeyS) (a2 : Int) {w : World} (hO0 : ObjO 169 ShK.rp p0 a0 G0) {r_ : Int × ShK} (h_ : sk_Put k a0 a1 a2 = some r_) (hp_ : Hp w ([G0]).flatten) :
    Calls Try.prog 90 [.pointer (some ⟨p0, 0, none⟩), .agg #[.string (bs a1.S), .int .i64 a1.N], .int .i64 a2].toArray w fun e w' => ∃ Go0' : Grp, e = .returned (.int .i64 r_.1) ∧ ObjO 169 ShK.rp p0 (r_.2) Go0' ∧ St w (KS [G0]) w' [Go0'] := by
 have hF := h_
 clear h_
 unfold sk_Put at hF
 have S := St.initK [G0] hp_
 obtain ⟨cs3, G4, ho5, hg6⟩ := hO0
 obtain ⟨A7, c8, G9, rfl, hO10, hq11⟩ := ho5
 have S12 : St _ _ _ [[(p0, .cells #[.int .i64 a0.most, .slice A7 a0.pairs.length c8] 169 (0, 0))], G9] := S.objs (by rw [hg6, hq11]; simp)
 refine enter 43 [(0, .pointer (some ⟨p0, 0, none⟩)), (1, .agg #[.string (bs a1.S), .int .i64 a1.N]), (2, .int .i64 a2)] Try.func90 rfl rfl rfl rfl ?_
 refine WCode.seq ?_
 refine WCode.region ?_
 obtain ⟨b13, w14, E15, S16, X17, L18⟩ := St.box S12 Try.prog 103 (.agg #[.string (bs a1.S), .int .i64 a1.N])
 change St _ _ _ [[(b13, .cells #[.string (bs a1.S), .int .i64 a1.N] 103 (0, 0))], [(p0, .cells #[.int .i64 a0.most, .slice A7 a0.pairs.length c8] 169 (0, 0))], G9] at S16
 refine WOps.e (E15 rfl) rfl ?_
 refine WOps.p (G.assign rfl) rfl ?_
 refine WOps.nil ?_
 refine WEx.then_ ?_
 refine WCode.seq ?_
 refine WCode.seq ?_
 refine WCode.region ?_
 refine WOps.p (G.move rfl) rfl ?_
 refine WOps.r (G.loada T.agg103_2 rfl (cs := [.string (bs a1.S), .int .i64 a1.N]) (cellsAt.of_blk (S16.blk 0 rfl) rfl)) rfl ?_
 obtain ⟨t19, hc20, hF⟩ := bind_some hF
 have S21 := (S16.front 2 rfl).front 2 rfl
 change St _ _ _ [[(p0, .cells #[.int .i64 a0.most, .slice A7 a0.pairs.length c8] 169 (0, 0))], G9, [(b13, .cells #[.string (bs a1.S), .int .i64 a1.N] 103 (0, 0))]] at S21
 have hP22 : PtR 169 ShK.rp w14 (KS [[(p0, .cells #[.int .i64 a0.most, .slice A7 a0.pairs.length c8] 169 (0, 0))], G9]) p0 a0 := ⟨_, S21.blk 0 rfl, KS_at 0 rfl (by simp [keys]), ⟨A7, c8, rfl, ((hO10.rd (fun b o hb => S21.grp 1 rfl hb)).mono (fun b hb => KS_at 1 rfl hb))⟩⟩
 refine WOps.call T.call114 (evs_cons rfl (evs_cons rfl evs_nil)) rfl ?_
 refine (sk_place_calls k a0 a1 hP22 (St.outN (Bs := []) (As := [[(p0, .cells #[.int .i64 a0.most, .slice A7 a0.pairs.length c8] 169 (0, 0))], G9]) S21) hc20).mono ?_
 rintro _ w23 ⟨rfl, T24⟩
 have S25 := St.callN (As := []) S21 T24
 change St _ _ _ [[(p0, .cells #[.int .i64 a0.most, .slice A7 a0.pairs.length c8] 169 (0, 0))], G9, [(b13, .cells #[.string (bs a1.S), .int .i64 a1.N] 103 (0, 0))]] at S25
 refine ⟨_, rfl, ?_⟩
 refine WOps.p (G.assign rfl) rfl ?_
 refine WOps.nil ?_
 refine WEx.then_ ?_
 refine WCode.seq ?_
 refine WCode.region ?_
 refine WOps.p (G.move rfl) rfl ?_
 refine WOps.p (G.geq rfl rfl rfl) rfl ?_
 refine WOps.nil ?_
 refine WEx.then_ ?_
 rcases ite_some hF with ⟨h26, hF⟩ | ⟨h26, hF⟩
 ·
  refine WCode.cond_t (kb (b := decide (0 ≤ t19)) rfl (decide_eq_true h26)) ?_
  refine WCode.seq ?_
  refine WCode.region ?_
  refine WOps.p (G.move rfl) rfl ?_
  refine WOps.p (G.nilp rfl) rfl ?_
  refine WOps.p (G.field T.fld169_1 rfl (show 0 + 1 = 1 from rfl)) rfl ?_
  refine WOps.r (G.load1 T.one167 rfl (cell_blk (S25.blk 0 rfl) rfl)) rfl ?_
  refine WOps.p (G.move rfl) rfl ?_
  refine WOps.p (G.move rfl) rfl ?_
  obtain ⟨x27, hc28, hF⟩ := bind_some hF
  obtain ⟨j29, ej30, hj31, hl32⟩ := idx_spec hc28
  obtain ⟨b33, o34, cs35, eA36, hf37, hc38, hr39⟩ := SlR.at_ (hO10.rd (fun b o hb => S25.grp 1 rfl hb)) hj31
  have hq40 : cs35 = [.string (bs x27.key.S), .int .i64 x27.key.N, .int .i64 x27.value] := hr39
  subst hq40
  change cellsAt _ _ (o34 + j29 * 3) [.string (bs x27.key.S), .int .i64 x27.key.N, .int .i64 x27.value] at hc38
  refine WOps.p (G.idx T.el167 rfl eA36 rfl ej30 hl32) rfl ?_
  refine WOps.p (G.field T.fld203_1 rfl (show o34 + j29 * 3 + 2 = o34 + j29 * 3 + 2 from rfl)) rfl ?_
  obtain ⟨l41, hc42, hF⟩ := bind_some hF
  have e43 := upd_spec' hc42 ej30
  have S44 := S25.front 1 rfl
  change St _ _ _ [G9, [(p0, .cells #[.int .i64 a0.most, .slice A7 a0.pairs.length c8] 169 (0, 0))], [(b13, .cells #[.string (bs a1.S), .int .i64 a1.N] 103 (0, 0))]] at S44
  obtain ⟨w45, G46, E47, hO48, S49⟩ := St.storeF (P := Try.prog) (T := 3) S44 hO10 T.size3_1 hj31 eA36 (⟨x27.key, a2⟩ : Key__int_) (v := .int .i64 a2) [.string (bs x27.key.S), .int .i64 x27.key.N] [.int .i64 x27.value] [] rfl rfl rfl
  rw [← e43] at hO48
  have hl50 : (a0.pairs).length = l41.length := by rw [e43, List.length_set]
  try rw [hl50] at S49
  try rw [hl50]
  change St _ _ _ [G46, [(p0, .cells #[.int .i64 a0.most, .slice A7 l41.length c8] 169 (0, 0))], [(b13, .cells #[.string (bs a1.S), .int .i64 a1.N] 103 (0, 0))]] at S49
  refine WOps.u (E47 rfl rfl) ?_
  refine WOps.nil ?_
  refine WEx.then_ ?_
  refine WCode.forget (l' := []) trivial ?_
  refine WCode.seq ?_
  refine WCode.region ?_
  refine WOps.p (G.assign rfl) rfl ?_
  refine WOps.nil ?_
  refine WEx.then_ ?_
  refine WCode.ret ?_
  refine WEx.then_ret ?_
  obtain rfl := some_eq hF
  refine WEx.ret1 rfl rfl ?_
  have S51 := S49.front 1 rfl
  change St _ _ _ [[(p0, .cells #[.int .i64 a0.most, .slice A7 l41.length c8] 169 (0, 0))], G46, [(b13, .cells #[.string (bs a1.S), .int .i64 a1.N] 103 (0, 0))]] at S51
  have hO52 : ObjO 169 ShK.rp p0 (⟨a0.most, l41⟩ : ShK) ([(p0, .cells #[.int .i64 a0.most, .slice A7 l41.length c8] 169 (0, 0))] ++ (G46)) := ⟨_, _, ⟨A7, c8, G46, rfl, hO48, rfl⟩, rfl⟩
  have S53 : St _ _ _ [[(p0, .cells #[.int .i64 a0.most, .slice A7 l41.length c8] 169 (0, 0))] ++ (G46), [(b13, .cells #[.string (bs a1.S), .int .i64 a1.N] 103 (0, 0))]] := S51.objs (by simp)
  exact ⟨[(p0, .cells #[.int .i64 a0.most, .slice A7 l41.length c8] 169 (0, 0))] ++ (G46), rfl, hO52, St.keep (As := [[(p0, .cells #[.int .i64 a0.most, .slice A7 l41.length c8] 169 (0, 0))] ++ (G46)]) S53⟩
 ·
  refine WCode.cond_f (kb (b := decide (0 ≤ t19)) rfl (decide_eq_false h26)) ?_
  refine WCode.skip ?_
  refine WEx.then_ ?_
  refine WCode.seq ?_
  refine WCode.seq ?_
  refine WCode.draw [⟨0, 0, []⟩, ⟨1, 0, []⟩, ⟨2, 0, []⟩, ⟨5, 0, []⟩, ⟨6, 0, []⟩, ⟨7, 0, []⟩, ⟨3, 1, [4, 9]⟩, ⟨4, 0, []⟩, ⟨8, 1, [9]⟩, ⟨9, 0, []⟩] T.mixed (by kernel_rfl) (by intro _ _ d _ _ h; cases d <;> exact h) rfl (by kernel_rfl) ?_
  have S54 := S25.drew
  generalize w23.drew = w55 at *
  refine WD.p rfl (G.move rfl) rfl ?_
  refine WD.p rfl (G.nilp rfl) rfl ?_
  refine WD.p rfl (G.field T.fld169_1 rfl (show 0 + 1 = 1 from rfl)) rfl ?_
  refine WD.p rfl (G.move rfl) rfl ?_
  refine WD.p rfl (G.nilp rfl) rfl ?_
  refine WD.p rfl (G.field T.fld169_0 rfl (show 0 + 0 = 0 from rfl)) rfl ?_
  refine WD.r rfl (G.load1 T.one167 rfl (cell_blk (S54.blk 0 rfl) rfl)) rfl ?_
  refine WD.p rfl (G.len T.el167 rfl) rfl ?_
  refine WD.r rfl (G.load1 T.one3 rfl (cell_blk (S54.blk 0 rfl) rfl)) rfl ?_
  refine WD.p rfl (G.eql rfl rfl rfl) rfl ?_
  refine WD.nil ?_
  refine WEx.then_ ?_
  refine WCode.forget (l' := [(0, .pointer (some ⟨p0, 0, none⟩)), (2, .int .i64 a2), (4, .pointer (some ⟨b13, 0, none⟩)), (30, .bool (decide ((a0.pairs.length : Int) = a0.most)))]) ⟨rfl, rfl, rfl, rfl, trivial⟩ ?_
  rcases ite_some hF with ⟨h56, hF⟩ | ⟨h56, hF⟩
  ·
   refine WCode.cond_t (kb (b := decide ((a0.pairs.length : Int) = a0.most)) rfl (decide_eq_true h56)) ?_
   refine WCode.seq ?_
   refine WCode.region ?_
   refine WOps.p (G.assign rfl) rfl ?_
   refine WOps.nil ?_
   refine WEx.then_ ?_
   refine WCode.ret ?_
   refine WEx.then_ret ?_
   obtain rfl := some_eq hF
   refine WEx.ret1 rfl rfl ?_
   have hO57 : ObjO 169 ShK.rp p0 a0 ([(p0, .cells #[.int .i64 a0.most, .slice A7 a0.pairs.length c8] 169 (0, 0))] ++ (G9)) := ⟨_, _, ⟨A7, c8, G9, rfl, hO10, rfl⟩, rfl⟩
   have S58 : St _ _ _ [[(p0, .cells #[.int .i64 a0.most, .slice A7 a0.pairs.length c8] 169 (0, 0))] ++ (G9), [(b13, .cells #[.string (bs a1.S), .int .i64 a1.N] 103 (0, 0))]] := S54.objs (by simp)
   exact ⟨[(p0, .cells #[.int .i64 a0.most, .slice A7 a0.pairs.length c8] 169 (0, 0))] ++ (G9), rfl, hO57, St.keep (As := [[(p0, .cells #[.int .i64 a0.most, .slice A7 a0.pairs.length c8] 169 (0, 0))] ++ (G9)]) S58⟩
  ·
   refine WCode.cond_f (kb (b := decide ((a0.pairs.length : Int) = a0.most)) rfl (decide_eq_false h56)) ?_
   refine WCode.skip ?_
   refine WEx.then_ ?_
   refine WCode.seq ?_
   refine WCode.draw [⟨0, 0, []⟩, ⟨1, 0, []⟩, ⟨2, 0, []⟩, ⟨3, 0, []⟩, ⟨6, 0, []⟩, ⟨4, 1, [9, 10, 11, 12]⟩, ⟨5, 1, [7, 8, 9, 10, 11, 12]⟩, ⟨7, 0, []⟩, ⟨8, 2, []⟩, ⟨9, 2, []⟩, ⟨10, 0, []⟩, ⟨11, 0, []⟩, ⟨12, 2, []⟩] T.mixed (by kernel_rfl) (by intro _ _ d _ _ h; cases d <;> exact h) rfl (by kernel_rfl) ?_
   have S59 := S54.drew
   generalize w55.drew = w60 at *
   refine WD.p rfl (G.move rfl) rfl ?_
   refine WD.p rfl (G.move rfl) rfl ?_
   refine WD.p rfl (G.nilp rfl) rfl ?_
   refine WD.p rfl (G.field T.fld169_1 rfl (show 0 + 1 = 1 from rfl)) rfl ?_
   refine WD.p rfl (G.move rfl) rfl ?_
   refine WD.r rfl (G.load1 T.one167 rfl (cell_blk (S59.blk 0 rfl) rfl)) rfl ?_
   refine WD.r rfl (G.loada T.agg103_2 rfl (cs := [.string (bs a1.S), .int .i64 a1.N]) (cellsAt.of_blk (S59.blk 2 rfl) rfl)) rfl ?_
   refine WD.p rfl (G.build (cells := #[.string (bs a1.S), .int .i64 a1.N, .int .i64 a2]) (evp_spec (evp_cons rfl (evp_cons rfl evp_nil))) (by kernel_rfl)) rfl ?_
   obtain ⟨b61, w62, E63, S64, X65, L66⟩ := St.lit S59 (P := Try.prog) (t := 167) (e := 203) (n := 1) (vs := [(0, .agg #[.string (bs a1.S), .int .i64 a1.N, .int .i64 a2])]) (cs := #[.string (bs a1.S), .int .i64 a1.N, .int .i64 a2]) (by kernel_rfl)
   change St _ _ _ [[(b61, .cells #[.string (bs a1.S), .int .i64 a1.N, .int .i64 a2] 203 (0, 0))], [(p0, .cells #[.int .i64 a0.most, .slice A7 a0.pairs.length c8] 169 (0, 0))], G9, [(b13, .cells #[.string (bs a1.S), .int .i64 a1.N] 103 (0, 0))]] at S64
   refine WD.e rfl (E63 (evp_cons rfl evp_nil)) rfl ?_
   obtain ⟨l67, hc68, hF⟩ := bind_some hF
   have S69 := S64.front 2 rfl
   change St _ _ _ [G9, [(b61, .cells #[.string (bs a1.S), .int .i64 a1.N, .int .i64 a2] 203 (0, 0))], [(p0, .cells #[.int .i64 a0.most, .slice A7 a0.pairs.length c8] 169 (0, 0))], [(b13, .cells #[.string (bs a1.S), .int .i64 a1.N] 103 (0, 0))]] at S69
   obtain ⟨A70, c71, G72, w73, E74, hO75, S76, hk77⟩ := St.appP (P := Try.prog) (r := Key__int_.rp) (M := ([(⟨a1, a2⟩ : Key__int_)] : List Key__int_)) S69 T.elt167 rfl hO10 (Rd.of_blk (S69.blk 1 rfl) (n := 1) (sz := 3) rfl) ⟨_, _, [], [], rfl, rfl, ⟨rfl, rfl⟩, ⟨rfl, rfl⟩⟩ rfl hc68
   change St _ _ _ [G72, [(b61, .cells #[.string (bs a1.S), .int .i64 a1.N, .int .i64 a2] 203 (0, 0))], [(p0, .cells #[.int .i64 a0.most, .slice A7 a0.pairs.length c8] 169 (0, 0))], [(b13, .cells #[.string (bs a1.S), .int .i64 a1.N] 103 (0, 0))]] at S76
   refine WD.e rfl (E74 rfl rfl) rfl ?_
   refine WD.p rfl (G.nilp rfl) rfl ?_
   refine WD.p rfl (G.field T.fld169_1 rfl (show 0 + 1 = 1 from rfl)) rfl ?_
   obtain ⟨w78, E79, S80⟩ := St.store (P := Try.prog) S76 2 167 (.slice A70 l67.length c71) (off := 1) (cur' := #[.int .i64 a0.most, .slice A70 l67.length c71]) rfl T.size167_1 rfl rfl rfl
   change St _ _ _ [G72, [(b61, .cells #[.string (bs a1.S), .int .i64 a1.N, .int .i64 a2] 203 (0, 0))], [(p0, .cells #[.int .i64 a0.most, .slice A70 l67.length c71] 169 (0, 0))], [(b13, .cells #[.string (bs a1.S), .int .i64 a1.N] 103 (0, 0))]] at S80
   refine WD.u rfl (E79 rfl rfl) ?_
   refine WD.nil ?_
   refine WEx.then_ ?_
   refine WCode.forget (l' := []) trivial ?_
   refine WCode.seq ?_
   refine WCode.region ?_
   refine WOps.p (G.assign rfl) rfl ?_
   refine WOps.nil ?_
   refine WEx.then_ ?_
   refine WCode.ret ?_
   obtain rfl := some_eq hF
   refine WEx.ret1 rfl rfl ?_
   have S81 := S80.front 2 rfl
   change St _ _ _ [[(p0, .cells #[.int .i64 a0.most, .slice A70 l67.length c71] 169 (0, 0))], G72, [(b61, .cells #[.string (bs a1.S), .int .i64 a1.N, .int .i64 a2] 203 (0, 0))], [(b13, .cells #[.string (bs a1.S), .int .i64 a1.N] 103 (0, 0))]] at S81
   have hO82 : ObjO 169 ShK.rp p0 (⟨a0.most, l67⟩ : ShK) ([(p0, .cells #[.int .i64 a0.most, .slice A70 l67.length c71] 169 (0, 0))] ++ (G72)) := ⟨_, _, ⟨A70, c71, G72, rfl, hO75, rfl⟩, rfl⟩
   have S83 : St _ _ _ [[(p0, .cells #[.int .i64 a0.most, .slice A70 l67.length c71] 169 (0, 0))] ++ (G72), [(b61, .cells #[.string (bs a1.S), .int .i64 a1.N, .int .i64 a2] 203 (0, 0))], [(b13, .cells #[.string (bs a1.S), .int .i64 a1.N] 103 (0, 0))]] := S81.objs (by simp)
   exact ⟨[(p0, .cells #[.int .i64 a0.most, .slice A70 l67.length c71] 169 (0, 0))] ++ (G72), rfl, hO82, St.keep (As := [[(p0, .cells #[.int .i64 a0.most, .slice A70 l67.length c71] 169 (0, 0))] ++ (G72)]) S83⟩

def sk_Keys.l1 : Nat → ShK → List KeyS → Int → Option (List KeyS)
  | 0, _, _, _ => none
  | k26 + 1, a0, l20, x23 => (if x23 < (a0.pairs.length : Int) then (Option.bind (idx a0.pairs x23) fun x30 => (Option.bind (cat l20 ([x30.key] : List KeyS)) fun l60 => (sk_Keys.l1 k26 a0 l60 (w64 (x23 + 1))))) else (some l20))
def sk_Keys (k : Nat) (a0 : ShK) : Option (List KeyS) := (if 0 ≤ (a0.pairs.length : Int) then (if (a0.pairs.length : Int) ≤ 68719476736 then (sk_Keys.l1 k a0 ([] : List KeyS) 0) else none) else none)
set_option maxRecDepth 100000 in
set_option maxHeartbeats 1000000 in
theorem sk_Keys_calls (k : Nat) (a0 : ShK) {p0 : Nat} {F0 : Nat → Prop} {w : World} (hP0 : PtR 169 ShK.rp w F0 p0 a0) (hF0 : ∀ b, F0 b → NK w [] b) {r_ : (List KeyS)} (h_ : sk_Keys k a0 = some r_) :
    Calls Try.prog 96 [.pointer (some ⟨p0, 0, none⟩)].toArray w fun e w' => ∃ A0' : Option Addr, ∃ c0' : Nat, ∃ G0' : Grp, e = .returned (.slice A0' (r_).length c0') ∧ SlO 103 KeyS.rp (.slice A0' (r_).length c0') (r_) G0' ∧ St w (KS []) w' [G0'] := by
 have hF := h_
 clear h_
 unfold sk_Keys at hF
 have S := St.ofFalse (As := []) (St.init0 w)
 have hPq5 := hP0
 obtain ⟨cs1, hB2, hf3, A6, c7, hq4, hR8⟩ := hPq5
 subst hq4
 change _ = some (Obj.cells #[.int .i64 a0.most, .slice A6 a0.pairs.length c7] 169 (0, 0)) at hB2
 refine enter 28 [(0, .pointer (some ⟨p0, 0, none⟩))] Try.func96 rfl rfl rfl rfl ?_
 refine WCode.seq ?_
 refine WCode.region ?_
 refine WOps.p (G.assign rfl) rfl ?_
 refine WOps.nil ?_
 refine WEx.then_ ?_
 refine WCode.seq ?_
 refine WCode.region ?_
 refine WOps.p (G.move rfl) rfl ?_
 refine WOps.p (G.nilp rfl) rfl ?_
 refine WOps.p (G.field T.fld169_1 rfl (show 0 + 1 = 1 from rfl)) rfl ?_
 refine WOps.r (G.load1 T.one167 rfl (cell_blk ((S.fr p0 (lt_of_blk hB2) (hF0 p0 hf3).1).trans hB2) rfl)) rfl ?_
 refine WOps.p (G.len T.el167 rfl) rfl ?_
 obtain ⟨h9, hF⟩ := guard_some hF
 obtain ⟨h10, hF⟩ := guard_some hF
 obtain ⟨A11, G12, w13, E14, hO15, S16, X17⟩ := St.make0 (P := Try.prog) (r := KeyS.rp) S T.elt176 rfl h9 h10
 refine WOps.e (E14 rfl rfl) rfl ?_
 refine WOps.p (G.assign rfl) rfl ?_
 refine WOps.nil ?_
 refine WEx.then_ ?_
 refine WCode.seq ?_
 refine WCode.seq ?_
 refine WCode.region ?_
 refine WOps.p (G.move rfl) rfl ?_
 refine WOps.p (G.nilp rfl) rfl ?_
 refine WOps.p (G.field T.fld169_1 rfl (show 0 + 1 = 1 from rfl)) rfl ?_
 refine WOps.r (G.load1 T.one167 rfl (cell_blk ((S16.fr p0 (lt_of_blk hB2) (hF0 p0 hf3).1).trans hB2) rfl)) rfl ?_
 refine WOps.p (G.len T.el167 rfl) rfl ?_
 refine WOps.p (G.move rfl) rfl ?_
 refine WOps.nil ?_
 refine WEx.then_ ?_
 refine WCode.forget (l' := [(3, .slice A11 ([] : List KeyS).length (((a0.pairs.length : Int)).toNat)), (15, .slice A6 a0.pairs.length c7), (16, .int .i64 (a0.pairs.length : Int)), (17, .int .i64 0)]) ⟨rfl, rfl, rfl, rfl, trivial⟩ ?_
 refine WCode.block ?_
 refine WCode.forget (l' := [(3, .slice A11 ([] : List KeyS).length (((a0.pairs.length : Int)).toNat)), (15, .slice A6 a0.pairs.length c7), (16, .int .i64 (a0.pairs.length : Int)), (17, .int .i64 0)]) ⟨rfl, rfl, rfl, rfl, trivial⟩ ?_
 refine WCode.loop (fun n_ l_ w_ => ∃ A18 : Option Addr, ∃ c19 : Nat, ∃ l20 : List KeyS, ∃ G21 : Grp, ∃ x23 : Int, l_ = [(3, .slice A18 l20.length c19), (15, .slice A6 a0.pairs.length c7), (16, .int .i64 (a0.pairs.length : Int)), (17, .int .i64 x23)] ∧ sk_Keys.l1 n_ a0 l20 x23 = some r_ ∧ (SlO 103 KeyS.rp (.slice A18 l20.length c19) l20 G21) ∧ St w (KS []) w_ [G21]) k ⟨A11, ((a0.pairs.length : Int)).toNat, ([] : List KeyS), G12, 0, rfl, hF, hO15, S16⟩ ?_
 rintro n27 _ w24 ⟨A18, c19, l20, G21, x23, rfl, hF, hO22, S25⟩
 obtain _ | k26 := n27
 · exact nomatch (show (none : Option (List KeyS)) = some r_ from hF)
 rw [sk_Keys.l1] at hF
 refine WCode.seq ?_
 refine WCode.region ?_
 refine WOps.p (G.lss rfl rfl rfl) rfl ?_
 refine WOps.nil ?_
 refine WEx.then_ ?_
 refine WCode.seq ?_
 rcases ite_some hF with ⟨h29, hF⟩ | ⟨h29, hF⟩
 ·
  refine WCode.cond_t (kb (b := decide (x23 < (a0.pairs.length : Int))) rfl (decide_eq_true h29)) ?_
  refine WCode.skip ?_
  refine WEx.then_ ?_
  refine WCode.seq ?_
  refine WCode.block ?_
  refine WCode.seq ?_
  refine WCode.region ?_
  obtain ⟨x30, hc31, hF⟩ := bind_some hF
  obtain ⟨j32, ej33, hj34, hl35⟩ := idx_spec hc31
  obtain ⟨b36, o37, cs38, eA39, hf40, hc41, hr42⟩ := SlR.at_ (hR8.ext (S25.keepF hF0)) hj34
  have hq43 : cs38 = [.string (bs x30.key.S), .int .i64 x30.key.N, .int .i64 x30.value] := hr42
  subst hq43
  change cellsAt _ _ (o37 + j32 * 3) [.string (bs x30.key.S), .int .i64 x30.key.N, .int .i64 x30.value] at hc41
  refine WOps.p (G.idx T.el167 rfl eA39 rfl ej33 hl35) rfl ?_
  refine WOps.r (G.loada T.agg203_3 rfl (cs := [.string (bs x30.key.S), .int .i64 x30.key.N, .int .i64 x30.value]) hc41) rfl ?_
  obtain ⟨b44, w45, E46, S47, X48, L49⟩ := St.var S25 (z := .agg #[.string (bs ([] : List UInt8)), .int .i64 0, .int .i64 0]) T.zero203
  have c50 := hc41.ext X48
  change St _ _ _ [[(b44, .cells #[.string (bs ([] : List UInt8)), .int .i64 0, .int .i64 0] 203 (0, 0))], G21] at S47
  refine WOps.e E46 rfl ?_
  obtain ⟨w51, E52, S53⟩ := St.store (P := Try.prog) S47 0 203 (.agg #[.string (bs x30.key.S), .int .i64 x30.key.N, .int .i64 x30.value]) (off := 0) (cur' := #[.string (bs x30.key.S), .int .i64 x30.key.N, .int .i64 x30.value]) rfl T.size203_3 rfl rfl rfl
  change St _ _ _ [[(b44, .cells #[.string (bs x30.key.S), .int .i64 x30.key.N, .int .i64 x30.value] 203 (0, 0))], G21] at S53
  refine WOps.u (E52 rfl rfl) ?_
  refine WOps.nil ?_
  refine WEx.then_ ?_
  refine WCode.region ?_
  refine WOps.p (G.move rfl) rfl ?_
  refine WOps.p (G.field T.fld203_0 rfl (show 0 + 0 = 0 from rfl)) rfl ?_
  refine WOps.r (G.loada T.agg103_2 rfl (cs := [.string (bs x30.key.S), .int .i64 x30.key.N]) (cellsAt.of_blk (S53.blk 0 rfl) rfl)) rfl ?_
  obtain ⟨b54, w55, E56, S57, X58, L59⟩ := St.lit S53 (P := Try.prog) (t := 176) (e := 103) (n := 1) (vs := [(0, .agg #[.string (bs x30.key.S), .int .i64 x30.key.N])]) (cs := #[.string (bs x30.key.S), .int .i64 x30.key.N]) (by kernel_rfl)
  change St _ _ _ [[(b54, .cells #[.string (bs x30.key.S), .int .i64 x30.key.N] 103 (0, 0))], [(b44, .cells #[.string (bs x30.key.S), .int .i64 x30.key.N, .int .i64 x30.value] 203 (0, 0))], G21] at S57
  refine WOps.e (E56 (evp_cons rfl evp_nil)) rfl ?_
  obtain ⟨l60, hc61, hF⟩ := bind_some hF
  have S62 := S57.front 2 rfl
  change St _ _ _ [G21, [(b54, .cells #[.string (bs x30.key.S), .int .i64 x30.key.N] 103 (0, 0))], [(b44, .cells #[.string (bs x30.key.S), .int .i64 x30.key.N, .int .i64 x30.value] 203 (0, 0))]] at S62
  obtain ⟨A63, c64, G65, w66, E67, hO68, S69, hk70⟩ := St.appP (P := Try.prog) (r := KeyS.rp) (M := ([x30.key] : List KeyS)) S62 T.elt176 rfl hO22 (Rd.of_blk (S62.blk 1 rfl) (n := 1) (sz := 2) rfl) ⟨_, _, [], [], rfl, rfl, ⟨rfl, rfl⟩, ⟨rfl, rfl⟩⟩ rfl hc61
  change St _ _ _ [G65, [(b54, .cells #[.string (bs x30.key.S), .int .i64 x30.key.N] 103 (0, 0))], [(b44, .cells #[.string (bs x30.key.S), .int .i64 x30.key.N, .int .i64 x30.value] 203 (0, 0))]] at S69
  refine WOps.e (E67 rfl rfl) rfl ?_
  refine WOps.p (G.assign rfl) rfl ?_
  refine WOps.nil ?_
  refine WEx.in_normal ?_
  refine WEx.then_ ?_
  refine WCode.region ?_
  refine WOps.p (G.add rfl rfl (r := (w64 (x23 + 1))) rfl) rfl ?_
  refine WOps.p (G.move rfl) rfl ?_
  refine WOps.nil ?_
  have S71 := St.keep (As := [G65]) S69
  refine WEx.again _ _ (by omega) ?_ ⟨A63, c64, l60, G65, w64 (x23 + 1), rfl, hF, hO68, S71⟩
  exact ⟨rfl, rfl, rfl, rfl, trivial⟩
 ·
  refine WCode.cond_f (kb (b := decide (x23 < (a0.pairs.length : Int))) rfl (decide_eq_false h29)) ?_
  refine WCode.exit ?_
  refine WEx.then_exit ?_
  refine WEx.then_exit ?_
  refine WEx.in_exit ?_
  refine WEx.then_ ?_
  refine WCode.seq ?_
  refine WCode.region ?_
  refine WOps.p (G.move rfl) rfl ?_
  refine WOps.p (G.assign rfl) rfl ?_
  refine WOps.nil ?_
  refine WEx.then_ ?_
  refine WCode.ret ?_
  obtain rfl := some_eq hF
  refine WEx.ret1 rfl rfl ?_
  exact ⟨A18, c19, G21, rfl, hO22, St.keep (As := [G21]) S25⟩

def sk_del (k : Nat) (a0 : List Key__int_) (a1 : Int) (a2 : Int) : Option (List Key__int_) := (Option.bind (cut a0 a1 a2) fun m3 => (if a1 = a2 then (some a0) else (Option.bind (cut a0 0 a1) fun m8 => (Option.bind (cut a0 a2 (a0.length : Int)) fun m11 => (Option.bind (cat m8 m11) fun l14 => (if a1 ≤ a2 then (if (l14.length : Int) ≤ (a0.length : Int) then (some l14) else none) else none))))))
set_option maxRecDepth 100000 in
set_option maxHeartbeats 1000000 in
theorem sk_del_calls (k : Nat) (a0 : List Key__int_) {A0 : Option Addr} {c0 : Nat} {G0 : Grp} (a1 : Int) (a2 : Int) {w : World} (hO0 : SlO 203 Key__int_.rp (.slice A0 a0.length c0) a0 G0) {r_ : (List Key__int_)} (h_ : sk_del k a0 a1 a2 = some r_) (hp_ : Hp w ([G0]).flatten) :
    Calls Try.prog 116 [.slice A0 a0.length c0, .int .i64 a1, .int .i64 a2].toArray w fun e w' => ∃ A0' : Option Addr, ∃ c0' : Nat, ∃ G0' : Grp, e = .returned (.slice A0' (r_).length c0') ∧ SlO 203 Key__int_.rp (.slice A0' (r_).length c0') (r_) G0' ∧ St w (KS [G0]) w' [G0'] := by
 have hF := h_
 clear h_
 unfold sk_del at hF
 have S := St.initK [G0] hp_
 refine enter 33 [(0, .slice A0 a0.length c0), (1, .int .i64 a1), (2, .int .i64 a2)] Try.func116 rfl rfl rfl rfl ?_
 refine WCode.seq ?_
 refine WCode.region ?_
 refine WOps.p (G.assign rfl) rfl ?_
 refine WOps.nil ?_
 refine WEx.then_ ?_
 refine WCode.seq ?_
 refine WCode.region ?_
 refine WOps.p (G.move rfl) rfl ?_
 refine WOps.p (G.move rfl) rfl ?_
 refine WOps.p (G.move rfl) rfl ?_
 refine WOps.p (G.move rfl) rfl ?_
 refine WOps.p (G.len T.el167 rfl) rfl ?_
 obtain ⟨m3, hc4, hF⟩ := bind_some hF
 refine WOps.p (G.cut_lhm T.el167 rfl rfl rfl rfl hc4 (hO0.rd (fun b o hb => S.grp 0 rfl hb)).cap) rfl ?_
 refine WOps.nil ?_
 refine WEx.then_ ?_
 refine WCode.seq ?_
 refine WCode.seq ?_
 refine WCode.region ?_
 refine WOps.p (G.move rfl) rfl ?_
 refine WOps.p (G.move rfl) rfl ?_
 refine WOps.p (G.eql rfl rfl rfl) rfl ?_
 refine WOps.nil ?_
 refine WEx.then_ ?_
 rcases ite_some hF with ⟨h5, hF⟩ | ⟨h5, hF⟩
 ·
  refine WCode.cond_t (kb (b := decide (a1 = a2)) rfl (decide_eq_true h5)) ?_
  refine WCode.seq ?_
  refine WCode.region ?_
  refine WOps.p (G.move rfl) rfl ?_
  refine WOps.p (G.assign rfl) rfl ?_
  refine WOps.nil ?_
  refine WEx.then_ ?_
  refine WCode.forget (l' := [(6, .slice A0 a0.length c0)]) ⟨rfl, trivial⟩ ?_
  refine WCode.ret ?_
  refine WEx.then_ret ?_
  obtain rfl := some_eq hF
  refine WEx.ret1 rfl rfl ?_
  exact ⟨A0, c0, G0, rfl, hO0, St.keep (As := [G0]) S⟩
 ·
  refine WCode.cond_f (kb (b := decide (a1 = a2)) rfl (decide_eq_false h5)) ?_
  refine WCode.skip ?_
  refine WEx.then_ ?_
  refine WCode.forget (l' := [(0, .slice A0 a0.length c0), (1, .int .i64 a1), (2, .int .i64 a2)]) ⟨rfl, rfl, rfl, trivial⟩ ?_
  refine WCode.seq ?_
  refine WCode.region ?_
  refine WOps.p (G.move rfl) rfl ?_
  refine WOps.p (G.len T.el167 rfl) rfl ?_
  refine WOps.p (G.assign rfl) rfl ?_
  refine WOps.nil ?_
  refine WEx.then_ ?_
  refine WCode.seq ?_
  refine WCode.draw [⟨0, 0, []⟩, ⟨1, 0, []⟩, ⟨2, 0, []⟩, ⟨3, 0, []⟩, ⟨4, 0, []⟩, ⟨5, 0, []⟩, ⟨6, 2, []⟩, ⟨7, 0, []⟩] T.mixed (by kernel_rfl) (by intro _ _ d _ _ h; cases d <;> exact h) rfl (by kernel_rfl) ?_
  have S6 := S.drew
  generalize w.drew = w7 at *
  refine WD.p rfl (G.move rfl) rfl ?_
  refine WD.p rfl (G.move rfl) rfl ?_
  obtain ⟨m8, hc9, hF⟩ := bind_some hF
  have hv10 := (SlO.toV (u := w) hO0 (S6.nd 0 rfl)).cut_h hc9
  refine WD.p rfl (G.cut_h T.el167 rfl rfl hc9 (hO0.rd (fun b o hb => S6.grp 0 rfl hb)).cap) rfl ?_
  refine WD.p rfl (G.move rfl) rfl ?_
  refine WD.p rfl (G.move rfl) rfl ?_
  obtain ⟨m11, hc12, hF⟩ := bind_some hF
  have hv13 := (SlO.toV (u := w) hO0 (S6.nd 0 rfl)).cut_lh hc12
  refine WD.p rfl (G.cut_l T.el167 rfl rfl hc12) rfl ?_
  obtain ⟨l14, hc15, hF⟩ := bind_some hF
  obtain ⟨h16, hF⟩ := guard_some hF
  have hw17 : a0.length ≤ c0 := (hO0.rd (fun b o hb => S6.grp 0 rfl hb)).cap
  obtain ⟨G18, w19, E20, hO21, S22⟩ := St.delApp (P := Try.prog) S6 T.elt167 hO0 hc9 hc12 h16
  have el23 := (cat_spec hc15).2
  rw [← el23] at hO21
  change St _ _ _ [G18] at S22
  refine WD.e rfl (el23 ▸ E20 rfl rfl) rfl ?_
  refine WD.p rfl (G.assign rfl) rfl ?_
  refine WD.nil ?_
  refine WEx.then_ ?_
  refine WCode.forget (l' := [(0, .slice A0 l14.length c0), (7, .int .i64 (a0.length : Int))]) ⟨rfl, rfl, trivial⟩ ?_
  refine WCode.seq ?_
  refine WCode.region ?_
  refine WOps.p (G.move rfl) rfl ?_
  refine WOps.p (G.move rfl) rfl ?_
  refine WOps.p (G.len T.el167 rfl) rfl ?_
  refine WOps.p (G.move rfl) rfl ?_
  obtain ⟨h24, hF⟩ := guard_some hF
  have hj25 : (a0.length : Int) ≤ (c0 : Int) := by have := hw17; omega
  refine WOps.p (G.tail T.el167 rfl rfl rfl h24 hj25) rfl ?_
  obtain ⟨G26, w27, E28, hO29, S30⟩ := St.clearTail (P := Try.prog) (n := ((a0.length : Int) - l14.length).toNat) S22 T.elt167 (by kernel_rfl) hO21 (by omega)
  change St _ _ _ [G26] at S30
  refine WOps.val0 (E28 rfl) ?_
  refine WOps.nil ?_
  refine WEx.then_ ?_
  refine WCode.seq ?_
  refine WCode.region ?_
  refine WOps.p (G.move rfl) rfl ?_
  refine WOps.p (G.assign rfl) rfl ?_
  refine WOps.nil ?_
  refine WEx.then_ ?_
  refine WCode.ret ?_
  obtain rfl := some_eq hF
  refine WEx.ret1 rfl rfl ?_
  exact ⟨A0, c0, G26, rfl, hO29, St.keep (As := [G26]) S30⟩

def sk_Drop (k : Nat) (a0 : ShK) (a1 : KeyS) : Option (Int × ShK) := (Option.bind (sk_place k a0 a1) fun t17 => (if t17 < 0 then (some (141, a0)) else (Option.bind (sk_del k a0.pairs t17 (w64 (t17 + 1))) fun t27 => (some (0, (⟨a0.most, (t27)⟩ : ShK))))))
set_option maxRecDepth 100000 in
set_option maxHeartbeats 1000000 in
theorem sk_Drop_calls (k : Nat) (a0 : ShK) {p0 : Nat} {G0 : Grp} (a1 : KeyS) {w : World} (hO0 : ObjO 169 ShK.rp p0 a0 G0) {r_ : Int × ShK} (h_ : sk_Drop k a0 a1 = some r_) (hp_ : Hp w ([G0]).flatten) :
    Calls Try.prog 94 [.pointer (some ⟨p0, 0, none⟩), .agg #[.string (bs a1.S), .int .i64 a1.N]].toArray w fun e w' => ∃ Go0' : Grp, e = .returned (.int .i64 r_.1) ∧ ObjO 169 ShK.rp p0 (r_.2) Go0' ∧ St w (KS [G0]) w' [Go0'] := by
 have hF := h_
 clear h_
 unfold sk_Drop at hF
 have S := St.initK [G0] hp_
 obtain ⟨cs1, G2, ho3, hg4⟩ := hO0
 obtain ⟨A5, c6, G7, rfl, hO8, hq9⟩ := ho3
 have S10 : St _ _ _ [[(p0, .cells #[.int .i64 a0.most, .slice A5 a0.pairs.length c6] 169 (0, 0))], G7] := S.objs (by rw [hg4, hq9]; simp)
 refine enter 22 [(0, .pointer (some ⟨p0, 0, none⟩)), (1, .agg #[.string (bs a1.S), .int .i64 a1.N])] Try.func94 rfl rfl rfl rfl ?_
 refine WCode.seq ?_
 refine WCode.region ?_
 obtain ⟨b11, w12, E13, S14, X15, L16⟩ := St.box S10 Try.prog 103 (.agg #[.string (bs a1.S), .int .i64 a1.N])
 change St _ _ _ [[(b11, .cells #[.string (bs a1.S), .int .i64 a1.N] 103 (0, 0))], [(p0, .cells #[.int .i64 a0.most, .slice A5 a0.pairs.length c6] 169 (0, 0))], G7] at S14
 refine WOps.e (E13 rfl) rfl ?_
 refine WOps.p (G.assign rfl) rfl ?_
 refine WOps.nil ?_
 refine WEx.then_ ?_
 refine WCode.seq ?_
 refine WCode.region ?_
 refine WOps.p (G.move rfl) rfl ?_
 refine WOps.r (G.loada T.agg103_2 rfl (cs := [.string (bs a1.S), .int .i64 a1.N]) (cellsAt.of_blk (S14.blk 0 rfl) rfl)) rfl ?_
 obtain ⟨t17, hc18, hF⟩ := bind_some hF
 have S19 := (S14.front 2 rfl).front 2 rfl
 change St _ _ _ [[(p0, .cells #[.int .i64 a0.most, .slice A5 a0.pairs.length c6] 169 (0, 0))], G7, [(b11, .cells #[.string (bs a1.S), .int .i64 a1.N] 103 (0, 0))]] at S19
 have hP20 : PtR 169 ShK.rp w12 (KS [[(p0, .cells #[.int .i64 a0.most, .slice A5 a0.pairs.length c6] 169 (0, 0))], G7]) p0 a0 := ⟨_, S19.blk 0 rfl, KS_at 0 rfl (by simp [keys]), ⟨A5, c6, rfl, ((hO8.rd (fun b o hb => S19.grp 1 rfl hb)).mono (fun b hb => KS_at 1 rfl hb))⟩⟩
 refine WOps.call T.call114 (evs_cons rfl (evs_cons rfl evs_nil)) rfl ?_
 refine (sk_place_calls k a0 a1 hP20 (St.outN (Bs := []) (As := [[(p0, .cells #[.int .i64 a0.most, .slice A5 a0.pairs.length c6] 169 (0, 0))], G7]) S19) hc18).mono ?_
 rintro _ w21 ⟨rfl, T22⟩
 have S23 := St.callN (As := []) S19 T22
 change St _ _ _ [[(p0, .cells #[.int .i64 a0.most, .slice A5 a0.pairs.length c6] 169 (0, 0))], G7, [(b11, .cells #[.string (bs a1.S), .int .i64 a1.N] 103 (0, 0))]] at S23
 refine ⟨_, rfl, ?_⟩
 refine WOps.p (G.assign rfl) rfl ?_
 refine WOps.nil ?_
 refine WEx.then_ ?_
 refine WCode.seq ?_
 refine WCode.seq ?_
 refine WCode.region ?_
 refine WOps.p (G.move rfl) rfl ?_
 refine WOps.p (G.lss rfl rfl rfl) rfl ?_
 refine WOps.nil ?_
 refine WEx.then_ ?_
 rcases ite_some hF with ⟨h24, hF⟩ | ⟨h24, hF⟩
 ·
  refine WCode.cond_t (kb (b := decide (t17 < 0)) rfl (decide_eq_true h24)) ?_
  refine WCode.seq ?_
  refine WCode.region ?_
  refine WOps.p (G.assign rfl) rfl ?_
  refine WOps.nil ?_
  refine WEx.then_ ?_
  refine WCode.ret ?_
  refine WEx.then_ret ?_
  obtain rfl := some_eq hF
  refine WEx.ret1 rfl rfl ?_
  have hO25 : ObjO 169 ShK.rp p0 a0 ([(p0, .cells #[.int .i64 a0.most, .slice A5 a0.pairs.length c6] 169 (0, 0))] ++ (G7)) := ⟨_, _, ⟨A5, c6, G7, rfl, hO8, rfl⟩, rfl⟩
  have S26 : St _ _ _ [[(p0, .cells #[.int .i64 a0.most, .slice A5 a0.pairs.length c6] 169 (0, 0))] ++ (G7), [(b11, .cells #[.string (bs a1.S), .int .i64 a1.N] 103 (0, 0))]] := S23.objs (by simp)
  exact ⟨[(p0, .cells #[.int .i64 a0.most, .slice A5 a0.pairs.length c6] 169 (0, 0))] ++ (G7), rfl, hO25, St.keep (As := [[(p0, .cells #[.int .i64 a0.most, .slice A5 a0.pairs.length c6] 169 (0, 0))] ++ (G7)]) S26⟩
 ·
  refine WCode.cond_f (kb (b := decide (t17 < 0)) rfl (decide_eq_false h24)) ?_
  refine WCode.skip ?_
  refine WEx.then_ ?_
  refine WCode.seq ?_
  refine WCode.region ?_
  refine WOps.p (G.move rfl) rfl ?_
  refine WOps.p (G.move rfl) rfl ?_
  refine WOps.p (G.nilp rfl) rfl ?_
  refine WOps.p (G.field T.fld169_1 rfl (show 0 + 1 = 1 from rfl)) rfl ?_
  refine WOps.r (G.load1 T.one167 rfl (cell_blk (S23.blk 0 rfl) rfl)) rfl ?_
  refine WOps.p (G.move rfl) rfl ?_
  refine WOps.p (G.move rfl) rfl ?_
  refine WOps.p (G.add rfl rfl (r := (w64 (t17 + 1))) rfl) rfl ?_
  obtain ⟨t27, hc28, hF⟩ := bind_some hF
  have S29 := S23.front 1 rfl
  change St _ _ _ [G7, [(p0, .cells #[.int .i64 a0.most, .slice A5 a0.pairs.length c6] 169 (0, 0))], [(b11, .cells #[.string (bs a1.S), .int .i64 a1.N] 103 (0, 0))]] at S29
  refine WOps.call T.call116 (evs_cons rfl (evs_cons rfl (evs_cons rfl evs_nil))) rfl ?_
  refine (sk_del_calls k a0.pairs t17 (w64 (t17 + 1)) hO8 hc28 (St.hpN (As := [G7]) S29)).mono ?_
  rintro _ w30 ⟨A33, c34, G35, rfl, hO36, T31⟩
  have S32 := St.callN (As := [G7]) S29 T31
  change St _ _ _ [G35, [(p0, .cells #[.int .i64 a0.most, .slice A5 a0.pairs.length c6] 169 (0, 0))], [(b11, .cells #[.string (bs a1.S), .int .i64 a1.N] 103 (0, 0))]] at S32
  refine ⟨_, rfl, ?_⟩
  refine WOps.p (G.nilp rfl) rfl ?_
  refine WOps.p (G.field T.fld169_1 rfl (show 0 + 1 = 1 from rfl)) rfl ?_
  obtain ⟨w37, E38, S39⟩ := St.store (P := Try.prog) S32 1 167 (.slice A33 (t27).length c34) (off := 1) (cur' := #[.int .i64 a0.most, .slice A33 (t27).length c34]) rfl T.size167_1 rfl rfl rfl
  change St _ _ _ [G35, [(p0, .cells #[.int .i64 a0.most, .slice A33 (t27).length c34] 169 (0, 0))], [(b11, .cells #[.string (bs a1.S), .int .i64 a1.N] 103 (0, 0))]] at S39
  refine WOps.u (E38 rfl rfl) ?_
  refine WOps.nil ?_
  refine WEx.then_ ?_
  refine WCode.forget (l' := []) trivial ?_
  refine WCode.seq ?_
  refine WCode.region ?_
  refine WOps.p (G.assign rfl) rfl ?_
  refine WOps.nil ?_
  refine WEx.then_ ?_
  refine WCode.ret ?_
  obtain rfl := some_eq hF
  refine WEx.ret1 rfl rfl ?_
  have S40 := S39.front 1 rfl
  change St _ _ _ [[(p0, .cells #[.int .i64 a0.most, .slice A33 (t27).length c34] 169 (0, 0))], G35, [(b11, .cells #[.string (bs a1.S), .int .i64 a1.N] 103 (0, 0))]] at S40
  have hO41 : ObjO 169 ShK.rp p0 (⟨a0.most, (t27)⟩ : ShK) ([(p0, .cells #[.int .i64 a0.most, .slice A33 (t27).length c34] 169 (0, 0))] ++ (G35)) := ⟨_, _, ⟨A33, c34, G35, rfl, hO36, rfl⟩, rfl⟩
  have S42 : St _ _ _ [[(p0, .cells #[.int .i64 a0.most, .slice A33 (t27).length c34] 169 (0, 0))] ++ (G35), [(b11, .cells #[.string (bs a1.S), .int .i64 a1.N] 103 (0, 0))]] := S40.objs (by simp)
  exact ⟨[(p0, .cells #[.int .i64 a0.most, .slice A33 (t27).length c34] 169 (0, 0))] ++ (G35), rfl, hO41, St.keep (As := [[(p0, .cells #[.int .i64 a0.most, .slice A33 (t27).length c34] 169 (0, 0))] ++ (G35)]) S42⟩

def sk_Clone (k : Nat) (a0 : List Key__int_) : Option (List Key__int_) := (Option.bind (cat ([] : List Key__int_) a0) fun l11 => (some l11))
set_option maxRecDepth 100000 in
set_option maxHeartbeats 1000000 in
theorem sk_Clone_calls (k : Nat) (a0 : List Key__int_) {A0 : Option Addr} {c0 : Nat} {F0 : Nat → Prop} {w : World} (hR0 : SlR Key__int_.rp w F0 A0 c0 a0) (hF0 : ∀ b, F0 b → NK w [] b) {r_ : (List Key__int_)} (h_ : sk_Clone k a0 = some r_) :
    Calls Try.prog 129 [.slice A0 a0.length c0].toArray w fun e w' => ∃ A0' : Option Addr, ∃ c0' : Nat, ∃ G0' : Grp, e = .returned (.slice A0' (r_).length c0') ∧ SlO 203 Key__int_.rp (.slice A0' (r_).length c0') (r_) G0' ∧ St w (KS []) w' [G0'] := by
 have hF := h_
 clear h_
 unfold sk_Clone at hF
 have S := St.ofFalse (As := []) (St.init0 w)
 refine enter 8 [(0, .slice A0 a0.length c0)] Try.func129 rfl rfl rfl rfl ?_
 refine WCode.seq ?_
 refine WCode.region ?_
 refine WOps.p (G.assign rfl) rfl ?_
 refine WOps.nil ?_
 refine WEx.then_ ?_
 refine WCode.seq ?_
 refine WCode.seq ?_
 refine WCode.region ?_
 refine WOps.p (G.move rfl) rfl ?_
 by_cases hA1 : A0 = none
 ·
  have hL2 := SlR.none_nil (hR0.ext (S.keepF hF0)) hA1
  have hF : (some []) = some r_ := by simpa [catN, hL2] using hF
  refine WOps.p (G.eq_nil Try.underlying167 rfl rfl (decide_eq_true hA1)) rfl ?_
  refine WOps.nil ?_
  refine WEx.then_ ?_
  refine WCode.cond_t rfl ?_
  refine WCode.seq ?_
  refine WCode.region ?_
  refine WOps.p (G.assign rfl) rfl ?_
  refine WOps.nil ?_
  refine WEx.then_ ?_
  refine WCode.ret ?_
  refine WEx.then_ret ?_
  obtain rfl := some_eq hF
  refine WEx.ret1 rfl rfl ?_
  have S3 := S.emp
  exact ⟨none, 0, ([] : Grp), rfl, (SlO.nil 203 Key__int_.rp), St.keep (As := [([] : Grp)]) S3⟩
 ·
  refine WOps.p (G.eq_nil Try.underlying167 rfl rfl (decide_eq_false hA1)) rfl ?_
  refine WOps.nil ?_
  refine WEx.then_ ?_
  refine WCode.cond_f rfl ?_
  refine WCode.skip ?_
  refine WEx.then_ ?_
  refine WCode.seq ?_
  refine WCode.region ?_
  obtain ⟨b5, w6, E7, S8, X9, L10⟩ := St.lit S (P := Try.prog) (t := 167) (e := 203) (n := 0) (vs := []) (cs := #[]) (by kernel_rfl)
  change St _ _ _ [[(b5, .cells #[] 203 (0, 0))]] at S8
  refine WOps.e (E7 evp_nil) rfl ?_
  refine WOps.p (G.move rfl) rfl ?_
  obtain ⟨l11, hc12, hF⟩ := bind_some hF
  have S13 := S8.emp
  obtain ⟨xs22, he23, hd24⟩ := SlR.Rd (hR0.ext (S13.keepF hF0))
  obtain ⟨A14, c15, G16, w17, E18, hO19, S20, hk21⟩ := St.appP (P := Try.prog) (r := Key__int_.rp) (M := a0) S13 T.elt167 rfl (SlO.zero 203 Key__int_.rp (some ⟨b5, 0, none⟩)) hd24 (elems.flat plain_flat he23) rfl hc12
  change St _ _ _ [G16, [(b5, .cells #[] 203 (0, 0))]] at S20
  refine WOps.e (E18 rfl rfl) rfl ?_
  refine WOps.p (G.assign rfl) rfl ?_
  refine WOps.nil ?_
  refine WEx.then_ ?_
  refine WCode.ret ?_
  obtain rfl := some_eq hF
  refine WEx.ret1 rfl rfl ?_
  exact ⟨A14, c15, G16, rfl, hO19, St.keep (As := [G16]) S20⟩

def rk_New (k : Nat) (a0 : Int) : Option ((Option ShR) × Int) := (if a0 < 0 then (some (none, 1)) else (if 1048576 < a0 then (some (none, 1)) else (some (some (⟨a0, []⟩ : ShR), 0))))
set_option maxRecDepth 100000 in
set_option maxHeartbeats 1000000 in
theorem rk_New_calls (k : Nat) (a0 : Int) {w : World} {r_ : (Option ShR) × Int} (h_ : rk_New k a0 = some r_) :
    Calls Try.prog 53 [.int .i64 a0].toArray w fun e w' => ∃ v0' : Value, ∃ G0' : Grp, e = .returned (.tuple #[v0', .int .i64 r_.2]) ∧ OptO 172 ShR.rp v0' (r_.1) G0' ∧ St w (KS []) w' [G0'] := by
 have hF := h_
 clear h_
 unfold rk_New at hF
 have S := St.ofFalse (As := []) (St.init0 w)
 refine enter 13 [(0, .int .i64 a0)] Try.func53 rfl rfl rfl rfl ?_
 refine WCode.seq ?_
 refine WCode.region ?_
 refine WOps.p (G.assign rfl) rfl ?_
 refine WOps.p (G.assign rfl) rfl ?_
 refine WOps.nil ?_
 refine WEx.then_ ?_
 refine WCode.seq ?_
 refine WCode.seq ?_
 refine WCode.region ?_
 refine WOps.p (G.move rfl) rfl ?_
 refine WOps.p (G.lss rfl rfl rfl) rfl ?_
 refine WOps.p (G.move rfl) rfl ?_
 rcases ite_some hF with ⟨h1, hF⟩ | ⟨h1, hF⟩
 ·
  refine WOps.off rfl (kbl (b := decide (a0 < 0)) rfl (decide_eq_true h1)) rfl rfl ?_
  refine WOps.off rfl (kbl (b := decide (a0 < 0)) rfl (decide_eq_true h1)) rfl rfl ?_
  refine WOps.p (G.pick_t (kb (b := decide (a0 < 0)) rfl (decide_eq_true h1)) rfl) rfl ?_
  refine WOps.nil ?_
  refine WEx.then_ ?_
  refine WCode.cond_t rfl ?_
  refine WCode.seq ?_
  refine WCode.region ?_
  refine WOps.p (G.assign rfl) rfl ?_
  refine WOps.p (G.assign rfl) rfl ?_
  refine WOps.nil ?_
  refine WEx.then_ ?_
  refine WCode.ret ?_
  refine WEx.then_ret ?_
  obtain rfl := some_eq hF
  refine WEx.ret2 rfl rfl rfl ?_
  have S2 := S.emp
  exact ⟨.pointer none, ([] : Grp), rfl, ⟨rfl, rfl⟩, St.keep (As := [([] : Grp)]) S2⟩
 ·
  refine WOps.on rfl (kbl (b := decide (a0 < 0)) rfl (decide_eq_false h1)) ?_
  refine WOps.p (G.move rfl) rfl ?_
  refine WOps.on rfl (kbl (b := decide (a0 < 0)) rfl (decide_eq_false h1)) ?_
  refine WOps.p (G.gtr rfl rfl rfl) rfl ?_
  refine WOps.p (G.pick_f (kb (b := decide (a0 < 0)) rfl (decide_eq_false h1)) rfl) rfl ?_
  refine WOps.nil ?_
  refine WEx.then_ ?_
  rcases ite_some hF with ⟨h3, hF⟩ | ⟨h3, hF⟩
  ·
   refine WCode.cond_t (kb (b := decide (1048576 < a0)) rfl (decide_eq_true h3)) ?_
   refine WCode.seq ?_
   refine WCode.region ?_
   refine WOps.p (G.assign rfl) rfl ?_
   refine WOps.p (G.assign rfl) rfl ?_
   refine WOps.nil ?_
   refine WEx.then_ ?_
   refine WCode.ret ?_
   refine WEx.then_ret ?_
   obtain rfl := some_eq hF
   refine WEx.ret2 rfl rfl rfl ?_
   have S4 := S.emp
   exact ⟨.pointer none, ([] : Grp), rfl, ⟨rfl, rfl⟩, St.keep (As := [([] : Grp)]) S4⟩
  ·
   refine WCode.cond_f (kb (b := decide (1048576 < a0)) rfl (decide_eq_false h3)) ?_
   refine WCode.skip ?_
   refine WEx.then_ ?_
   refine WCode.seq ?_
   refine WCode.region ?_
   refine WOps.p (G.move rfl) rfl ?_
   refine WOps.p (G.build (cells := #[.int .i64 a0, .slice none 0 0]) (evp_spec (evp_cons rfl evp_nil)) (by kernel_rfl)) rfl ?_
   obtain ⟨b5, w6, E7, S8, X9, L10⟩ := St.box S Try.prog 172 (.agg #[.int .i64 a0, .slice none 0 0])
   change St _ _ _ [[(b5, .cells #[.int .i64 a0, .slice none 0 0] 172 (0, 0))]] at S8
   refine WOps.e (E7 rfl) rfl ?_
   refine WOps.p (G.assign rfl) rfl ?_
   refine WOps.p (G.assign rfl) rfl ?_
   refine WOps.nil ?_
   refine WEx.then_ ?_
   refine WCode.forget (l' := [(2, .pointer (some ⟨b5, 0, none⟩)), (3, .int .i64 0)]) ⟨rfl, rfl, trivial⟩ ?_
   refine WCode.ret ?_
   obtain rfl := some_eq hF
   refine WEx.ret2 rfl rfl rfl ?_
   have S11 := S8.emp
   have S13 := S11.front 1 rfl
   change St _ _ _ [[(b5, .cells #[.int .i64 a0, .slice none 0 0] 172 (0, 0))], ([] : Grp)] at S13
   have hO14 : ObjO 172 ShR.rp b5 (⟨a0, []⟩ : ShR) ([(b5, .cells #[.int .i64 a0, .slice none 0 0] 172 (0, 0))] ++ (([] : Grp))) := ⟨_, _, ⟨none, 0, ([] : Grp), rfl, (SlO.nil 205 Pair.rp), rfl⟩, rfl⟩
   have S15 : St _ _ _ [[(b5, .cells #[.int .i64 a0, .slice none 0 0] 172 (0, 0))] ++ (([] : Grp))] := S13.objs (by simp)
   exact ⟨(.pointer (some ⟨b5, 0, none⟩)), [(b5, .cells #[.int .i64 a0, .slice none 0 0] 172 (0, 0))] ++ (([] : Grp)), rfl, ⟨_, rfl, hO14⟩, St.keep (As := [[(b5, .cells #[.int .i64 a0, .slice none 0 0] 172 (0, 0))] ++ (([] : Grp))]) S15⟩

def rk_find.l1 : Nat → ShR → KeyS → Int → Option Int
  | 0, _, _, _ => none
  | k18 + 1, a0, a1, x15 => (if x15 < (a0.L.length : Int) then (Option.bind (idx a0.L x15) fun x24 => (if x24.K = a1 then (some x15) else (rk_find.l1 k18 a0 a1 (w64 (x15 + 1))))) else (some (-1)))
def rk_find (k : Nat) (a0 : ShR) (a1 : KeyS) : Option Int := (rk_find.l1 k a0 a1 0)
set_option maxRecDepth 100000 in
set_option maxHeartbeats 1000000 in
theorem rk_find_calls (k : Nat) (a0 : ShR) {p0 : Nat} {F0 : Nat → Prop} (a1 : KeyS) {w : World} (hP0 : PtR 172 ShR.rp w F0 p0 a0) (hF0 : ∀ b, F0 b → NK w [] b) {r_ : Int} (h_ : rk_find k a0 a1 = some r_) :
    Calls Try.prog 115 [.pointer (some ⟨p0, 0, none⟩), .agg #[.string (bs a1.S), .int .i64 a1.N]].toArray w fun e w' => e = .returned (.int .i64 r_) ∧ St w (KS []) w' [] := by
 have hF := h_
 clear h_
 unfold rk_find at hF
 have S := St.ofFalse (As := []) (St.init0 w)
 have hPq5 := hP0
 obtain ⟨cs1, hB2, hf3, A6, c7, hq4, hR8⟩ := hPq5
 subst hq4
 change _ = some (Obj.cells #[.int .i64 a0.Most, .slice A6 a0.L.length c7] 172 (0, 0)) at hB2
 refine enter 26 [(0, .pointer (some ⟨p0, 0, none⟩)), (1, .agg #[.string (bs a1.S), .int .i64 a1.N])] Try.func115 rfl rfl rfl rfl ?_
 refine WCode.seq ?_
 refine WCode.region ?_
 obtain ⟨b9, w10, E11, S12, X13, L14⟩ := St.box S Try.prog 103 (.agg #[.string (bs a1.S), .int .i64 a1.N])
 change St _ _ _ [[(b9, .cells #[.string (bs a1.S), .int .i64 a1.N] 103 (0, 0))]] at S12
 refine WOps.e (E11 rfl) rfl ?_
 refine WOps.p (G.assign rfl) rfl ?_
 refine WOps.nil ?_
 refine WEx.then_ ?_
 refine WCode.seq ?_
 refine WCode.seq ?_
 refine WCode.region ?_
 refine WOps.p (G.assign rfl) rfl ?_
 refine WOps.nil ?_
 refine WEx.then_ ?_
 refine WCode.block ?_
 refine WCode.forget (l' := [(0, .pointer (some ⟨p0, 0, none⟩)), (3, .pointer (some ⟨b9, 0, none⟩)), (5, .int .i64 0)]) ⟨rfl, rfl, rfl, trivial⟩ ?_
 refine WCode.loop (fun n_ l_ w_ => ∃ x15 : Int, l_ = [(0, .pointer (some ⟨p0, 0, none⟩)), (3, .pointer (some ⟨b9, 0, none⟩)), (5, .int .i64 x15)] ∧ rk_find.l1 n_ a0 a1 x15 = some r_ ∧ St w (KS []) w_ [[(b9, .cells #[.string (bs a1.S), .int .i64 a1.N] 103 (0, 0))]]) k ⟨0, rfl, hF, S12⟩ ?_
 rintro n19 _ w16 ⟨x15, rfl, hF, S17⟩
 obtain _ | k18 := n19
 · exact nomatch (show (none : Option Int) = some r_ from hF)
 rw [rk_find.l1] at hF
 refine WCode.seq ?_
 refine WCode.seq ?_
 refine WCode.region ?_
 refine WOps.p (G.move rfl) rfl ?_
 refine WOps.p (G.move rfl) rfl ?_
 refine WOps.p (G.nilp rfl) rfl ?_
 refine WOps.p (G.field T.fld172_1 rfl (show 0 + 1 = 1 from rfl)) rfl ?_
 refine WOps.r (G.load1 T.one170 rfl (cell_blk ((S17.fr p0 (lt_of_blk hB2) (hF0 p0 hf3).1).trans hB2) rfl)) rfl ?_
 refine WOps.p (G.len T.el170 rfl) rfl ?_
 refine WOps.p (G.lss rfl rfl rfl) rfl ?_
 refine WOps.nil ?_
 refine WEx.then_ ?_
 rcases ite_some hF with ⟨h21, hF⟩ | ⟨h21, hF⟩
 ·
  refine WCode.cond_t (kb (b := decide (x15 < (a0.L.length : Int))) rfl (decide_eq_true h21)) ?_
  refine WCode.skip ?_
  refine WEx.then_ ?_
  refine WCode.seq ?_
  refine WCode.block ?_
  refine WCode.seq ?_
  refine WCode.draw [⟨0, 0, []⟩, ⟨1, 0, []⟩, ⟨2, 0, []⟩, ⟨4, 0, []⟩, ⟨3, 1, [5, 6, 7, 9]⟩, ⟨5, 0, []⟩, ⟨6, 0, []⟩, ⟨7, 1, [9]⟩, ⟨8, 1, [9]⟩, ⟨9, 0, []⟩] T.mixed (by kernel_rfl) (by intro _ _ d _ _ h; cases d <;> exact h) rfl (by kernel_rfl) ?_
  have S22 := S17.drew
  generalize w16.drew = w23 at *
  refine WD.p rfl (G.move rfl) rfl ?_
  refine WD.p rfl (G.nilp rfl) rfl ?_
  refine WD.p rfl (G.field T.fld172_1 rfl (show 0 + 1 = 1 from rfl)) rfl ?_
  refine WD.p rfl (G.move rfl) rfl ?_
  refine WD.r rfl (G.load1 T.one170 rfl (cell_blk ((S22.fr p0 (lt_of_blk hB2) (hF0 p0 hf3).1).trans hB2) rfl)) rfl ?_
  obtain ⟨x24, hc25, hF⟩ := bind_some hF
  obtain ⟨j26, ej27, hj28, hl29⟩ := idx_spec hc25
  obtain ⟨b30, o31, cs32, eA33, hf34, hc35, hr36⟩ := SlR.at_ (hR8.ext (S22.keepF hF0)) hj28
  have hq37 : cs32 = [.string (bs x24.K.S), .int .i64 x24.K.N, .int .i64 x24.V] := hr36
  subst hq37
  change cellsAt _ _ (o31 + j26 * 3) [.string (bs x24.K.S), .int .i64 x24.K.N, .int .i64 x24.V] at hc35
  refine WD.p rfl (G.idx T.el170 rfl eA33 rfl ej27 hl29) rfl ?_
  refine WD.p rfl (G.field T.fld205_0 rfl (show o31 + j26 * 3 + 0 = o31 + j26 * 3 + 0 from rfl)) rfl ?_
  refine WD.r rfl (G.loada T.agg103_2 rfl (cs := [.string (bs x24.K.S), .int .i64 x24.K.N]) (cellsAt.part hc35 0 rfl)) rfl ?_
  refine WD.r rfl (G.loada T.agg103_2 rfl (cs := [.string (bs a1.S), .int .i64 a1.N]) (cellsAt.of_blk (S22.blk 0 rfl) rfl)) rfl ?_
  refine WD.p rfl (G.eqa rfl rfl (by kernel_rfl) (KeyS.eqIn103 x24.K a1) rfl) rfl ?_
  refine WD.nil ?_
  refine WEx.then_ ?_
  refine WCode.forget (l' := [(0, .pointer (some ⟨p0, 0, none⟩)), (3, .pointer (some ⟨b9, 0, none⟩)), (5, .int .i64 x15), (24, .bool (decide (x24.K = a1)))]) ⟨rfl, rfl, rfl, rfl, trivial⟩ ?_
  rcases ite_some hF with ⟨h38, hF⟩ | ⟨h38, hF⟩
  ·
   refine WCode.cond_t (kb (b := decide (x24.K = a1)) rfl (decide_eq_true h38)) ?_
   refine WCode.seq ?_
   refine WCode.region ?_
   refine WOps.p (G.move rfl) rfl ?_
   refine WOps.p (G.assign rfl) rfl ?_
   refine WOps.nil ?_
   refine WEx.then_ ?_
   refine WCode.ret ?_
   refine WEx.in_ret ?_
   refine WEx.then_ret ?_
   refine WEx.then_ret ?_
   refine WEx.in_ret ?_
   refine WEx.then_ret ?_
   obtain rfl := some_eq hF
   refine WEx.ret1 rfl rfl ?_
   exact ⟨rfl, St.keep (As := []) S22⟩
  ·
   refine WCode.cond_f (kb (b := decide (x24.K = a1)) rfl (decide_eq_false h38)) ?_
   refine WCode.skip ?_
   refine WEx.in_normal ?_
   refine WEx.then_ ?_
   refine WCode.region ?_
   refine WOps.p (G.move rfl) rfl ?_
   refine WOps.p (G.add rfl rfl (r := (w64 (x15 + 1))) rfl) rfl ?_
   refine WOps.p (G.assign rfl) rfl ?_
   refine WOps.nil ?_
   refine WEx.again _ _ (by omega) ?_ ⟨w64 (x15 + 1), rfl, hF, S22⟩
   exact ⟨rfl, rfl, rfl, trivial⟩
 ·
  refine WCode.cond_f (kb (b := decide (x15 < (a0.L.length : Int))) rfl (decide_eq_false h21)) ?_
  refine WCode.exit ?_
  refine WEx.then_exit ?_
  refine WEx.then_exit ?_
  refine WEx.in_exit ?_
  refine WEx.then_ ?_
  refine WCode.forget (l' := []) trivial ?_
  refine WCode.seq ?_
  refine WCode.region ?_
  refine WOps.p (G.assign rfl) rfl ?_
  refine WOps.nil ?_
  refine WEx.then_ ?_
  refine WCode.ret ?_
  obtain rfl := some_eq hF
  refine WEx.ret1 rfl rfl ?_
  exact ⟨rfl, St.keep (As := []) S17⟩

def rk_Put (k : Nat) (a0 : ShR) (a1 : KeyS) (a2 : Int) : Option (Int × ShR) := (Option.bind (rk_find k a0 a1) fun t19 => (if 0 ≤ t19 then (Option.bind (idx a0.L t19) fun x27 => (Option.bind (upd a0.L t19 (⟨x27.K, a2⟩ : Pair)) fun l41 => (some (0, (⟨a0.Most, l41⟩ : ShR))))) else (if a0.Most ≤ (a0.L.length : Int) then (some (140, a0)) else (Option.bind (cat a0.L ([(⟨a1, a2⟩ : Pair)] : List Pair)) fun l67 => (some (0, (⟨a0.Most, l67⟩ : ShR)))))))
set_option maxRecDepth 100000 in
set_option maxHeartbeats 1000000 in
theorem rk_Put_calls (k : Nat) (a0 : ShR) {p0 : Nat} {G0 : Grp} (a1 : KeyS) (a2 : Int) {w : World} (hO0 : ObjO 172 ShR.rp p0 a0 G0) {r_ : Int × ShR} (h_ : rk_Put k a0 a1 a2 = some r_) (hp_ : Hp w ([G0]).flatten) :
    Calls Try.prog 91 [.pointer (some ⟨p0, 0, none⟩), .agg #[.string (bs a1.S), .int .i64 a1.N], .int .i64 a2].toArray w fun e w' => ∃ Go0' : Grp, e = .returned (.int .i64 r_.1) ∧ ObjO 172 ShR.rp p0 (r_.2) Go0' ∧ St w (KS [G0]) w' [Go0'] := by
 have hF := h_
 clear h_
 unfold rk_Put at hF
 have S := St.initK [G0] hp_
 obtain ⟨cs3, G4, ho5, hg6⟩ := hO0
 obtain ⟨A7, c8, G9, rfl, hO10, hq11⟩ := ho5
 have S12 : St _ _ _ [[(p0, .cells #[.int .i64 a0.Most, .slice A7 a0.L.length c8] 172 (0, 0))], G9] := S.objs (by rw [hg6, hq11]; simp)
 refine enter 43 [(0, .pointer (some ⟨p0, 0, none⟩)), (1, .agg #[.string (bs a1.S), .int .i64 a1.N]), (2, .int .i64 a2)] Try.func91 rfl rfl rfl rfl ?_
 refine WCode.seq ?_
 refine WCode.region ?_
 obtain ⟨b13, w14, E15, S16, X17, L18⟩ := St.box S12 Try.prog 103 (.agg #[.string (bs a1.S), .int .i64 a1.N])
 change St _ _ _ [[(b13, .cells #[.string (bs a1.S), .int .i64 a1.N] 103 (0, 0))], [(p0, .cells #[.int .i64 a0.Most, .slice A7 a0.L.length c8] 172 (0, 0))], G9] at S16
 refine WOps.e (E15 rfl) rfl ?_
 refine WOps.p (G.assign rfl) rfl ?_
 refine WOps.nil ?_
 refine WEx.then_ ?_
 refine WCode.seq ?_
 refine WCode.region ?_
 refine WOps.p (G.move rfl) rfl ?_
 refine WOps.r (G.loada T.agg103_2 rfl (cs := [.string (bs a1.S), .int .i64 a1.N]) (cellsAt.of_blk (S16.blk 0 rfl) rfl)) rfl ?_
 obtain ⟨t19, hc20, hF⟩ := bind_some hF
 have S21 := (S16.front 2 rfl).front 2 rfl
 change St _ _ _ [[(p0, .cells #[.int .i64 a0.Most, .slice A7 a0.L.length c8] 172 (0, 0))], G9, [(b13, .cells #[.string (bs a1.S), .int .i64 a1.N] 103 (0, 0))]] at S21
 have hP22 : PtR 172 ShR.rp w14 (KS [[(p0, .cells #[.int .i64 a0.Most, .slice A7 a0.L.length c8] 172 (0, 0))], G9]) p0 a0 := ⟨_, S21.blk 0 rfl, KS_at 0 rfl (by simp [keys]), ⟨A7, c8, rfl, ((hO10.rd (fun b o hb => S21.grp 1 rfl hb)).mono (fun b hb => KS_at 1 rfl hb))⟩⟩
 refine WOps.call T.call115 (evs_cons rfl (evs_cons rfl evs_nil)) rfl ?_
 refine (rk_find_calls k a0 a1 hP22 (St.outN (Bs := []) (As := [[(p0, .cells #[.int .i64 a0.Most, .slice A7 a0.L.length c8] 172 (0, 0))], G9]) S21) hc20).mono ?_
 rintro _ w23 ⟨rfl, T24⟩
 have S25 := St.callN (As := []) S21 T24
 change St _ _ _ [[(p0, .cells #[.int .i64 a0.Most, .slice A7 a0.L.length c8] 172 (0, 0))], G9, [(b13, .cells #[.string (bs a1.S), .int .i64 a1.N] 103 (0, 0))]] at S25
 refine ⟨_, rfl, ?_⟩
 refine WOps.p (G.assign rfl) rfl ?_
 refine WOps.nil ?_
 refine WEx.then_ ?_
 refine WCode.seq ?_
 refine WCode.seq ?_
 refine WCode.region ?_
 refine WOps.p (G.move rfl) rfl ?_
 refine WOps.p (G.geq rfl rfl rfl) rfl ?_
 refine WOps.nil ?_
 refine WEx.then_ ?_
 rcases ite_some hF with ⟨h26, hF⟩ | ⟨h26, hF⟩
 ·
  refine WCode.cond_t (kb (b := decide (0 ≤ t19)) rfl (decide_eq_true h26)) ?_
  refine WCode.seq ?_
  refine WCode.region ?_
  refine WOps.p (G.move rfl) rfl ?_
  refine WOps.p (G.nilp rfl) rfl ?_
  refine WOps.p (G.field T.fld172_1 rfl (show 0 + 1 = 1 from rfl)) rfl ?_
  refine WOps.r (G.load1 T.one170 rfl (cell_blk (S25.blk 0 rfl) rfl)) rfl ?_
  refine WOps.p (G.move rfl) rfl ?_
  refine WOps.p (G.move rfl) rfl ?_
  obtain ⟨x27, hc28, hF⟩ := bind_some hF
  obtain ⟨j29, ej30, hj31, hl32⟩ := idx_spec hc28
  obtain ⟨b33, o34, cs35, eA36, hf37, hc38, hr39⟩ := SlR.at_ (hO10.rd (fun b o hb => S25.grp 1 rfl hb)) hj31
  have hq40 : cs35 = [.string (bs x27.K.S), .int .i64 x27.K.N, .int .i64 x27.V] := hr39
  subst hq40
  change cellsAt _ _ (o34 + j29 * 3) [.string (bs x27.K.S), .int .i64 x27.K.N, .int .i64 x27.V] at hc38
  refine WOps.p (G.idx T.el170 rfl eA36 rfl ej30 hl32) rfl ?_
  refine WOps.p (G.field T.fld205_1 rfl (show o34 + j29 * 3 + 2 = o34 + j29 * 3 + 2 from rfl)) rfl ?_
  obtain ⟨l41, hc42, hF⟩ := bind_some hF
  have e43 := upd_spec' hc42 ej30
  have S44 := S25.front 1 rfl
  change St _ _ _ [G9, [(p0, .cells #[.int .i64 a0.Most, .slice A7 a0.L.length c8] 172 (0, 0))], [(b13, .cells #[.string (bs a1.S), .int .i64 a1.N] 103 (0, 0))]] at S44
  obtain ⟨w45, G46, E47, hO48, S49⟩ := St.storeF (P := Try.prog) (T := 3) S44 hO10 T.size3_1 hj31 eA36 (⟨x27.K, a2⟩ : Pair) (v := .int .i64 a2) [.string (bs x27.K.S), .int .i64 x27.K.N] [.int .i64 x27.V] [] rfl rfl rfl
  rw [← e43] at hO48
  have hl50 : (a0.L).length = l41.length := by rw [e43, List.length_set]
  try rw [hl50] at S49
  try rw [hl50]
  change St _ _ _ [G46, [(p0, .cells #[.int .i64 a0.Most, .slice A7 l41.length c8] 172 (0, 0))], [(b13, .cells #[.string (bs a1.S), .int .i64 a1.N] 103 (0, 0))]] at S49
  refine WOps.u (E47 rfl rfl) ?_
  refine WOps.nil ?_
  refine WEx.then_ ?_
  refine WCode.forget (l' := []) trivial ?_
  refine WCode.seq ?_
  refine WCode.region ?_
  refine WOps.p (G.assign rfl) rfl ?_
  refine WOps.nil ?_
  refine WEx.then_ ?_
  refine WCode.ret ?_
  refine WEx.then_ret ?_
  obtain rfl := some_eq hF
  refine WEx.ret1 rfl rfl ?_
  have S51 := S49.front 1 rfl
  change St _ _ _ [[(p0, .cells #[.int .i64 a0.Most, .slice A7 l41.length c8] 172 (0, 0))], G46, [(b13, .cells #[.string (bs a1.S), .int .i64 a1.N] 103 (0, 0))]] at S51
  have hO52 : ObjO 172 ShR.rp p0 (⟨a0.Most, l41⟩ : ShR) ([(p0, .cells #[.int .i64 a0.Most, .slice A7 l41.length c8] 172 (0, 0))] ++ (G46)) := ⟨_, _, ⟨A7, c8, G46, rfl, hO48, rfl⟩, rfl⟩
  have S53 : St _ _ _ [[(p0, .cells #[.int .i64 a0.Most, .slice A7 l41.length c8] 172 (0, 0))] ++ (G46), [(b13, .cells #[.string (bs a1.S), .int .i64 a1.N] 103 (0, 0))]] := S51.objs (by simp)
  exact ⟨[(p0, .cells #[.int .i64 a0.Most, .slice A7 l41.length c8] 172 (0, 0))] ++ (G46), rfl, hO52, St.keep (As := [[(p0, .cells #[.int .i64 a0.Most, .slice A7 l41.length c8] 172 (0, 0))] ++ (G46)]) S53⟩
 ·
  refine WCode.cond_f (kb (b := decide (0 ≤ t19)) rfl (decide_eq_false h26)) ?_
  refine WCode.skip ?_
  refine WEx.then_ ?_
  refine WCode.seq ?_
  refine WCode.seq ?_
  refine WCode.draw [⟨0, 0, []⟩, ⟨1, 0, []⟩, ⟨2, 0, []⟩, ⟨5, 0, []⟩, ⟨6, 0, []⟩, ⟨7, 0, []⟩, ⟨3, 1, [4, 9]⟩, ⟨4, 0, []⟩, ⟨8, 1, [9]⟩, ⟨9, 0, []⟩] T.mixed (by kernel_rfl) (by intro _ _ d _ _ h; cases d <;> exact h) rfl (by kernel_rfl) ?_
  have S54 := S25.drew
  generalize w23.drew = w55 at *
  refine WD.p rfl (G.move rfl) rfl ?_
  refine WD.p rfl (G.nilp rfl) rfl ?_
  refine WD.p rfl (G.field T.fld172_1 rfl (show 0 + 1 = 1 from rfl)) rfl ?_
  refine WD.p rfl (G.move rfl) rfl ?_
  refine WD.p rfl (G.nilp rfl) rfl ?_
  refine WD.p rfl (G.field T.fld172_0 rfl (show 0 + 0 = 0 from rfl)) rfl ?_
  refine WD.r rfl (G.load1 T.one170 rfl (cell_blk (S54.blk 0 rfl) rfl)) rfl ?_
  refine WD.p rfl (G.len T.el170 rfl) rfl ?_
  refine WD.r rfl (G.load1 T.one3 rfl (cell_blk (S54.blk 0 rfl) rfl)) rfl ?_
  refine WD.p rfl (G.geq rfl rfl rfl) rfl ?_
  refine WD.nil ?_
  refine WEx.then_ ?_
  refine WCode.forget (l' := [(0, .pointer (some ⟨p0, 0, none⟩)), (2, .int .i64 a2), (4, .pointer (some ⟨b13, 0, none⟩)), (30, .bool (decide (a0.Most ≤ (a0.L.length : Int))))]) ⟨rfl, rfl, rfl, rfl, trivial⟩ ?_
  rcases ite_some hF with ⟨h56, hF⟩ | ⟨h56, hF⟩
  ·
   refine WCode.cond_t (kb (b := decide (a0.Most ≤ (a0.L.length : Int))) rfl (decide_eq_true h56)) ?_
   refine WCode.seq ?_
   refine WCode.region ?_
   refine WOps.p (G.assign rfl) rfl ?_
   refine WOps.nil ?_
   refine WEx.then_ ?_
   refine WCode.ret ?_
   refine WEx.then_ret ?_
   obtain rfl := some_eq hF
   refine WEx.ret1 rfl rfl ?_
   have hO57 : ObjO 172 ShR.rp p0 a0 ([(p0, .cells #[.int .i64 a0.Most, .slice A7 a0.L.length c8] 172 (0, 0))] ++ (G9)) := ⟨_, _, ⟨A7, c8, G9, rfl, hO10, rfl⟩, rfl⟩
   have S58 : St _ _ _ [[(p0, .cells #[.int .i64 a0.Most, .slice A7 a0.L.length c8] 172 (0, 0))] ++ (G9), [(b13, .cells #[.string (bs a1.S), .int .i64 a1.N] 103 (0, 0))]] := S54.objs (by simp)
   exact ⟨[(p0, .cells #[.int .i64 a0.Most, .slice A7 a0.L.length c8] 172 (0, 0))] ++ (G9), rfl, hO57, St.keep (As := [[(p0, .cells #[.int .i64 a0.Most, .slice A7 a0.L.length c8] 172 (0, 0))] ++ (G9)]) S58⟩
  ·
   refine WCode.cond_f (kb (b := decide (a0.Most ≤ (a0.L.length : Int))) rfl (decide_eq_false h56)) ?_
   refine WCode.skip ?_
   refine WEx.then_ ?_
   refine WCode.seq ?_
   refine WCode.draw [⟨0, 0, []⟩, ⟨1, 0, []⟩, ⟨2, 0, []⟩, ⟨3, 0, []⟩, ⟨6, 0, []⟩, ⟨4, 1, [9, 10, 11, 12]⟩, ⟨5, 1, [7, 8, 9, 10, 11, 12]⟩, ⟨7, 0, []⟩, ⟨8, 2, []⟩, ⟨9, 2, []⟩, ⟨10, 0, []⟩, ⟨11, 0, []⟩, ⟨12, 2, []⟩] T.mixed (by kernel_rfl) (by intro _ _ d _ _ h; cases d <;> exact h) rfl (by kernel_rfl) ?_
   have S59 := S54.drew
   generalize w55.drew = w60 at *
   refine WD.p rfl (G.move rfl) rfl ?_
   refine WD.p rfl (G.move rfl) rfl ?_
   refine WD.p rfl (G.nilp rfl) rfl ?_
   refine WD.p rfl (G.field T.fld172_1 rfl (show 0 + 1 = 1 from rfl)) rfl ?_
   refine WD.p rfl (G.move rfl) rfl ?_
   refine WD.r rfl (G.load1 T.one170 rfl (cell_blk (S59.blk 0 rfl) rfl)) rfl ?_
   refine WD.r rfl (G.loada T.agg103_2 rfl (cs := [.string (bs a1.S), .int .i64 a1.N]) (cellsAt.of_blk (S59.blk 2 rfl) rfl)) rfl ?_
   refine WD.p rfl (G.build (cells := #[.string (bs a1.S), .int .i64 a1.N, .int .i64 a2]) (evp_spec (evp_cons rfl (evp_cons rfl evp_nil))) (by kernel_rfl)) rfl ?_
   obtain ⟨b61, w62, E63, S64, X65, L66⟩ := St.lit S59 (P := Try.prog) (t := 170) (e := 205) (n := 1) (vs := [(0, .agg #[.string (bs a1.S), .int .i64 a1.N, .int .i64 a2])]) (cs := #[.string (bs a1.S), .int .i64 a1.N, .int .i64 a2]) (by kernel_rfl)
   change St _ _ _ [[(b61, .cells #[.string (bs a1.S), .int .i64 a1.N, .int .i64 a2] 205 (0, 0))], [(p0, .cells #[.int .i64 a0.Most, .slice A7 a0.L.length c8] 172 (0, 0))], G9, [(b13, .cells #[.string (bs a1.S), .int .i64 a1.N] 103 (0, 0))]] at S64
   refine WD.e rfl (E63 (evp_cons rfl evp_nil)) rfl ?_
   obtain ⟨l67, hc68, hF⟩ := bind_some hF
   have S69 := S64.front 2 rfl
   change St _ _ _ [G9, [(b61, .cells #[.string (bs a1.S), .int .i64 a1.N, .int .i64 a2] 205 (0, 0))], [(p0, .cells #[.int .i64 a0.Most, .slice A7 a0.L.length c8] 172 (0, 0))], [(b13, .cells #[.string (bs a1.S), .int .i64 a1.N] 103 (0, 0))]] at S69
   obtain ⟨A70, c71, G72, w73, E74, hO75, S76, hk77⟩ := St.appP (P := Try.prog) (r := Pair.rp) (M := ([(⟨a1, a2⟩ : Pair)] : List Pair)) S69 T.elt170 rfl hO10 (Rd.of_blk (S69.blk 1 rfl) (n := 1) (sz := 3) rfl) ⟨_, _, [], [], rfl, rfl, ⟨rfl, rfl⟩, ⟨rfl, rfl⟩⟩ rfl hc68
   change St _ _ _ [G72, [(b61, .cells #[.string (bs a1.S), .int .i64 a1.N, .int .i64 a2] 205 (0, 0))], [(p0, .cells #[.int .i64 a0.Most, .slice A7 a0.L.length c8] 172 (0, 0))], [(b13, .cells #[.string (bs a1.S), .int .i64 a1.N] 103 (0, 0))]] at S76
   refine WD.e rfl (E74 rfl rfl) rfl ?_
   refine WD.p rfl (G.nilp rfl) rfl ?_
   refine WD.p rfl (G.field T.fld172_1 rfl (show 0 + 1 = 1 from rfl)) rfl ?_
   obtain ⟨w78, E79, S80⟩ := St.store (P := Try.prog) S76 2 170 (.slice A70 l67.length c71) (off := 1) (cur' := #[.int .i64 a0.Most, .slice A70 l67.length c71]) rfl T.size170_1 rfl rfl rfl
   change St _ _ _ [G72, [(b61, .cells #[.string (bs a1.S), .int .i64 a1.N, .int .i64 a2] 205 (0, 0))], [(p0, .cells #[.int .i64 a0.Most, .slice A70 l67.length c71] 172 (0, 0))], [(b13, .cells #[.string (bs a1.S), .int .i64 a1.N] 103 (0, 0))]] at S80
   refine WD.u rfl (E79 rfl rfl) ?_
   refine WD.nil ?_
   refine WEx.then_ ?_
   refine WCode.forget (l' := []) trivial ?_
   refine WCode.seq ?_
   refine WCode.region ?_
   refine WOps.p (G.assign rfl) rfl ?_
   refine WOps.nil ?_
   refine WEx.then_ ?_
   refine WCode.ret ?_
   obtain rfl := some_eq hF
   refine WEx.ret1 rfl rfl ?_
   have S81 := S80.front 2 rfl
   change St _ _ _ [[(p0, .cells #[.int .i64 a0.Most, .slice A70 l67.length c71] 172 (0, 0))], G72, [(b61, .cells #[.string (bs a1.S), .int .i64 a1.N, .int .i64 a2] 205 (0, 0))], [(b13, .cells #[.string (bs a1.S), .int .i64 a1.N] 103 (0, 0))]] at S81
   have hO82 : ObjO 172 ShR.rp p0 (⟨a0.Most, l67⟩ : ShR) ([(p0, .cells #[.int .i64 a0.Most, .slice A70 l67.length c71] 172 (0, 0))] ++ (G72)) := ⟨_, _, ⟨A70, c71, G72, rfl, hO75, rfl⟩, rfl⟩
   have S83 : St _ _ _ [[(p0, .cells #[.int .i64 a0.Most, .slice A70 l67.length c71] 172 (0, 0))] ++ (G72), [(b61, .cells #[.string (bs a1.S), .int .i64 a1.N, .int .i64 a2] 205 (0, 0))], [(b13, .cells #[.string (bs a1.S), .int .i64 a1.N] 103 (0, 0))]] := S81.objs (by simp)
   exact ⟨[(p0, .cells #[.int .i64 a0.Most, .slice A70 l67.length c71] 172 (0, 0))] ++ (G72), rfl, hO82, St.keep (As := [[(p0, .cells #[.int .i64 a0.Most, .slice A70 l67.length c71] 172 (0, 0))] ++ (G72)]) S83⟩

def rk_Get (k : Nat) (a0 : ShR) (a1 : KeyS) : Option (Int × Bool) := (Option.bind (rk_find k a0 a1) fun t15 => (if t15 < 0 then (some (0, false)) else (Option.bind (idx a0.L t15) fun x21 => (some (x21.V, true)))))
set_option maxRecDepth 100000 in
set_option maxHeartbeats 1000000 in
theorem rk_Get_calls (k : Nat) (a0 : ShR) {p0 : Nat} {F0 : Nat → Prop} (a1 : KeyS) {w : World} (hP0 : PtR 172 ShR.rp w F0 p0 a0) (hF0 : ∀ b, F0 b → NK w [] b) {r_ : Int × Bool} (h_ : rk_Get k a0 a1 = some r_) :
    Calls Try.prog 93 [.pointer (some ⟨p0, 0, none⟩), .agg #[.string (bs a1.S), .int .i64 a1.N]].toArray w fun e w' => e = .returned (.tuple #[.int .i64 r_.1, .bool r_.2]) ∧ St w (KS []) w' [] := by
 have hF := h_
 clear h_
 unfold rk_Get at hF
 have S := St.ofFalse (As := []) (St.init0 w)
 have hPq5 := hP0
 obtain ⟨cs1, hB2, hf3, A6, c7, hq4, hR8⟩ := hPq5
 subst hq4
 change _ = some (Obj.cells #[.int .i64 a0.Most, .slice A6 a0.L.length c7] 172 (0, 0)) at hB2
 refine enter 20 [(0, .pointer (some ⟨p0, 0, none⟩)), (1, .agg #[.string (bs a1.S), .int .i64 a1.N])] Try.func93 rfl rfl rfl rfl ?_
 refine WCode.seq ?_
 refine WCode.region ?_
 obtain ⟨b9, w10, E11, S12, X13, L14⟩ := St.box S Try.prog 103 (.agg #[.string (bs a1.S), .int .i64 a1.N])
 change St _ _ _ [[(b9, .cells #[.string (bs a1.S), .int .i64 a1.N] 103 (0, 0))]] at S12
 refine WOps.e (E11 rfl) rfl ?_
 refine WOps.p (G.assign rfl) rfl ?_
 refine WOps.p (G.assign rfl) rfl ?_
 refine WOps.nil ?_
 refine WEx.then_ ?_
 refine WCode.seq ?_
 refine WCode.region ?_
 refine WOps.p (G.move rfl) rfl ?_
 refine WOps.r (G.loada T.agg103_2 rfl (cs := [.string (bs a1.S), .int .i64 a1.N]) (cellsAt.of_blk (S12.blk 0 rfl) rfl)) rfl ?_
 obtain ⟨t15, hc16, hF⟩ := bind_some hF
 refine WOps.call T.call115 (evs_cons rfl (evs_cons rfl evs_nil)) rfl ?_
 refine (rk_find_calls k a0 a1 (hP0.ext (S12.keepF hF0)) (St.outF (Bs := []) S12 hF0) hc16).mono ?_
 rintro _ w17 ⟨rfl, T18⟩
 have S19 := St.callN (As := []) S12 T18
 change St _ _ _ [[(b9, .cells #[.string (bs a1.S), .int .i64 a1.N] 103 (0, 0))]] at S19
 refine ⟨_, rfl, ?_⟩
 refine WOps.p (G.assign rfl) rfl ?_
 refine WOps.nil ?_
 refine WEx.then_ ?_
 refine WCode.seq ?_
 refine WCode.seq ?_
 refine WCode.region ?_
 refine WOps.p (G.move rfl) rfl ?_
 refine WOps.p (G.lss rfl rfl rfl) rfl ?_
 refine WOps.nil ?_
 refine WEx.then_ ?_
 rcases ite_some hF with ⟨h20, hF⟩ | ⟨h20, hF⟩
 ·
  refine WCode.cond_t (kb (b := decide (t15 < 0)) rfl (decide_eq_true h20)) ?_
  refine WCode.seq ?_
  refine WCode.region ?_
  refine WOps.p (G.assign rfl) rfl ?_
  refine WOps.p (G.assign rfl) rfl ?_
  refine WOps.nil ?_
  refine WEx.then_ ?_
  refine WCode.ret ?_
  refine WEx.then_ret ?_
  obtain rfl := some_eq hF
  refine WEx.ret2 rfl rfl rfl ?_
  exact ⟨rfl, St.keep (As := []) S19⟩
 ·
  refine WCode.cond_f (kb (b := decide (t15 < 0)) rfl (decide_eq_false h20)) ?_
  refine WCode.skip ?_
  refine WEx.then_ ?_
  refine WCode.seq ?_
  refine WCode.region ?_
  refine WOps.p (G.move rfl) rfl ?_
  refine WOps.p (G.nilp rfl) rfl ?_
  refine WOps.p (G.field T.fld172_1 rfl (show 0 + 1 = 1 from rfl)) rfl ?_
  refine WOps.r (G.load1 T.one170 rfl (cell_blk ((S19.fr p0 (lt_of_blk hB2) (hF0 p0 hf3).1).trans hB2) rfl)) rfl ?_
  refine WOps.p (G.move rfl) rfl ?_
  obtain ⟨x21, hc22, hF⟩ := bind_some hF
  obtain ⟨j23, ej24, hj25, hl26⟩ := idx_spec hc22
  obtain ⟨b27, o28, cs29, eA30, hf31, hc32, hr33⟩ := SlR.at_ (hR8.ext (S19.keepF hF0)) hj25
  have hq34 : cs29 = [.string (bs x21.K.S), .int .i64 x21.K.N, .int .i64 x21.V] := hr33
  subst hq34
  change cellsAt _ _ (o28 + j23 * 3) [.string (bs x21.K.S), .int .i64 x21.K.N, .int .i64 x21.V] at hc32
  refine WOps.p (G.idx T.el170 rfl eA30 rfl ej24 hl26) rfl ?_
  refine WOps.p (G.field T.fld205_1 rfl (show o28 + j23 * 3 + 2 = o28 + j23 * 3 + 2 from rfl)) rfl ?_
  refine WOps.r (G.load1 T.one3 rfl (cellsAt.at hc32 2 rfl)) rfl ?_
  refine WOps.p (G.assign rfl) rfl ?_
  refine WOps.p (G.assign rfl) rfl ?_
  refine WOps.nil ?_
  refine WEx.then_ ?_
  refine WCode.forget (l' := [(4, .int .i64 x21.V), (5, .bool true)]) ⟨rfl, rfl, trivial⟩ ?_
  refine WCode.ret ?_
  obtain rfl := some_eq hF
  refine WEx.ret2 rfl rfl rfl ?_
  exact ⟨rfl, St.keep (As := []) S19⟩

def rk_Drop (k : Nat) (a0 : ShR) (a1 : KeyS) : Option (Int × ShR) := (Option.bind (rk_find k a0 a1) fun t17 => (if t17 < 0 then (some (141, a0)) else (Option.bind (cut a0.L 0 t17) fun m27 => (Option.bind (cat ([] : List Pair) m27) fun l30 => (Option.bind (cut a0.L (w64 (t17 + 1)) (a0.L.length : Int)) fun m45 => (Option.bind (cat l30 m45) fun l48 => (some (0, (⟨a0.Most, l48⟩ : ShR)))))))))
set_option maxRecDepth 100000 in
set_option maxHeartbeats 1000000 in
theorem rk_Drop_calls (k : Nat) (a0 : ShR) {p0 : Nat} {G0 : Grp} (a1 : KeyS) {w : World} (hO0 : ObjO 172 ShR.rp p0 a0 G0) {r_ : Int × ShR} (h_ : rk_Drop k a0 a1 = some r_) (hp_ : Hp w ([G0]).flatten) :
    Calls Try.prog 95 [.pointer (some ⟨p0, 0, none⟩), .agg #[.string (bs a1.S), .int .i64 a1.N]].toArray w fun e w' => ∃ Go0' : Grp, e = .returned (.int .i64 r_.1) ∧ ObjO 172 ShR.rp p0 (r_.2) Go0' ∧ St w (KS [G0]) w' [Go0'] := by
 have hF := h_
 clear h_
 unfold rk_Drop at hF
 have S := St.initK [G0] hp_
 obtain ⟨cs1, G2, ho3, hg4⟩ := hO0
 obtain ⟨A5, c6, G7, rfl, hO8, hq9⟩ := ho3
 have S10 : St _ _ _ [[(p0, .cells #[.int .i64 a0.Most, .slice A5 a0.L.length c6] 172 (0, 0))], G7] := S.objs (by rw [hg4, hq9]; simp)
 refine enter 32 [(0, .pointer (some ⟨p0, 0, none⟩)), (1, .agg #[.string (bs a1.S), .int .i64 a1.N])] Try.func95 rfl rfl rfl rfl ?_
 refine WCode.seq ?_
 refine WCode.region ?_
 obtain ⟨b11, w12, E13, S14, X15, L16⟩ := St.box S10 Try.prog 103 (.agg #[.string (bs a1.S), .int .i64 a1.N])
 change St _ _ _ [[(b11, .cells #[.string (bs a1.S), .int .i64 a1.N] 103 (0, 0))], [(p0, .cells #[.int .i64 a0.Most, .slice A5 a0.L.length c6] 172 (0, 0))], G7] at S14
 refine WOps.e (E13 rfl) rfl ?_
 refine WOps.p (G.assign rfl) rfl ?_
 refine WOps.nil ?_
 refine WEx.then_ ?_
 refine WCode.seq ?_
 refine WCode.region ?_
 refine WOps.p (G.move rfl) rfl ?_
 refine WOps.r (G.loada T.agg103_2 rfl (cs := [.string (bs a1.S), .int .i64 a1.N]) (cellsAt.of_blk (S14.blk 0 rfl) rfl)) rfl ?_
 obtain ⟨t17, hc18, hF⟩ := bind_some hF
 have S19 := (S14.front 2 rfl).front 2 rfl
 change St _ _ _ [[(p0, .cells #[.int .i64 a0.Most, .slice A5 a0.L.length c6] 172 (0, 0))], G7, [(b11, .cells #[.string (bs a1.S), .int .i64 a1.N] 103 (0, 0))]] at S19
 have hP20 : PtR 172 ShR.rp w12 (KS [[(p0, .cells #[.int .i64 a0.Most, .slice A5 a0.L.length c6] 172 (0, 0))], G7]) p0 a0 := ⟨_, S19.blk 0 rfl, KS_at 0 rfl (by simp [keys]), ⟨A5, c6, rfl, ((hO8.rd (fun b o hb => S19.grp 1 rfl hb)).mono (fun b hb => KS_at 1 rfl hb))⟩⟩
 refine WOps.call T.call115 (evs_cons rfl (evs_cons rfl evs_nil)) rfl ?_
 refine (rk_find_calls k a0 a1 hP20 (St.outN (Bs := []) (As := [[(p0, .cells #[.int .i64 a0.Most, .slice A5 a0.L.length c6] 172 (0, 0))], G7]) S19) hc18).mono ?_
 rintro _ w21 ⟨rfl, T22⟩
 have S23 := St.callN (As := []) S19 T22
 change St _ _ _ [[(p0, .cells #[.int .i64 a0.Most, .slice A5 a0.L.length c6] 172 (0, 0))], G7, [(b11, .cells #[.string (bs a1.S), .int .i64 a1.N] 103 (0, 0))]] at S23
 refine ⟨_, rfl, ?_⟩
 refine WOps.p (G.assign rfl) rfl ?_
 refine WOps.nil ?_
 refine WEx.then_ ?_
 refine WCode.seq ?_
 refine WCode.seq ?_
 refine WCode.region ?_
 refine WOps.p (G.move rfl) rfl ?_
 refine WOps.p (G.lss rfl rfl rfl) rfl ?_
 refine WOps.nil ?_
 refine WEx.then_ ?_
 rcases ite_some hF with ⟨h24, hF⟩ | ⟨h24, hF⟩
 ·
  refine WCode.cond_t (kb (b := decide (t17 < 0)) rfl (decide_eq_true h24)) ?_
  refine WCode.seq ?_
  refine WCode.region ?_
  refine WOps.p (G.assign rfl) rfl ?_
  refine WOps.nil ?_
  refine WEx.then_ ?_
  refine WCode.ret ?_
  refine WEx.then_ret ?_
  obtain rfl := some_eq hF
  refine WEx.ret1 rfl rfl ?_
  have hO25 : ObjO 172 ShR.rp p0 a0 ([(p0, .cells #[.int .i64 a0.Most, .slice A5 a0.L.length c6] 172 (0, 0))] ++ (G7)) := ⟨_, _, ⟨A5, c6, G7, rfl, hO8, rfl⟩, rfl⟩
  have S26 : St _ _ _ [[(p0, .cells #[.int .i64 a0.Most, .slice A5 a0.L.length c6] 172 (0, 0))] ++ (G7), [(b11, .cells #[.string (bs a1.S), .int .i64 a1.N] 103 (0, 0))]] := S23.objs (by simp)
  exact ⟨[(p0, .cells #[.int .i64 a0.Most, .slice A5 a0.L.length c6] 172 (0, 0))] ++ (G7), rfl, hO25, St.keep (As := [[(p0, .cells #[.int .i64 a0.Most, .slice A5 a0.L.length c6] 172 (0, 0))] ++ (G7)]) S26⟩
 ·
  refine WCode.cond_f (kb (b := decide (t17 < 0)) rfl (decide_eq_false h24)) ?_
  refine WCode.skip ?_
  refine WEx.then_ ?_
  refine WCode.seq ?_
  refine WCode.region ?_
  refine WOps.p (G.assign rfl) rfl ?_
  refine WOps.nil ?_
  refine WEx.then_ ?_
  refine WCode.seq ?_
  refine WCode.region ?_
  refine WOps.p (G.move rfl) rfl ?_
  refine WOps.p (G.move rfl) rfl ?_
  refine WOps.p (G.nilp rfl) rfl ?_
  refine WOps.p (G.field T.fld172_1 rfl (show 0 + 1 = 1 from rfl)) rfl ?_
  refine WOps.r (G.load1 T.one170 rfl (cell_blk (S23.blk 0 rfl) rfl)) rfl ?_
  refine WOps.p (G.move rfl) rfl ?_
  obtain ⟨m27, hc28, hF⟩ := bind_some hF
  have hv29 := (SlO.toV (u := w) hO8 (S23.nd 1 rfl)).cut_h hc28
  refine WOps.p (G.cut_h T.el170 rfl rfl hc28 (hO8.rd (fun b o hb => S23.grp 1 rfl hb)).cap) rfl ?_
  obtain ⟨l30, hc31, hF⟩ := bind_some hF
  have S32 := S23.emp
  obtain ⟨xs42, he43, hd44⟩ := SlR.Rd (hv29.ext (S32.vw 2 rfl))
  obtain ⟨A34, c35, G36, w37, E38, hO39, S40, hk41⟩ := St.appP (P := Try.prog) (r := Pair.rp) (M := m27) S32 T.elt170 rfl (SlO.nil 205 Pair.rp) hd44 (elems.flat plain_flat he43) rfl hc31
  change St _ _ _ [G36, [(p0, .cells #[.int .i64 a0.Most, .slice A5 a0.L.length c6] 172 (0, 0))], G7, [(b11, .cells #[.string (bs a1.S), .int .i64 a1.N] 103 (0, 0))]] at S40
  refine WOps.e (E38 rfl rfl) rfl ?_
  refine WOps.p (G.assign rfl) rfl ?_
  refine WOps.nil ?_
  refine WEx.then_ ?_
  refine WCode.forget (l' := [(0, .pointer (some ⟨p0, 0, none⟩)), (5, .int .i64 t17), (6, .slice A34 l30.length c35)]) ⟨rfl, rfl, rfl, trivial⟩ ?_
  refine WCode.seq ?_
  refine WCode.region ?_
  refine WOps.p (G.move rfl) rfl ?_
  refine WOps.p (G.move rfl) rfl ?_
  refine WOps.p (G.move rfl) rfl ?_
  refine WOps.p (G.nilp rfl) rfl ?_
  refine WOps.p (G.field T.fld172_1 rfl (show 0 + 1 = 1 from rfl)) rfl ?_
  refine WOps.r (G.load1 T.one170 rfl (cell_blk (S40.blk 1 rfl) rfl)) rfl ?_
  refine WOps.p (G.move rfl) rfl ?_
  refine WOps.p (G.add rfl rfl (r := (w64 (t17 + 1))) rfl) rfl ?_
  obtain ⟨m45, hc46, hF⟩ := bind_some hF
  have hv47 := (SlO.toV (u := w) hO8 (S40.nd 2 rfl)).cut_lh hc46
  refine WOps.p (G.cut_l T.el170 rfl rfl hc46) rfl ?_
  obtain ⟨l48, hc49, hF⟩ := bind_some hF
  obtain ⟨xs58, he59, hd60⟩ := SlR.Rd (hv47.ext (S40.vw 2 rfl))
  obtain ⟨A50, c51, G52, w53, E54, hO55, S56, hk57⟩ := St.appP (P := Try.prog) (r := Pair.rp) (M := m45) S40 T.elt170 rfl hO39 hd60 (elems.flat plain_flat he59) rfl hc49
  change St _ _ _ [G52, [(p0, .cells #[.int .i64 a0.Most, .slice A5 a0.L.length c6] 172 (0, 0))], G7, [(b11, .cells #[.string (bs a1.S), .int .i64 a1.N] 103 (0, 0))]] at S56
  refine WOps.e (E54 rfl rfl) rfl ?_
  refine WOps.p (G.nilp rfl) rfl ?_
  refine WOps.p (G.field T.fld172_1 rfl (show 0 + 1 = 1 from rfl)) rfl ?_
  obtain ⟨w61, E62, S63⟩ := St.store (P := Try.prog) S56 1 170 (.slice A50 l48.length c51) (off := 1) (cur' := #[.int .i64 a0.Most, .slice A50 l48.length c51]) rfl T.size170_1 rfl rfl rfl
  change St _ _ _ [G52, [(p0, .cells #[.int .i64 a0.Most, .slice A50 l48.length c51] 172 (0, 0))], G7, [(b11, .cells #[.string (bs a1.S), .int .i64 a1.N] 103 (0, 0))]] at S63
  refine WOps.u (E62 rfl rfl) ?_
  refine WOps.nil ?_
  refine WEx.then_ ?_
  refine WCode.forget (l' := []) trivial ?_
  refine WCode.seq ?_
  refine WCode.region ?_
  refine WOps.p (G.assign rfl) rfl ?_
  refine WOps.nil ?_
  refine WEx.then_ ?_
  refine WCode.ret ?_
  obtain rfl := some_eq hF
  refine WEx.ret1 rfl rfl ?_
  have S64 := S63.front 1 rfl
  change St _ _ _ [[(p0, .cells #[.int .i64 a0.Most, .slice A50 l48.length c51] 172 (0, 0))], G52, G7, [(b11, .cells #[.string (bs a1.S), .int .i64 a1.N] 103 (0, 0))]] at S64
  have hO65 : ObjO 172 ShR.rp p0 (⟨a0.Most, l48⟩ : ShR) ([(p0, .cells #[.int .i64 a0.Most, .slice A50 l48.length c51] 172 (0, 0))] ++ (G52)) := ⟨_, _, ⟨A50, c51, G52, rfl, hO55, rfl⟩, rfl⟩
  have S66 : St _ _ _ [[(p0, .cells #[.int .i64 a0.Most, .slice A50 l48.length c51] 172 (0, 0))] ++ (G52), G7, [(b11, .cells #[.string (bs a1.S), .int .i64 a1.N] 103 (0, 0))]] := S64.objs (by simp)
  exact ⟨[(p0, .cells #[.int .i64 a0.Most, .slice A50 l48.length c51] 172 (0, 0))] ++ (G52), rfl, hO65, St.keep (As := [[(p0, .cells #[.int .i64 a0.Most, .slice A50 l48.length c51] 172 (0, 0))] ++ (G52)]) S66⟩

def rk_Keys.l1 : Nat → ShR → List KeyS → Int → Option (List KeyS)
  | 0, _, _, _ => none
  | k17 + 1, a0, l11, x14 => (if x14 < (a0.L.length : Int) then (Option.bind (idx a0.L x14) fun x23 => (Option.bind (cat l11 ([x23.K] : List KeyS)) fun l44 => (rk_Keys.l1 k17 a0 l44 (w64 (x14 + 1))))) else (some l11))
def rk_Keys (k : Nat) (a0 : ShR) : Option (List KeyS) := (rk_Keys.l1 k a0 [] 0)
set_option maxRecDepth 100000 in
set_option maxHeartbeats 1000000 in
theorem rk_Keys_calls (k : Nat) (a0 : ShR) {p0 : Nat} {F0 : Nat → Prop} {w : World} (hP0 : PtR 172 ShR.rp w F0 p0 a0) (hF0 : ∀ b, F0 b → NK w [] b) {r_ : (List KeyS)} (h_ : rk_Keys k a0 = some r_) :
    Calls Try.prog 97 [.pointer (some ⟨p0, 0, none⟩)].toArray w fun e w' => ∃ A0' : Option Addr, ∃ c0' : Nat, ∃ G0' : Grp, e = .returned (.slice A0' (r_).length c0') ∧ SlO 103 KeyS.rp (.slice A0' (r_).length c0') (r_) G0' ∧ St w (KS []) w' [G0'] := by
 have hF := h_
 clear h_
 unfold rk_Keys at hF
 have S := St.ofFalse (As := []) (St.init0 w)
 have hPq5 := hP0
 obtain ⟨cs1, hB2, hf3, A6, c7, hq4, hR8⟩ := hPq5
 subst hq4
 change _ = some (Obj.cells #[.int .i64 a0.Most, .slice A6 a0.L.length c7] 172 (0, 0)) at hB2
 refine enter 26 [(0, .pointer (some ⟨p0, 0, none⟩))] Try.func97 rfl rfl rfl rfl ?_
 refine WCode.seq ?_
 refine WCode.region ?_
 refine WOps.p (G.assign rfl) rfl ?_
 refine WOps.nil ?_
 refine WEx.then_ ?_
 refine WCode.seq ?_
 refine WCode.region ?_
 refine WOps.p (G.assign rfl) rfl ?_
 refine WOps.nil ?_
 refine WEx.then_ ?_
 refine WCode.seq ?_
 refine WCode.seq ?_
 refine WCode.region ?_
 refine WOps.p (G.assign rfl) rfl ?_
 refine WOps.nil ?_
 refine WEx.then_ ?_
 refine WCode.block ?_
 have S19 := S.emp
 refine WCode.forget (l' := [(0, .pointer (some ⟨p0, 0, none⟩)), (3, .slice none 0 0), (4, .int .i64 0)]) ⟨rfl, rfl, rfl, trivial⟩ ?_
 refine WCode.loop (fun n_ l_ w_ => ∃ A9 : Option Addr, ∃ c10 : Nat, ∃ l11 : List KeyS, ∃ G12 : Grp, ∃ x14 : Int, l_ = [(0, .pointer (some ⟨p0, 0, none⟩)), (3, .slice A9 l11.length c10), (4, .int .i64 x14)] ∧ rk_Keys.l1 n_ a0 l11 x14 = some r_ ∧ (SlO 103 KeyS.rp (.slice A9 l11.length c10) l11 G12) ∧ St w (KS []) w_ [G12]) k ⟨none, 0, [], ([] : Grp), 0, rfl, hF, (SlO.nil 103 KeyS.rp), S19⟩ ?_
 rintro n18 _ w15 ⟨A9, c10, l11, G12, x14, rfl, hF, hO13, S16⟩
 obtain _ | k17 := n18
 · exact nomatch (show (none : Option (List KeyS)) = some r_ from hF)
 rw [rk_Keys.l1] at hF
 refine WCode.seq ?_
 refine WCode.seq ?_
 refine WCode.region ?_
 refine WOps.p (G.move rfl) rfl ?_
 refine WOps.p (G.move rfl) rfl ?_
 refine WOps.p (G.nilp rfl) rfl ?_
 refine WOps.p (G.field T.fld172_1 rfl (show 0 + 1 = 1 from rfl)) rfl ?_
 refine WOps.r (G.load1 T.one170 rfl (cell_blk ((S16.fr p0 (lt_of_blk hB2) (hF0 p0 hf3).1).trans hB2) rfl)) rfl ?_
 refine WOps.p (G.len T.el170 rfl) rfl ?_
 refine WOps.p (G.lss rfl rfl rfl) rfl ?_
 refine WOps.nil ?_
 refine WEx.then_ ?_
 rcases ite_some hF with ⟨h22, hF⟩ | ⟨h22, hF⟩
 ·
  refine WCode.cond_t (kb (b := decide (x14 < (a0.L.length : Int))) rfl (decide_eq_true h22)) ?_
  refine WCode.skip ?_
  refine WEx.then_ ?_
  refine WCode.seq ?_
  refine WCode.block ?_
  refine WCode.region ?_
  refine WOps.p (G.move rfl) rfl ?_
  refine WOps.p (G.move rfl) rfl ?_
  refine WOps.p (G.nilp rfl) rfl ?_
  refine WOps.p (G.field T.fld172_1 rfl (show 0 + 1 = 1 from rfl)) rfl ?_
  refine WOps.r (G.load1 T.one170 rfl (cell_blk ((S16.fr p0 (lt_of_blk hB2) (hF0 p0 hf3).1).trans hB2) rfl)) rfl ?_
  refine WOps.p (G.move rfl) rfl ?_
  obtain ⟨x23, hc24, hF⟩ := bind_some hF
  obtain ⟨j25, ej26, hj27, hl28⟩ := idx_spec hc24
  obtain ⟨b29, o30, cs31, eA32, hf33, hc34, hr35⟩ := SlR.at_ (hR8.ext (S16.keepF hF0)) hj27
  have hq36 : cs31 = [.string (bs x23.K.S), .int .i64 x23.K.N, .int .i64 x23.V] := hr35
  subst hq36
  change cellsAt _ _ (o30 + j25 * 3) [.string (bs x23.K.S), .int .i64 x23.K.N, .int .i64 x23.V] at hc34
  refine WOps.p (G.idx T.el170 rfl eA32 rfl ej26 hl28) rfl ?_
  refine WOps.p (G.field T.fld205_0 rfl (show o30 + j25 * 3 + 0 = o30 + j25 * 3 + 0 from rfl)) rfl ?_
  refine WOps.r (G.loada T.agg103_2 rfl (cs := [.string (bs x23.K.S), .int .i64 x23.K.N]) (cellsAt.part hc34 0 rfl)) rfl ?_
  obtain ⟨b37, w38, E39, S40, X41, L42⟩ := St.lit S16 (P := Try.prog) (t := 176) (e := 103) (n := 1) (vs := [(0, .agg #[.string (bs x23.K.S), .int .i64 x23.K.N])]) (cs := #[.string (bs x23.K.S), .int .i64 x23.K.N]) (by kernel_rfl)
  have c43 := hc34.ext X41
  change St _ _ _ [[(b37, .cells #[.string (bs x23.K.S), .int .i64 x23.K.N] 103 (0, 0))], G12] at S40
  refine WOps.e (E39 (evp_cons rfl evp_nil)) rfl ?_
  obtain ⟨l44, hc45, hF⟩ := bind_some hF
  have S46 := S40.front 1 rfl
  change St _ _ _ [G12, [(b37, .cells #[.string (bs x23.K.S), .int .i64 x23.K.N] 103 (0, 0))]] at S46
  obtain ⟨A47, c48, G49, w50, E51, hO52, S53, hk54⟩ := St.appP (P := Try.prog) (r := KeyS.rp) (M := ([x23.K] : List KeyS)) S46 T.elt176 rfl hO13 (Rd.of_blk (S46.blk 1 rfl) (n := 1) (sz := 2) rfl) ⟨_, _, [], [], rfl, rfl, ⟨rfl, rfl⟩, ⟨rfl, rfl⟩⟩ rfl hc45
  change St _ _ _ [G49, [(b37, .cells #[.string (bs x23.K.S), .int .i64 x23.K.N] 103 (0, 0))]] at S53
  refine WOps.e (E51 rfl rfl) rfl ?_
  refine WOps.p (G.assign rfl) rfl ?_
  refine WOps.nil ?_
  refine WEx.in_normal ?_
  refine WEx.then_ ?_
  refine WCode.forget (l' := [(0, .pointer (some ⟨p0, 0, none⟩)), (3, .slice A47 l44.length c48), (4, .int .i64 x14)]) ⟨rfl, rfl, rfl, trivial⟩ ?_
  refine WCode.region ?_
  refine WOps.p (G.move rfl) rfl ?_
  refine WOps.p (G.add rfl rfl (r := (w64 (x14 + 1))) rfl) rfl ?_
  refine WOps.p (G.assign rfl) rfl ?_
  refine WOps.nil ?_
  have S55 := St.keep (As := [G49]) S53
  refine WEx.again _ _ (by omega) ?_ ⟨A47, c48, l44, G49, w64 (x14 + 1), rfl, hF, hO52, S55⟩
  exact ⟨rfl, rfl, rfl, trivial⟩
 ·
  refine WCode.cond_f (kb (b := decide (x14 < (a0.L.length : Int))) rfl (decide_eq_false h22)) ?_
  refine WCode.exit ?_
  refine WEx.then_exit ?_
  refine WEx.then_exit ?_
  refine WEx.in_exit ?_
  refine WEx.then_ ?_
  refine WCode.seq ?_
  refine WCode.region ?_
  refine WOps.p (G.move rfl) rfl ?_
  refine WOps.p (G.assign rfl) rfl ?_
  refine WOps.nil ?_
  refine WEx.then_ ?_
  refine WCode.forget (l' := [(2, .slice A9 l11.length c10)]) ⟨rfl, trivial⟩ ?_
  refine WCode.ret ?_
  obtain rfl := some_eq hF
  refine WEx.ret1 rfl rfl ?_
  exact ⟨A9, c10, G12, rfl, hO13, St.keep (As := [G12]) S16⟩

def rk_Len (k : Nat) (a0 : ShR) : Option Int := (some (a0.L.length : Int))
set_option maxRecDepth 100000 in
set_option maxHeartbeats 1000000 in
theorem rk_Len_calls (k : Nat) (a0 : ShR) {p0 : Nat} {F0 : Nat → Prop} {w : World} (hP0 : PtR 172 ShR.rp w F0 p0 a0) (hF0 : ∀ b, F0 b → NK w [] b) {r_ : Int} (h_ : rk_Len k a0 = some r_) :
    Calls Try.prog 102 [.pointer (some ⟨p0, 0, none⟩)].toArray w fun e w' => e = .returned (.int .i64 r_) ∧ St w (KS []) w' [] := by
 have hF := h_
 clear h_
 unfold rk_Len at hF
 have S := St.ofFalse (As := []) (St.init0 w)
 have hPq5 := hP0
 obtain ⟨cs1, hB2, hf3, A6, c7, hq4, hR8⟩ := hPq5
 subst hq4
 change _ = some (Obj.cells #[.int .i64 a0.Most, .slice A6 a0.L.length c7] 172 (0, 0)) at hB2
 refine enter 8 [(0, .pointer (some ⟨p0, 0, none⟩))] Try.func102 rfl rfl rfl rfl ?_
 refine WCode.seq ?_
 refine WCode.region ?_
 refine WOps.p (G.assign rfl) rfl ?_
 refine WOps.nil ?_
 refine WEx.then_ ?_
 refine WCode.seq ?_
 refine WCode.region ?_
 refine WOps.p (G.move rfl) rfl ?_
 refine WOps.p (G.nilp rfl) rfl ?_
 refine WOps.p (G.field T.fld172_1 rfl (show 0 + 1 = 1 from rfl)) rfl ?_
 refine WOps.r (G.load1 T.one170 rfl (cell_blk ((S.fr p0 (lt_of_blk hB2) (hF0 p0 hf3).1).trans hB2) rfl)) rfl ?_
 refine WOps.p (G.len T.el170 rfl) rfl ?_
 refine WOps.p (G.assign rfl) rfl ?_
 refine WOps.nil ?_
 refine WEx.then_ ?_
 refine WCode.ret ?_
 obtain rfl := some_eq hF
 refine WEx.ret1 rfl rfl ?_
 exact ⟨rfl, St.keep (As := []) S⟩

def rk_All (k : Nat) (a0 : ShR) : Option (List Pair) := (Option.bind (cat ([] : List Pair) a0.L) fun l9 => (some l9))
set_option maxRecDepth 100000 in
set_option maxHeartbeats 1000000 in
theorem rk_All_calls (k : Nat) (a0 : ShR) {p0 : Nat} {F0 : Nat → Prop} {w : World} (hP0 : PtR 172 ShR.rp w F0 p0 a0) (hF0 : ∀ b, F0 b → NK w [] b) {r_ : (List Pair)} (h_ : rk_All k a0 = some r_) :
    Calls Try.prog 120 [.pointer (some ⟨p0, 0, none⟩)].toArray w fun e w' => ∃ A0' : Option Addr, ∃ c0' : Nat, ∃ G0' : Grp, e = .returned (.slice A0' (r_).length c0') ∧ SlO 205 Pair.rp (.slice A0' (r_).length c0') (r_) G0' ∧ St w (KS []) w' [G0'] := by
 have hF := h_
 clear h_
 unfold rk_All at hF
 have S := St.ofFalse (As := []) (St.init0 w)
 have hPq5 := hP0
 obtain ⟨cs1, hB2, hf3, A6, c7, hq4, hR8⟩ := hPq5
 subst hq4
 change _ = some (Obj.cells #[.int .i64 a0.Most, .slice A6 a0.L.length c7] 172 (0, 0)) at hB2
 refine enter 10 [(0, .pointer (some ⟨p0, 0, none⟩))] Try.func120 rfl rfl rfl rfl ?_
 refine WCode.seq ?_
 refine WCode.region ?_
 refine WOps.p (G.assign rfl) rfl ?_
 refine WOps.nil ?_
 refine WEx.then_ ?_
 refine WCode.seq ?_
 refine WCode.region ?_
 refine WOps.p (G.assign rfl) rfl ?_
 refine WOps.nil ?_
 refine WEx.then_ ?_
 refine WCode.seq ?_
 refine WCode.region ?_
 refine WOps.p (G.move rfl) rfl ?_
 refine WOps.p (G.move rfl) rfl ?_
 refine WOps.p (G.nilp rfl) rfl ?_
 refine WOps.p (G.field T.fld172_1 rfl (show 0 + 1 = 1 from rfl)) rfl ?_
 refine WOps.r (G.load1 T.one170 rfl (cell_blk ((S.fr p0 (lt_of_blk hB2) (hF0 p0 hf3).1).trans hB2) rfl)) rfl ?_
 obtain ⟨l9, hc10, hF⟩ := bind_some hF
 have S11 := S.emp
 obtain ⟨xs21, he22, hd23⟩ := SlR.Rd (hR8.ext (S11.keepF hF0))
 obtain ⟨A13, c14, G15, w16, E17, hO18, S19, hk20⟩ := St.appP (P := Try.prog) (r := Pair.rp) (M := a0.L) S11 T.elt170 rfl (SlO.nil 205 Pair.rp) hd23 (elems.flat plain_flat he22) rfl hc10
 change St _ _ _ [G15] at S19
 refine WOps.e (E17 rfl rfl) rfl ?_
 refine WOps.p (G.assign rfl) rfl ?_
 refine WOps.nil ?_
 refine WEx.then_ ?_
 refine WCode.ret ?_
 obtain rfl := some_eq hF
 refine WEx.ret1 rfl rfl ?_
 exact ⟨A13, c14, G15, rfl, hO18, St.keep (As := [G15]) S19⟩

def rk_Takes.l1 : Nat → List KeyS → Int → Int → Int → List Pair → Option (Int × ShR)
  | 0, _, _, _, _, _ => none
  | k21 + 1, a1, x11, x12, x13, l16 => (if x12 < (a1.length : Int) then (Option.bind (idx a1 x12) fun x25 => (Option.bind (rk_Drop k21 (⟨x13, l16⟩ : ShR) x25) fun t41 => (if t41.1 = 0 then (rk_Takes.l1 k21 a1 (w64 (x11 + 1)) (w64 (x12 + 1)) t41.2.Most t41.2.L) else (rk_Takes.l1 k21 a1 x11 (w64 (x12 + 1)) t41.2.Most t41.2.L)))) else (some (x11, (⟨x13, l16⟩ : ShR))))
def rk_Takes (k : Nat) (a0 : ShR) (a1 : List KeyS) : Option (Int × ShR) := (rk_Takes.l1 k a1 0 0 a0.Most a0.L)
set_option maxRecDepth 100000 in
set_option maxHeartbeats 1000000 in
theorem rk_Takes_calls (k : Nat) (a0 : ShR) {p0 : Nat} {G0 : Grp} (a1 : List KeyS) {A1 : Option Addr} {c1 : Nat} {F1 : Nat → Prop} {w : World} (hO0 : ObjO 172 ShR.rp p0 a0 G0) (hR1 : SlR KeyS.rp w F1 A1 c1 a1) (hF1 : ∀ b, F1 b → NK w [G0] b) {r_ : Int × ShR} (h_ : rk_Takes k a0 a1 = some r_) (hp_ : Hp w ([G0]).flatten) :
    Calls Try.prog 122 [.pointer (some ⟨p0, 0, none⟩), .slice A1 a1.length c1].toArray w fun e w' => ∃ Go0' : Grp, e = .returned (.int .i64 r_.1) ∧ ObjO 172 ShR.rp p0 (r_.2) Go0' ∧ St w (KS [G0]) w' [Go0'] := by
 have hF := h_
 clear h_
 unfold rk_Takes at hF
 have S := St.initK [G0] hp_
 obtain ⟨cs1, G2, ho3, hg4⟩ := hO0
 obtain ⟨A5, c6, G7, rfl, hO8, hq9⟩ := ho3
 have S10 : St _ _ _ [[(p0, .cells #[.int .i64 a0.Most, .slice A5 a0.L.length c6] 172 (0, 0))], G7] := S.objs (by rw [hg4, hq9]; simp)
 refine enter 23 [(0, .pointer (some ⟨p0, 0, none⟩)), (1, .slice A1 a1.length c1)] Try.func122 rfl rfl rfl rfl ?_
 refine WCode.seq ?_
 refine WCode.region ?_
 refine WOps.p (G.assign rfl) rfl ?_
 refine WOps.nil ?_
 refine WEx.then_ ?_
 refine WCode.seq ?_
 refine WCode.region ?_
 refine WOps.p (G.assign rfl) rfl ?_
 refine WOps.nil ?_
 refine WEx.then_ ?_
 refine WCode.seq ?_
 refine WCode.seq ?_
 refine WCode.region ?_
 refine WOps.p (G.assign rfl) rfl ?_
 refine WOps.nil ?_
 refine WEx.then_ ?_
 refine WCode.block ?_
 refine WCode.forget (l' := [(0, .pointer (some ⟨p0, 0, none⟩)), (1, .slice A1 a1.length c1), (5, .int .i64 0), (6, .int .i64 0)]) ⟨rfl, rfl, rfl, rfl, trivial⟩ ?_
 refine WCode.loop (fun n_ l_ w_ => ∃ x11 : Int, ∃ x12 : Int, ∃ x13 : Int, ∃ A14 : Option Addr, ∃ c15 : Nat, ∃ l16 : List Pair, ∃ G17 : Grp, l_ = [(0, .pointer (some ⟨p0, 0, none⟩)), (1, .slice A1 a1.length c1), (5, .int .i64 x11), (6, .int .i64 x12)] ∧ rk_Takes.l1 n_ a1 x11 x12 x13 l16 = some r_ ∧ (SlO 205 Pair.rp (.slice A14 l16.length c15) l16 G17) ∧ St w (KS [G0]) w_ [[(p0, .cells #[.int .i64 x13, .slice A14 l16.length c15] 172 (0, 0))], G17]) k ⟨0, 0, a0.Most, A5, c6, a0.L, G7, rfl, hF, hO8, S10⟩ ?_
 rintro n22 _ w19 ⟨x11, x12, x13, A14, c15, l16, G17, rfl, hF, hO18, S20⟩
 obtain _ | k21 := n22
 · exact nomatch (show (none : Option (Int × ShR)) = some r_ from hF)
 rw [rk_Takes.l1] at hF
 refine WCode.seq ?_
 refine WCode.seq ?_
 refine WCode.region ?_
 refine WOps.p (G.move rfl) rfl ?_
 refine WOps.p (G.move rfl) rfl ?_
 refine WOps.p (G.len T.el176 rfl) rfl ?_
 refine WOps.p (G.lss rfl rfl rfl) rfl ?_
 refine WOps.nil ?_
 refine WEx.then_ ?_
 rcases ite_some hF with ⟨h24, hF⟩ | ⟨h24, hF⟩
 ·
  refine WCode.cond_t (kb (b := decide (x12 < (a1.length : Int))) rfl (decide_eq_true h24)) ?_
  refine WCode.skip ?_
  refine WEx.then_ ?_
  refine WCode.seq ?_
  refine WCode.block ?_
  refine WCode.seq ?_
  refine WCode.region ?_
  refine WOps.p (G.move rfl) rfl ?_
  refine WOps.p (G.move rfl) rfl ?_
  refine WOps.p (G.move rfl) rfl ?_
  obtain ⟨x25, hc26, hF⟩ := bind_some hF
  obtain ⟨j27, ej28, hj29, hl30⟩ := idx_spec hc26
  obtain ⟨b31, o32, cs33, eA34, hf35, hc36, hr37⟩ := SlR.at_ (hR1.ext (S20.keepF hF1)) hj29
  have hq38 : cs33 = [.string (bs x25.S), .int .i64 x25.N] := hr37
  subst hq38
  change cellsAt _ _ (o32 + j27 * 2) [.string (bs x25.S), .int .i64 x25.N] at hc36
  refine WOps.p (G.idx T.el176 rfl eA34 rfl ej28 hl30) rfl ?_
  refine WOps.r (G.loada T.agg103_2 rfl (cs := [.string (bs x25.S), .int .i64 x25.N]) hc36) rfl ?_
  have hO39 : ObjO 172 ShR.rp p0 (⟨x13, l16⟩ : ShR) ([(p0, .cells #[.int .i64 x13, .slice A14 l16.length c15] 172 (0, 0))] ++ (G17)) := ⟨_, _, ⟨A14, c15, G17, rfl, hO18, rfl⟩, rfl⟩
  have S40 : St _ _ _ [[(p0, .cells #[.int .i64 x13, .slice A14 l16.length c15] 172 (0, 0))] ++ (G17)] := S20.objs (by simp)
  obtain ⟨t41, hc42, hF⟩ := bind_some hF
  refine WOps.call T.call95 (evs_cons rfl (evs_cons rfl evs_nil)) rfl ?_
  refine (rk_Drop_calls k21 (⟨x13, l16⟩ : ShR) x25 hO39 hc42 (St.hpN (As := [[(p0, .cells #[.int .i64 x13, .slice A14 l16.length c15] 172 (0, 0))] ++ (G17)]) S40)).mono ?_
  rintro _ w43 ⟨G46, rfl, hO47, T44⟩
  have S45 := St.callN (As := [[(p0, .cells #[.int .i64 x13, .slice A14 l16.length c15] 172 (0, 0))] ++ (G17)]) S40 T44
  change St _ _ _ [G46] at S45
  refine ⟨_, rfl, ?_⟩
  obtain ⟨cs48, G49, ho50, hg51⟩ := hO47
  obtain ⟨A52, c53, G54, rfl, hO55, hq56⟩ := ho50
  have S57 : St _ _ _ [[(p0, .cells #[.int .i64 t41.2.Most, .slice A52 t41.2.L.length c53] 172 (0, 0))], G54] := S45.objs (by rw [hg51, hq56]; simp)
  refine WOps.p (G.eql rfl rfl rfl) rfl ?_
  refine WOps.nil ?_
  refine WEx.then_ ?_
  refine WCode.forget (l' := [(0, .pointer (some ⟨p0, 0, none⟩)), (1, .slice A1 a1.length c1), (5, .int .i64 x11), (6, .int .i64 x12), (19, .bool (decide (t41.1 = 0)))]) ⟨rfl, rfl, rfl, rfl, rfl, trivial⟩ ?_
  rcases ite_some hF with ⟨h58, hF⟩ | ⟨h58, hF⟩
  ·
   refine WCode.cond_t (kb (b := decide (t41.1 = 0)) rfl (decide_eq_true h58)) ?_
   refine WCode.region ?_
   refine WOps.p (G.move rfl) rfl ?_
   refine WOps.p (G.add rfl rfl (r := (w64 (x11 + 1))) rfl) rfl ?_
   refine WOps.p (G.assign rfl) rfl ?_
   refine WOps.nil ?_
   refine WEx.in_normal ?_
   refine WEx.then_ ?_
   refine WCode.region ?_
   refine WOps.p (G.move rfl) rfl ?_
   refine WOps.p (G.add rfl rfl (r := (w64 (x12 + 1))) rfl) rfl ?_
   refine WOps.p (G.assign rfl) rfl ?_
   refine WOps.nil ?_
   refine WEx.again _ _ (by omega) ?_ ⟨w64 (x11 + 1), w64 (x12 + 1), t41.2.Most, A52, c53, t41.2.L, G54, rfl, hF, hO55, S57⟩
   exact ⟨rfl, rfl, rfl, rfl, trivial⟩
  ·
   refine WCode.cond_f (kb (b := decide (t41.1 = 0)) rfl (decide_eq_false h58)) ?_
   refine WCode.skip ?_
   refine WEx.in_normal ?_
   refine WEx.then_ ?_
   refine WCode.region ?_
   refine WOps.p (G.move rfl) rfl ?_
   refine WOps.p (G.add rfl rfl (r := (w64 (x12 + 1))) rfl) rfl ?_
   refine WOps.p (G.assign rfl) rfl ?_
   refine WOps.nil ?_
   refine WEx.again _ _ (by omega) ?_ ⟨x11, w64 (x12 + 1), t41.2.Most, A52, c53, t41.2.L, G54, rfl, hF, hO55, S57⟩
   exact ⟨rfl, rfl, rfl, rfl, trivial⟩
 ·
  refine WCode.cond_f (kb (b := decide (x12 < (a1.length : Int))) rfl (decide_eq_false h24)) ?_
  refine WCode.exit ?_
  refine WEx.then_exit ?_
  refine WEx.then_exit ?_
  refine WEx.in_exit ?_
  refine WEx.then_ ?_
  refine WCode.seq ?_
  refine WCode.region ?_
  refine WOps.p (G.move rfl) rfl ?_
  refine WOps.p (G.assign rfl) rfl ?_
  refine WOps.nil ?_
  refine WEx.then_ ?_
  refine WCode.ret ?_
  obtain rfl := some_eq hF
  refine WEx.ret1 rfl rfl ?_
  have hO59 : ObjO 172 ShR.rp p0 (⟨x13, l16⟩ : ShR) ([(p0, .cells #[.int .i64 x13, .slice A14 l16.length c15] 172 (0, 0))] ++ (G17)) := ⟨_, _, ⟨A14, c15, G17, rfl, hO18, rfl⟩, rfl⟩
  have S60 : St _ _ _ [[(p0, .cells #[.int .i64 x13, .slice A14 l16.length c15] 172 (0, 0))] ++ (G17)] := S20.objs (by simp)
  exact ⟨[(p0, .cells #[.int .i64 x13, .slice A14 l16.length c15] 172 (0, 0))] ++ (G17), rfl, hO59, St.keep (As := [[(p0, .cells #[.int .i64 x13, .slice A14 l16.length c15] 172 (0, 0))] ++ (G17)]) S60⟩

end Go.Proofs.Ytoahkjehjmbojaa
