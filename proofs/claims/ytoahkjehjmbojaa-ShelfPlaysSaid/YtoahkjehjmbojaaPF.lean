/- Functions and their walks (printed by auto.py over the engine). -/
import Derived.Test.YtoahkjehjmbojaaProg
import Derived.Test.YtoahkjehjmbojaaPE
namespace Go.Proofs.Ytoahkjehjmbojaa
open Go Go.Eng
set_option linter.unusedSimpArgs false
set_option linter.unusedVariables false

theorem T.call102 : Callable Try.prog 102 := Callable.mk Try.func102 (by kernel_rfl) (by kernel_rfl)
theorem T.call120 : Callable Try.prog 120 := Callable.mk Try.func120 (by kernel_rfl) (by kernel_rfl)
theorem T.call121 : Callable Try.prog 121 := Callable.mk Try.func121 (by kernel_rfl) (by kernel_rfl)
theorem T.call122 : Callable Try.prog 122 := Callable.mk Try.func122 (by kernel_rfl) (by kernel_rfl)
theorem T.call91 : Callable Try.prog 91 := Callable.mk Try.func91 (by kernel_rfl) (by kernel_rfl)
theorem T.call93 : Callable Try.prog 93 := Callable.mk Try.func93 (by kernel_rfl) (by kernel_rfl)
theorem T.fld110_1 : fldOff Try.prog 110 1 = some 1 := by kernel_rfl
theorem T.fld110_3 : fldOff Try.prog 110 3 = some 3 := by kernel_rfl
theorem T.one104 : isOneT Try.prog 104 = true := by kernel_rfl

theorem Asked.eq_iff212 (x y : Asked) : x = y ↔ x.K.S = y.K.S ∧ x.K.N = y.K.N ∧ x.V = y.V ∧ x.Len = y.Len ∧ x.There = y.There := by
  cases x; cases y; simp [KeyS.eq_iff103, and_assoc]
theorem Asked.eqd212 (d : Nat) (a0 : List UInt8) (a1 : Int) (a2 : Int) (a3 : Int) (a4 : Int) (b0 : List UInt8) (b1 : Int) (b2 : Int) (b3 : Int) (b4 : Int) (w : World) : (Op.equalIn (d + 3) 212 (.agg #[.string (bs a0), .int .i64 a1, .int .i64 a2, .int .i64 a3, .int .i64 a4]) (.agg #[.string (bs b0), .int .i64 b1, .int .i64 b2, .int .i64 b3, .int .i64 b4])).run Try.prog w = .ok (decide (a0 = b0 ∧ a1 = b1 ∧ a2 = b2 ∧ a3 = b3 ∧ a4 = b4)) w := by
  rw [show d + 3 = (d + 2) + 1 from rfl, run_equalIn_struct w (d + 2) 212 _ _ (by kernel_rfl) (by kernel_rfl), show (Try.prog.fieldsOf 212) = _ from by unfold Program.fieldsOf; rw [Try.underlying212]]
  simp only [Op.eqFields]
  by_cases h0 : a0 = b0 <;> by_cases h1 : a1 = b1 <;> by_cases h2 : a2 = b2 <;> by_cases h3 : a3 = b3 <;> by_cases h4 : a4 = b4 <;> simp [go_sem, toList_iff, bs_inj, KeyS.eqd103, h0, h1, h2, h3, h4]
theorem Asked.eqIn212 (x y : Asked) (w : World) : (Op.equalIn 10000 212 (.agg #[.string (bs x.K.S), .int .i64 x.K.N, .int .i64 x.V, .int .i64 x.Len, .int .i64 x.There]) (.agg #[.string (bs y.K.S), .int .i64 y.K.N, .int .i64 y.V, .int .i64 y.Len, .int .i64 y.There])).run Try.prog w = .ok (decide (x = y)) w := by
  rw [show (10000 : Nat) = 9997 + 3 from rfl, Asked.eqd212]
  simp only [Asked.eq_iff212]

def sd_would.j4 (q138 : Nat) (a0_0 : ShK) (a0_2 : List Asked) (a1 : OpS) (a3 : Int) (l116 : List Asked) (x130 : Int) (l133 : List Pair) : Option (Bool × ShK × ShR × (List Asked) × (List Asked)) := (Option.bind (sh_pick q138 (w64 ((w64 (a1.N + a3)) + (l116.length : Int))) 3) fun t325 => (some (decide (0 < t325), a0_0, (⟨x130, l133⟩ : ShR), a0_2, l116)))
def sd_would.j5 (q209 : Nat) (a0_0 : ShK) (a0_1 : ShR) (a0_2 : List Asked) (a1 : OpS) (a3 : Int) (l116 : List Asked) (l204 : List KeyS) : Option (Bool × ShK × ShR × (List Asked) × (List Asked)) := (Option.bind (rk_Takes q209 a0_1 l204) fun t302 => (sd_would.j4 q209 a0_0 a0_2 a1 a3 l116 t302.2.Most t302.2.L))
def sd_would.l1 : Nat → ShK → ShR → List Asked → OpS → Int → List Asked → (List Pair) → List KeyS → Int → Option (Bool × ShK × ShR × (List Asked) × (List Asked))
  | 0, _, _, _, _, _, _, _, _, _ => none
  | k219 + 1, a0_0, a0_1, a0_2, a1, a3, l116, t191, l213, x216 => (if x216 < ((t191).length : Int) then (Option.bind (idx (t191) x216) fun x229 => (Option.bind (idx (t191) x216) fun x243 => (Option.bind (sh_wanted k219 x229.K x243.V) fun t257 => (if t257 = true then (sd_would.l1 k219 a0_0 a0_1 a0_2 a1 a3 l116 t191 l213 (w64 (x216 + 1))) else (Option.bind (idx (t191) x216) fun x263 => (Option.bind (cat l213 ([x263.K] : List KeyS)) fun l284 => (sd_would.l1 k219 a0_0 a0_1 a0_2 a1 a3 l116 t191 l284 (w64 (x216 + 1))))))))) else (sd_would.j5 k219 a0_0 a0_1 a0_2 a1 a3 l116 l213))
def sd_would.j3 (q102 : Nat) (a0_0 : ShK) (a0_1 : ShR) (a0_2 : List Asked) (a0_3 : List Asked) (a1 : OpS) (a2 : KeyS) (a3 : Int) (x38 : Int) (s40 : List UInt8) (x41 : Int) (x74 : Int) (x99 : Int) : Option (Bool × ShK × ShR × (List Asked) × (List Asked)) := (Option.bind (cat a0_3 ([(⟨a2, a3, x74, x99⟩ : Asked)] : List Asked)) fun l116 => (if x38 = 1 then (Option.bind (rk_Put q102 a0_1 (⟨s40, x41⟩ : KeyS) (w64 (-a3))) fun t146 => (sd_would.j4 q102 a0_0 a0_2 a1 a3 l116 t146.2.Most t146.2.L)) else (if x38 = 2 then (Option.bind (rk_Drop q102 a0_1 (⟨s40, x41⟩ : KeyS)) fun t171 => (sd_would.j4 q102 a0_0 a0_2 a1 a3 l116 t171.2.Most t171.2.L)) else (if x38 = 3 then (Option.bind (rk_All q102 a0_1) fun t191 => (sd_would.l1 q102 a0_0 a0_1 a0_2 a1 a3 l116 t191 [] 0)) else (sd_would.j4 q102 a0_0 a0_2 a1 a3 l116 a0_1.Most a0_1.L)))))
def sd_would.j2 (q77 : Nat) (a0_0 : ShK) (a0_1 : ShR) (a0_2 : List Asked) (a0_3 : List Asked) (a1 : OpS) (a2 : KeyS) (a3 : Int) (x38 : Int) (s40 : List UInt8) (x41 : Int) (t66 : Int × Bool) (x74 : Int) : Option (Bool × ShK × ShR × (List Asked) × (List Asked)) := (if t66.2 = true then (sd_would.j3 q77 a0_0 a0_1 a0_2 a0_3 a1 a2 a3 x38 s40 x41 x74 t66.1) else (sd_would.j3 q77 a0_0 a0_1 a0_2 a0_3 a1 a2 a3 x38 s40 x41 x74 0))
def sd_would.j1 (q44 : Nat) (a0_0 : ShK) (a0_1 : ShR) (a0_2 : List Asked) (a0_3 : List Asked) (a1 : OpS) (a2 : KeyS) (a3 : Int) (x38 : Int) (s40 : List UInt8) (x41 : Int) : Option (Bool × ShK × ShR × (List Asked) × (List Asked)) := (Option.bind (rk_Get q44 a0_1 (⟨s40, x41⟩ : KeyS)) fun t66 => (Option.bind (rk_Len q44 a0_1) fun t81 => (sd_would.j2 q44 a0_0 a0_1 a0_2 a0_3 a1 a2 a3 x38 s40 x41 t66 t81)))
def sd_would (k : Nat) (a0_0 : ShK) (a0_1 : ShR) (a0_2 : List Asked) (a0_3 : List Asked) (a1 : OpS) (a2 : KeyS) (a3 : Int) : Option (Bool × ShK × ShR × (List Asked) × (List Asked)) := (Option.bind (sh_busy k a1.M (w64 ((a0_3.length : Int) + 1))) fun t48 => (sd_would.j1 k a0_0 a0_1 a0_2 a0_3 a1 a2 a3 t48.1 t48.2.S t48.2.N))
set_option maxRecDepth 100000 in
set_option maxHeartbeats 1000000 in
theorem sd_would_calls (k : Nat) {p0 : Nat} (a0_0 : ShK) {p0_0 : Nat} {G0_0 : Grp} (a0_1 : ShR) {p0_1 : Nat} {G0_1 : Grp} (a0_2 : List Asked) {A0_2 : Option Addr} {c0_2 : Nat} {G0_2 : Grp} (a0_3 : List Asked) {A0_3 : Option Addr} {c0_3 : Nat} {G0_3 : Grp} (a1 : OpS) (a2 : KeyS) (a3 : Int) {w : World} (hO0_0 : ObjO 169 ShK.rp p0_0 a0_0 G0_0) (hO0_1 : ObjO 172 ShR.rp p0_1 a0_1 G0_1) (hO0_2 : SlO 212 Asked.rp (.slice A0_2 a0_2.length c0_2) a0_2 G0_2) (hO0_3 : SlO 212 Asked.rp (.slice A0_3 a0_3.length c0_3) a0_3 G0_3) {r_ : Bool × ShK × ShR × (List Asked) × (List Asked)} (h_ : sd_would k a0_0 a0_1 a0_2 a0_3 a1 a2 a3 = some r_) (hp_ : Hp w ([[(p0, .cells #[.pointer (some ⟨p0_0, 0, none⟩), .pointer (some ⟨p0_1, 0, none⟩), .slice A0_2 a0_2.length c0_2, .slice A0_3 a0_3.length c0_3] 110 (0, 0))], G0_0, G0_1, G0_2, G0_3]).flatten) :
    Calls Try.prog 121 [.pointer (some ⟨p0, 0, none⟩), .agg #[.int .i64 a1.Kind, .int .i64 a1.On, .string (bs a1.K.S), .int .i64 a1.K.N, .int .i64 a1.V, .int .i64 a1.N, .int .i64 a1.M], .agg #[.string (bs a2.S), .int .i64 a2.N], .int .i64 a3].toArray w fun e w' => ∃ Ge0_0' : Grp, ∃ Ge0_1' : Grp, ∃ Ae0_2' : Option Addr, ∃ ce0_2' : Nat, ∃ Ge0_2' : Grp, ∃ Ae0_3' : Option Addr, ∃ ce0_3' : Nat, ∃ Ge0_3' : Grp, e = .returned (.bool r_.1) ∧ ObjO 169 ShK.rp p0_0 (r_.2.1) Ge0_0' ∧ ObjO 172 ShR.rp p0_1 (r_.2.2.1) Ge0_1' ∧ SlO 212 Asked.rp (.slice Ae0_2' (r_.2.2.2.1).length ce0_2') (r_.2.2.2.1) Ge0_2' ∧ SlO 212 Asked.rp (.slice Ae0_3' (r_.2.2.2.2).length ce0_3') (r_.2.2.2.2) Ge0_3' ∧ St w (KS [[(p0, .cells #[.pointer (some ⟨p0_0, 0, none⟩), .pointer (some ⟨p0_1, 0, none⟩), .slice A0_2 a0_2.length c0_2, .slice A0_3 a0_3.length c0_3] 110 (0, 0))], G0_0, G0_1, G0_2, G0_3]) w' [[(p0, .cells #[.pointer (some ⟨p0_0, 0, none⟩), .pointer (some ⟨p0_1, 0, none⟩), .slice Ae0_2' (r_.2.2.2.1).length ce0_2', .slice Ae0_3' (r_.2.2.2.2).length ce0_3'] 110 (0, 0))], Ge0_0', Ge0_1', Ge0_2', Ge0_3'] := by
 have hF := h_
 clear h_
 unfold sd_would at hF
 have S := St.initK [[(p0, .cells #[.pointer (some ⟨p0_0, 0, none⟩), .pointer (some ⟨p0_1, 0, none⟩), .slice A0_2 a0_2.length c0_2, .slice A0_3 a0_3.length c0_3] 110 (0, 0))], G0_0, G0_1, G0_2, G0_3] hp_
 have S4 := S.front 1 rfl
 change St _ _ _ [G0_0, [(p0, .cells #[.pointer (some ⟨p0_0, 0, none⟩), .pointer (some ⟨p0_1, 0, none⟩), .slice A0_2 a0_2.length c0_2, .slice A0_3 a0_3.length c0_3] 110 (0, 0))], G0_1, G0_2, G0_3] at S4
 obtain ⟨cs5, G6, ho7, hg8⟩ := hO0_0
 obtain ⟨A9, c10, G11, rfl, hO12, hq13⟩ := ho7
 have S14 : St _ _ _ [[(p0_0, .cells #[.int .i64 a0_0.most, .slice A9 a0_0.pairs.length c10] 169 (0, 0))], G11, [(p0, .cells #[.pointer (some ⟨p0_0, 0, none⟩), .pointer (some ⟨p0_1, 0, none⟩), .slice A0_2 a0_2.length c0_2, .slice A0_3 a0_3.length c0_3] 110 (0, 0))], G0_1, G0_2, G0_3] := S4.objs (by rw [hg8, hq13]; simp)
 have S15 := S14.front 3 rfl
 change St _ _ _ [G0_1, [(p0_0, .cells #[.int .i64 a0_0.most, .slice A9 a0_0.pairs.length c10] 169 (0, 0))], G11, [(p0, .cells #[.pointer (some ⟨p0_0, 0, none⟩), .pointer (some ⟨p0_1, 0, none⟩), .slice A0_2 a0_2.length c0_2, .slice A0_3 a0_3.length c0_3] 110 (0, 0))], G0_2, G0_3] at S15
 obtain ⟨cs16, G17, ho18, hg19⟩ := hO0_1
 obtain ⟨A20, c21, G22, rfl, hO23, hq24⟩ := ho18
 have S25 : St _ _ _ [[(p0_1, .cells #[.int .i64 a0_1.Most, .slice A20 a0_1.L.length c21] 172 (0, 0))], G22, [(p0_0, .cells #[.int .i64 a0_0.most, .slice A9 a0_0.pairs.length c10] 169 (0, 0))], G11, [(p0, .cells #[.pointer (some ⟨p0_0, 0, none⟩), .pointer (some ⟨p0_1, 0, none⟩), .slice A0_2 a0_2.length c0_2, .slice A0_3 a0_3.length c0_3] 110 (0, 0))], G0_2, G0_3] := S15.objs (by rw [hg19, hq24]; simp)
 refine enter 131 [(0, .pointer (some ⟨p0, 0, none⟩)), (1, .agg #[.int .i64 a1.Kind, .int .i64 a1.On, .string (bs a1.K.S), .int .i64 a1.K.N, .int .i64 a1.V, .int .i64 a1.N, .int .i64 a1.M]), (2, .agg #[.string (bs a2.S), .int .i64 a2.N]), (3, .int .i64 a3)] Try.func121 rfl rfl rfl rfl ?_
 refine WCode.seq ?_
 refine WCode.region ?_
 obtain ⟨b26, w27, E28, S29, X30, L31⟩ := St.box S25 Try.prog 116 (.agg #[.int .i64 a1.Kind, .int .i64 a1.On, .string (bs a1.K.S), .int .i64 a1.K.N, .int .i64 a1.V, .int .i64 a1.N, .int .i64 a1.M])
 change St _ _ _ [[(b26, .cells #[.int .i64 a1.Kind, .int .i64 a1.On, .string (bs a1.K.S), .int .i64 a1.K.N, .int .i64 a1.V, .int .i64 a1.N, .int .i64 a1.M] 116 (0, 0))], [(p0_1, .cells #[.int .i64 a0_1.Most, .slice A20 a0_1.L.length c21] 172 (0, 0))], G22, [(p0_0, .cells #[.int .i64 a0_0.most, .slice A9 a0_0.pairs.length c10] 169 (0, 0))], G11, [(p0, .cells #[.pointer (some ⟨p0_0, 0, none⟩), .pointer (some ⟨p0_1, 0, none⟩), .slice A0_2 a0_2.length c0_2, .slice A0_3 a0_3.length c0_3] 110 (0, 0))], G0_2, G0_3] at S29
 refine WOps.e (E28 rfl) rfl ?_
 obtain ⟨b32, w33, E34, S35, X36, L37⟩ := St.box S29 Try.prog 103 (.agg #[.string (bs a2.S), .int .i64 a2.N])
 change St _ _ _ [[(b32, .cells #[.string (bs a2.S), .int .i64 a2.N] 103 (0, 0))], [(b26, .cells #[.int .i64 a1.Kind, .int .i64 a1.On, .string (bs a1.K.S), .int .i64 a1.K.N, .int .i64 a1.V, .int .i64 a1.N, .int .i64 a1.M] 116 (0, 0))], [(p0_1, .cells #[.int .i64 a0_1.Most, .slice A20 a0_1.L.length c21] 172 (0, 0))], G22, [(p0_0, .cells #[.int .i64 a0_0.most, .slice A9 a0_0.pairs.length c10] 169 (0, 0))], G11, [(p0, .cells #[.pointer (some ⟨p0_0, 0, none⟩), .pointer (some ⟨p0_1, 0, none⟩), .slice A0_2 a0_2.length c0_2, .slice A0_3 a0_3.length c0_3] 110 (0, 0))], G0_2, G0_3] at S35
 refine WOps.e (E34 rfl) rfl ?_
 refine WOps.p (G.assign rfl) rfl ?_
 refine WOps.nil ?_
 refine WEx.then_ ?_
 refine WCode.cutseq (fun l_ w_ => ∃ q44 : Nat, ∃ x38 : Int, ∃ b39 : Nat, ∃ s40 : List UInt8, ∃ x41 : Int, l_ = [(0, .pointer (some ⟨p0, 0, none⟩)), (3, .int .i64 a3), (5, .pointer (some ⟨b26, 0, none⟩)), (6, .pointer (some ⟨b32, 0, none⟩)), (9, .int .i64 x38), (10, .pointer (some ⟨b39, 0, none⟩))] ∧ sd_would.j1 q44 a0_0 a0_1 a0_2 a0_3 a1 a2 a3 x38 s40 x41 = some r_ ∧ St w (KS [[(p0, .cells #[.pointer (some ⟨p0_0, 0, none⟩), .pointer (some ⟨p0_1, 0, none⟩), .slice A0_2 a0_2.length c0_2, .slice A0_3 a0_3.length c0_3] 110 (0, 0))], G0_0, G0_1, G0_2, G0_3]) w_ [[(b32, .cells #[.string (bs a2.S), .int .i64 a2.N] 103 (0, 0))], [(b26, .cells #[.int .i64 a1.Kind, .int .i64 a1.On, .string (bs a1.K.S), .int .i64 a1.K.N, .int .i64 a1.V, .int .i64 a1.N, .int .i64 a1.M] 116 (0, 0))], [(p0_1, .cells #[.int .i64 a0_1.Most, .slice A20 a0_1.L.length c21] 172 (0, 0))], [(p0_0, .cells #[.int .i64 a0_0.most, .slice A9 a0_0.pairs.length c10] 169 (0, 0))], [(p0, .cells #[.pointer (some ⟨p0_0, 0, none⟩), .pointer (some ⟨p0_1, 0, none⟩), .slice A0_2 a0_2.length c0_2, .slice A0_3 a0_3.length c0_3] 110 (0, 0))], [(b39, .cells #[.string (bs s40), .int .i64 x41] 103 (0, 0))], G22, G11, G0_2, G0_3]) ?_ ?_
 ·
  refine WCode.drawH (.one 0 0 (.one 2 0 (.one 3 0 (.one 4 0 (.one 1 1 (.one 5 1 (.one 6 0 (.one 7 0 (.fork 8 (.one 9 0 (.one 10 0 (.one 11 0 (.one 12 2 (.one 13 0 (.one 14 2 .nil)))))) 12 (.one 8 2 (.one 9 0 (.one 10 0 (.one 11 0 (.one 13 0 (.one 14 2 .nil))))))))))))))) (fun W_ => cellsAt W_ b26 0 [.int .i64 a1.Kind, .int .i64 a1.On, .string (bs a1.K.S), .int .i64 a1.K.N, .int .i64 a1.V, .int .i64 a1.N, .int .i64 a1.M] ∧ cellsAt W_ p0 0 [.pointer (some ⟨p0_0, 0, none⟩), .pointer (some ⟨p0_1, 0, none⟩), .slice A0_2 a0_2.length c0_2, .slice A0_3 a0_3.length c0_3] ∧ True) T.mixed (by kernel_rfl) (by intro _ _ d _ _ h; cases d <;> exact h) rfl rfl (by kernel_rfl) ?_ ?_
  all_goals have S46 := S35.drew
  all_goals generalize w33.drew = w47 at *
  · exact ⟨cellsAt.of_blk (S46.blk 1 rfl) rfl, cellsAt.of_blk (S46.blk 6 rfl) rfl, trivial⟩
  refine WH.p rfl wants (G.field T.fld116_5 rfl (show 0 + 6 = 6 from rfl)) rfl ?_
  refine WH.p rfl wants (G.move rfl) rfl ?_
  refine WH.p rfl wants (G.nilp rfl) rfl ?_
  refine WH.p rfl wants (G.field T.fld110_3 rfl (show 0 + 3 = 3 from rfl)) rfl ?_
  refine WH.r rfl wants (fun _ h_ => G.load1 T.one3 rfl (cellsAt.at h_.1 6 rfl)) rfl ?_
  refine WH.r rfl wants (fun _ h_ => G.load1 T.one108 rfl (cellsAt.at h_.2.1 3 rfl)) rfl ?_
  refine WH.p rfl wants (G.len T.el108 rfl) rfl ?_
  refine WH.p rfl wants (G.add rfl rfl (r := (w64 ((a0_3.length : Int) + 1))) rfl) rfl ?_
  obtain ⟨t48, hc49, hF⟩ := bind_some hF
  refine WH.fork ?_ ?_
  ·
   refine WH.call rfl wants T.call130 (evs_cons rfl (evs_cons rfl evs_nil)) rfl ?_
   refine (sh_busy_calls k a1.M (w64 ((a0_3.length : Int) + 1)) hc49).mono ?_
   rintro _ w50 ⟨rfl, T51⟩
   have S52 := St.callN (As := []) S46 T51
   change St _ _ _ [[(b32, .cells #[.string (bs a2.S), .int .i64 a2.N] 103 (0, 0))], [(b26, .cells #[.int .i64 a1.Kind, .int .i64 a1.On, .string (bs a1.K.S), .int .i64 a1.K.N, .int .i64 a1.V, .int .i64 a1.N, .int .i64 a1.M] 116 (0, 0))], [(p0_1, .cells #[.int .i64 a0_1.Most, .slice A20 a0_1.L.length c21] 172 (0, 0))], G22, [(p0_0, .cells #[.int .i64 a0_0.most, .slice A9 a0_0.pairs.length c10] 169 (0, 0))], G11, [(p0, .cells #[.pointer (some ⟨p0_0, 0, none⟩), .pointer (some ⟨p0_1, 0, none⟩), .slice A0_2 a0_2.length c0_2, .slice A0_3 a0_3.length c0_3] 110 (0, 0))], G0_2, G0_3] at S52
   refine ⟨_, rfl, ?_⟩
   refine ⟨⟨cellsAt.of_blk (S52.blk 1 rfl) rfl, cellsAt.of_blk (S52.blk 6 rfl) rfl, trivial⟩, ?_⟩
   refine WH.p rfl wants (G.move rfl) rfl ?_
   refine WH.p rfl wants (G.extract rfl rfl) rfl ?_
   refine WH.p rfl wants (G.extract rfl rfl) rfl ?_
   obtain ⟨b53, w54, E55, S56, X57, L58⟩ := St.var S52 (z := .agg #[.string (bs ([] : List UInt8)), .int .i64 0]) T.zero103
   change St _ _ _ [[(b53, .cells #[.string (bs ([] : List UInt8)), .int .i64 0] 103 (0, 0))], [(b32, .cells #[.string (bs a2.S), .int .i64 a2.N] 103 (0, 0))], [(b26, .cells #[.int .i64 a1.Kind, .int .i64 a1.On, .string (bs a1.K.S), .int .i64 a1.K.N, .int .i64 a1.V, .int .i64 a1.N, .int .i64 a1.M] 116 (0, 0))], [(p0_1, .cells #[.int .i64 a0_1.Most, .slice A20 a0_1.L.length c21] 172 (0, 0))], G22, [(p0_0, .cells #[.int .i64 a0_0.most, .slice A9 a0_0.pairs.length c10] 169 (0, 0))], G11, [(p0, .cells #[.pointer (some ⟨p0_0, 0, none⟩), .pointer (some ⟨p0_1, 0, none⟩), .slice A0_2 a0_2.length c0_2, .slice A0_3 a0_3.length c0_3] 110 (0, 0))], G0_2, G0_3] at S56
   refine WH.e rfl wants E55 rfl ⟨cellsAt.of_blk (S56.blk 2 rfl) rfl, cellsAt.of_blk (S56.blk 7 rfl) rfl, trivial⟩ ?_
   refine WH.p rfl wants (G.assign rfl) rfl ?_
   obtain ⟨w59, E60, S61⟩ := St.store (P := Try.prog) S56 0 103 (.agg #[.string (bs t48.2.S), .int .i64 t48.2.N]) (off := 0) (cur' := #[.string (bs t48.2.S), .int .i64 t48.2.N]) rfl T.size103_2 rfl rfl rfl
   change St _ _ _ [[(b53, .cells #[.string (bs t48.2.S), .int .i64 t48.2.N] 103 (0, 0))], [(b32, .cells #[.string (bs a2.S), .int .i64 a2.N] 103 (0, 0))], [(b26, .cells #[.int .i64 a1.Kind, .int .i64 a1.On, .string (bs a1.K.S), .int .i64 a1.K.N, .int .i64 a1.V, .int .i64 a1.N, .int .i64 a1.M] 116 (0, 0))], [(p0_1, .cells #[.int .i64 a0_1.Most, .slice A20 a0_1.L.length c21] 172 (0, 0))], G22, [(p0_0, .cells #[.int .i64 a0_0.most, .slice A9 a0_0.pairs.length c10] 169 (0, 0))], G11, [(p0, .cells #[.pointer (some ⟨p0_0, 0, none⟩), .pointer (some ⟨p0_1, 0, none⟩), .slice A0_2 a0_2.length c0_2, .slice A0_3 a0_3.length c0_3] 110 (0, 0))], G0_2, G0_3] at S61
   refine WH.u rfl wants (E60 rfl rfl) ⟨cellsAt.of_blk (S61.blk 2 rfl) rfl, cellsAt.of_blk (S61.blk 7 rfl) rfl, trivial⟩ ?_
   refine WH.nil ?_
   have S62 : St _ _ _ [[(b32, .cells #[.string (bs a2.S), .int .i64 a2.N] 103 (0, 0))], [(b26, .cells #[.int .i64 a1.Kind, .int .i64 a1.On, .string (bs a1.K.S), .int .i64 a1.K.N, .int .i64 a1.V, .int .i64 a1.N, .int .i64 a1.M] 116 (0, 0))], [(p0_1, .cells #[.int .i64 a0_1.Most, .slice A20 a0_1.L.length c21] 172 (0, 0))], [(p0_0, .cells #[.int .i64 a0_0.most, .slice A9 a0_0.pairs.length c10] 169 (0, 0))], [(p0, .cells #[.pointer (some ⟨p0_0, 0, none⟩), .pointer (some ⟨p0_1, 0, none⟩), .slice A0_2 a0_2.length c0_2, .slice A0_3 a0_3.length c0_3] 110 (0, 0))], [(b53, .cells #[.string (bs t48.2.S), .int .i64 t48.2.N] 103 (0, 0))], G22, G11, G0_2, G0_3] := St.reord S61 [1, 2, 3, 5, 7, 0, 4, 6, 8, 9] 10 rfl (by decide) rfl
   refine WEx.cutend _ ?_ ⟨k, t48.1, b53, t48.2.S, t48.2.N, rfl, hF, S62⟩
   exact ⟨rfl, rfl, rfl, rfl, rfl, rfl, trivial⟩
  ·
   obtain ⟨b50, w51, E52, S53, X54, L55⟩ := St.var S46 (z := .agg #[.string (bs ([] : List UInt8)), .int .i64 0]) T.zero103
   change St _ _ _ [[(b50, .cells #[.string (bs ([] : List UInt8)), .int .i64 0] 103 (0, 0))], [(b32, .cells #[.string (bs a2.S), .int .i64 a2.N] 103 (0, 0))], [(b26, .cells #[.int .i64 a1.Kind, .int .i64 a1.On, .string (bs a1.K.S), .int .i64 a1.K.N, .int .i64 a1.V, .int .i64 a1.N, .int .i64 a1.M] 116 (0, 0))], [(p0_1, .cells #[.int .i64 a0_1.Most, .slice A20 a0_1.L.length c21] 172 (0, 0))], G22, [(p0_0, .cells #[.int .i64 a0_0.most, .slice A9 a0_0.pairs.length c10] 169 (0, 0))], G11, [(p0, .cells #[.pointer (some ⟨p0_0, 0, none⟩), .pointer (some ⟨p0_1, 0, none⟩), .slice A0_2 a0_2.length c0_2, .slice A0_3 a0_3.length c0_3] 110 (0, 0))], G0_2, G0_3] at S53
   refine WH.e rfl wants E52 rfl ⟨cellsAt.of_blk (S53.blk 2 rfl) rfl, cellsAt.of_blk (S53.blk 7 rfl) rfl, trivial⟩ ?_
   refine WH.call rfl wants T.call130 (evs_cons rfl (evs_cons rfl evs_nil)) rfl ?_
   refine (sh_busy_calls k a1.M (w64 ((a0_3.length : Int) + 1)) hc49).mono ?_
   rintro _ w56 ⟨rfl, T57⟩
   have S58 := St.callN (As := []) S53 T57
   change St _ _ _ [[(b50, .cells #[.string (bs ([] : List UInt8)), .int .i64 0] 103 (0, 0))], [(b32, .cells #[.string (bs a2.S), .int .i64 a2.N] 103 (0, 0))], [(b26, .cells #[.int .i64 a1.Kind, .int .i64 a1.On, .string (bs a1.K.S), .int .i64 a1.K.N, .int .i64 a1.V, .int .i64 a1.N, .int .i64 a1.M] 116 (0, 0))], [(p0_1, .cells #[.int .i64 a0_1.Most, .slice A20 a0_1.L.length c21] 172 (0, 0))], G22, [(p0_0, .cells #[.int .i64 a0_0.most, .slice A9 a0_0.pairs.length c10] 169 (0, 0))], G11, [(p0, .cells #[.pointer (some ⟨p0_0, 0, none⟩), .pointer (some ⟨p0_1, 0, none⟩), .slice A0_2 a0_2.length c0_2, .slice A0_3 a0_3.length c0_3] 110 (0, 0))], G0_2, G0_3] at S58
   refine ⟨_, rfl, ?_⟩
   refine ⟨⟨cellsAt.of_blk (S58.blk 2 rfl) rfl, cellsAt.of_blk (S58.blk 7 rfl) rfl, trivial⟩, ?_⟩
   refine WH.p rfl wants (G.move rfl) rfl ?_
   refine WH.p rfl wants (G.extract rfl rfl) rfl ?_
   refine WH.p rfl wants (G.extract rfl rfl) rfl ?_
   refine WH.p rfl wants (G.assign rfl) rfl ?_
   obtain ⟨w59, E60, S61⟩ := St.store (P := Try.prog) S58 0 103 (.agg #[.string (bs t48.2.S), .int .i64 t48.2.N]) (off := 0) (cur' := #[.string (bs t48.2.S), .int .i64 t48.2.N]) rfl T.size103_2 rfl rfl rfl
   change St _ _ _ [[(b50, .cells #[.string (bs t48.2.S), .int .i64 t48.2.N] 103 (0, 0))], [(b32, .cells #[.string (bs a2.S), .int .i64 a2.N] 103 (0, 0))], [(b26, .cells #[.int .i64 a1.Kind, .int .i64 a1.On, .string (bs a1.K.S), .int .i64 a1.K.N, .int .i64 a1.V, .int .i64 a1.N, .int .i64 a1.M] 116 (0, 0))], [(p0_1, .cells #[.int .i64 a0_1.Most, .slice A20 a0_1.L.length c21] 172 (0, 0))], G22, [(p0_0, .cells #[.int .i64 a0_0.most, .slice A9 a0_0.pairs.length c10] 169 (0, 0))], G11, [(p0, .cells #[.pointer (some ⟨p0_0, 0, none⟩), .pointer (some ⟨p0_1, 0, none⟩), .slice A0_2 a0_2.length c0_2, .slice A0_3 a0_3.length c0_3] 110 (0, 0))], G0_2, G0_3] at S61
   refine WH.u rfl wants (E60 rfl rfl) ⟨cellsAt.of_blk (S61.blk 2 rfl) rfl, cellsAt.of_blk (S61.blk 7 rfl) rfl, trivial⟩ ?_
   refine WH.nil ?_
   have S62 : St _ _ _ [[(b32, .cells #[.string (bs a2.S), .int .i64 a2.N] 103 (0, 0))], [(b26, .cells #[.int .i64 a1.Kind, .int .i64 a1.On, .string (bs a1.K.S), .int .i64 a1.K.N, .int .i64 a1.V, .int .i64 a1.N, .int .i64 a1.M] 116 (0, 0))], [(p0_1, .cells #[.int .i64 a0_1.Most, .slice A20 a0_1.L.length c21] 172 (0, 0))], [(p0_0, .cells #[.int .i64 a0_0.most, .slice A9 a0_0.pairs.length c10] 169 (0, 0))], [(p0, .cells #[.pointer (some ⟨p0_0, 0, none⟩), .pointer (some ⟨p0_1, 0, none⟩), .slice A0_2 a0_2.length c0_2, .slice A0_3 a0_3.length c0_3] 110 (0, 0))], [(b50, .cells #[.string (bs t48.2.S), .int .i64 t48.2.N] 103 (0, 0))], G22, G11, G0_2, G0_3] := St.reord S61 [1, 2, 3, 5, 7, 0, 4, 6, 8, 9] 10 rfl (by decide) rfl
   refine WEx.cutend _ ?_ ⟨k, t48.1, b50, t48.2.S, t48.2.N, rfl, hF, S62⟩
   exact ⟨rfl, rfl, rfl, rfl, rfl, rfl, trivial⟩
 ·
  rintro _ w42 ⟨q44, x38, b39, s40, x41, rfl, hF, S43⟩
  unfold sd_would.j1 at hF
  refine WCode.seq ?_
  refine WCode.draw [⟨0, 0, []⟩, ⟨1, 0, []⟩, ⟨2, 0, []⟩, ⟨3, 1, [5, 6, 7, 8, 9, 10]⟩, ⟨4, 1, [5, 6, 7, 8, 9, 10]⟩, ⟨5, 2, []⟩, ⟨6, 0, []⟩, ⟨7, 0, []⟩, ⟨8, 0, []⟩, ⟨9, 0, []⟩, ⟨10, 0, []⟩] T.mixed (by kernel_rfl) (by intro _ _ d _ _ h; cases d <;> exact h) rfl (by kernel_rfl) ?_
  have S63 := S43.drew
  generalize w42.drew = w65 at *
  refine WD.p rfl (G.move rfl) rfl ?_
  refine WD.p rfl (G.nilp rfl) rfl ?_
  refine WD.p rfl (G.field T.fld110_1 rfl (show 0 + 1 = 1 from rfl)) rfl ?_
  refine WD.r rfl (G.load1 T.one104 rfl (cell_blk (S63.blk 4 rfl) rfl)) rfl ?_
  refine WD.r rfl (G.loada T.agg103_2 rfl (cs := [.string (bs s40), .int .i64 x41]) (cellsAt.of_blk (S63.blk 5 rfl) rfl)) rfl ?_
  obtain ⟨t66, hc67, hF⟩ := bind_some hF
  have S68 := (S63.front 6 rfl).front 3 rfl
  change St _ _ _ [[(p0_1, .cells #[.int .i64 a0_1.Most, .slice A20 a0_1.L.length c21] 172 (0, 0))], G22, [(b32, .cells #[.string (bs a2.S), .int .i64 a2.N] 103 (0, 0))], [(b26, .cells #[.int .i64 a1.Kind, .int .i64 a1.On, .string (bs a1.K.S), .int .i64 a1.K.N, .int .i64 a1.V, .int .i64 a1.N, .int .i64 a1.M] 116 (0, 0))], [(p0_0, .cells #[.int .i64 a0_0.most, .slice A9 a0_0.pairs.length c10] 169 (0, 0))], [(p0, .cells #[.pointer (some ⟨p0_0, 0, none⟩), .pointer (some ⟨p0_1, 0, none⟩), .slice A0_2 a0_2.length c0_2, .slice A0_3 a0_3.length c0_3] 110 (0, 0))], [(b39, .cells #[.string (bs s40), .int .i64 x41] 103 (0, 0))], G11, G0_2, G0_3] at S68
  have hP69 : PtR 172 ShR.rp w65 (KS [[(p0_1, .cells #[.int .i64 a0_1.Most, .slice A20 a0_1.L.length c21] 172 (0, 0))], G22]) p0_1 a0_1 := ⟨_, S68.blk 0 rfl, KS_at 0 rfl (by simp [keys]), ⟨A20, c21, rfl, ((hO23.rd (fun b o hb => S68.grp 1 rfl hb)).mono (fun b hb => KS_at 1 rfl hb))⟩⟩
  refine WD.call rfl T.call93 (evs_cons rfl (evs_cons rfl evs_nil)) rfl ?_
  refine (rk_Get_calls q44 a0_1 (⟨s40, x41⟩ : KeyS) hP69 (St.outN (Bs := []) (As := [[(p0_1, .cells #[.int .i64 a0_1.Most, .slice A20 a0_1.L.length c21] 172 (0, 0))], G22]) S68) hc67).mono ?_
  rintro _ w70 ⟨rfl, T71⟩
  have S72 := St.callN (As := []) S68 T71
  change St _ _ _ [[(p0_1, .cells #[.int .i64 a0_1.Most, .slice A20 a0_1.L.length c21] 172 (0, 0))], G22, [(b32, .cells #[.string (bs a2.S), .int .i64 a2.N] 103 (0, 0))], [(b26, .cells #[.int .i64 a1.Kind, .int .i64 a1.On, .string (bs a1.K.S), .int .i64 a1.K.N, .int .i64 a1.V, .int .i64 a1.N, .int .i64 a1.M] 116 (0, 0))], [(p0_0, .cells #[.int .i64 a0_0.most, .slice A9 a0_0.pairs.length c10] 169 (0, 0))], [(p0, .cells #[.pointer (some ⟨p0_0, 0, none⟩), .pointer (some ⟨p0_1, 0, none⟩), .slice A0_2 a0_2.length c0_2, .slice A0_3 a0_3.length c0_3] 110 (0, 0))], [(b39, .cells #[.string (bs s40), .int .i64 x41] 103 (0, 0))], G11, G0_2, G0_3] at S72
  refine ⟨_, rfl, ?_⟩
  refine WD.p rfl (G.move rfl) rfl ?_
  refine WD.p rfl (G.extract rfl rfl) rfl ?_
  refine WD.p rfl (G.extract rfl rfl) rfl ?_
  refine WD.p rfl (G.assign rfl) rfl ?_
  refine WD.p rfl (G.assign rfl) rfl ?_
  refine WD.nil ?_
  refine WEx.then_ ?_
  refine WCode.cutseq (fun l_ w_ => ∃ q77 : Nat, ∃ b73 : Nat, ∃ x74 : Int, l_ = [(0, .pointer (some ⟨p0, 0, none⟩)), (3, .int .i64 a3), (5, .pointer (some ⟨b26, 0, none⟩)), (9, .int .i64 x38), (10, .pointer (some ⟨b39, 0, none⟩)), (11, .int .i64 t66.1), (12, .bool t66.2), (13, .pointer (some ⟨b73, 0, none⟩))] ∧ sd_would.j2 q77 a0_0 a0_1 a0_2 a0_3 a1 a2 a3 x38 s40 x41 t66 x74 = some r_ ∧ St w (KS [[(p0, .cells #[.pointer (some ⟨p0_0, 0, none⟩), .pointer (some ⟨p0_1, 0, none⟩), .slice A0_2 a0_2.length c0_2, .slice A0_3 a0_3.length c0_3] 110 (0, 0))], G0_0, G0_1, G0_2, G0_3]) w_ [[(p0_1, .cells #[.int .i64 a0_1.Most, .slice A20 a0_1.L.length c21] 172 (0, 0))], [(b26, .cells #[.int .i64 a1.Kind, .int .i64 a1.On, .string (bs a1.K.S), .int .i64 a1.K.N, .int .i64 a1.V, .int .i64 a1.N, .int .i64 a1.M] 116 (0, 0))], [(p0_0, .cells #[.int .i64 a0_0.most, .slice A9 a0_0.pairs.length c10] 169 (0, 0))], [(p0, .cells #[.pointer (some ⟨p0_0, 0, none⟩), .pointer (some ⟨p0_1, 0, none⟩), .slice A0_2 a0_2.length c0_2, .slice A0_3 a0_3.length c0_3] 110 (0, 0))], [(b39, .cells #[.string (bs s40), .int .i64 x41] 103 (0, 0))], [(b73, .cells #[.string (bs a2.S), .int .i64 a2.N, .int .i64 a3, .int .i64 x74, .int .i64 0] 212 (0, 0))], G22, G11, G0_2, G0_3]) ?_ ?_
  ·
   refine WCode.drawH (.one 1 0 (.one 2 0 (.one 3 0 (.one 4 0 (.one 0 1 (.one 5 1 (.fork 6 (.one 7 0 (.one 8 2 (.one 9 2 .nil))) 8 (.one 6 2 (.one 7 0 (.one 9 2 .nil)))))))))) (fun W_ => cellsAt W_ b32 0 [.string (bs a2.S), .int .i64 a2.N] ∧ cellsAt W_ p0 0 [.pointer (some ⟨p0_0, 0, none⟩), .pointer (some ⟨p0_1, 0, none⟩), .slice A0_2 a0_2.length c0_2, .slice A0_3 a0_3.length c0_3] ∧ True) T.mixed (by kernel_rfl) (by intro _ _ d _ _ h; cases d <;> exact h) rfl rfl (by kernel_rfl) ?_ ?_
   all_goals have S79 := S72.drew
   all_goals generalize w70.drew = w80 at *
   · exact ⟨cellsAt.of_blk (S79.blk 2 rfl) rfl, cellsAt.of_blk (S79.blk 5 rfl) rfl, trivial⟩
   refine WH.p rfl wants (G.move rfl) rfl ?_
   refine WH.p rfl wants (G.move rfl) rfl ?_
   refine WH.p rfl wants (G.nilp rfl) rfl ?_
   refine WH.p rfl wants (G.field T.fld110_1 rfl (show 0 + 1 = 1 from rfl)) rfl ?_
   refine WH.r rfl wants (fun _ h_ => G.loada T.agg103_2 rfl (cs := [.string (bs a2.S), .int .i64 a2.N]) (cellsAt.part h_.1 0 rfl)) rfl ?_
   refine WH.r rfl wants (fun _ h_ => G.load1 T.one104 rfl (cellsAt.at h_.2.1 1 rfl)) rfl ?_
   obtain ⟨t81, hc82, hF⟩ := bind_some hF
   refine WH.fork ?_ ?_
   ·
    have hP83 : PtR 172 ShR.rp w80 (KS [[(p0_1, .cells #[.int .i64 a0_1.Most, .slice A20 a0_1.L.length c21] 172 (0, 0))], G22]) p0_1 a0_1 := ⟨_, S79.blk 0 rfl, KS_at 0 rfl (by simp [keys]), ⟨A20, c21, rfl, ((hO23.rd (fun b o hb => S79.grp 1 rfl hb)).mono (fun b hb => KS_at 1 rfl hb))⟩⟩
    refine WH.call rfl wants T.call102 (evs_cons rfl evs_nil) rfl ?_
    refine (rk_Len_calls q44 a0_1 hP83 (St.outN (Bs := []) (As := [[(p0_1, .cells #[.int .i64 a0_1.Most, .slice A20 a0_1.L.length c21] 172 (0, 0))], G22]) S79) hc82).mono ?_
    rintro _ w84 ⟨rfl, T85⟩
    have S86 := St.callN (As := []) S79 T85
    change St _ _ _ [[(p0_1, .cells #[.int .i64 a0_1.Most, .slice A20 a0_1.L.length c21] 172 (0, 0))], G22, [(b32, .cells #[.string (bs a2.S), .int .i64 a2.N] 103 (0, 0))], [(b26, .cells #[.int .i64 a1.Kind, .int .i64 a1.On, .string (bs a1.K.S), .int .i64 a1.K.N, .int .i64 a1.V, .int .i64 a1.N, .int .i64 a1.M] 116 (0, 0))], [(p0_0, .cells #[.int .i64 a0_0.most, .slice A9 a0_0.pairs.length c10] 169 (0, 0))], [(p0, .cells #[.pointer (some ⟨p0_0, 0, none⟩), .pointer (some ⟨p0_1, 0, none⟩), .slice A0_2 a0_2.length c0_2, .slice A0_3 a0_3.length c0_3] 110 (0, 0))], [(b39, .cells #[.string (bs s40), .int .i64 x41] 103 (0, 0))], G11, G0_2, G0_3] at S86
    refine ⟨_, rfl, ?_⟩
    refine ⟨⟨cellsAt.of_blk (S86.blk 2 rfl) rfl, cellsAt.of_blk (S86.blk 5 rfl) rfl, trivial⟩, ?_⟩
    refine WH.p rfl wants (G.build (cells := #[.string (bs a2.S), .int .i64 a2.N, .int .i64 a3, .int .i64 t81, .int .i64 0]) (evp_spec (evp_cons rfl (evp_cons rfl (evp_cons rfl evp_nil)))) (by kernel_rfl)) rfl ?_
    obtain ⟨b87, w88, E89, S90, X91, L92⟩ := St.var S86 (z := .agg #[.string (bs ([] : List UInt8)), .int .i64 0, .int .i64 0, .int .i64 0, .int .i64 0]) T.zero212
    change St _ _ _ [[(b87, .cells #[.string (bs ([] : List UInt8)), .int .i64 0, .int .i64 0, .int .i64 0, .int .i64 0] 212 (0, 0))], [(p0_1, .cells #[.int .i64 a0_1.Most, .slice A20 a0_1.L.length c21] 172 (0, 0))], G22, [(b32, .cells #[.string (bs a2.S), .int .i64 a2.N] 103 (0, 0))], [(b26, .cells #[.int .i64 a1.Kind, .int .i64 a1.On, .string (bs a1.K.S), .int .i64 a1.K.N, .int .i64 a1.V, .int .i64 a1.N, .int .i64 a1.M] 116 (0, 0))], [(p0_0, .cells #[.int .i64 a0_0.most, .slice A9 a0_0.pairs.length c10] 169 (0, 0))], [(p0, .cells #[.pointer (some ⟨p0_0, 0, none⟩), .pointer (some ⟨p0_1, 0, none⟩), .slice A0_2 a0_2.length c0_2, .slice A0_3 a0_3.length c0_3] 110 (0, 0))], [(b39, .cells #[.string (bs s40), .int .i64 x41] 103 (0, 0))], G11, G0_2, G0_3] at S90
    refine WH.e rfl wants E89 rfl ⟨cellsAt.of_blk (S90.blk 3 rfl) rfl, cellsAt.of_blk (S90.blk 6 rfl) rfl, trivial⟩ ?_
    obtain ⟨w93, E94, S95⟩ := St.store (P := Try.prog) S90 0 212 (.agg #[.string (bs a2.S), .int .i64 a2.N, .int .i64 a3, .int .i64 t81, .int .i64 0]) (off := 0) (cur' := #[.string (bs a2.S), .int .i64 a2.N, .int .i64 a3, .int .i64 t81, .int .i64 0]) rfl T.size212_5 rfl rfl rfl
    change St _ _ _ [[(b87, .cells #[.string (bs a2.S), .int .i64 a2.N, .int .i64 a3, .int .i64 t81, .int .i64 0] 212 (0, 0))], [(p0_1, .cells #[.int .i64 a0_1.Most, .slice A20 a0_1.L.length c21] 172 (0, 0))], G22, [(b32, .cells #[.string (bs a2.S), .int .i64 a2.N] 103 (0, 0))], [(b26, .cells #[.int .i64 a1.Kind, .int .i64 a1.On, .string (bs a1.K.S), .int .i64 a1.K.N, .int .i64 a1.V, .int .i64 a1.N, .int .i64 a1.M] 116 (0, 0))], [(p0_0, .cells #[.int .i64 a0_0.most, .slice A9 a0_0.pairs.length c10] 169 (0, 0))], [(p0, .cells #[.pointer (some ⟨p0_0, 0, none⟩), .pointer (some ⟨p0_1, 0, none⟩), .slice A0_2 a0_2.length c0_2, .slice A0_3 a0_3.length c0_3] 110 (0, 0))], [(b39, .cells #[.string (bs s40), .int .i64 x41] 103 (0, 0))], G11, G0_2, G0_3] at S95
    refine WH.u rfl wants (E94 rfl rfl) ⟨cellsAt.of_blk (S95.blk 3 rfl) rfl, cellsAt.of_blk (S95.blk 6 rfl) rfl, trivial⟩ ?_
    refine WH.nil ?_
    have S96 : St _ _ _ [[(p0_1, .cells #[.int .i64 a0_1.Most, .slice A20 a0_1.L.length c21] 172 (0, 0))], [(b26, .cells #[.int .i64 a1.Kind, .int .i64 a1.On, .string (bs a1.K.S), .int .i64 a1.K.N, .int .i64 a1.V, .int .i64 a1.N, .int .i64 a1.M] 116 (0, 0))], [(p0_0, .cells #[.int .i64 a0_0.most, .slice A9 a0_0.pairs.length c10] 169 (0, 0))], [(p0, .cells #[.pointer (some ⟨p0_0, 0, none⟩), .pointer (some ⟨p0_1, 0, none⟩), .slice A0_2 a0_2.length c0_2, .slice A0_3 a0_3.length c0_3] 110 (0, 0))], [(b39, .cells #[.string (bs s40), .int .i64 x41] 103 (0, 0))], [(b87, .cells #[.string (bs a2.S), .int .i64 a2.N, .int .i64 a3, .int .i64 t81, .int .i64 0] 212 (0, 0))], G22, G11, G0_2, G0_3, [(b32, .cells #[.string (bs a2.S), .int .i64 a2.N] 103 (0, 0))]] := St.reord S95 [1, 4, 5, 6, 7, 0, 2, 8, 9, 10, 3] 11 rfl (by decide) rfl
    have S97 := St.keep (As := [[(p0_1, .cells #[.int .i64 a0_1.Most, .slice A20 a0_1.L.length c21] 172 (0, 0))], [(b26, .cells #[.int .i64 a1.Kind, .int .i64 a1.On, .string (bs a1.K.S), .int .i64 a1.K.N, .int .i64 a1.V, .int .i64 a1.N, .int .i64 a1.M] 116 (0, 0))], [(p0_0, .cells #[.int .i64 a0_0.most, .slice A9 a0_0.pairs.length c10] 169 (0, 0))], [(p0, .cells #[.pointer (some ⟨p0_0, 0, none⟩), .pointer (some ⟨p0_1, 0, none⟩), .slice A0_2 a0_2.length c0_2, .slice A0_3 a0_3.length c0_3] 110 (0, 0))], [(b39, .cells #[.string (bs s40), .int .i64 x41] 103 (0, 0))], [(b87, .cells #[.string (bs a2.S), .int .i64 a2.N, .int .i64 a3, .int .i64 t81, .int .i64 0] 212 (0, 0))], G22, G11, G0_2, G0_3]) S96
    refine WEx.cutend _ ?_ ⟨q44, b87, t81, rfl, hF, S97⟩
    exact ⟨rfl, rfl, rfl, rfl, rfl, rfl, rfl, rfl, trivial⟩
   ·
    obtain ⟨b83, w84, E85, S86, X87, L88⟩ := St.var S79 (z := .agg #[.string (bs ([] : List UInt8)), .int .i64 0, .int .i64 0, .int .i64 0, .int .i64 0]) T.zero212
    change St _ _ _ [[(b83, .cells #[.string (bs ([] : List UInt8)), .int .i64 0, .int .i64 0, .int .i64 0, .int .i64 0] 212 (0, 0))], [(p0_1, .cells #[.int .i64 a0_1.Most, .slice A20 a0_1.L.length c21] 172 (0, 0))], G22, [(b32, .cells #[.string (bs a2.S), .int .i64 a2.N] 103 (0, 0))], [(b26, .cells #[.int .i64 a1.Kind, .int .i64 a1.On, .string (bs a1.K.S), .int .i64 a1.K.N, .int .i64 a1.V, .int .i64 a1.N, .int .i64 a1.M] 116 (0, 0))], [(p0_0, .cells #[.int .i64 a0_0.most, .slice A9 a0_0.pairs.length c10] 169 (0, 0))], [(p0, .cells #[.pointer (some ⟨p0_0, 0, none⟩), .pointer (some ⟨p0_1, 0, none⟩), .slice A0_2 a0_2.length c0_2, .slice A0_3 a0_3.length c0_3] 110 (0, 0))], [(b39, .cells #[.string (bs s40), .int .i64 x41] 103 (0, 0))], G11, G0_2, G0_3] at S86
    refine WH.e rfl wants E85 rfl ⟨cellsAt.of_blk (S86.blk 3 rfl) rfl, cellsAt.of_blk (S86.blk 6 rfl) rfl, trivial⟩ ?_
    have S89 := (S86.front 2 rfl).front 2 rfl
    change St _ _ _ [[(p0_1, .cells #[.int .i64 a0_1.Most, .slice A20 a0_1.L.length c21] 172 (0, 0))], G22, [(b83, .cells #[.string (bs ([] : List UInt8)), .int .i64 0, .int .i64 0, .int .i64 0, .int .i64 0] 212 (0, 0))], [(b32, .cells #[.string (bs a2.S), .int .i64 a2.N] 103 (0, 0))], [(b26, .cells #[.int .i64 a1.Kind, .int .i64 a1.On, .string (bs a1.K.S), .int .i64 a1.K.N, .int .i64 a1.V, .int .i64 a1.N, .int .i64 a1.M] 116 (0, 0))], [(p0_0, .cells #[.int .i64 a0_0.most, .slice A9 a0_0.pairs.length c10] 169 (0, 0))], [(p0, .cells #[.pointer (some ⟨p0_0, 0, none⟩), .pointer (some ⟨p0_1, 0, none⟩), .slice A0_2 a0_2.length c0_2, .slice A0_3 a0_3.length c0_3] 110 (0, 0))], [(b39, .cells #[.string (bs s40), .int .i64 x41] 103 (0, 0))], G11, G0_2, G0_3] at S89
    have hP90 : PtR 172 ShR.rp w84 (KS [[(p0_1, .cells #[.int .i64 a0_1.Most, .slice A20 a0_1.L.length c21] 172 (0, 0))], G22]) p0_1 a0_1 := ⟨_, S89.blk 0 rfl, KS_at 0 rfl (by simp [keys]), ⟨A20, c21, rfl, ((hO23.rd (fun b o hb => S89.grp 1 rfl hb)).mono (fun b hb => KS_at 1 rfl hb))⟩⟩
    refine WH.call rfl wants T.call102 (evs_cons rfl evs_nil) rfl ?_
    refine (rk_Len_calls q44 a0_1 hP90 (St.outN (Bs := []) (As := [[(p0_1, .cells #[.int .i64 a0_1.Most, .slice A20 a0_1.L.length c21] 172 (0, 0))], G22]) S89) hc82).mono ?_
    rintro _ w91 ⟨rfl, T92⟩
    have S93 := St.callN (As := []) S89 T92
    change St _ _ _ [[(p0_1, .cells #[.int .i64 a0_1.Most, .slice A20 a0_1.L.length c21] 172 (0, 0))], G22, [(b83, .cells #[.string (bs ([] : List UInt8)), .int .i64 0, .int .i64 0, .int .i64 0, .int .i64 0] 212 (0, 0))], [(b32, .cells #[.string (bs a2.S), .int .i64 a2.N] 103 (0, 0))], [(b26, .cells #[.int .i64 a1.Kind, .int .i64 a1.On, .string (bs a1.K.S), .int .i64 a1.K.N, .int .i64 a1.V, .int .i64 a1.N, .int .i64 a1.M] 116 (0, 0))], [(p0_0, .cells #[.int .i64 a0_0.most, .slice A9 a0_0.pairs.length c10] 169 (0, 0))], [(p0, .cells #[.pointer (some ⟨p0_0, 0, none⟩), .pointer (some ⟨p0_1, 0, none⟩), .slice A0_2 a0_2.length c0_2, .slice A0_3 a0_3.length c0_3] 110 (0, 0))], [(b39, .cells #[.string (bs s40), .int .i64 x41] 103 (0, 0))], G11, G0_2, G0_3] at S93
    refine ⟨_, rfl, ?_⟩
    refine ⟨⟨cellsAt.of_blk (S93.blk 3 rfl) rfl, cellsAt.of_blk (S93.blk 6 rfl) rfl, trivial⟩, ?_⟩
    refine WH.p rfl wants (G.build (cells := #[.string (bs a2.S), .int .i64 a2.N, .int .i64 a3, .int .i64 t81, .int .i64 0]) (evp_spec (evp_cons rfl (evp_cons rfl (evp_cons rfl evp_nil)))) (by kernel_rfl)) rfl ?_
    obtain ⟨w94, E95, S96⟩ := St.store (P := Try.prog) S93 2 212 (.agg #[.string (bs a2.S), .int .i64 a2.N, .int .i64 a3, .int .i64 t81, .int .i64 0]) (off := 0) (cur' := #[.string (bs a2.S), .int .i64 a2.N, .int .i64 a3, .int .i64 t81, .int .i64 0]) rfl T.size212_5 rfl rfl rfl
    change St _ _ _ [[(p0_1, .cells #[.int .i64 a0_1.Most, .slice A20 a0_1.L.length c21] 172 (0, 0))], G22, [(b83, .cells #[.string (bs a2.S), .int .i64 a2.N, .int .i64 a3, .int .i64 t81, .int .i64 0] 212 (0, 0))], [(b32, .cells #[.string (bs a2.S), .int .i64 a2.N] 103 (0, 0))], [(b26, .cells #[.int .i64 a1.Kind, .int .i64 a1.On, .string (bs a1.K.S), .int .i64 a1.K.N, .int .i64 a1.V, .int .i64 a1.N, .int .i64 a1.M] 116 (0, 0))], [(p0_0, .cells #[.int .i64 a0_0.most, .slice A9 a0_0.pairs.length c10] 169 (0, 0))], [(p0, .cells #[.pointer (some ⟨p0_0, 0, none⟩), .pointer (some ⟨p0_1, 0, none⟩), .slice A0_2 a0_2.length c0_2, .slice A0_3 a0_3.length c0_3] 110 (0, 0))], [(b39, .cells #[.string (bs s40), .int .i64 x41] 103 (0, 0))], G11, G0_2, G0_3] at S96
    refine WH.u rfl wants (E95 rfl rfl) ⟨cellsAt.of_blk (S96.blk 3 rfl) rfl, cellsAt.of_blk (S96.blk 6 rfl) rfl, trivial⟩ ?_
    refine WH.nil ?_
    have S97 : St _ _ _ [[(p0_1, .cells #[.int .i64 a0_1.Most, .slice A20 a0_1.L.length c21] 172 (0, 0))], [(b26, .cells #[.int .i64 a1.Kind, .int .i64 a1.On, .string (bs a1.K.S), .int .i64 a1.K.N, .int .i64 a1.V, .int .i64 a1.N, .int .i64 a1.M] 116 (0, 0))], [(p0_0, .cells #[.int .i64 a0_0.most, .slice A9 a0_0.pairs.length c10] 169 (0, 0))], [(p0, .cells #[.pointer (some ⟨p0_0, 0, none⟩), .pointer (some ⟨p0_1, 0, none⟩), .slice A0_2 a0_2.length c0_2, .slice A0_3 a0_3.length c0_3] 110 (0, 0))], [(b39, .cells #[.string (bs s40), .int .i64 x41] 103 (0, 0))], [(b83, .cells #[.string (bs a2.S), .int .i64 a2.N, .int .i64 a3, .int .i64 t81, .int .i64 0] 212 (0, 0))], G22, G11, G0_2, G0_3, [(b32, .cells #[.string (bs a2.S), .int .i64 a2.N] 103 (0, 0))]] := St.reord S96 [0, 4, 5, 6, 7, 2, 1, 8, 9, 10, 3] 11 rfl (by decide) rfl
    have S98 := St.keep (As := [[(p0_1, .cells #[.int .i64 a0_1.Most, .slice A20 a0_1.L.length c21] 172 (0, 0))], [(b26, .cells #[.int .i64 a1.Kind, .int .i64 a1.On, .string (bs a1.K.S), .int .i64 a1.K.N, .int .i64 a1.V, .int .i64 a1.N, .int .i64 a1.M] 116 (0, 0))], [(p0_0, .cells #[.int .i64 a0_0.most, .slice A9 a0_0.pairs.length c10] 169 (0, 0))], [(p0, .cells #[.pointer (some ⟨p0_0, 0, none⟩), .pointer (some ⟨p0_1, 0, none⟩), .slice A0_2 a0_2.length c0_2, .slice A0_3 a0_3.length c0_3] 110 (0, 0))], [(b39, .cells #[.string (bs s40), .int .i64 x41] 103 (0, 0))], [(b83, .cells #[.string (bs a2.S), .int .i64 a2.N, .int .i64 a3, .int .i64 t81, .int .i64 0] 212 (0, 0))], G22, G11, G0_2, G0_3]) S97
    refine WEx.cutend _ ?_ ⟨q44, b83, t81, rfl, hF, S98⟩
    exact ⟨rfl, rfl, rfl, rfl, rfl, rfl, rfl, rfl, trivial⟩
  ·
   rintro _ w75 ⟨q77, b73, x74, rfl, hF, S76⟩
   unfold sd_would.j2 at hF
   refine WCode.cutseq (fun l_ w_ => ∃ q102 : Nat, ∃ x99 : Int, l_ = [(0, .pointer (some ⟨p0, 0, none⟩)), (3, .int .i64 a3), (5, .pointer (some ⟨b26, 0, none⟩)), (9, .int .i64 x38), (10, .pointer (some ⟨b39, 0, none⟩)), (13, .pointer (some ⟨b73, 0, none⟩))] ∧ sd_would.j3 q102 a0_0 a0_1 a0_2 a0_3 a1 a2 a3 x38 s40 x41 x74 x99 = some r_ ∧ St w (KS [[(p0, .cells #[.pointer (some ⟨p0_0, 0, none⟩), .pointer (some ⟨p0_1, 0, none⟩), .slice A0_2 a0_2.length c0_2, .slice A0_3 a0_3.length c0_3] 110 (0, 0))], G0_0, G0_1, G0_2, G0_3]) w_ [[(p0_1, .cells #[.int .i64 a0_1.Most, .slice A20 a0_1.L.length c21] 172 (0, 0))], [(b26, .cells #[.int .i64 a1.Kind, .int .i64 a1.On, .string (bs a1.K.S), .int .i64 a1.K.N, .int .i64 a1.V, .int .i64 a1.N, .int .i64 a1.M] 116 (0, 0))], [(p0_0, .cells #[.int .i64 a0_0.most, .slice A9 a0_0.pairs.length c10] 169 (0, 0))], [(p0, .cells #[.pointer (some ⟨p0_0, 0, none⟩), .pointer (some ⟨p0_1, 0, none⟩), .slice A0_2 a0_2.length c0_2, .slice A0_3 a0_3.length c0_3] 110 (0, 0))], [(b39, .cells #[.string (bs s40), .int .i64 x41] 103 (0, 0))], [(b73, .cells #[.string (bs a2.S), .int .i64 a2.N, .int .i64 a3, .int .i64 x74, .int .i64 x99] 212 (0, 0))], G22, G11, G0_2, G0_3]) ?_ ?_
   ·
    refine WCode.seq ?_
    refine WCode.region ?_
    refine WOps.p (G.move rfl) rfl ?_
    refine WOps.nil ?_
    refine WEx.then_ ?_
    rcases ite_some hF with ⟨h104, hF⟩ | ⟨h104, hF⟩
    ·
     refine WCode.cond_t (kb (b := t66.2) rfl h104) ?_
     refine WCode.region ?_
     refine WOps.p (G.move rfl) rfl ?_
     refine WOps.p (G.field T.fld212_3 rfl (show 0 + 4 = 4 from rfl)) rfl ?_
     obtain ⟨w105, E106, S107⟩ := St.store (P := Try.prog) S76 5 3 (.int .i64 t66.1) (off := 4) (cur' := #[.string (bs a2.S), .int .i64 a2.N, .int .i64 a3, .int .i64 x74, .int .i64 t66.1]) rfl T.size3_1 rfl rfl rfl
     change St _ _ _ [[(p0_1, .cells #[.int .i64 a0_1.Most, .slice A20 a0_1.L.length c21] 172 (0, 0))], [(b26, .cells #[.int .i64 a1.Kind, .int .i64 a1.On, .string (bs a1.K.S), .int .i64 a1.K.N, .int .i64 a1.V, .int .i64 a1.N, .int .i64 a1.M] 116 (0, 0))], [(p0_0, .cells #[.int .i64 a0_0.most, .slice A9 a0_0.pairs.length c10] 169 (0, 0))], [(p0, .cells #[.pointer (some ⟨p0_0, 0, none⟩), .pointer (some ⟨p0_1, 0, none⟩), .slice A0_2 a0_2.length c0_2, .slice A0_3 a0_3.length c0_3] 110 (0, 0))], [(b39, .cells #[.string (bs s40), .int .i64 x41] 103 (0, 0))], [(b73, .cells #[.string (bs a2.S), .int .i64 a2.N, .int .i64 a3, .int .i64 x74, .int .i64 t66.1] 212 (0, 0))], G22, G11, G0_2, G0_3] at S107
     refine WOps.u (E106 rfl rfl) ?_
     refine WOps.nil ?_
     refine WEx.cutend _ ?_ ⟨q77, t66.1, rfl, hF, S107⟩
     exact ⟨rfl, rfl, rfl, rfl, rfl, rfl, trivial⟩
    ·
     refine WCode.cond_f (kb (b := t66.2) rfl (Bool.eq_false_iff.2 h104)) ?_
     refine WCode.skip ?_
     refine WEx.cutend _ ?_ ⟨q77, 0, rfl, hF, S76⟩
     exact ⟨rfl, rfl, rfl, rfl, rfl, rfl, trivial⟩
   ·
    rintro _ w100 ⟨q102, x99, rfl, hF, S101⟩
    unfold sd_would.j3 at hF
    refine WCode.seq ?_
    refine WCode.draw [⟨0, 0, []⟩, ⟨1, 0, []⟩, ⟨2, 0, []⟩, ⟨3, 0, []⟩, ⟨4, 1, [7, 8, 9, 10]⟩, ⟨5, 1, [6, 7, 8, 9, 10]⟩, ⟨6, 2, []⟩, ⟨7, 2, []⟩, ⟨8, 0, []⟩, ⟨9, 0, []⟩, ⟨10, 2, []⟩] T.mixed (by kernel_rfl) (by intro _ _ d _ _ h; cases d <;> exact h) rfl (by kernel_rfl) ?_
    have S108 := S101.drew
    generalize w100.drew = w109 at *
    refine WD.p rfl (G.move rfl) rfl ?_
    refine WD.p rfl (G.move rfl) rfl ?_
    refine WD.p rfl (G.nilp rfl) rfl ?_
    refine WD.p rfl (G.field T.fld110_3 rfl (show 0 + 3 = 3 from rfl)) rfl ?_
    refine WD.r rfl (G.load1 T.one108 rfl (cell_blk (S108.blk 3 rfl) rfl)) rfl ?_
    refine WD.r rfl (G.loada T.agg212_5 rfl (cs := [.string (bs a2.S), .int .i64 a2.N, .int .i64 a3, .int .i64 x74, .int .i64 x99]) (cellsAt.of_blk (S108.blk 5 rfl) rfl)) rfl ?_
    obtain ⟨b110, w111, E112, S113, X114, L115⟩ := St.lit S108 (P := Try.prog) (t := 108) (e := 212) (n := 1) (vs := [(0, .agg #[.string (bs a2.S), .int .i64 a2.N, .int .i64 a3, .int .i64 x74, .int .i64 x99])]) (cs := #[.string (bs a2.S), .int .i64 a2.N, .int .i64 a3, .int .i64 x74, .int .i64 x99]) (by kernel_rfl)
    change St _ _ _ [[(b110, .cells #[.string (bs a2.S), .int .i64 a2.N, .int .i64 a3, .int .i64 x74, .int .i64 x99] 212 (0, 0))], [(p0_1, .cells #[.int .i64 a0_1.Most, .slice A20 a0_1.L.length c21] 172 (0, 0))], [(b26, .cells #[.int .i64 a1.Kind, .int .i64 a1.On, .string (bs a1.K.S), .int .i64 a1.K.N, .int .i64 a1.V, .int .i64 a1.N, .int .i64 a1.M] 116 (0, 0))], [(p0_0, .cells #[.int .i64 a0_0.most, .slice A9 a0_0.pairs.length c10] 169 (0, 0))], [(p0, .cells #[.pointer (some ⟨p0_0, 0, none⟩), .pointer (some ⟨p0_1, 0, none⟩), .slice A0_2 a0_2.length c0_2, .slice A0_3 a0_3.length c0_3] 110 (0, 0))], [(b39, .cells #[.string (bs s40), .int .i64 x41] 103 (0, 0))], [(b73, .cells #[.string (bs a2.S), .int .i64 a2.N, .int .i64 a3, .int .i64 x74, .int .i64 x99] 212 (0, 0))], G22, G11, G0_2, G0_3] at S113
    refine WD.e rfl (E112 (evp_cons rfl evp_nil)) rfl ?_
    obtain ⟨l116, hc117, hF⟩ := bind_some hF
    have S118 := S113.front 10 rfl
    change St _ _ _ [G0_3, [(b110, .cells #[.string (bs a2.S), .int .i64 a2.N, .int .i64 a3, .int .i64 x74, .int .i64 x99] 212 (0, 0))], [(p0_1, .cells #[.int .i64 a0_1.Most, .slice A20 a0_1.L.length c21] 172 (0, 0))], [(b26, .cells #[.int .i64 a1.Kind, .int .i64 a1.On, .string (bs a1.K.S), .int .i64 a1.K.N, .int .i64 a1.V, .int .i64 a1.N, .int .i64 a1.M] 116 (0, 0))], [(p0_0, .cells #[.int .i64 a0_0.most, .slice A9 a0_0.pairs.length c10] 169 (0, 0))], [(p0, .cells #[.pointer (some ⟨p0_0, 0, none⟩), .pointer (some ⟨p0_1, 0, none⟩), .slice A0_2 a0_2.length c0_2, .slice A0_3 a0_3.length c0_3] 110 (0, 0))], [(b39, .cells #[.string (bs s40), .int .i64 x41] 103 (0, 0))], [(b73, .cells #[.string (bs a2.S), .int .i64 a2.N, .int .i64 a3, .int .i64 x74, .int .i64 x99] 212 (0, 0))], G22, G11, G0_2] at S118
    obtain ⟨A119, c120, G121, w122, E123, hO124, S125, hk126⟩ := St.appP (P := Try.prog) (r := Asked.rp) (M := ([(⟨a2, a3, x74, x99⟩ : Asked)] : List Asked)) S118 T.elt108 rfl hO0_3 (Rd.of_blk (S118.blk 1 rfl) (n := 1) (sz := 5) rfl) ⟨_, _, [], [], rfl, rfl, ⟨rfl, rfl⟩, ⟨rfl, rfl⟩⟩ rfl hc117
    change St _ _ _ [G121, [(b110, .cells #[.string (bs a2.S), .int .i64 a2.N, .int .i64 a3, .int .i64 x74, .int .i64 x99] 212 (0, 0))], [(p0_1, .cells #[.int .i64 a0_1.Most, .slice A20 a0_1.L.length c21] 172 (0, 0))], [(b26, .cells #[.int .i64 a1.Kind, .int .i64 a1.On, .string (bs a1.K.S), .int .i64 a1.K.N, .int .i64 a1.V, .int .i64 a1.N, .int .i64 a1.M] 116 (0, 0))], [(p0_0, .cells #[.int .i64 a0_0.most, .slice A9 a0_0.pairs.length c10] 169 (0, 0))], [(p0, .cells #[.pointer (some ⟨p0_0, 0, none⟩), .pointer (some ⟨p0_1, 0, none⟩), .slice A0_2 a0_2.length c0_2, .slice A0_3 a0_3.length c0_3] 110 (0, 0))], [(b39, .cells #[.string (bs s40), .int .i64 x41] 103 (0, 0))], [(b73, .cells #[.string (bs a2.S), .int .i64 a2.N, .int .i64 a3, .int .i64 x74, .int .i64 x99] 212 (0, 0))], G22, G11, G0_2] at S125
    refine WD.e rfl (E123 rfl rfl) rfl ?_
    refine WD.p rfl (G.nilp rfl) rfl ?_
    refine WD.p rfl (G.field T.fld110_3 rfl (show 0 + 3 = 3 from rfl)) rfl ?_
    obtain ⟨w127, E128, S129⟩ := St.store (P := Try.prog) S125 5 108 (.slice A119 l116.length c120) (off := 3) (cur' := #[.pointer (some ⟨p0_0, 0, none⟩), .pointer (some ⟨p0_1, 0, none⟩), .slice A0_2 a0_2.length c0_2, .slice A119 l116.length c120]) rfl T.size108_1 rfl rfl rfl
    change St _ _ _ [G121, [(b110, .cells #[.string (bs a2.S), .int .i64 a2.N, .int .i64 a3, .int .i64 x74, .int .i64 x99] 212 (0, 0))], [(p0_1, .cells #[.int .i64 a0_1.Most, .slice A20 a0_1.L.length c21] 172 (0, 0))], [(b26, .cells #[.int .i64 a1.Kind, .int .i64 a1.On, .string (bs a1.K.S), .int .i64 a1.K.N, .int .i64 a1.V, .int .i64 a1.N, .int .i64 a1.M] 116 (0, 0))], [(p0_0, .cells #[.int .i64 a0_0.most, .slice A9 a0_0.pairs.length c10] 169 (0, 0))], [(p0, .cells #[.pointer (some ⟨p0_0, 0, none⟩), .pointer (some ⟨p0_1, 0, none⟩), .slice A0_2 a0_2.length c0_2, .slice A119 l116.length c120] 110 (0, 0))], [(b39, .cells #[.string (bs s40), .int .i64 x41] 103 (0, 0))], [(b73, .cells #[.string (bs a2.S), .int .i64 a2.N, .int .i64 a3, .int .i64 x74, .int .i64 x99] 212 (0, 0))], G22, G11, G0_2] at S129
    refine WD.u rfl (E128 rfl rfl) ?_
    refine WD.nil ?_
    refine WEx.then_ ?_
    refine WCode.forget (l' := [(0, .pointer (some ⟨p0, 0, none⟩)), (3, .int .i64 a3), (5, .pointer (some ⟨b26, 0, none⟩)), (9, .int .i64 x38), (10, .pointer (some ⟨b39, 0, none⟩))]) ⟨rfl, rfl, rfl, rfl, rfl, trivial⟩ ?_
    refine WCode.cutseq (fun l_ w_ => ∃ q138 : Nat, ∃ x130 : Int, ∃ A131 : Option Addr, ∃ c132 : Nat, ∃ l133 : List Pair, ∃ G134 : Grp, l_ = [(0, .pointer (some ⟨p0, 0, none⟩)), (3, .int .i64 a3), (5, .pointer (some ⟨b26, 0, none⟩))] ∧ sd_would.j4 q138 a0_0 a0_2 a1 a3 l116 x130 l133 = some r_ ∧ (SlO 205 Pair.rp (.slice A131 l133.length c132) l133 G134) ∧ St w (KS [[(p0, .cells #[.pointer (some ⟨p0_0, 0, none⟩), .pointer (some ⟨p0_1, 0, none⟩), .slice A0_2 a0_2.length c0_2, .slice A0_3 a0_3.length c0_3] 110 (0, 0))], G0_0, G0_1, G0_2, G0_3]) w_ [[(p0_1, .cells #[.int .i64 x130, .slice A131 l133.length c132] 172 (0, 0))], [(b26, .cells #[.int .i64 a1.Kind, .int .i64 a1.On, .string (bs a1.K.S), .int .i64 a1.K.N, .int .i64 a1.V, .int .i64 a1.N, .int .i64 a1.M] 116 (0, 0))], [(p0_0, .cells #[.int .i64 a0_0.most, .slice A9 a0_0.pairs.length c10] 169 (0, 0))], [(p0, .cells #[.pointer (some ⟨p0_0, 0, none⟩), .pointer (some ⟨p0_1, 0, none⟩), .slice A0_2 a0_2.length c0_2, .slice A119 l116.length c120] 110 (0, 0))], G11, G0_2, G121, G134]) ?_ ?_
    ·
     refine WCode.seq ?_
     refine WCode.region ?_
     refine WOps.p (G.move rfl) rfl ?_
     refine WOps.nil ?_
     refine WEx.then_ ?_
     refine WCode.block ?_
     refine WCode.seq ?_
     refine WCode.region ?_
     refine WOps.p (G.eql rfl rfl rfl) rfl ?_
     refine WOps.p (G.assign rfl) rfl ?_
     refine WOps.nil ?_
     refine WEx.then_ ?_
     rcases ite_some hF with ⟨h140, hF⟩ | ⟨h140, hF⟩
     ·
      refine WCode.cond_t (kb (b := decide (x38 = 1)) rfl (decide_eq_true h140)) ?_
      refine WCode.draw [⟨0, 0, []⟩, ⟨1, 0, []⟩, ⟨2, 0, []⟩, ⟨5, 0, []⟩, ⟨6, 0, []⟩, ⟨3, 1, [7]⟩, ⟨4, 1, [7]⟩, ⟨7, 2, []⟩] T.mixed (by kernel_rfl) (by intro _ _ d _ _ h; cases d <;> exact h) rfl (by kernel_rfl) ?_
      have S141 := S129.drew
      generalize w127.drew = w142 at *
      refine WD.p rfl (G.move rfl) rfl ?_
      refine WD.p rfl (G.nilp rfl) rfl ?_
      refine WD.p rfl (G.field T.fld110_1 rfl (show 0 + 1 = 1 from rfl)) rfl ?_
      refine WD.p rfl (G.move rfl) rfl ?_
      refine WD.p rfl (G.neg rfl (r := (w64 (-a3))) rfl) rfl ?_
      refine WD.r rfl (G.load1 T.one104 rfl (cell_blk (S141.blk 5 rfl) rfl)) rfl ?_
      refine WD.r rfl (G.loada T.agg103_2 rfl (cs := [.string (bs s40), .int .i64 x41]) (cellsAt.of_blk (S141.blk 6 rfl) rfl)) rfl ?_
      have S143 := (S141.front 8 rfl).front 3 rfl
      change St _ _ _ [[(p0_1, .cells #[.int .i64 a0_1.Most, .slice A20 a0_1.L.length c21] 172 (0, 0))], G22, G121, [(b110, .cells #[.string (bs a2.S), .int .i64 a2.N, .int .i64 a3, .int .i64 x74, .int .i64 x99] 212 (0, 0))], [(b26, .cells #[.int .i64 a1.Kind, .int .i64 a1.On, .string (bs a1.K.S), .int .i64 a1.K.N, .int .i64 a1.V, .int .i64 a1.N, .int .i64 a1.M] 116 (0, 0))], [(p0_0, .cells #[.int .i64 a0_0.most, .slice A9 a0_0.pairs.length c10] 169 (0, 0))], [(p0, .cells #[.pointer (some ⟨p0_0, 0, none⟩), .pointer (some ⟨p0_1, 0, none⟩), .slice A0_2 a0_2.length c0_2, .slice A119 l116.length c120] 110 (0, 0))], [(b39, .cells #[.string (bs s40), .int .i64 x41] 103 (0, 0))], [(b73, .cells #[.string (bs a2.S), .int .i64 a2.N, .int .i64 a3, .int .i64 x74, .int .i64 x99] 212 (0, 0))], G11, G0_2] at S143
      have hO144 : ObjO 172 ShR.rp p0_1 a0_1 ([(p0_1, .cells #[.int .i64 a0_1.Most, .slice A20 a0_1.L.length c21] 172 (0, 0))] ++ (G22)) := ⟨_, _, ⟨A20, c21, G22, rfl, hO23, rfl⟩, rfl⟩
      have S145 : St _ _ _ [[(p0_1, .cells #[.int .i64 a0_1.Most, .slice A20 a0_1.L.length c21] 172 (0, 0))] ++ (G22), G121, [(b110, .cells #[.string (bs a2.S), .int .i64 a2.N, .int .i64 a3, .int .i64 x74, .int .i64 x99] 212 (0, 0))], [(b26, .cells #[.int .i64 a1.Kind, .int .i64 a1.On, .string (bs a1.K.S), .int .i64 a1.K.N, .int .i64 a1.V, .int .i64 a1.N, .int .i64 a1.M] 116 (0, 0))], [(p0_0, .cells #[.int .i64 a0_0.most, .slice A9 a0_0.pairs.length c10] 169 (0, 0))], [(p0, .cells #[.pointer (some ⟨p0_0, 0, none⟩), .pointer (some ⟨p0_1, 0, none⟩), .slice A0_2 a0_2.length c0_2, .slice A119 l116.length c120] 110 (0, 0))], [(b39, .cells #[.string (bs s40), .int .i64 x41] 103 (0, 0))], [(b73, .cells #[.string (bs a2.S), .int .i64 a2.N, .int .i64 a3, .int .i64 x74, .int .i64 x99] 212 (0, 0))], G11, G0_2] := S143.objs (by simp)
      obtain ⟨t146, hc147, hF⟩ := bind_some hF
      refine WD.call rfl T.call91 (evs_cons rfl (evs_cons rfl (evs_cons rfl evs_nil))) rfl ?_
      refine (rk_Put_calls q102 a0_1 (⟨s40, x41⟩ : KeyS) (w64 (-a3)) hO144 hc147 (St.hpN (As := [[(p0_1, .cells #[.int .i64 a0_1.Most, .slice A20 a0_1.L.length c21] 172 (0, 0))] ++ (G22)]) S145)).mono ?_
      rintro _ w148 ⟨G151, rfl, hO152, T149⟩
      have S150 := St.callN (As := [[(p0_1, .cells #[.int .i64 a0_1.Most, .slice A20 a0_1.L.length c21] 172 (0, 0))] ++ (G22)]) S145 T149
      change St _ _ _ [G151, G121, [(b110, .cells #[.string (bs a2.S), .int .i64 a2.N, .int .i64 a3, .int .i64 x74, .int .i64 x99] 212 (0, 0))], [(b26, .cells #[.int .i64 a1.Kind, .int .i64 a1.On, .string (bs a1.K.S), .int .i64 a1.K.N, .int .i64 a1.V, .int .i64 a1.N, .int .i64 a1.M] 116 (0, 0))], [(p0_0, .cells #[.int .i64 a0_0.most, .slice A9 a0_0.pairs.length c10] 169 (0, 0))], [(p0, .cells #[.pointer (some ⟨p0_0, 0, none⟩), .pointer (some ⟨p0_1, 0, none⟩), .slice A0_2 a0_2.length c0_2, .slice A119 l116.length c120] 110 (0, 0))], [(b39, .cells #[.string (bs s40), .int .i64 x41] 103 (0, 0))], [(b73, .cells #[.string (bs a2.S), .int .i64 a2.N, .int .i64 a3, .int .i64 x74, .int .i64 x99] 212 (0, 0))], G11, G0_2] at S150
      refine ⟨_, rfl, ?_⟩
      obtain ⟨cs153, G154, ho155, hg156⟩ := hO152
      obtain ⟨A157, c158, G159, rfl, hO160, hq161⟩ := ho155
      have S162 : St _ _ _ [[(p0_1, .cells #[.int .i64 t146.2.Most, .slice A157 t146.2.L.length c158] 172 (0, 0))], G159, G121, [(b110, .cells #[.string (bs a2.S), .int .i64 a2.N, .int .i64 a3, .int .i64 x74, .int .i64 x99] 212 (0, 0))], [(b26, .cells #[.int .i64 a1.Kind, .int .i64 a1.On, .string (bs a1.K.S), .int .i64 a1.K.N, .int .i64 a1.V, .int .i64 a1.N, .int .i64 a1.M] 116 (0, 0))], [(p0_0, .cells #[.int .i64 a0_0.most, .slice A9 a0_0.pairs.length c10] 169 (0, 0))], [(p0, .cells #[.pointer (some ⟨p0_0, 0, none⟩), .pointer (some ⟨p0_1, 0, none⟩), .slice A0_2 a0_2.length c0_2, .slice A119 l116.length c120] 110 (0, 0))], [(b39, .cells #[.string (bs s40), .int .i64 x41] 103 (0, 0))], [(b73, .cells #[.string (bs a2.S), .int .i64 a2.N, .int .i64 a3, .int .i64 x74, .int .i64 x99] 212 (0, 0))], G11, G0_2] := S150.objs (by rw [hg156, hq161]; simp)
      refine WD.nil ?_
      refine WEx.in_normal ?_
      have S163 : St _ _ _ [[(p0_1, .cells #[.int .i64 t146.2.Most, .slice A157 t146.2.L.length c158] 172 (0, 0))], [(b26, .cells #[.int .i64 a1.Kind, .int .i64 a1.On, .string (bs a1.K.S), .int .i64 a1.K.N, .int .i64 a1.V, .int .i64 a1.N, .int .i64 a1.M] 116 (0, 0))], [(p0_0, .cells #[.int .i64 a0_0.most, .slice A9 a0_0.pairs.length c10] 169 (0, 0))], [(p0, .cells #[.pointer (some ⟨p0_0, 0, none⟩), .pointer (some ⟨p0_1, 0, none⟩), .slice A0_2 a0_2.length c0_2, .slice A119 l116.length c120] 110 (0, 0))], G11, G0_2, G121, G159, [(b110, .cells #[.string (bs a2.S), .int .i64 a2.N, .int .i64 a3, .int .i64 x74, .int .i64 x99] 212 (0, 0))], [(b39, .cells #[.string (bs s40), .int .i64 x41] 103 (0, 0))], [(b73, .cells #[.string (bs a2.S), .int .i64 a2.N, .int .i64 a3, .int .i64 x74, .int .i64 x99] 212 (0, 0))]] := St.reord S162 [0, 4, 5, 6, 9, 10, 2, 1, 3, 7, 8] 11 rfl (by decide) rfl
      have S164 := St.keep (As := [[(p0_1, .cells #[.int .i64 t146.2.Most, .slice A157 t146.2.L.length c158] 172 (0, 0))], [(b26, .cells #[.int .i64 a1.Kind, .int .i64 a1.On, .string (bs a1.K.S), .int .i64 a1.K.N, .int .i64 a1.V, .int .i64 a1.N, .int .i64 a1.M] 116 (0, 0))], [(p0_0, .cells #[.int .i64 a0_0.most, .slice A9 a0_0.pairs.length c10] 169 (0, 0))], [(p0, .cells #[.pointer (some ⟨p0_0, 0, none⟩), .pointer (some ⟨p0_1, 0, none⟩), .slice A0_2 a0_2.length c0_2, .slice A119 l116.length c120] 110 (0, 0))], G11, G0_2, G121, G159]) S163
      refine WEx.cutend _ ?_ ⟨q102, t146.2.Most, A157, c158, t146.2.L, G159, rfl, hF, hO160, S164⟩
      exact ⟨rfl, rfl, rfl, trivial⟩
     ·
      refine WCode.cond_f (kb (b := decide (x38 = 1)) rfl (decide_eq_false h140)) ?_
      refine WCode.seq ?_
      refine WCode.region ?_
      refine WOps.p (G.eql rfl rfl rfl) rfl ?_
      refine WOps.p (G.assign rfl) rfl ?_
      refine WOps.nil ?_
      refine WEx.then_ ?_
      rcases ite_some hF with ⟨h165, hF⟩ | ⟨h165, hF⟩
      ·
       refine WCode.cond_t (kb (b := decide (x38 = 2)) rfl (decide_eq_true h165)) ?_
       refine WCode.draw [⟨0, 0, []⟩, ⟨1, 0, []⟩, ⟨2, 0, []⟩, ⟨3, 1, [5]⟩, ⟨4, 1, [5]⟩, ⟨5, 2, []⟩] T.mixed (by kernel_rfl) (by intro _ _ d _ _ h; cases d <;> exact h) rfl (by kernel_rfl) ?_
       have S166 := S129.drew
       generalize w127.drew = w167 at *
       refine WD.p rfl (G.move rfl) rfl ?_
       refine WD.p rfl (G.nilp rfl) rfl ?_
       refine WD.p rfl (G.field T.fld110_1 rfl (show 0 + 1 = 1 from rfl)) rfl ?_
       refine WD.r rfl (G.load1 T.one104 rfl (cell_blk (S166.blk 5 rfl) rfl)) rfl ?_
       refine WD.r rfl (G.loada T.agg103_2 rfl (cs := [.string (bs s40), .int .i64 x41]) (cellsAt.of_blk (S166.blk 6 rfl) rfl)) rfl ?_
       have S168 := (S166.front 8 rfl).front 3 rfl
       change St _ _ _ [[(p0_1, .cells #[.int .i64 a0_1.Most, .slice A20 a0_1.L.length c21] 172 (0, 0))], G22, G121, [(b110, .cells #[.string (bs a2.S), .int .i64 a2.N, .int .i64 a3, .int .i64 x74, .int .i64 x99] 212 (0, 0))], [(b26, .cells #[.int .i64 a1.Kind, .int .i64 a1.On, .string (bs a1.K.S), .int .i64 a1.K.N, .int .i64 a1.V, .int .i64 a1.N, .int .i64 a1.M] 116 (0, 0))], [(p0_0, .cells #[.int .i64 a0_0.most, .slice A9 a0_0.pairs.length c10] 169 (0, 0))], [(p0, .cells #[.pointer (some ⟨p0_0, 0, none⟩), .pointer (some ⟨p0_1, 0, none⟩), .slice A0_2 a0_2.length c0_2, .slice A119 l116.length c120] 110 (0, 0))], [(b39, .cells #[.string (bs s40), .int .i64 x41] 103 (0, 0))], [(b73, .cells #[.string (bs a2.S), .int .i64 a2.N, .int .i64 a3, .int .i64 x74, .int .i64 x99] 212 (0, 0))], G11, G0_2] at S168
       have hO169 : ObjO 172 ShR.rp p0_1 a0_1 ([(p0_1, .cells #[.int .i64 a0_1.Most, .slice A20 a0_1.L.length c21] 172 (0, 0))] ++ (G22)) := ⟨_, _, ⟨A20, c21, G22, rfl, hO23, rfl⟩, rfl⟩
       have S170 : St _ _ _ [[(p0_1, .cells #[.int .i64 a0_1.Most, .slice A20 a0_1.L.length c21] 172 (0, 0))] ++ (G22), G121, [(b110, .cells #[.string (bs a2.S), .int .i64 a2.N, .int .i64 a3, .int .i64 x74, .int .i64 x99] 212 (0, 0))], [(b26, .cells #[.int .i64 a1.Kind, .int .i64 a1.On, .string (bs a1.K.S), .int .i64 a1.K.N, .int .i64 a1.V, .int .i64 a1.N, .int .i64 a1.M] 116 (0, 0))], [(p0_0, .cells #[.int .i64 a0_0.most, .slice A9 a0_0.pairs.length c10] 169 (0, 0))], [(p0, .cells #[.pointer (some ⟨p0_0, 0, none⟩), .pointer (some ⟨p0_1, 0, none⟩), .slice A0_2 a0_2.length c0_2, .slice A119 l116.length c120] 110 (0, 0))], [(b39, .cells #[.string (bs s40), .int .i64 x41] 103 (0, 0))], [(b73, .cells #[.string (bs a2.S), .int .i64 a2.N, .int .i64 a3, .int .i64 x74, .int .i64 x99] 212 (0, 0))], G11, G0_2] := S168.objs (by simp)
       obtain ⟨t171, hc172, hF⟩ := bind_some hF
       refine WD.call rfl T.call95 (evs_cons rfl (evs_cons rfl evs_nil)) rfl ?_
       refine (rk_Drop_calls q102 a0_1 (⟨s40, x41⟩ : KeyS) hO169 hc172 (St.hpN (As := [[(p0_1, .cells #[.int .i64 a0_1.Most, .slice A20 a0_1.L.length c21] 172 (0, 0))] ++ (G22)]) S170)).mono ?_
       rintro _ w173 ⟨G176, rfl, hO177, T174⟩
       have S175 := St.callN (As := [[(p0_1, .cells #[.int .i64 a0_1.Most, .slice A20 a0_1.L.length c21] 172 (0, 0))] ++ (G22)]) S170 T174
       change St _ _ _ [G176, G121, [(b110, .cells #[.string (bs a2.S), .int .i64 a2.N, .int .i64 a3, .int .i64 x74, .int .i64 x99] 212 (0, 0))], [(b26, .cells #[.int .i64 a1.Kind, .int .i64 a1.On, .string (bs a1.K.S), .int .i64 a1.K.N, .int .i64 a1.V, .int .i64 a1.N, .int .i64 a1.M] 116 (0, 0))], [(p0_0, .cells #[.int .i64 a0_0.most, .slice A9 a0_0.pairs.length c10] 169 (0, 0))], [(p0, .cells #[.pointer (some ⟨p0_0, 0, none⟩), .pointer (some ⟨p0_1, 0, none⟩), .slice A0_2 a0_2.length c0_2, .slice A119 l116.length c120] 110 (0, 0))], [(b39, .cells #[.string (bs s40), .int .i64 x41] 103 (0, 0))], [(b73, .cells #[.string (bs a2.S), .int .i64 a2.N, .int .i64 a3, .int .i64 x74, .int .i64 x99] 212 (0, 0))], G11, G0_2] at S175
       refine ⟨_, rfl, ?_⟩
       obtain ⟨cs178, G179, ho180, hg181⟩ := hO177
       obtain ⟨A182, c183, G184, rfl, hO185, hq186⟩ := ho180
       have S187 : St _ _ _ [[(p0_1, .cells #[.int .i64 t171.2.Most, .slice A182 t171.2.L.length c183] 172 (0, 0))], G184, G121, [(b110, .cells #[.string (bs a2.S), .int .i64 a2.N, .int .i64 a3, .int .i64 x74, .int .i64 x99] 212 (0, 0))], [(b26, .cells #[.int .i64 a1.Kind, .int .i64 a1.On, .string (bs a1.K.S), .int .i64 a1.K.N, .int .i64 a1.V, .int .i64 a1.N, .int .i64 a1.M] 116 (0, 0))], [(p0_0, .cells #[.int .i64 a0_0.most, .slice A9 a0_0.pairs.length c10] 169 (0, 0))], [(p0, .cells #[.pointer (some ⟨p0_0, 0, none⟩), .pointer (some ⟨p0_1, 0, none⟩), .slice A0_2 a0_2.length c0_2, .slice A119 l116.length c120] 110 (0, 0))], [(b39, .cells #[.string (bs s40), .int .i64 x41] 103 (0, 0))], [(b73, .cells #[.string (bs a2.S), .int .i64 a2.N, .int .i64 a3, .int .i64 x74, .int .i64 x99] 212 (0, 0))], G11, G0_2] := S175.objs (by rw [hg181, hq186]; simp)
       refine WD.nil ?_
       refine WEx.in_normal ?_
       have S188 : St _ _ _ [[(p0_1, .cells #[.int .i64 t171.2.Most, .slice A182 t171.2.L.length c183] 172 (0, 0))], [(b26, .cells #[.int .i64 a1.Kind, .int .i64 a1.On, .string (bs a1.K.S), .int .i64 a1.K.N, .int .i64 a1.V, .int .i64 a1.N, .int .i64 a1.M] 116 (0, 0))], [(p0_0, .cells #[.int .i64 a0_0.most, .slice A9 a0_0.pairs.length c10] 169 (0, 0))], [(p0, .cells #[.pointer (some ⟨p0_0, 0, none⟩), .pointer (some ⟨p0_1, 0, none⟩), .slice A0_2 a0_2.length c0_2, .slice A119 l116.length c120] 110 (0, 0))], G11, G0_2, G121, G184, [(b110, .cells #[.string (bs a2.S), .int .i64 a2.N, .int .i64 a3, .int .i64 x74, .int .i64 x99] 212 (0, 0))], [(b39, .cells #[.string (bs s40), .int .i64 x41] 103 (0, 0))], [(b73, .cells #[.string (bs a2.S), .int .i64 a2.N, .int .i64 a3, .int .i64 x74, .int .i64 x99] 212 (0, 0))]] := St.reord S187 [0, 4, 5, 6, 9, 10, 2, 1, 3, 7, 8] 11 rfl (by decide) rfl
       have S189 := St.keep (As := [[(p0_1, .cells #[.int .i64 t171.2.Most, .slice A182 t171.2.L.length c183] 172 (0, 0))], [(b26, .cells #[.int .i64 a1.Kind, .int .i64 a1.On, .string (bs a1.K.S), .int .i64 a1.K.N, .int .i64 a1.V, .int .i64 a1.N, .int .i64 a1.M] 116 (0, 0))], [(p0_0, .cells #[.int .i64 a0_0.most, .slice A9 a0_0.pairs.length c10] 169 (0, 0))], [(p0, .cells #[.pointer (some ⟨p0_0, 0, none⟩), .pointer (some ⟨p0_1, 0, none⟩), .slice A0_2 a0_2.length c0_2, .slice A119 l116.length c120] 110 (0, 0))], G11, G0_2, G121, G184]) S188
       refine WEx.cutend _ ?_ ⟨q102, t171.2.Most, A182, c183, t171.2.L, G184, rfl, hF, hO185, S189⟩
       exact ⟨rfl, rfl, rfl, trivial⟩
      ·
       refine WCode.cond_f (kb (b := decide (x38 = 2)) rfl (decide_eq_false h165)) ?_
       refine WCode.seq ?_
       refine WCode.region ?_
       refine WOps.p (G.eql rfl rfl rfl) rfl ?_
       refine WOps.p (G.assign rfl) rfl ?_
       refine WOps.nil ?_
       refine WEx.then_ ?_
       rcases ite_some hF with ⟨h190, hF⟩ | ⟨h190, hF⟩
       ·
        refine WCode.cond_t (kb (b := decide (x38 = 3)) rfl (decide_eq_true h190)) ?_
        refine WCode.seq ?_
        refine WCode.region ?_
        refine WOps.p (G.move rfl) rfl ?_
        refine WOps.p (G.nilp rfl) rfl ?_
        refine WOps.p (G.field T.fld110_1 rfl (show 0 + 1 = 1 from rfl)) rfl ?_
        refine WOps.r (G.load1 T.one104 rfl (cell_blk (S129.blk 5 rfl) rfl)) rfl ?_
        obtain ⟨t191, hc192, hF⟩ := bind_some hF
        have S193 := (S129.front 8 rfl).front 3 rfl
        change St _ _ _ [[(p0_1, .cells #[.int .i64 a0_1.Most, .slice A20 a0_1.L.length c21] 172 (0, 0))], G22, G121, [(b110, .cells #[.string (bs a2.S), .int .i64 a2.N, .int .i64 a3, .int .i64 x74, .int .i64 x99] 212 (0, 0))], [(b26, .cells #[.int .i64 a1.Kind, .int .i64 a1.On, .string (bs a1.K.S), .int .i64 a1.K.N, .int .i64 a1.V, .int .i64 a1.N, .int .i64 a1.M] 116 (0, 0))], [(p0_0, .cells #[.int .i64 a0_0.most, .slice A9 a0_0.pairs.length c10] 169 (0, 0))], [(p0, .cells #[.pointer (some ⟨p0_0, 0, none⟩), .pointer (some ⟨p0_1, 0, none⟩), .slice A0_2 a0_2.length c0_2, .slice A119 l116.length c120] 110 (0, 0))], [(b39, .cells #[.string (bs s40), .int .i64 x41] 103 (0, 0))], [(b73, .cells #[.string (bs a2.S), .int .i64 a2.N, .int .i64 a3, .int .i64 x74, .int .i64 x99] 212 (0, 0))], G11, G0_2] at S193
        have hP194 : PtR 172 ShR.rp w127 (KS [[(p0_1, .cells #[.int .i64 a0_1.Most, .slice A20 a0_1.L.length c21] 172 (0, 0))], G22]) p0_1 a0_1 := ⟨_, S193.blk 0 rfl, KS_at 0 rfl (by simp [keys]), ⟨A20, c21, rfl, ((hO23.rd (fun b o hb => S193.grp 1 rfl hb)).mono (fun b hb => KS_at 1 rfl hb))⟩⟩
        refine WOps.call T.call120 (evs_cons rfl evs_nil) rfl ?_
        refine (rk_All_calls q102 a0_1 hP194 (St.outN (Bs := []) (As := [[(p0_1, .cells #[.int .i64 a0_1.Most, .slice A20 a0_1.L.length c21] 172 (0, 0))], G22]) S193) hc192).mono ?_
        rintro _ w195 ⟨A198, c199, G200, rfl, hO201, T196⟩
        have S197 := St.callN (As := []) S193 T196
        change St _ _ _ [G200, [(p0_1, .cells #[.int .i64 a0_1.Most, .slice A20 a0_1.L.length c21] 172 (0, 0))], G22, G121, [(b110, .cells #[.string (bs a2.S), .int .i64 a2.N, .int .i64 a3, .int .i64 x74, .int .i64 x99] 212 (0, 0))], [(b26, .cells #[.int .i64 a1.Kind, .int .i64 a1.On, .string (bs a1.K.S), .int .i64 a1.K.N, .int .i64 a1.V, .int .i64 a1.N, .int .i64 a1.M] 116 (0, 0))], [(p0_0, .cells #[.int .i64 a0_0.most, .slice A9 a0_0.pairs.length c10] 169 (0, 0))], [(p0, .cells #[.pointer (some ⟨p0_0, 0, none⟩), .pointer (some ⟨p0_1, 0, none⟩), .slice A0_2 a0_2.length c0_2, .slice A119 l116.length c120] 110 (0, 0))], [(b39, .cells #[.string (bs s40), .int .i64 x41] 103 (0, 0))], [(b73, .cells #[.string (bs a2.S), .int .i64 a2.N, .int .i64 a3, .int .i64 x74, .int .i64 x99] 212 (0, 0))], G11, G0_2] at S197
        refine ⟨_, rfl, ?_⟩
        refine WOps.p (G.assign rfl) rfl ?_
        refine WOps.nil ?_
        refine WEx.then_ ?_
        refine WCode.forget (l' := [(0, .pointer (some ⟨p0, 0, none⟩)), (3, .int .i64 a3), (5, .pointer (some ⟨b26, 0, none⟩)), (14, .slice A198 (t191).length c199)]) ⟨rfl, rfl, rfl, rfl, trivial⟩ ?_
        refine WCode.seq ?_
        refine WCode.region ?_
        refine WOps.p (G.assign rfl) rfl ?_
        refine WOps.nil ?_
        refine WEx.then_ ?_
        refine WCode.cutseq (fun l_ w_ => ∃ q209 : Nat, ∃ A202 : Option Addr, ∃ c203 : Nat, ∃ l204 : List KeyS, ∃ G205 : Grp, l_ = [(0, .pointer (some ⟨p0, 0, none⟩)), (3, .int .i64 a3), (5, .pointer (some ⟨b26, 0, none⟩)), (15, .slice A202 l204.length c203)] ∧ sd_would.j5 q209 a0_0 a0_1 a0_2 a1 a3 l116 l204 = some r_ ∧ (SlO 103 KeyS.rp (.slice A202 l204.length c203) l204 G205) ∧ St w (KS [[(p0, .cells #[.pointer (some ⟨p0_0, 0, none⟩), .pointer (some ⟨p0_1, 0, none⟩), .slice A0_2 a0_2.length c0_2, .slice A0_3 a0_3.length c0_3] 110 (0, 0))], G0_0, G0_1, G0_2, G0_3]) w_ [[(p0_1, .cells #[.int .i64 a0_1.Most, .slice A20 a0_1.L.length c21] 172 (0, 0))], [(b26, .cells #[.int .i64 a1.Kind, .int .i64 a1.On, .string (bs a1.K.S), .int .i64 a1.K.N, .int .i64 a1.V, .int .i64 a1.N, .int .i64 a1.M] 116 (0, 0))], [(p0_0, .cells #[.int .i64 a0_0.most, .slice A9 a0_0.pairs.length c10] 169 (0, 0))], [(p0, .cells #[.pointer (some ⟨p0_0, 0, none⟩), .pointer (some ⟨p0_1, 0, none⟩), .slice A0_2 a0_2.length c0_2, .slice A119 l116.length c120] 110 (0, 0))], G22, G11, G0_2, G121, G205]) ?_ ?_
        ·
         refine WCode.seq ?_
         refine WCode.region ?_
         refine WOps.p (G.assign rfl) rfl ?_
         refine WOps.nil ?_
         refine WEx.then_ ?_
         refine WCode.block ?_
         have S221 := S197.emp
         have S223 : St _ _ _ [[(p0_1, .cells #[.int .i64 a0_1.Most, .slice A20 a0_1.L.length c21] 172 (0, 0))], [(b26, .cells #[.int .i64 a1.Kind, .int .i64 a1.On, .string (bs a1.K.S), .int .i64 a1.K.N, .int .i64 a1.V, .int .i64 a1.N, .int .i64 a1.M] 116 (0, 0))], [(p0_0, .cells #[.int .i64 a0_0.most, .slice A9 a0_0.pairs.length c10] 169 (0, 0))], [(p0, .cells #[.pointer (some ⟨p0_0, 0, none⟩), .pointer (some ⟨p0_1, 0, none⟩), .slice A0_2 a0_2.length c0_2, .slice A119 l116.length c120] 110 (0, 0))], G200, G22, G11, G0_2, G121, ([] : Grp), [(b110, .cells #[.string (bs a2.S), .int .i64 a2.N, .int .i64 a3, .int .i64 x74, .int .i64 x99] 212 (0, 0))], [(b39, .cells #[.string (bs s40), .int .i64 x41] 103 (0, 0))], [(b73, .cells #[.string (bs a2.S), .int .i64 a2.N, .int .i64 a3, .int .i64 x74, .int .i64 x99] 212 (0, 0))]] := St.reord S221 [2, 6, 7, 8, 1, 3, 11, 12, 4, 0, 5, 9, 10] 13 rfl (by decide) rfl
         have S224 := St.keep (As := [[(p0_1, .cells #[.int .i64 a0_1.Most, .slice A20 a0_1.L.length c21] 172 (0, 0))], [(b26, .cells #[.int .i64 a1.Kind, .int .i64 a1.On, .string (bs a1.K.S), .int .i64 a1.K.N, .int .i64 a1.V, .int .i64 a1.N, .int .i64 a1.M] 116 (0, 0))], [(p0_0, .cells #[.int .i64 a0_0.most, .slice A9 a0_0.pairs.length c10] 169 (0, 0))], [(p0, .cells #[.pointer (some ⟨p0_0, 0, none⟩), .pointer (some ⟨p0_1, 0, none⟩), .slice A0_2 a0_2.length c0_2, .slice A119 l116.length c120] 110 (0, 0))], G200, G22, G11, G0_2, G121, ([] : Grp)]) S223
         refine WCode.forget (l' := [(0, .pointer (some ⟨p0, 0, none⟩)), (3, .int .i64 a3), (5, .pointer (some ⟨b26, 0, none⟩)), (14, .slice A198 (t191).length c199), (15, .slice none 0 0), (16, .int .i64 0)]) ⟨rfl, rfl, rfl, rfl, rfl, rfl, trivial⟩ ?_
         refine WCode.loop (fun n_ l_ w_ => ∃ A211 : Option Addr, ∃ c212 : Nat, ∃ l213 : List KeyS, ∃ G214 : Grp, ∃ x216 : Int, l_ = [(0, .pointer (some ⟨p0, 0, none⟩)), (3, .int .i64 a3), (5, .pointer (some ⟨b26, 0, none⟩)), (14, .slice A198 (t191).length c199), (15, .slice A211 l213.length c212), (16, .int .i64 x216)] ∧ sd_would.l1 n_ a0_0 a0_1 a0_2 a1 a3 l116 t191 l213 x216 = some r_ ∧ (SlO 103 KeyS.rp (.slice A211 l213.length c212) l213 G214) ∧ St w (KS [[(p0, .cells #[.pointer (some ⟨p0_0, 0, none⟩), .pointer (some ⟨p0_1, 0, none⟩), .slice A0_2 a0_2.length c0_2, .slice A0_3 a0_3.length c0_3] 110 (0, 0))], G0_0, G0_1, G0_2, G0_3]) w_ [[(p0_1, .cells #[.int .i64 a0_1.Most, .slice A20 a0_1.L.length c21] 172 (0, 0))], [(b26, .cells #[.int .i64 a1.Kind, .int .i64 a1.On, .string (bs a1.K.S), .int .i64 a1.K.N, .int .i64 a1.V, .int .i64 a1.N, .int .i64 a1.M] 116 (0, 0))], [(p0_0, .cells #[.int .i64 a0_0.most, .slice A9 a0_0.pairs.length c10] 169 (0, 0))], [(p0, .cells #[.pointer (some ⟨p0_0, 0, none⟩), .pointer (some ⟨p0_1, 0, none⟩), .slice A0_2 a0_2.length c0_2, .slice A119 l116.length c120] 110 (0, 0))], G200, G22, G11, G0_2, G121, G214]) q102 ⟨none, 0, [], ([] : Grp), 0, rfl, hF, (SlO.nil 103 KeyS.rp), S224⟩ ?_
         rintro n220 _ w217 ⟨A211, c212, l213, G214, x216, rfl, hF, hO215, S218⟩
         obtain _ | k219 := n220
         · exact nomatch (show (none : Option (Bool × ShK × ShR × (List Asked) × (List Asked))) = some r_ from hF)
         rw [sd_would.l1] at hF
         refine WCode.seq ?_
         refine WCode.seq ?_
         refine WCode.region ?_
         refine WOps.p (G.move rfl) rfl ?_
         refine WOps.p (G.move rfl) rfl ?_
         refine WOps.p (G.len T.el170 rfl) rfl ?_
         refine WOps.p (G.lss rfl rfl rfl) rfl ?_
         refine WOps.nil ?_
         refine WEx.then_ ?_
         rcases ite_some hF with ⟨h226, hF⟩ | ⟨h226, hF⟩
         ·
          refine WCode.cond_t (kb (b := decide (x216 < ((t191).length : Int))) rfl (decide_eq_true h226)) ?_
          refine WCode.skip ?_
          refine WEx.then_ ?_
          refine WCode.seq ?_
          refine WCode.block ?_
          refine WCode.seq ?_
          refine WCode.draw [⟨0, 0, []⟩, ⟨1, 0, []⟩, ⟨2, 0, []⟩, ⟨3, 0, []⟩, ⟨5, 0, []⟩, ⟨6, 0, []⟩, ⟨7, 0, []⟩, ⟨8, 0, []⟩, ⟨4, 1, [10, 11]⟩, ⟨9, 1, [10, 11]⟩, ⟨10, 2, []⟩, ⟨11, 0, []⟩] T.mixed (by kernel_rfl) (by intro _ _ d _ _ h; cases d <;> exact h) rfl (by kernel_rfl) ?_
          have S227 := S218.drew
          generalize w217.drew = w228 at *
          refine WD.p rfl (G.move rfl) rfl ?_
          refine WD.p rfl (G.move rfl) rfl ?_
          obtain ⟨x229, hc230, hF⟩ := bind_some hF
          obtain ⟨j231, ej232, hj233, hl234⟩ := idx_spec hc230
          obtain ⟨b235, o236, cs237, eA238, hf239, hc240, hr241⟩ := SlR.at_ (hO201.rd (fun b o hb => S227.grp 4 rfl hb)) hj233
          have hq242 : cs237 = [.string (bs x229.K.S), .int .i64 x229.K.N, .int .i64 x229.V] := hr241
          subst hq242
          change cellsAt _ _ (o236 + j231 * 3) [.string (bs x229.K.S), .int .i64 x229.K.N, .int .i64 x229.V] at hc240
          refine WD.p rfl (G.idx T.el170 rfl eA238 rfl ej232 hl234) rfl ?_
          refine WD.p rfl (G.field T.fld205_0 rfl (show o236 + j231 * 3 + 0 = o236 + j231 * 3 + 0 from rfl)) rfl ?_
          refine WD.p rfl (G.move rfl) rfl ?_
          refine WD.p rfl (G.move rfl) rfl ?_
          obtain ⟨x243, hc244, hF⟩ := bind_some hF
          obtain ⟨j245, ej246, hj247, hl248⟩ := idx_spec hc244
          obtain ⟨b249, o250, cs251, eA252, hf253, hc254, hr255⟩ := SlR.at_ (hO201.rd (fun b o hb => S227.grp 4 rfl hb)) hj247
          have hq256 : cs251 = [.string (bs x243.K.S), .int .i64 x243.K.N, .int .i64 x243.V] := hr255
          subst hq256
          change cellsAt _ _ (o250 + j245 * 3) [.string (bs x243.K.S), .int .i64 x243.K.N, .int .i64 x243.V] at hc254
          refine WD.p rfl (G.idx T.el170 rfl eA252 rfl ej246 hl248) rfl ?_
          refine WD.p rfl (G.field T.fld205_1 rfl (show o250 + j245 * 3 + 2 = o250 + j245 * 3 + 2 from rfl)) rfl ?_
          refine WD.r rfl (G.loada T.agg103_2 rfl (cs := [.string (bs x229.K.S), .int .i64 x229.K.N]) (cellsAt.part hc240 0 rfl)) rfl ?_
          refine WD.r rfl (G.load1 T.one3 rfl (cellsAt.at hc254 2 rfl)) rfl ?_
          obtain ⟨t257, hc258, hF⟩ := bind_some hF
          refine WD.call rfl T.call131 (evs_cons rfl (evs_cons rfl evs_nil)) rfl ?_
          refine (sh_wanted_calls k219 x229.K x243.V hc258).mono ?_
          rintro _ w259 ⟨rfl, T260⟩
          have S261 := St.callN (As := []) S227 T260
          change St _ _ _ [[(p0_1, .cells #[.int .i64 a0_1.Most, .slice A20 a0_1.L.length c21] 172 (0, 0))], [(b26, .cells #[.int .i64 a1.Kind, .int .i64 a1.On, .string (bs a1.K.S), .int .i64 a1.K.N, .int .i64 a1.V, .int .i64 a1.N, .int .i64 a1.M] 116 (0, 0))], [(p0_0, .cells #[.int .i64 a0_0.most, .slice A9 a0_0.pairs.length c10] 169 (0, 0))], [(p0, .cells #[.pointer (some ⟨p0_0, 0, none⟩), .pointer (some ⟨p0_1, 0, none⟩), .slice A0_2 a0_2.length c0_2, .slice A119 l116.length c120] 110 (0, 0))], G200, G22, G11, G0_2, G121, G214] at S261
          refine ⟨_, rfl, ?_⟩
          refine WD.p rfl (G.assign rfl) rfl ?_
          refine WD.nil ?_
          refine WEx.then_ ?_
          refine WCode.forget (l' := [(0, .pointer (some ⟨p0, 0, none⟩)), (3, .int .i64 a3), (5, .pointer (some ⟨b26, 0, none⟩)), (14, .slice A198 (t191).length c199), (15, .slice A211 l213.length c212), (16, .int .i64 x216), (17, .bool t257)]) ⟨rfl, rfl, rfl, rfl, rfl, rfl, rfl, trivial⟩ ?_
          refine WCode.seq ?_
          refine WCode.region ?_
          refine WOps.p (G.move rfl) rfl ?_
          refine WOps.p (G.not rfl rfl) rfl ?_
          refine WOps.nil ?_
          refine WEx.then_ ?_
          rcases ite_some hF with ⟨h262, hF⟩ | ⟨h262, hF⟩
          ·
           refine WCode.cond_f (kb (b := !t257) rfl (show (!t257) = false from by rw [h262]; rfl)) ?_
           refine WCode.skip ?_
           refine WEx.in_normal ?_
           refine WEx.then_ ?_
           refine WCode.region ?_
           refine WOps.p (G.move rfl) rfl ?_
           refine WOps.p (G.add rfl rfl (r := (w64 (x216 + 1))) rfl) rfl ?_
           refine WOps.p (G.assign rfl) rfl ?_
           refine WOps.nil ?_
           refine WEx.again _ _ (by omega) ?_ ⟨A211, c212, l213, G214, w64 (x216 + 1), rfl, hF, hO215, S261⟩
           exact ⟨rfl, rfl, rfl, rfl, rfl, rfl, trivial⟩
          ·
           refine WCode.cond_t (kb (b := !t257) rfl (show (!t257) = true from by rw [(Bool.eq_false_iff.2 h262)]; rfl)) ?_
           refine WCode.region ?_
           refine WOps.p (G.move rfl) rfl ?_
           refine WOps.p (G.move rfl) rfl ?_
           refine WOps.p (G.move rfl) rfl ?_
           obtain ⟨x263, hc264, hF⟩ := bind_some hF
           obtain ⟨j265, ej266, hj267, hl268⟩ := idx_spec hc264
           obtain ⟨b269, o270, cs271, eA272, hf273, hc274, hr275⟩ := SlR.at_ (hO201.rd (fun b o hb => S261.grp 4 rfl hb)) hj267
           have hq276 : cs271 = [.string (bs x263.K.S), .int .i64 x263.K.N, .int .i64 x263.V] := hr275
           subst hq276
           change cellsAt _ _ (o270 + j265 * 3) [.string (bs x263.K.S), .int .i64 x263.K.N, .int .i64 x263.V] at hc274
           refine WOps.p (G.idx T.el170 rfl eA272 rfl ej266 hl268) rfl ?_
           refine WOps.p (G.field T.fld205_0 rfl (show o270 + j265 * 3 + 0 = o270 + j265 * 3 + 0 from rfl)) rfl ?_
           refine WOps.r (G.loada T.agg103_2 rfl (cs := [.string (bs x263.K.S), .int .i64 x263.K.N]) (cellsAt.part hc274 0 rfl)) rfl ?_
           obtain ⟨b277, w278, E279, S280, X281, L282⟩ := St.lit S261 (P := Try.prog) (t := 176) (e := 103) (n := 1) (vs := [(0, .agg #[.string (bs x263.K.S), .int .i64 x263.K.N])]) (cs := #[.string (bs x263.K.S), .int .i64 x263.K.N]) (by kernel_rfl)
           have c283 := hc274.ext X281
           change St _ _ _ [[(b277, .cells #[.string (bs x263.K.S), .int .i64 x263.K.N] 103 (0, 0))], [(p0_1, .cells #[.int .i64 a0_1.Most, .slice A20 a0_1.L.length c21] 172 (0, 0))], [(b26, .cells #[.int .i64 a1.Kind, .int .i64 a1.On, .string (bs a1.K.S), .int .i64 a1.K.N, .int .i64 a1.V, .int .i64 a1.N, .int .i64 a1.M] 116 (0, 0))], [(p0_0, .cells #[.int .i64 a0_0.most, .slice A9 a0_0.pairs.length c10] 169 (0, 0))], [(p0, .cells #[.pointer (some ⟨p0_0, 0, none⟩), .pointer (some ⟨p0_1, 0, none⟩), .slice A0_2 a0_2.length c0_2, .slice A119 l116.length c120] 110 (0, 0))], G200, G22, G11, G0_2, G121, G214] at S280
           refine WOps.e (E279 (evp_cons rfl evp_nil)) rfl ?_
           obtain ⟨l284, hc285, hF⟩ := bind_some hF
           have S286 := S280.front 10 rfl
           change St _ _ _ [G214, [(b277, .cells #[.string (bs x263.K.S), .int .i64 x263.K.N] 103 (0, 0))], [(p0_1, .cells #[.int .i64 a0_1.Most, .slice A20 a0_1.L.length c21] 172 (0, 0))], [(b26, .cells #[.int .i64 a1.Kind, .int .i64 a1.On, .string (bs a1.K.S), .int .i64 a1.K.N, .int .i64 a1.V, .int .i64 a1.N, .int .i64 a1.M] 116 (0, 0))], [(p0_0, .cells #[.int .i64 a0_0.most, .slice A9 a0_0.pairs.length c10] 169 (0, 0))], [(p0, .cells #[.pointer (some ⟨p0_0, 0, none⟩), .pointer (some ⟨p0_1, 0, none⟩), .slice A0_2 a0_2.length c0_2, .slice A119 l116.length c120] 110 (0, 0))], G200, G22, G11, G0_2, G121] at S286
           obtain ⟨A287, c288, G289, w290, E291, hO292, S293, hk294⟩ := St.appP (P := Try.prog) (r := KeyS.rp) (M := ([x263.K] : List KeyS)) S286 T.elt176 rfl hO215 (Rd.of_blk (S286.blk 1 rfl) (n := 1) (sz := 2) rfl) ⟨_, _, [], [], rfl, rfl, ⟨rfl, rfl⟩, ⟨rfl, rfl⟩⟩ rfl hc285
           change St _ _ _ [G289, [(b277, .cells #[.string (bs x263.K.S), .int .i64 x263.K.N] 103 (0, 0))], [(p0_1, .cells #[.int .i64 a0_1.Most, .slice A20 a0_1.L.length c21] 172 (0, 0))], [(b26, .cells #[.int .i64 a1.Kind, .int .i64 a1.On, .string (bs a1.K.S), .int .i64 a1.K.N, .int .i64 a1.V, .int .i64 a1.N, .int .i64 a1.M] 116 (0, 0))], [(p0_0, .cells #[.int .i64 a0_0.most, .slice A9 a0_0.pairs.length c10] 169 (0, 0))], [(p0, .cells #[.pointer (some ⟨p0_0, 0, none⟩), .pointer (some ⟨p0_1, 0, none⟩), .slice A0_2 a0_2.length c0_2, .slice A119 l116.length c120] 110 (0, 0))], G200, G22, G11, G0_2, G121] at S293
           refine WOps.e (E291 rfl rfl) rfl ?_
           refine WOps.p (G.assign rfl) rfl ?_
           refine WOps.nil ?_
           refine WEx.in_normal ?_
           refine WEx.then_ ?_
           refine WCode.forget (l' := [(0, .pointer (some ⟨p0, 0, none⟩)), (3, .int .i64 a3), (5, .pointer (some ⟨b26, 0, none⟩)), (14, .slice A198 (t191).length c199), (15, .slice A287 l284.length c288), (16, .int .i64 x216)]) ⟨rfl, rfl, rfl, rfl, rfl, rfl, trivial⟩ ?_
           refine WCode.region ?_
           refine WOps.p (G.move rfl) rfl ?_
           refine WOps.p (G.add rfl rfl (r := (w64 (x216 + 1))) rfl) rfl ?_
           refine WOps.p (G.assign rfl) rfl ?_
           refine WOps.nil ?_
           have S295 : St _ _ _ [[(p0_1, .cells #[.int .i64 a0_1.Most, .slice A20 a0_1.L.length c21] 172 (0, 0))], [(b26, .cells #[.int .i64 a1.Kind, .int .i64 a1.On, .string (bs a1.K.S), .int .i64 a1.K.N, .int .i64 a1.V, .int .i64 a1.N, .int .i64 a1.M] 116 (0, 0))], [(p0_0, .cells #[.int .i64 a0_0.most, .slice A9 a0_0.pairs.length c10] 169 (0, 0))], [(p0, .cells #[.pointer (some ⟨p0_0, 0, none⟩), .pointer (some ⟨p0_1, 0, none⟩), .slice A0_2 a0_2.length c0_2, .slice A119 l116.length c120] 110 (0, 0))], G200, G22, G11, G0_2, G121, G289, [(b277, .cells #[.string (bs x263.K.S), .int .i64 x263.K.N] 103 (0, 0))]] := St.reord S293 [2, 3, 4, 5, 6, 7, 8, 9, 10, 0, 1] 11 rfl (by decide) rfl
           have S296 := St.keep (As := [[(p0_1, .cells #[.int .i64 a0_1.Most, .slice A20 a0_1.L.length c21] 172 (0, 0))], [(b26, .cells #[.int .i64 a1.Kind, .int .i64 a1.On, .string (bs a1.K.S), .int .i64 a1.K.N, .int .i64 a1.V, .int .i64 a1.N, .int .i64 a1.M] 116 (0, 0))], [(p0_0, .cells #[.int .i64 a0_0.most, .slice A9 a0_0.pairs.length c10] 169 (0, 0))], [(p0, .cells #[.pointer (some ⟨p0_0, 0, none⟩), .pointer (some ⟨p0_1, 0, none⟩), .slice A0_2 a0_2.length c0_2, .slice A119 l116.length c120] 110 (0, 0))], G200, G22, G11, G0_2, G121, G289]) S295
           refine WEx.again _ _ (by omega) ?_ ⟨A287, c288, l284, G289, w64 (x216 + 1), rfl, hF, hO292, S296⟩
           exact ⟨rfl, rfl, rfl, rfl, rfl, rfl, trivial⟩
         ·
          refine WCode.cond_f (kb (b := decide (x216 < ((t191).length : Int))) rfl (decide_eq_false h226)) ?_
          refine WCode.exit ?_
          refine WEx.then_exit ?_
          refine WEx.then_exit ?_
          refine WEx.in_exit ?_
          have S297 : St _ _ _ [[(p0_1, .cells #[.int .i64 a0_1.Most, .slice A20 a0_1.L.length c21] 172 (0, 0))], [(b26, .cells #[.int .i64 a1.Kind, .int .i64 a1.On, .string (bs a1.K.S), .int .i64 a1.K.N, .int .i64 a1.V, .int .i64 a1.N, .int .i64 a1.M] 116 (0, 0))], [(p0_0, .cells #[.int .i64 a0_0.most, .slice A9 a0_0.pairs.length c10] 169 (0, 0))], [(p0, .cells #[.pointer (some ⟨p0_0, 0, none⟩), .pointer (some ⟨p0_1, 0, none⟩), .slice A0_2 a0_2.length c0_2, .slice A119 l116.length c120] 110 (0, 0))], G22, G11, G0_2, G121, G214, G200] := St.reord S218 [0, 1, 2, 3, 5, 6, 7, 8, 9, 4] 10 rfl (by decide) rfl
          have S298 := St.keep (As := [[(p0_1, .cells #[.int .i64 a0_1.Most, .slice A20 a0_1.L.length c21] 172 (0, 0))], [(b26, .cells #[.int .i64 a1.Kind, .int .i64 a1.On, .string (bs a1.K.S), .int .i64 a1.K.N, .int .i64 a1.V, .int .i64 a1.N, .int .i64 a1.M] 116 (0, 0))], [(p0_0, .cells #[.int .i64 a0_0.most, .slice A9 a0_0.pairs.length c10] 169 (0, 0))], [(p0, .cells #[.pointer (some ⟨p0_0, 0, none⟩), .pointer (some ⟨p0_1, 0, none⟩), .slice A0_2 a0_2.length c0_2, .slice A119 l116.length c120] 110 (0, 0))], G22, G11, G0_2, G121, G214]) S297
          refine WEx.cutend _ ?_ ⟨k219, A211, c212, l213, G214, rfl, hF, hO215, S298⟩
          exact ⟨rfl, rfl, rfl, rfl, trivial⟩
        ·
         rintro _ w207 ⟨q209, A202, c203, l204, G205, rfl, hF, hO206, S208⟩
         unfold sd_would.j5 at hF
         refine WCode.region ?_
         refine WOps.p (G.move rfl) rfl ?_
         refine WOps.p (G.nilp rfl) rfl ?_
         refine WOps.p (G.field T.fld110_1 rfl (show 0 + 1 = 1 from rfl)) rfl ?_
         refine WOps.r (G.load1 T.one104 rfl (cell_blk (S208.blk 3 rfl) rfl)) rfl ?_
         refine WOps.p (G.move rfl) rfl ?_
         have S299 := (S208.front 4 rfl).front 1 rfl
         change St _ _ _ [[(p0_1, .cells #[.int .i64 a0_1.Most, .slice A20 a0_1.L.length c21] 172 (0, 0))], G22, [(b26, .cells #[.int .i64 a1.Kind, .int .i64 a1.On, .string (bs a1.K.S), .int .i64 a1.K.N, .int .i64 a1.V, .int .i64 a1.N, .int .i64 a1.M] 116 (0, 0))], [(p0_0, .cells #[.int .i64 a0_0.most, .slice A9 a0_0.pairs.length c10] 169 (0, 0))], [(p0, .cells #[.pointer (some ⟨p0_0, 0, none⟩), .pointer (some ⟨p0_1, 0, none⟩), .slice A0_2 a0_2.length c0_2, .slice A119 l116.length c120] 110 (0, 0))], G11, G0_2, G121, G205] at S299
         have hO300 : ObjO 172 ShR.rp p0_1 a0_1 ([(p0_1, .cells #[.int .i64 a0_1.Most, .slice A20 a0_1.L.length c21] 172 (0, 0))] ++ (G22)) := ⟨_, _, ⟨A20, c21, G22, rfl, hO23, rfl⟩, rfl⟩
         have S301 : St _ _ _ [[(p0_1, .cells #[.int .i64 a0_1.Most, .slice A20 a0_1.L.length c21] 172 (0, 0))] ++ (G22), [(b26, .cells #[.int .i64 a1.Kind, .int .i64 a1.On, .string (bs a1.K.S), .int .i64 a1.K.N, .int .i64 a1.V, .int .i64 a1.N, .int .i64 a1.M] 116 (0, 0))], [(p0_0, .cells #[.int .i64 a0_0.most, .slice A9 a0_0.pairs.length c10] 169 (0, 0))], [(p0, .cells #[.pointer (some ⟨p0_0, 0, none⟩), .pointer (some ⟨p0_1, 0, none⟩), .slice A0_2 a0_2.length c0_2, .slice A119 l116.length c120] 110 (0, 0))], G11, G0_2, G121, G205] := S299.objs (by simp)
         obtain ⟨t302, hc303, hF⟩ := bind_some hF
         refine WOps.call T.call122 (evs_cons rfl (evs_cons rfl evs_nil)) rfl ?_
         refine (rk_Takes_calls q209 a0_1 l204 hO300 (hO206.rd (fun b o hb => S301.grp 7 rfl hb)) (St.outG (Bs := [[(p0_1, .cells #[.int .i64 a0_1.Most, .slice A20 a0_1.L.length c21] 172 (0, 0))] ++ (G22)]) S301 6 rfl) hc303 (St.hpN (As := [[(p0_1, .cells #[.int .i64 a0_1.Most, .slice A20 a0_1.L.length c21] 172 (0, 0))] ++ (G22)]) S301)).mono ?_
         rintro _ w304 ⟨G307, rfl, hO308, T305⟩
         have S306 := St.callN (As := [[(p0_1, .cells #[.int .i64 a0_1.Most, .slice A20 a0_1.L.length c21] 172 (0, 0))] ++ (G22)]) S301 T305
         change St _ _ _ [G307, [(b26, .cells #[.int .i64 a1.Kind, .int .i64 a1.On, .string (bs a1.K.S), .int .i64 a1.K.N, .int .i64 a1.V, .int .i64 a1.N, .int .i64 a1.M] 116 (0, 0))], [(p0_0, .cells #[.int .i64 a0_0.most, .slice A9 a0_0.pairs.length c10] 169 (0, 0))], [(p0, .cells #[.pointer (some ⟨p0_0, 0, none⟩), .pointer (some ⟨p0_1, 0, none⟩), .slice A0_2 a0_2.length c0_2, .slice A119 l116.length c120] 110 (0, 0))], G11, G0_2, G121, G205] at S306
         refine ⟨_, rfl, ?_⟩
         obtain ⟨cs309, G310, ho311, hg312⟩ := hO308
         obtain ⟨A313, c314, G315, rfl, hO316, hq317⟩ := ho311
         have S318 : St _ _ _ [[(p0_1, .cells #[.int .i64 t302.2.Most, .slice A313 t302.2.L.length c314] 172 (0, 0))], G315, [(b26, .cells #[.int .i64 a1.Kind, .int .i64 a1.On, .string (bs a1.K.S), .int .i64 a1.K.N, .int .i64 a1.V, .int .i64 a1.N, .int .i64 a1.M] 116 (0, 0))], [(p0_0, .cells #[.int .i64 a0_0.most, .slice A9 a0_0.pairs.length c10] 169 (0, 0))], [(p0, .cells #[.pointer (some ⟨p0_0, 0, none⟩), .pointer (some ⟨p0_1, 0, none⟩), .slice A0_2 a0_2.length c0_2, .slice A119 l116.length c120] 110 (0, 0))], G11, G0_2, G121, G205] := S306.objs (by rw [hg312, hq317]; simp)
         refine WOps.nil ?_
         refine WEx.in_normal ?_
         have S319 : St _ _ _ [[(p0_1, .cells #[.int .i64 t302.2.Most, .slice A313 t302.2.L.length c314] 172 (0, 0))], [(b26, .cells #[.int .i64 a1.Kind, .int .i64 a1.On, .string (bs a1.K.S), .int .i64 a1.K.N, .int .i64 a1.V, .int .i64 a1.N, .int .i64 a1.M] 116 (0, 0))], [(p0_0, .cells #[.int .i64 a0_0.most, .slice A9 a0_0.pairs.length c10] 169 (0, 0))], [(p0, .cells #[.pointer (some ⟨p0_0, 0, none⟩), .pointer (some ⟨p0_1, 0, none⟩), .slice A0_2 a0_2.length c0_2, .slice A119 l116.length c120] 110 (0, 0))], G11, G0_2, G121, G315, G205] := St.reord S318 [0, 2, 3, 4, 5, 6, 7, 1, 8] 9 rfl (by decide) rfl
         have S320 := St.keep (As := [[(p0_1, .cells #[.int .i64 t302.2.Most, .slice A313 t302.2.L.length c314] 172 (0, 0))], [(b26, .cells #[.int .i64 a1.Kind, .int .i64 a1.On, .string (bs a1.K.S), .int .i64 a1.K.N, .int .i64 a1.V, .int .i64 a1.N, .int .i64 a1.M] 116 (0, 0))], [(p0_0, .cells #[.int .i64 a0_0.most, .slice A9 a0_0.pairs.length c10] 169 (0, 0))], [(p0, .cells #[.pointer (some ⟨p0_0, 0, none⟩), .pointer (some ⟨p0_1, 0, none⟩), .slice A0_2 a0_2.length c0_2, .slice A119 l116.length c120] 110 (0, 0))], G11, G0_2, G121, G315]) S319
         refine WEx.cutend _ ?_ ⟨q209, t302.2.Most, A313, c314, t302.2.L, G315, rfl, hF, hO316, S320⟩
         exact ⟨rfl, rfl, rfl, trivial⟩
       ·
        refine WCode.cond_f (kb (b := decide (x38 = 3)) rfl (decide_eq_false h190)) ?_
        refine WCode.skip ?_
        refine WEx.in_normal ?_
        have S321 : St _ _ _ [[(p0_1, .cells #[.int .i64 a0_1.Most, .slice A20 a0_1.L.length c21] 172 (0, 0))], [(b26, .cells #[.int .i64 a1.Kind, .int .i64 a1.On, .string (bs a1.K.S), .int .i64 a1.K.N, .int .i64 a1.V, .int .i64 a1.N, .int .i64 a1.M] 116 (0, 0))], [(p0_0, .cells #[.int .i64 a0_0.most, .slice A9 a0_0.pairs.length c10] 169 (0, 0))], [(p0, .cells #[.pointer (some ⟨p0_0, 0, none⟩), .pointer (some ⟨p0_1, 0, none⟩), .slice A0_2 a0_2.length c0_2, .slice A119 l116.length c120] 110 (0, 0))], G11, G0_2, G121, G22, [(b110, .cells #[.string (bs a2.S), .int .i64 a2.N, .int .i64 a3, .int .i64 x74, .int .i64 x99] 212 (0, 0))], [(b39, .cells #[.string (bs s40), .int .i64 x41] 103 (0, 0))], [(b73, .cells #[.string (bs a2.S), .int .i64 a2.N, .int .i64 a3, .int .i64 x74, .int .i64 x99] 212 (0, 0))]] := St.reord S129 [2, 3, 4, 5, 9, 10, 0, 8, 1, 6, 7] 11 rfl (by decide) rfl
        have S322 := St.keep (As := [[(p0_1, .cells #[.int .i64 a0_1.Most, .slice A20 a0_1.L.length c21] 172 (0, 0))], [(b26, .cells #[.int .i64 a1.Kind, .int .i64 a1.On, .string (bs a1.K.S), .int .i64 a1.K.N, .int .i64 a1.V, .int .i64 a1.N, .int .i64 a1.M] 116 (0, 0))], [(p0_0, .cells #[.int .i64 a0_0.most, .slice A9 a0_0.pairs.length c10] 169 (0, 0))], [(p0, .cells #[.pointer (some ⟨p0_0, 0, none⟩), .pointer (some ⟨p0_1, 0, none⟩), .slice A0_2 a0_2.length c0_2, .slice A119 l116.length c120] 110 (0, 0))], G11, G0_2, G121, G22]) S321
        refine WEx.cutend _ ?_ ⟨q102, a0_1.Most, A20, c21, a0_1.L, G22, rfl, hF, hO23, S322⟩
        exact ⟨rfl, rfl, rfl, trivial⟩
    ·
     rintro _ w136 ⟨q138, x130, A131, c132, l133, G134, rfl, hF, hO135, S137⟩
     unfold sd_would.j4 at hF
     refine WCode.seq ?_
     refine WCode.draw [⟨0, 0, []⟩, ⟨2, 0, []⟩, ⟨4, 0, []⟩, ⟨5, 0, []⟩, ⟨6, 0, []⟩, ⟨1, 1, [3, 9, 10, 11, 12]⟩, ⟨3, 0, []⟩, ⟨7, 1, [8, 9, 10, 11, 12]⟩, ⟨8, 0, []⟩, ⟨9, 0, []⟩, ⟨10, 2, []⟩, ⟨11, 0, []⟩, ⟨12, 0, []⟩] T.mixed (by kernel_rfl) (by intro _ _ d _ _ h; cases d <;> exact h) rfl (by kernel_rfl) ?_
     have S323 := S137.drew
     generalize w136.drew = w324 at *
     refine WD.p rfl (G.field T.fld116_4 rfl (show 0 + 5 = 5 from rfl)) rfl ?_
     refine WD.p rfl (G.move rfl) rfl ?_
     refine WD.p rfl (G.move rfl) rfl ?_
     refine WD.p rfl (G.nilp rfl) rfl ?_
     refine WD.p rfl (G.field T.fld110_3 rfl (show 0 + 3 = 3 from rfl)) rfl ?_
     refine WD.r rfl (G.load1 T.one3 rfl (cell_blk (S323.blk 1 rfl) rfl)) rfl ?_
     refine WD.p rfl (G.add rfl rfl (r := (w64 (a1.N + a3))) rfl) rfl ?_
     refine WD.r rfl (G.load1 T.one108 rfl (cell_blk (S323.blk 3 rfl) rfl)) rfl ?_
     refine WD.p rfl (G.len T.el108 rfl) rfl ?_
     refine WD.p rfl (G.add rfl rfl (r := (w64 ((w64 (a1.N + a3)) + (l116.length : Int)))) rfl) rfl ?_
     obtain ⟨t325, hc326, hF⟩ := bind_some hF
     refine WD.call rfl T.call54 (evs_cons rfl (evs_cons rfl evs_nil)) rfl ?_
     refine (sh_pick_calls q138 (w64 ((w64 (a1.N + a3)) + (l116.length : Int))) 3 hc326).mono ?_
     rintro _ w327 ⟨rfl, T328⟩
     have S329 := St.callN (As := []) S323 T328
     change St _ _ _ [[(p0_1, .cells #[.int .i64 x130, .slice A131 l133.length c132] 172 (0, 0))], [(b26, .cells #[.int .i64 a1.Kind, .int .i64 a1.On, .string (bs a1.K.S), .int .i64 a1.K.N, .int .i64 a1.V, .int .i64 a1.N, .int .i64 a1.M] 116 (0, 0))], [(p0_0, .cells #[.int .i64 a0_0.most, .slice A9 a0_0.pairs.length c10] 169 (0, 0))], [(p0, .cells #[.pointer (some ⟨p0_0, 0, none⟩), .pointer (some ⟨p0_1, 0, none⟩), .slice A0_2 a0_2.length c0_2, .slice A119 l116.length c120] 110 (0, 0))], G11, G0_2, G121, G134] at S329
     refine ⟨_, rfl, ?_⟩
     refine WD.p rfl (G.gtr rfl rfl rfl) rfl ?_
     refine WD.p rfl (G.assign rfl) rfl ?_
     refine WD.nil ?_
     refine WEx.then_ ?_
     refine WCode.forget (l' := [(8, .bool (decide (0 < t325)))]) ⟨rfl, trivial⟩ ?_
     refine WCode.ret ?_
     obtain rfl := some_eq hF
     refine WEx.ret1 rfl rfl ?_
     have S330 := (S329.front 4 rfl).front 3 rfl
     change St _ _ _ [[(p0_0, .cells #[.int .i64 a0_0.most, .slice A9 a0_0.pairs.length c10] 169 (0, 0))], G11, [(p0_1, .cells #[.int .i64 x130, .slice A131 l133.length c132] 172 (0, 0))], [(b26, .cells #[.int .i64 a1.Kind, .int .i64 a1.On, .string (bs a1.K.S), .int .i64 a1.K.N, .int .i64 a1.V, .int .i64 a1.N, .int .i64 a1.M] 116 (0, 0))], [(p0, .cells #[.pointer (some ⟨p0_0, 0, none⟩), .pointer (some ⟨p0_1, 0, none⟩), .slice A0_2 a0_2.length c0_2, .slice A119 l116.length c120] 110 (0, 0))], G0_2, G121, G134] at S330
     have hO331 : ObjO 169 ShK.rp p0_0 a0_0 ([(p0_0, .cells #[.int .i64 a0_0.most, .slice A9 a0_0.pairs.length c10] 169 (0, 0))] ++ (G11)) := ⟨_, _, ⟨A9, c10, G11, rfl, hO12, rfl⟩, rfl⟩
     have S332 : St _ _ _ [[(p0_0, .cells #[.int .i64 a0_0.most, .slice A9 a0_0.pairs.length c10] 169 (0, 0))] ++ (G11), [(p0_1, .cells #[.int .i64 x130, .slice A131 l133.length c132] 172 (0, 0))], [(b26, .cells #[.int .i64 a1.Kind, .int .i64 a1.On, .string (bs a1.K.S), .int .i64 a1.K.N, .int .i64 a1.V, .int .i64 a1.N, .int .i64 a1.M] 116 (0, 0))], [(p0, .cells #[.pointer (some ⟨p0_0, 0, none⟩), .pointer (some ⟨p0_1, 0, none⟩), .slice A0_2 a0_2.length c0_2, .slice A119 l116.length c120] 110 (0, 0))], G0_2, G121, G134] := S330.objs (by simp)
     have S333 := (S332.front 6 rfl).front 2 rfl
     change St _ _ _ [[(p0_1, .cells #[.int .i64 x130, .slice A131 l133.length c132] 172 (0, 0))], G134, [(p0_0, .cells #[.int .i64 a0_0.most, .slice A9 a0_0.pairs.length c10] 169 (0, 0))] ++ (G11), [(b26, .cells #[.int .i64 a1.Kind, .int .i64 a1.On, .string (bs a1.K.S), .int .i64 a1.K.N, .int .i64 a1.V, .int .i64 a1.N, .int .i64 a1.M] 116 (0, 0))], [(p0, .cells #[.pointer (some ⟨p0_0, 0, none⟩), .pointer (some ⟨p0_1, 0, none⟩), .slice A0_2 a0_2.length c0_2, .slice A119 l116.length c120] 110 (0, 0))], G0_2, G121] at S333
     have hO334 : ObjO 172 ShR.rp p0_1 (⟨x130, l133⟩ : ShR) ([(p0_1, .cells #[.int .i64 x130, .slice A131 l133.length c132] 172 (0, 0))] ++ (G134)) := ⟨_, _, ⟨A131, c132, G134, rfl, hO135, rfl⟩, rfl⟩
     have S335 : St _ _ _ [[(p0_1, .cells #[.int .i64 x130, .slice A131 l133.length c132] 172 (0, 0))] ++ (G134), [(p0_0, .cells #[.int .i64 a0_0.most, .slice A9 a0_0.pairs.length c10] 169 (0, 0))] ++ (G11), [(b26, .cells #[.int .i64 a1.Kind, .int .i64 a1.On, .string (bs a1.K.S), .int .i64 a1.K.N, .int .i64 a1.V, .int .i64 a1.N, .int .i64 a1.M] 116 (0, 0))], [(p0, .cells #[.pointer (some ⟨p0_0, 0, none⟩), .pointer (some ⟨p0_1, 0, none⟩), .slice A0_2 a0_2.length c0_2, .slice A119 l116.length c120] 110 (0, 0))], G0_2, G121] := S333.objs (by simp)
     have S336 : St _ _ _ [[(p0, .cells #[.pointer (some ⟨p0_0, 0, none⟩), .pointer (some ⟨p0_1, 0, none⟩), .slice A0_2 a0_2.length c0_2, .slice A119 l116.length c120] 110 (0, 0))], [(p0_0, .cells #[.int .i64 a0_0.most, .slice A9 a0_0.pairs.length c10] 169 (0, 0))] ++ (G11), [(p0_1, .cells #[.int .i64 x130, .slice A131 l133.length c132] 172 (0, 0))] ++ (G134), G0_2, G121, [(b26, .cells #[.int .i64 a1.Kind, .int .i64 a1.On, .string (bs a1.K.S), .int .i64 a1.K.N, .int .i64 a1.V, .int .i64 a1.N, .int .i64 a1.M] 116 (0, 0))]] := St.reord S335 [3, 1, 0, 4, 5, 2] 6 rfl (by decide) rfl
     exact ⟨[(p0_0, .cells #[.int .i64 a0_0.most, .slice A9 a0_0.pairs.length c10] 169 (0, 0))] ++ (G11), [(p0_1, .cells #[.int .i64 x130, .slice A131 l133.length c132] 172 (0, 0))] ++ (G134), A0_2, c0_2, G0_2, A119, c120, G121, rfl, hO331, hO334, hO0_2, hO124, St.keep (As := [[(p0, .cells #[.pointer (some ⟨p0_0, 0, none⟩), .pointer (some ⟨p0_1, 0, none⟩), .slice A0_2 a0_2.length c0_2, .slice A119 l116.length c120] 110 (0, 0))], [(p0_0, .cells #[.int .i64 a0_0.most, .slice A9 a0_0.pairs.length c10] 169 (0, 0))] ++ (G11), [(p0_1, .cells #[.int .i64 x130, .slice A131 l133.length c132] 172 (0, 0))] ++ (G134), G0_2, G121]) S336⟩

def sd_prunes.j2 (q289 : Nat) (t51 : Int × ShK × ShR × (List Asked) × (List Asked)) (l103 : List KeyS) (x106 : Int) (l109 : List Pair) (x112 : Int) (l115 : List Key__int_) (l120 : List Asked) (l125 : List Asked) : Option (Bool × ShK × ShR × (List Asked) × (List Asked)) := (Option.bind (rk_Takes q289 (⟨x106, l109⟩ : ShR) l103) fun t339 => (some (decide (t51.1 = t339.1), (⟨x112, l115⟩ : ShK), t339.2, l120, l125)))
def sd_prunes.l2 : Nat → Int × ShK × ShR × (List Asked) × (List Asked) → List KeyS → Int → List Pair → Int → List Key__int_ → List Asked → List Asked → Int → Option (Bool × ShK × ShR × (List Asked) × (List Asked))
  | 0, _, _, _, _, _, _, _, _, _ => none
  | k294 + 1, t51, l103, x106, l109, x112, l115, l120, l125, x291 => (if x291 < (l125.length : Int) then (Option.bind (idx l120 x291) fun x300 => (Option.bind (idx l125 x291) fun x314 => (if x300 = x314 then (sd_prunes.l2 k294 t51 l103 x106 l109 x112 l115 l120 l125 (w64 (x291 + 1))) else (some (false, (⟨x112, l115⟩ : ShK), (⟨x106, l109⟩ : ShR), l120, l125))))) else (sd_prunes.j2 k294 t51 l103 x106 l109 x112 l115 l120 l125))
def sd_prunes.j1 (q130 : Nat) (t51 : Int × ShK × ShR × (List Asked) × (List Asked)) (l103 : List KeyS) (x106 : Int) (l109 : List Pair) (x112 : Int) (l115 : List Key__int_) (l120 : List Asked) (l125 : List Asked) : Option (Bool × ShK × ShR × (List Asked) × (List Asked)) := (if (l120.length : Int) = (l125.length : Int) then (sd_prunes.l2 q130 t51 l103 x106 l109 x112 l115 l120 l125 0) else (some (false, (⟨x112, l115⟩ : ShK), (⟨x106, l109⟩ : ShR), l120, l125)))
def sd_prunes.l1 : Nat → OpS → Int × ShK × ShR × (List Asked) × (List Asked) → (List Pair) → List KeyS → Int → Int → List Pair → Int → List Key__int_ → List Asked → List Asked → Option (Bool × ShK × ShR × (List Asked) × (List Asked))
  | 0, _, _, _, _, _, _, _, _, _, _, _ => none
  | k162 + 1, a1, t51, t91, l134, x137, x138, l141, x144, l147, l152, l157 => (if x137 < ((t91).length : Int) then (Option.bind (idx (t91) x137) fun x172 => (Option.bind (idx (t91) x137) fun x186 => (Option.bind (sd_would k162 (⟨x144, l147⟩ : ShK) (⟨x138, l141⟩ : ShR) l152 l157 a1 x172.K x186.V) fun t206 => (if t206.1 = true then (sd_prunes.l1 k162 a1 t51 t91 l134 (w64 (x137 + 1)) t206.2.2.1.Most t206.2.2.1.L t206.2.1.most t206.2.1.pairs (t206.2.2.2.1) (t206.2.2.2.2)) else (Option.bind (idx (t91) x137) fun x248 => (Option.bind (cat l134 ([x248.K] : List KeyS)) fun l269 => (sd_prunes.l1 k162 a1 t51 t91 l269 (w64 (x137 + 1)) t206.2.2.1.Most t206.2.2.1.L t206.2.1.most t206.2.1.pairs (t206.2.2.2.1) (t206.2.2.2.2)))))))) else (sd_prunes.j1 k162 t51 l134 x138 l141 x144 l147 l152 l157))
def sd_prunes (k : Nat) (a0_0 : ShK) (a0_1 : ShR) (a0_2 : List Asked) (a0_3 : List Asked) (a1 : OpS) : Option (Bool × ShK × ShR × (List Asked) × (List Asked)) := (Option.bind (sk_PruneK k a0_0 a0_1 ([] : List Asked) ([] : List Asked) a1) fun t51 => (Option.bind (rk_All k t51.2.2.1) fun t91 => (sd_prunes.l1 k a1 t51 t91 [] 0 t51.2.2.1.Most t51.2.2.1.L t51.2.1.most t51.2.1.pairs (t51.2.2.2.1) (t51.2.2.2.2))))
set_option maxRecDepth 100000 in
set_option maxHeartbeats 1000000 in
theorem sd_prunes_calls (k : Nat) {p0 : Nat} (a0_0 : ShK) {p0_0 : Nat} {G0_0 : Grp} (a0_1 : ShR) {p0_1 : Nat} {G0_1 : Grp} (a0_2 : List Asked) {A0_2 : Option Addr} {c0_2 : Nat} {G0_2 : Grp} (a0_3 : List Asked) {A0_3 : Option Addr} {c0_3 : Nat} {G0_3 : Grp} (a1 : OpS) {w : World} (hO0_0 : ObjO 169 ShK.rp p0_0 a0_0 G0_0) (hO0_1 : ObjO 172 ShR.rp p0_1 a0_1 G0_1) (hO0_2 : SlO 212 Asked.rp (.slice A0_2 a0_2.length c0_2) a0_2 G0_2) (hO0_3 : SlO 212 Asked.rp (.slice A0_3 a0_3.length c0_3) a0_3 G0_3) {r_ : Bool × ShK × ShR × (List Asked) × (List Asked)} (h_ : sd_prunes k a0_0 a0_1 a0_2 a0_3 a1 = some r_) (hp_ : Hp w ([[(p0, .cells #[.pointer (some ⟨p0_0, 0, none⟩), .pointer (some ⟨p0_1, 0, none⟩), .slice A0_2 a0_2.length c0_2, .slice A0_3 a0_3.length c0_3] 110 (0, 0))], G0_0, G0_1, G0_2, G0_3]).flatten) :
    Calls Try.prog 99 [.pointer (some ⟨p0, 0, none⟩), .agg #[.int .i64 a1.Kind, .int .i64 a1.On, .string (bs a1.K.S), .int .i64 a1.K.N, .int .i64 a1.V, .int .i64 a1.N, .int .i64 a1.M]].toArray w fun e w' => ∃ Ge0_0' : Grp, ∃ Ge0_1' : Grp, ∃ Ae0_2' : Option Addr, ∃ ce0_2' : Nat, ∃ Ge0_2' : Grp, ∃ Ae0_3' : Option Addr, ∃ ce0_3' : Nat, ∃ Ge0_3' : Grp, e = .returned (.bool r_.1) ∧ ObjO 169 ShK.rp p0_0 (r_.2.1) Ge0_0' ∧ ObjO 172 ShR.rp p0_1 (r_.2.2.1) Ge0_1' ∧ SlO 212 Asked.rp (.slice Ae0_2' (r_.2.2.2.1).length ce0_2') (r_.2.2.2.1) Ge0_2' ∧ SlO 212 Asked.rp (.slice Ae0_3' (r_.2.2.2.2).length ce0_3') (r_.2.2.2.2) Ge0_3' ∧ St w (KS [[(p0, .cells #[.pointer (some ⟨p0_0, 0, none⟩), .pointer (some ⟨p0_1, 0, none⟩), .slice A0_2 a0_2.length c0_2, .slice A0_3 a0_3.length c0_3] 110 (0, 0))], G0_0, G0_1, G0_2, G0_3]) w' [[(p0, .cells #[.pointer (some ⟨p0_0, 0, none⟩), .pointer (some ⟨p0_1, 0, none⟩), .slice Ae0_2' (r_.2.2.2.1).length ce0_2', .slice Ae0_3' (r_.2.2.2.2).length ce0_3'] 110 (0, 0))], Ge0_0', Ge0_1', Ge0_2', Ge0_3'] := by
 have hF := h_
 clear h_
 unfold sd_prunes at hF
 have S := St.initK [[(p0, .cells #[.pointer (some ⟨p0_0, 0, none⟩), .pointer (some ⟨p0_1, 0, none⟩), .slice A0_2 a0_2.length c0_2, .slice A0_3 a0_3.length c0_3] 110 (0, 0))], G0_0, G0_1, G0_2, G0_3] hp_
 have S1 := S.front 1 rfl
 change St _ _ _ [G0_0, [(p0, .cells #[.pointer (some ⟨p0_0, 0, none⟩), .pointer (some ⟨p0_1, 0, none⟩), .slice A0_2 a0_2.length c0_2, .slice A0_3 a0_3.length c0_3] 110 (0, 0))], G0_1, G0_2, G0_3] at S1
 obtain ⟨cs2, G3, ho4, hg5⟩ := hO0_0
 obtain ⟨A6, c7, G8, rfl, hO9, hq10⟩ := ho4
 have S11 : St _ _ _ [[(p0_0, .cells #[.int .i64 a0_0.most, .slice A6 a0_0.pairs.length c7] 169 (0, 0))], G8, [(p0, .cells #[.pointer (some ⟨p0_0, 0, none⟩), .pointer (some ⟨p0_1, 0, none⟩), .slice A0_2 a0_2.length c0_2, .slice A0_3 a0_3.length c0_3] 110 (0, 0))], G0_1, G0_2, G0_3] := S1.objs (by rw [hg5, hq10]; simp)
 have S12 := S11.front 3 rfl
 change St _ _ _ [G0_1, [(p0_0, .cells #[.int .i64 a0_0.most, .slice A6 a0_0.pairs.length c7] 169 (0, 0))], G8, [(p0, .cells #[.pointer (some ⟨p0_0, 0, none⟩), .pointer (some ⟨p0_1, 0, none⟩), .slice A0_2 a0_2.length c0_2, .slice A0_3 a0_3.length c0_3] 110 (0, 0))], G0_2, G0_3] at S12
 obtain ⟨cs13, G14, ho15, hg16⟩ := hO0_1
 obtain ⟨A17, c18, G19, rfl, hO20, hq21⟩ := ho15
 have S22 : St _ _ _ [[(p0_1, .cells #[.int .i64 a0_1.Most, .slice A17 a0_1.L.length c18] 172 (0, 0))], G19, [(p0_0, .cells #[.int .i64 a0_0.most, .slice A6 a0_0.pairs.length c7] 169 (0, 0))], G8, [(p0, .cells #[.pointer (some ⟨p0_0, 0, none⟩), .pointer (some ⟨p0_1, 0, none⟩), .slice A0_2 a0_2.length c0_2, .slice A0_3 a0_3.length c0_3] 110 (0, 0))], G0_2, G0_3] := S12.objs (by rw [hg16, hq21]; simp)
 refine enter 100 [(0, .pointer (some ⟨p0, 0, none⟩)), (1, .agg #[.int .i64 a1.Kind, .int .i64 a1.On, .string (bs a1.K.S), .int .i64 a1.K.N, .int .i64 a1.V, .int .i64 a1.N, .int .i64 a1.M])] Try.func99 rfl rfl rfl rfl ?_
 refine WCode.seq ?_
 refine WCode.region ?_
 obtain ⟨b23, w24, E25, S26, X27, L28⟩ := St.box S22 Try.prog 107 (.pointer (some ⟨p0, 0, none⟩))
 change St _ _ _ [[(b23, .cells #[.pointer (some ⟨p0, 0, none⟩)] 107 (0, 0))], [(p0_1, .cells #[.int .i64 a0_1.Most, .slice A17 a0_1.L.length c18] 172 (0, 0))], G19, [(p0_0, .cells #[.int .i64 a0_0.most, .slice A6 a0_0.pairs.length c7] 169 (0, 0))], G8, [(p0, .cells #[.pointer (some ⟨p0_0, 0, none⟩), .pointer (some ⟨p0_1, 0, none⟩), .slice A0_2 a0_2.length c0_2, .slice A0_3 a0_3.length c0_3] 110 (0, 0))], G0_2, G0_3] at S26
 refine WOps.e (E25 rfl) rfl ?_
 obtain ⟨b29, w30, E31, S32, X33, L34⟩ := St.box S26 Try.prog 116 (.agg #[.int .i64 a1.Kind, .int .i64 a1.On, .string (bs a1.K.S), .int .i64 a1.K.N, .int .i64 a1.V, .int .i64 a1.N, .int .i64 a1.M])
 change St _ _ _ [[(b29, .cells #[.int .i64 a1.Kind, .int .i64 a1.On, .string (bs a1.K.S), .int .i64 a1.K.N, .int .i64 a1.V, .int .i64 a1.N, .int .i64 a1.M] 116 (0, 0))], [(b23, .cells #[.pointer (some ⟨p0, 0, none⟩)] 107 (0, 0))], [(p0_1, .cells #[.int .i64 a0_1.Most, .slice A17 a0_1.L.length c18] 172 (0, 0))], G19, [(p0_0, .cells #[.int .i64 a0_0.most, .slice A6 a0_0.pairs.length c7] 169 (0, 0))], G8, [(p0, .cells #[.pointer (some ⟨p0_0, 0, none⟩), .pointer (some ⟨p0_1, 0, none⟩), .slice A0_2 a0_2.length c0_2, .slice A0_3 a0_3.length c0_3] 110 (0, 0))], G0_2, G0_3] at S32
 refine WOps.e (E31 rfl) rfl ?_
 refine WOps.p (G.assign rfl) rfl ?_
 refine WOps.nil ?_
 refine WEx.then_ ?_
 refine WCode.seq ?_
 refine WCode.region ?_
 refine WOps.r (G.load1 T.one107 rfl (cell_blk (S32.blk 1 rfl) rfl)) rfl ?_
 refine WOps.p (G.nilp rfl) rfl ?_
 refine WOps.p (G.field T.fld110_2 rfl (show 0 + 2 = 2 from rfl)) rfl ?_
 obtain ⟨w35, E36, S37⟩ := St.store (P := Try.prog) S32 6 108 (.slice none 0 0) (off := 2) (cur' := #[.pointer (some ⟨p0_0, 0, none⟩), .pointer (some ⟨p0_1, 0, none⟩), .slice none 0 0, .slice A0_3 a0_3.length c0_3]) rfl T.size108_1 rfl rfl rfl
 change St _ _ _ [[(b29, .cells #[.int .i64 a1.Kind, .int .i64 a1.On, .string (bs a1.K.S), .int .i64 a1.K.N, .int .i64 a1.V, .int .i64 a1.N, .int .i64 a1.M] 116 (0, 0))], [(b23, .cells #[.pointer (some ⟨p0, 0, none⟩)] 107 (0, 0))], [(p0_1, .cells #[.int .i64 a0_1.Most, .slice A17 a0_1.L.length c18] 172 (0, 0))], G19, [(p0_0, .cells #[.int .i64 a0_0.most, .slice A6 a0_0.pairs.length c7] 169 (0, 0))], G8, [(p0, .cells #[.pointer (some ⟨p0_0, 0, none⟩), .pointer (some ⟨p0_1, 0, none⟩), .slice none 0 0, .slice A0_3 a0_3.length c0_3] 110 (0, 0))], G0_2, G0_3] at S37
 refine WOps.u (E36 rfl rfl) ?_
 refine WOps.nil ?_
 refine WEx.then_ ?_
 refine WCode.seq ?_
 refine WCode.region ?_
 refine WOps.r (G.load1 T.one107 rfl (cell_blk (S37.blk 1 rfl) rfl)) rfl ?_
 refine WOps.p (G.nilp rfl) rfl ?_
 refine WOps.p (G.field T.fld110_3 rfl (show 0 + 3 = 3 from rfl)) rfl ?_
 obtain ⟨w38, E39, S40⟩ := St.store (P := Try.prog) S37 6 108 (.slice none 0 0) (off := 3) (cur' := #[.pointer (some ⟨p0_0, 0, none⟩), .pointer (some ⟨p0_1, 0, none⟩), .slice none 0 0, .slice none 0 0]) rfl T.size108_1 rfl rfl rfl
 change St _ _ _ [[(b29, .cells #[.int .i64 a1.Kind, .int .i64 a1.On, .string (bs a1.K.S), .int .i64 a1.K.N, .int .i64 a1.V, .int .i64 a1.N, .int .i64 a1.M] 116 (0, 0))], [(b23, .cells #[.pointer (some ⟨p0, 0, none⟩)] 107 (0, 0))], [(p0_1, .cells #[.int .i64 a0_1.Most, .slice A17 a0_1.L.length c18] 172 (0, 0))], G19, [(p0_0, .cells #[.int .i64 a0_0.most, .slice A6 a0_0.pairs.length c7] 169 (0, 0))], G8, [(p0, .cells #[.pointer (some ⟨p0_0, 0, none⟩), .pointer (some ⟨p0_1, 0, none⟩), .slice none 0 0, .slice none 0 0] 110 (0, 0))], G0_2, G0_3] at S40
 refine WOps.u (E39 rfl rfl) ?_
 refine WOps.nil ?_
 refine WEx.then_ ?_
 refine WCode.seq ?_
 refine WCode.region ?_
 refine WOps.r (G.load1 T.one107 rfl (cell_blk (S40.blk 1 rfl) rfl)) rfl ?_
 refine WOps.p (G.nilp rfl) rfl ?_
 refine WOps.p (G.field T.fld110_0 rfl (show 0 + 0 = 0 from rfl)) rfl ?_
 refine WOps.r (G.load1 T.one99 rfl (cell_blk (S40.blk 6 rfl) rfl)) rfl ?_
 refine WOps.p (G.makeFunc (evs_cons rfl (evs_cons rfl evs_nil))) rfl ?_
 have S41 := (S40.front 5 rfl).front 5 rfl
 change St _ _ _ [[(p0_0, .cells #[.int .i64 a0_0.most, .slice A6 a0_0.pairs.length c7] 169 (0, 0))], G8, [(b29, .cells #[.int .i64 a1.Kind, .int .i64 a1.On, .string (bs a1.K.S), .int .i64 a1.K.N, .int .i64 a1.V, .int .i64 a1.N, .int .i64 a1.M] 116 (0, 0))], [(b23, .cells #[.pointer (some ⟨p0, 0, none⟩)] 107 (0, 0))], [(p0_1, .cells #[.int .i64 a0_1.Most, .slice A17 a0_1.L.length c18] 172 (0, 0))], G19, [(p0, .cells #[.pointer (some ⟨p0_0, 0, none⟩), .pointer (some ⟨p0_1, 0, none⟩), .slice none 0 0, .slice none 0 0] 110 (0, 0))], G0_2, G0_3] at S41
 have hO42 : ObjO 169 ShK.rp p0_0 a0_0 ([(p0_0, .cells #[.int .i64 a0_0.most, .slice A6 a0_0.pairs.length c7] 169 (0, 0))] ++ (G8)) := ⟨_, _, ⟨A6, c7, G8, rfl, hO9, rfl⟩, rfl⟩
 have S43 : St _ _ _ [[(p0_0, .cells #[.int .i64 a0_0.most, .slice A6 a0_0.pairs.length c7] 169 (0, 0))] ++ (G8), [(b29, .cells #[.int .i64 a1.Kind, .int .i64 a1.On, .string (bs a1.K.S), .int .i64 a1.K.N, .int .i64 a1.V, .int .i64 a1.N, .int .i64 a1.M] 116 (0, 0))], [(b23, .cells #[.pointer (some ⟨p0, 0, none⟩)] 107 (0, 0))], [(p0_1, .cells #[.int .i64 a0_1.Most, .slice A17 a0_1.L.length c18] 172 (0, 0))], G19, [(p0, .cells #[.pointer (some ⟨p0_0, 0, none⟩), .pointer (some ⟨p0_1, 0, none⟩), .slice none 0 0, .slice none 0 0] 110 (0, 0))], G0_2, G0_3] := S41.objs (by simp)
 have S44 := (S43.front 4 rfl).front 4 rfl
 change St _ _ _ [[(p0_1, .cells #[.int .i64 a0_1.Most, .slice A17 a0_1.L.length c18] 172 (0, 0))], G19, [(p0_0, .cells #[.int .i64 a0_0.most, .slice A6 a0_0.pairs.length c7] 169 (0, 0))] ++ (G8), [(b29, .cells #[.int .i64 a1.Kind, .int .i64 a1.On, .string (bs a1.K.S), .int .i64 a1.K.N, .int .i64 a1.V, .int .i64 a1.N, .int .i64 a1.M] 116 (0, 0))], [(b23, .cells #[.pointer (some ⟨p0, 0, none⟩)] 107 (0, 0))], [(p0, .cells #[.pointer (some ⟨p0_0, 0, none⟩), .pointer (some ⟨p0_1, 0, none⟩), .slice none 0 0, .slice none 0 0] 110 (0, 0))], G0_2, G0_3] at S44
 have hO45 : ObjO 172 ShR.rp p0_1 a0_1 ([(p0_1, .cells #[.int .i64 a0_1.Most, .slice A17 a0_1.L.length c18] 172 (0, 0))] ++ (G19)) := ⟨_, _, ⟨A17, c18, G19, rfl, hO20, rfl⟩, rfl⟩
 have S46 : St _ _ _ [[(p0_1, .cells #[.int .i64 a0_1.Most, .slice A17 a0_1.L.length c18] 172 (0, 0))] ++ (G19), [(p0_0, .cells #[.int .i64 a0_0.most, .slice A6 a0_0.pairs.length c7] 169 (0, 0))] ++ (G8), [(b29, .cells #[.int .i64 a1.Kind, .int .i64 a1.On, .string (bs a1.K.S), .int .i64 a1.K.N, .int .i64 a1.V, .int .i64 a1.N, .int .i64 a1.M] 116 (0, 0))], [(b23, .cells #[.pointer (some ⟨p0, 0, none⟩)] 107 (0, 0))], [(p0, .cells #[.pointer (some ⟨p0_0, 0, none⟩), .pointer (some ⟨p0_1, 0, none⟩), .slice none 0 0, .slice none 0 0] 110 (0, 0))], G0_2, G0_3] := S44.objs (by simp)
 have S47 := S46.emp
 have S49 := S47.emp
 obtain ⟨t51, hc52, hF⟩ := bind_some hF
 have S53 : St _ _ _ [[(p0, .cells #[.pointer (some ⟨p0_0, 0, none⟩), .pointer (some ⟨p0_1, 0, none⟩), .slice none 0 0, .slice none 0 0] 110 (0, 0))], [(p0_0, .cells #[.int .i64 a0_0.most, .slice A6 a0_0.pairs.length c7] 169 (0, 0))] ++ (G8), [(p0_1, .cells #[.int .i64 a0_1.Most, .slice A17 a0_1.L.length c18] 172 (0, 0))] ++ (G19), ([] : Grp), ([] : Grp), [(b29, .cells #[.int .i64 a1.Kind, .int .i64 a1.On, .string (bs a1.K.S), .int .i64 a1.K.N, .int .i64 a1.V, .int .i64 a1.N, .int .i64 a1.M] 116 (0, 0))], [(b23, .cells #[.pointer (some ⟨p0, 0, none⟩)] 107 (0, 0))], G0_2, G0_3] := St.reord S49 [6, 3, 2, 1, 0, 4, 5, 7, 8] 9 rfl (by decide) rfl
 refine WOps.call T.call117 (evs_cons rfl (evs_cons rfl evs_nil)) rfl ?_
 refine (sk_PruneK_calls k a0_0 a0_1 ([] : List Asked) ([] : List Asked) a1 (S53.blk 6 rfl) (St.outG (Bs := [[(p0, .cells #[.pointer (some ⟨p0_0, 0, none⟩), .pointer (some ⟨p0_1, 0, none⟩), .slice none 0 0, .slice none 0 0] 110 (0, 0))], [(p0_0, .cells #[.int .i64 a0_0.most, .slice A6 a0_0.pairs.length c7] 169 (0, 0))] ++ (G8), [(p0_1, .cells #[.int .i64 a0_1.Most, .slice A17 a0_1.L.length c18] 172 (0, 0))] ++ (G19), ([] : Grp), ([] : Grp)]) S53 1 rfl b23 (by simp [keys])).1 hO42 hO45 (SlO.nil 212 Asked.rp) (SlO.nil 212 Asked.rp) (S53.blk 5 rfl) (St.outG (Bs := [[(p0, .cells #[.pointer (some ⟨p0_0, 0, none⟩), .pointer (some ⟨p0_1, 0, none⟩), .slice none 0 0, .slice none 0 0] 110 (0, 0))], [(p0_0, .cells #[.int .i64 a0_0.most, .slice A6 a0_0.pairs.length c7] 169 (0, 0))] ++ (G8), [(p0_1, .cells #[.int .i64 a0_1.Most, .slice A17 a0_1.L.length c18] 172 (0, 0))] ++ (G19), ([] : Grp), ([] : Grp)]) S53 0 rfl b29 (by simp [keys])).1 hc52 (St.hpN (As := [[(p0, .cells #[.pointer (some ⟨p0_0, 0, none⟩), .pointer (some ⟨p0_1, 0, none⟩), .slice none 0 0, .slice none 0 0] 110 (0, 0))], [(p0_0, .cells #[.int .i64 a0_0.most, .slice A6 a0_0.pairs.length c7] 169 (0, 0))] ++ (G8), [(p0_1, .cells #[.int .i64 a0_1.Most, .slice A17 a0_1.L.length c18] 172 (0, 0))] ++ (G19), ([] : Grp), ([] : Grp)]) S53)).mono ?_
 rintro _ w54 ⟨G57, G59, A61, c62, G63, A65, c66, G67, rfl, hO58, hO60, hO64, hO68, T55⟩
 have S56 := St.callN (As := [[(p0, .cells #[.pointer (some ⟨p0_0, 0, none⟩), .pointer (some ⟨p0_1, 0, none⟩), .slice none 0 0, .slice none 0 0] 110 (0, 0))], [(p0_0, .cells #[.int .i64 a0_0.most, .slice A6 a0_0.pairs.length c7] 169 (0, 0))] ++ (G8), [(p0_1, .cells #[.int .i64 a0_1.Most, .slice A17 a0_1.L.length c18] 172 (0, 0))] ++ (G19), ([] : Grp), ([] : Grp)]) S53 T55
 change St _ _ _ [[(p0, .cells #[.pointer (some ⟨p0_0, 0, none⟩), .pointer (some ⟨p0_1, 0, none⟩), .slice A61 (t51.2.2.2.1).length c62, .slice A65 (t51.2.2.2.2).length c66] 110 (0, 0))], G57, G59, G63, G67, [(b29, .cells #[.int .i64 a1.Kind, .int .i64 a1.On, .string (bs a1.K.S), .int .i64 a1.K.N, .int .i64 a1.V, .int .i64 a1.N, .int .i64 a1.M] 116 (0, 0))], [(b23, .cells #[.pointer (some ⟨p0, 0, none⟩)] 107 (0, 0))], G0_2, G0_3] at S56
 refine ⟨_, rfl, ?_⟩
 have S69 := S56.front 1 rfl
 change St _ _ _ [G57, [(p0, .cells #[.pointer (some ⟨p0_0, 0, none⟩), .pointer (some ⟨p0_1, 0, none⟩), .slice A61 (t51.2.2.2.1).length c62, .slice A65 (t51.2.2.2.2).length c66] 110 (0, 0))], G59, G63, G67, [(b29, .cells #[.int .i64 a1.Kind, .int .i64 a1.On, .string (bs a1.K.S), .int .i64 a1.K.N, .int .i64 a1.V, .int .i64 a1.N, .int .i64 a1.M] 116 (0, 0))], [(b23, .cells #[.pointer (some ⟨p0, 0, none⟩)] 107 (0, 0))], G0_2, G0_3] at S69
 obtain ⟨cs70, G71, ho72, hg73⟩ := hO58
 obtain ⟨A74, c75, G76, rfl, hO77, hq78⟩ := ho72
 have S79 : St _ _ _ [[(p0_0, .cells #[.int .i64 t51.2.1.most, .slice A74 t51.2.1.pairs.length c75] 169 (0, 0))], G76, [(p0, .cells #[.pointer (some ⟨p0_0, 0, none⟩), .pointer (some ⟨p0_1, 0, none⟩), .slice A61 (t51.2.2.2.1).length c62, .slice A65 (t51.2.2.2.2).length c66] 110 (0, 0))], G59, G63, G67, [(b29, .cells #[.int .i64 a1.Kind, .int .i64 a1.On, .string (bs a1.K.S), .int .i64 a1.K.N, .int .i64 a1.V, .int .i64 a1.N, .int .i64 a1.M] 116 (0, 0))], [(b23, .cells #[.pointer (some ⟨p0, 0, none⟩)] 107 (0, 0))], G0_2, G0_3] := S69.objs (by rw [hg73, hq78]; simp)
 have S80 := S79.front 3 rfl
 change St _ _ _ [G59, [(p0_0, .cells #[.int .i64 t51.2.1.most, .slice A74 t51.2.1.pairs.length c75] 169 (0, 0))], G76, [(p0, .cells #[.pointer (some ⟨p0_0, 0, none⟩), .pointer (some ⟨p0_1, 0, none⟩), .slice A61 (t51.2.2.2.1).length c62, .slice A65 (t51.2.2.2.2).length c66] 110 (0, 0))], G63, G67, [(b29, .cells #[.int .i64 a1.Kind, .int .i64 a1.On, .string (bs a1.K.S), .int .i64 a1.K.N, .int .i64 a1.V, .int .i64 a1.N, .int .i64 a1.M] 116 (0, 0))], [(b23, .cells #[.pointer (some ⟨p0, 0, none⟩)] 107 (0, 0))], G0_2, G0_3] at S80
 obtain ⟨cs81, G82, ho83, hg84⟩ := hO60
 obtain ⟨A85, c86, G87, rfl, hO88, hq89⟩ := ho83
 have S90 : St _ _ _ [[(p0_1, .cells #[.int .i64 t51.2.2.1.Most, .slice A85 t51.2.2.1.L.length c86] 172 (0, 0))], G87, [(p0_0, .cells #[.int .i64 t51.2.1.most, .slice A74 t51.2.1.pairs.length c75] 169 (0, 0))], G76, [(p0, .cells #[.pointer (some ⟨p0_0, 0, none⟩), .pointer (some ⟨p0_1, 0, none⟩), .slice A61 (t51.2.2.2.1).length c62, .slice A65 (t51.2.2.2.2).length c66] 110 (0, 0))], G63, G67, [(b29, .cells #[.int .i64 a1.Kind, .int .i64 a1.On, .string (bs a1.K.S), .int .i64 a1.K.N, .int .i64 a1.V, .int .i64 a1.N, .int .i64 a1.M] 116 (0, 0))], [(b23, .cells #[.pointer (some ⟨p0, 0, none⟩)] 107 (0, 0))], G0_2, G0_3] := S80.objs (by rw [hg84, hq89]; simp)
 refine WOps.p (G.assign rfl) rfl ?_
 refine WOps.nil ?_
 refine WEx.then_ ?_
 refine WCode.forget (l' := [(2, .pointer (some ⟨b23, 0, none⟩)), (3, .pointer (some ⟨b29, 0, none⟩)), (5, .int .i64 t51.1)]) ⟨rfl, rfl, rfl, trivial⟩ ?_
 refine WCode.seq ?_
 refine WCode.region ?_
 refine WOps.r (G.load1 T.one107 rfl (cell_blk (S90.blk 8 rfl) rfl)) rfl ?_
 refine WOps.p (G.nilp rfl) rfl ?_
 refine WOps.p (G.field T.fld110_1 rfl (show 0 + 1 = 1 from rfl)) rfl ?_
 refine WOps.r (G.load1 T.one104 rfl (cell_blk (S90.blk 4 rfl) rfl)) rfl ?_
 obtain ⟨t91, hc92, hF⟩ := bind_some hF
 have hP93 : PtR 172 ShR.rp w54 (KS [[(p0_1, .cells #[.int .i64 t51.2.2.1.Most, .slice A85 t51.2.2.1.L.length c86] 172 (0, 0))], G87]) p0_1 t51.2.2.1 := ⟨_, S90.blk 0 rfl, KS_at 0 rfl (by simp [keys]), ⟨A85, c86, rfl, ((hO88.rd (fun b o hb => S90.grp 1 rfl hb)).mono (fun b hb => KS_at 1 rfl hb))⟩⟩
 refine WOps.call T.call120 (evs_cons rfl evs_nil) rfl ?_
 refine (rk_All_calls k t51.2.2.1 hP93 (St.outN (Bs := []) (As := [[(p0_1, .cells #[.int .i64 t51.2.2.1.Most, .slice A85 t51.2.2.1.L.length c86] 172 (0, 0))], G87]) S90) hc92).mono ?_
 rintro _ w94 ⟨A97, c98, G99, rfl, hO100, T95⟩
 have S96 := St.callN (As := []) S90 T95
 change St _ _ _ [G99, [(p0_1, .cells #[.int .i64 t51.2.2.1.Most, .slice A85 t51.2.2.1.L.length c86] 172 (0, 0))], G87, [(p0_0, .cells #[.int .i64 t51.2.1.most, .slice A74 t51.2.1.pairs.length c75] 169 (0, 0))], G76, [(p0, .cells #[.pointer (some ⟨p0_0, 0, none⟩), .pointer (some ⟨p0_1, 0, none⟩), .slice A61 (t51.2.2.2.1).length c62, .slice A65 (t51.2.2.2.2).length c66] 110 (0, 0))], G63, G67, [(b29, .cells #[.int .i64 a1.Kind, .int .i64 a1.On, .string (bs a1.K.S), .int .i64 a1.K.N, .int .i64 a1.V, .int .i64 a1.N, .int .i64 a1.M] 116 (0, 0))], [(b23, .cells #[.pointer (some ⟨p0, 0, none⟩)] 107 (0, 0))], G0_2, G0_3] at S96
 refine ⟨_, rfl, ?_⟩
 refine WOps.p (G.assign rfl) rfl ?_
 refine WOps.nil ?_
 refine WEx.then_ ?_
 refine WCode.seq ?_
 refine WCode.region ?_
 refine WOps.p (G.assign rfl) rfl ?_
 refine WOps.nil ?_
 refine WEx.then_ ?_
 refine WCode.cutseq (fun l_ w_ => ∃ q130 : Nat, ∃ A101 : Option Addr, ∃ c102 : Nat, ∃ l103 : List KeyS, ∃ G104 : Grp, ∃ x106 : Int, ∃ A107 : Option Addr, ∃ c108 : Nat, ∃ l109 : List Pair, ∃ G110 : Grp, ∃ x112 : Int, ∃ A113 : Option Addr, ∃ c114 : Nat, ∃ l115 : List Key__int_, ∃ G116 : Grp, ∃ A118 : Option Addr, ∃ c119 : Nat, ∃ l120 : List Asked, ∃ G121 : Grp, ∃ A123 : Option Addr, ∃ c124 : Nat, ∃ l125 : List Asked, ∃ G126 : Grp, l_ = [(2, .pointer (some ⟨b23, 0, none⟩)), (5, .int .i64 t51.1), (7, .slice A101 l103.length c102)] ∧ sd_prunes.j1 q130 t51 l103 x106 l109 x112 l115 l120 l125 = some r_ ∧ (SlO 103 KeyS.rp (.slice A101 l103.length c102) l103 G104) ∧ (SlO 205 Pair.rp (.slice A107 l109.length c108) l109 G110) ∧ (SlO 203 Key__int_.rp (.slice A113 l115.length c114) l115 G116) ∧ (SlO 212 Asked.rp (.slice A118 l120.length c119) l120 G121) ∧ (SlO 212 Asked.rp (.slice A123 l125.length c124) l125 G126) ∧ St w (KS [[(p0, .cells #[.pointer (some ⟨p0_0, 0, none⟩), .pointer (some ⟨p0_1, 0, none⟩), .slice A0_2 a0_2.length c0_2, .slice A0_3 a0_3.length c0_3] 110 (0, 0))], G0_0, G0_1, G0_2, G0_3]) w_ [[(p0_1, .cells #[.int .i64 x106, .slice A107 l109.length c108] 172 (0, 0))], [(p0_0, .cells #[.int .i64 x112, .slice A113 l115.length c114] 169 (0, 0))], [(p0, .cells #[.pointer (some ⟨p0_0, 0, none⟩), .pointer (some ⟨p0_1, 0, none⟩), .slice A118 l120.length c119, .slice A123 l125.length c124] 110 (0, 0))], [(b23, .cells #[.pointer (some ⟨p0, 0, none⟩)] 107 (0, 0))], G104, G110, G116, G121, G126]) ?_ ?_
 ·
  refine WCode.seq ?_
  refine WCode.region ?_
  refine WOps.p (G.assign rfl) rfl ?_
  refine WOps.nil ?_
  refine WEx.then_ ?_
  refine WCode.block ?_
  have S164 := S96.emp
  have S166 : St _ _ _ [[(p0_1, .cells #[.int .i64 t51.2.2.1.Most, .slice A85 t51.2.2.1.L.length c86] 172 (0, 0))], [(p0_0, .cells #[.int .i64 t51.2.1.most, .slice A74 t51.2.1.pairs.length c75] 169 (0, 0))], [(p0, .cells #[.pointer (some ⟨p0_0, 0, none⟩), .pointer (some ⟨p0_1, 0, none⟩), .slice A61 (t51.2.2.2.1).length c62, .slice A65 (t51.2.2.2.2).length c66] 110 (0, 0))], [(b29, .cells #[.int .i64 a1.Kind, .int .i64 a1.On, .string (bs a1.K.S), .int .i64 a1.K.N, .int .i64 a1.V, .int .i64 a1.N, .int .i64 a1.M] 116 (0, 0))], [(b23, .cells #[.pointer (some ⟨p0, 0, none⟩)] 107 (0, 0))], G99, ([] : Grp), G87, G76, G63, G67, G0_2, G0_3] := St.reord S164 [2, 4, 6, 9, 10, 1, 0, 3, 5, 7, 8, 11, 12] 13 rfl (by decide) rfl
  have S167 := St.keep (As := [[(p0_1, .cells #[.int .i64 t51.2.2.1.Most, .slice A85 t51.2.2.1.L.length c86] 172 (0, 0))], [(p0_0, .cells #[.int .i64 t51.2.1.most, .slice A74 t51.2.1.pairs.length c75] 169 (0, 0))], [(p0, .cells #[.pointer (some ⟨p0_0, 0, none⟩), .pointer (some ⟨p0_1, 0, none⟩), .slice A61 (t51.2.2.2.1).length c62, .slice A65 (t51.2.2.2.2).length c66] 110 (0, 0))], [(b29, .cells #[.int .i64 a1.Kind, .int .i64 a1.On, .string (bs a1.K.S), .int .i64 a1.K.N, .int .i64 a1.V, .int .i64 a1.N, .int .i64 a1.M] 116 (0, 0))], [(b23, .cells #[.pointer (some ⟨p0, 0, none⟩)] 107 (0, 0))], G99, ([] : Grp), G87, G76, G63, G67]) S166
  refine WCode.forget (l' := [(2, .pointer (some ⟨b23, 0, none⟩)), (3, .pointer (some ⟨b29, 0, none⟩)), (5, .int .i64 t51.1), (6, .slice A97 (t91).length c98), (7, .slice none 0 0), (8, .int .i64 0)]) ⟨rfl, rfl, rfl, rfl, rfl, rfl, trivial⟩ ?_
  refine WCode.loop (fun n_ l_ w_ => ∃ A132 : Option Addr, ∃ c133 : Nat, ∃ l134 : List KeyS, ∃ G135 : Grp, ∃ x137 : Int, ∃ x138 : Int, ∃ A139 : Option Addr, ∃ c140 : Nat, ∃ l141 : List Pair, ∃ G142 : Grp, ∃ x144 : Int, ∃ A145 : Option Addr, ∃ c146 : Nat, ∃ l147 : List Key__int_, ∃ G148 : Grp, ∃ A150 : Option Addr, ∃ c151 : Nat, ∃ l152 : List Asked, ∃ G153 : Grp, ∃ A155 : Option Addr, ∃ c156 : Nat, ∃ l157 : List Asked, ∃ G158 : Grp, l_ = [(2, .pointer (some ⟨b23, 0, none⟩)), (3, .pointer (some ⟨b29, 0, none⟩)), (5, .int .i64 t51.1), (6, .slice A97 (t91).length c98), (7, .slice A132 l134.length c133), (8, .int .i64 x137)] ∧ sd_prunes.l1 n_ a1 t51 t91 l134 x137 x138 l141 x144 l147 l152 l157 = some r_ ∧ (SlO 103 KeyS.rp (.slice A132 l134.length c133) l134 G135) ∧ (SlO 205 Pair.rp (.slice A139 l141.length c140) l141 G142) ∧ (SlO 203 Key__int_.rp (.slice A145 l147.length c146) l147 G148) ∧ (SlO 212 Asked.rp (.slice A150 l152.length c151) l152 G153) ∧ (SlO 212 Asked.rp (.slice A155 l157.length c156) l157 G158) ∧ St w (KS [[(p0, .cells #[.pointer (some ⟨p0_0, 0, none⟩), .pointer (some ⟨p0_1, 0, none⟩), .slice A0_2 a0_2.length c0_2, .slice A0_3 a0_3.length c0_3] 110 (0, 0))], G0_0, G0_1, G0_2, G0_3]) w_ [[(p0_1, .cells #[.int .i64 x138, .slice A139 l141.length c140] 172 (0, 0))], [(p0_0, .cells #[.int .i64 x144, .slice A145 l147.length c146] 169 (0, 0))], [(p0, .cells #[.pointer (some ⟨p0_0, 0, none⟩), .pointer (some ⟨p0_1, 0, none⟩), .slice A150 l152.length c151, .slice A155 l157.length c156] 110 (0, 0))], [(b29, .cells #[.int .i64 a1.Kind, .int .i64 a1.On, .string (bs a1.K.S), .int .i64 a1.K.N, .int .i64 a1.V, .int .i64 a1.N, .int .i64 a1.M] 116 (0, 0))], [(b23, .cells #[.pointer (some ⟨p0, 0, none⟩)] 107 (0, 0))], G99, G135, G142, G148, G153, G158]) k ⟨none, 0, [], ([] : Grp), 0, t51.2.2.1.Most, A85, c86, t51.2.2.1.L, G87, t51.2.1.most, A74, c75, t51.2.1.pairs, G76, A61, c62, (t51.2.2.2.1), G63, A65, c66, (t51.2.2.2.2), G67, rfl, hF, (SlO.nil 103 KeyS.rp), hO88, hO77, hO64, hO68, S167⟩ ?_
  rintro n163 _ w160 ⟨A132, c133, l134, G135, x137, x138, A139, c140, l141, G142, x144, A145, c146, l147, G148, A150, c151, l152, G153, A155, c156, l157, G158, rfl, hF, hO136, hO143, hO149, hO154, hO159, S161⟩
  obtain _ | k162 := n163
  · exact nomatch (show (none : Option (Bool × ShK × ShR × (List Asked) × (List Asked))) = some r_ from hF)
  rw [sd_prunes.l1] at hF
  refine WCode.seq ?_
  refine WCode.seq ?_
  refine WCode.region ?_
  refine WOps.p (G.move rfl) rfl ?_
  refine WOps.p (G.move rfl) rfl ?_
  refine WOps.p (G.len T.el170 rfl) rfl ?_
  refine WOps.p (G.lss rfl rfl rfl) rfl ?_
  refine WOps.nil ?_
  refine WEx.then_ ?_
  rcases ite_some hF with ⟨h169, hF⟩ | ⟨h169, hF⟩
  ·
   refine WCode.cond_t (kb (b := decide (x137 < ((t91).length : Int))) rfl (decide_eq_true h169)) ?_
   refine WCode.skip ?_
   refine WEx.then_ ?_
   refine WCode.seq ?_
   refine WCode.block ?_
   refine WCode.seq ?_
   refine WCode.draw [⟨2, 0, []⟩, ⟨3, 0, []⟩, ⟨4, 0, []⟩, ⟨5, 0, []⟩, ⟨7, 0, []⟩, ⟨8, 0, []⟩, ⟨9, 0, []⟩, ⟨10, 0, []⟩, ⟨0, 1, [12, 13]⟩, ⟨1, 1, [12, 13]⟩, ⟨6, 1, [12, 13]⟩, ⟨11, 1, [12, 13]⟩, ⟨12, 2, []⟩, ⟨13, 0, []⟩] T.mixed (by kernel_rfl) (by intro _ _ d _ _ h; cases d <;> exact h) rfl (by kernel_rfl) ?_
   have S170 := S161.drew
   generalize w160.drew = w171 at *
   refine WD.p rfl (G.move rfl) rfl ?_
   refine WD.p rfl (G.move rfl) rfl ?_
   obtain ⟨x172, hc173, hF⟩ := bind_some hF
   obtain ⟨j174, ej175, hj176, hl177⟩ := idx_spec hc173
   obtain ⟨b178, o179, cs180, eA181, hf182, hc183, hr184⟩ := SlR.at_ (hO100.rd (fun b o hb => S170.grp 5 rfl hb)) hj176
   have hq185 : cs180 = [.string (bs x172.K.S), .int .i64 x172.K.N, .int .i64 x172.V] := hr184
   subst hq185
   change cellsAt _ _ (o179 + j174 * 3) [.string (bs x172.K.S), .int .i64 x172.K.N, .int .i64 x172.V] at hc183
   refine WD.p rfl (G.idx T.el170 rfl eA181 rfl ej175 hl177) rfl ?_
   refine WD.p rfl (G.field T.fld205_0 rfl (show o179 + j174 * 3 + 0 = o179 + j174 * 3 + 0 from rfl)) rfl ?_
   refine WD.p rfl (G.move rfl) rfl ?_
   refine WD.p rfl (G.move rfl) rfl ?_
   obtain ⟨x186, hc187, hF⟩ := bind_some hF
   obtain ⟨j188, ej189, hj190, hl191⟩ := idx_spec hc187
   obtain ⟨b192, o193, cs194, eA195, hf196, hc197, hr198⟩ := SlR.at_ (hO100.rd (fun b o hb => S170.grp 5 rfl hb)) hj190
   have hq199 : cs194 = [.string (bs x186.K.S), .int .i64 x186.K.N, .int .i64 x186.V] := hr198
   subst hq199
   change cellsAt _ _ (o193 + j188 * 3) [.string (bs x186.K.S), .int .i64 x186.K.N, .int .i64 x186.V] at hc197
   refine WD.p rfl (G.idx T.el170 rfl eA195 rfl ej189 hl191) rfl ?_
   refine WD.p rfl (G.field T.fld205_1 rfl (show o193 + j188 * 3 + 2 = o193 + j188 * 3 + 2 from rfl)) rfl ?_
   refine WD.r rfl (G.load1 T.one107 rfl (cell_blk (S170.blk 4 rfl) rfl)) rfl ?_
   refine WD.r rfl (G.loada T.agg116_7 rfl (cs := [.int .i64 a1.Kind, .int .i64 a1.On, .string (bs a1.K.S), .int .i64 a1.K.N, .int .i64 a1.V, .int .i64 a1.N, .int .i64 a1.M]) (cellsAt.of_blk (S170.blk 3 rfl) rfl)) rfl ?_
   refine WD.r rfl (G.loada T.agg103_2 rfl (cs := [.string (bs x172.K.S), .int .i64 x172.K.N]) (cellsAt.part hc183 0 rfl)) rfl ?_
   refine WD.r rfl (G.load1 T.one3 rfl (cellsAt.at hc197 2 rfl)) rfl ?_
   have S200 := (S170.front 8 rfl).front 2 rfl
   change St _ _ _ [[(p0_0, .cells #[.int .i64 x144, .slice A145 l147.length c146] 169 (0, 0))], G148, [(p0_1, .cells #[.int .i64 x138, .slice A139 l141.length c140] 172 (0, 0))], [(p0, .cells #[.pointer (some ⟨p0_0, 0, none⟩), .pointer (some ⟨p0_1, 0, none⟩), .slice A150 l152.length c151, .slice A155 l157.length c156] 110 (0, 0))], [(b29, .cells #[.int .i64 a1.Kind, .int .i64 a1.On, .string (bs a1.K.S), .int .i64 a1.K.N, .int .i64 a1.V, .int .i64 a1.N, .int .i64 a1.M] 116 (0, 0))], [(b23, .cells #[.pointer (some ⟨p0, 0, none⟩)] 107 (0, 0))], G99, G135, G142, G153, G158] at S200
   have hO201 : ObjO 169 ShK.rp p0_0 (⟨x144, l147⟩ : ShK) ([(p0_0, .cells #[.int .i64 x144, .slice A145 l147.length c146] 169 (0, 0))] ++ (G148)) := ⟨_, _, ⟨A145, c146, G148, rfl, hO149, rfl⟩, rfl⟩
   have S202 : St _ _ _ [[(p0_0, .cells #[.int .i64 x144, .slice A145 l147.length c146] 169 (0, 0))] ++ (G148), [(p0_1, .cells #[.int .i64 x138, .slice A139 l141.length c140] 172 (0, 0))], [(p0, .cells #[.pointer (some ⟨p0_0, 0, none⟩), .pointer (some ⟨p0_1, 0, none⟩), .slice A150 l152.length c151, .slice A155 l157.length c156] 110 (0, 0))], [(b29, .cells #[.int .i64 a1.Kind, .int .i64 a1.On, .string (bs a1.K.S), .int .i64 a1.K.N, .int .i64 a1.V, .int .i64 a1.N, .int .i64 a1.M] 116 (0, 0))], [(b23, .cells #[.pointer (some ⟨p0, 0, none⟩)] 107 (0, 0))], G99, G135, G142, G153, G158] := S200.objs (by simp)
   have S203 := (S202.front 7 rfl).front 2 rfl
   change St _ _ _ [[(p0_1, .cells #[.int .i64 x138, .slice A139 l141.length c140] 172 (0, 0))], G142, [(p0_0, .cells #[.int .i64 x144, .slice A145 l147.length c146] 169 (0, 0))] ++ (G148), [(p0, .cells #[.pointer (some ⟨p0_0, 0, none⟩), .pointer (some ⟨p0_1, 0, none⟩), .slice A150 l152.length c151, .slice A155 l157.length c156] 110 (0, 0))], [(b29, .cells #[.int .i64 a1.Kind, .int .i64 a1.On, .string (bs a1.K.S), .int .i64 a1.K.N, .int .i64 a1.V, .int .i64 a1.N, .int .i64 a1.M] 116 (0, 0))], [(b23, .cells #[.pointer (some ⟨p0, 0, none⟩)] 107 (0, 0))], G99, G135, G153, G158] at S203
   have hO204 : ObjO 172 ShR.rp p0_1 (⟨x138, l141⟩ : ShR) ([(p0_1, .cells #[.int .i64 x138, .slice A139 l141.length c140] 172 (0, 0))] ++ (G142)) := ⟨_, _, ⟨A139, c140, G142, rfl, hO143, rfl⟩, rfl⟩
   have S205 : St _ _ _ [[(p0_1, .cells #[.int .i64 x138, .slice A139 l141.length c140] 172 (0, 0))] ++ (G142), [(p0_0, .cells #[.int .i64 x144, .slice A145 l147.length c146] 169 (0, 0))] ++ (G148), [(p0, .cells #[.pointer (some ⟨p0_0, 0, none⟩), .pointer (some ⟨p0_1, 0, none⟩), .slice A150 l152.length c151, .slice A155 l157.length c156] 110 (0, 0))], [(b29, .cells #[.int .i64 a1.Kind, .int .i64 a1.On, .string (bs a1.K.S), .int .i64 a1.K.N, .int .i64 a1.V, .int .i64 a1.N, .int .i64 a1.M] 116 (0, 0))], [(b23, .cells #[.pointer (some ⟨p0, 0, none⟩)] 107 (0, 0))], G99, G135, G153, G158] := S203.objs (by simp)
   obtain ⟨t206, hc207, hF⟩ := bind_some hF
   have S208 : St _ _ _ [[(p0, .cells #[.pointer (some ⟨p0_0, 0, none⟩), .pointer (some ⟨p0_1, 0, none⟩), .slice A150 l152.length c151, .slice A155 l157.length c156] 110 (0, 0))], [(p0_0, .cells #[.int .i64 x144, .slice A145 l147.length c146] 169 (0, 0))] ++ (G148), [(p0_1, .cells #[.int .i64 x138, .slice A139 l141.length c140] 172 (0, 0))] ++ (G142), G153, G158, [(b29, .cells #[.int .i64 a1.Kind, .int .i64 a1.On, .string (bs a1.K.S), .int .i64 a1.K.N, .int .i64 a1.V, .int .i64 a1.N, .int .i64 a1.M] 116 (0, 0))], [(b23, .cells #[.pointer (some ⟨p0, 0, none⟩)] 107 (0, 0))], G99, G135] := St.reord S205 [2, 1, 0, 7, 8, 3, 4, 5, 6] 9 rfl (by decide) rfl
   refine WD.call rfl T.call121 (evs_cons rfl (evs_cons rfl (evs_cons rfl (evs_cons rfl evs_nil)))) rfl ?_
   refine (sd_would_calls k162 (⟨x144, l147⟩ : ShK) (⟨x138, l141⟩ : ShR) l152 l157 a1 x172.K x186.V hO201 hO204 hO154 hO159 hc207 (St.hpN (As := [[(p0, .cells #[.pointer (some ⟨p0_0, 0, none⟩), .pointer (some ⟨p0_1, 0, none⟩), .slice A150 l152.length c151, .slice A155 l157.length c156] 110 (0, 0))], [(p0_0, .cells #[.int .i64 x144, .slice A145 l147.length c146] 169 (0, 0))] ++ (G148), [(p0_1, .cells #[.int .i64 x138, .slice A139 l141.length c140] 172 (0, 0))] ++ (G142), G153, G158]) S208)).mono ?_
   rintro _ w209 ⟨G212, G214, A216, c217, G218, A220, c221, G222, rfl, hO213, hO215, hO219, hO223, T210⟩
   have S211 := St.callN (As := [[(p0, .cells #[.pointer (some ⟨p0_0, 0, none⟩), .pointer (some ⟨p0_1, 0, none⟩), .slice A150 l152.length c151, .slice A155 l157.length c156] 110 (0, 0))], [(p0_0, .cells #[.int .i64 x144, .slice A145 l147.length c146] 169 (0, 0))] ++ (G148), [(p0_1, .cells #[.int .i64 x138, .slice A139 l141.length c140] 172 (0, 0))] ++ (G142), G153, G158]) S208 T210
   change St _ _ _ [[(p0, .cells #[.pointer (some ⟨p0_0, 0, none⟩), .pointer (some ⟨p0_1, 0, none⟩), .slice A216 (t206.2.2.2.1).length c217, .slice A220 (t206.2.2.2.2).length c221] 110 (0, 0))], G212, G214, G218, G222, [(b29, .cells #[.int .i64 a1.Kind, .int .i64 a1.On, .string (bs a1.K.S), .int .i64 a1.K.N, .int .i64 a1.V, .int .i64 a1.N, .int .i64 a1.M] 116 (0, 0))], [(b23, .cells #[.pointer (some ⟨p0, 0, none⟩)] 107 (0, 0))], G99, G135] at S211
   refine ⟨_, rfl, ?_⟩
   have S224 := S211.front 1 rfl
   change St _ _ _ [G212, [(p0, .cells #[.pointer (some ⟨p0_0, 0, none⟩), .pointer (some ⟨p0_1, 0, none⟩), .slice A216 (t206.2.2.2.1).length c217, .slice A220 (t206.2.2.2.2).length c221] 110 (0, 0))], G214, G218, G222, [(b29, .cells #[.int .i64 a1.Kind, .int .i64 a1.On, .string (bs a1.K.S), .int .i64 a1.K.N, .int .i64 a1.V, .int .i64 a1.N, .int .i64 a1.M] 116 (0, 0))], [(b23, .cells #[.pointer (some ⟨p0, 0, none⟩)] 107 (0, 0))], G99, G135] at S224
   obtain ⟨cs225, G226, ho227, hg228⟩ := hO213
   obtain ⟨A229, c230, G231, rfl, hO232, hq233⟩ := ho227
   have S234 : St _ _ _ [[(p0_0, .cells #[.int .i64 t206.2.1.most, .slice A229 t206.2.1.pairs.length c230] 169 (0, 0))], G231, [(p0, .cells #[.pointer (some ⟨p0_0, 0, none⟩), .pointer (some ⟨p0_1, 0, none⟩), .slice A216 (t206.2.2.2.1).length c217, .slice A220 (t206.2.2.2.2).length c221] 110 (0, 0))], G214, G218, G222, [(b29, .cells #[.int .i64 a1.Kind, .int .i64 a1.On, .string (bs a1.K.S), .int .i64 a1.K.N, .int .i64 a1.V, .int .i64 a1.N, .int .i64 a1.M] 116 (0, 0))], [(b23, .cells #[.pointer (some ⟨p0, 0, none⟩)] 107 (0, 0))], G99, G135] := S224.objs (by rw [hg228, hq233]; simp)
   have S235 := S234.front 3 rfl
   change St _ _ _ [G214, [(p0_0, .cells #[.int .i64 t206.2.1.most, .slice A229 t206.2.1.pairs.length c230] 169 (0, 0))], G231, [(p0, .cells #[.pointer (some ⟨p0_0, 0, none⟩), .pointer (some ⟨p0_1, 0, none⟩), .slice A216 (t206.2.2.2.1).length c217, .slice A220 (t206.2.2.2.2).length c221] 110 (0, 0))], G218, G222, [(b29, .cells #[.int .i64 a1.Kind, .int .i64 a1.On, .string (bs a1.K.S), .int .i64 a1.K.N, .int .i64 a1.V, .int .i64 a1.N, .int .i64 a1.M] 116 (0, 0))], [(b23, .cells #[.pointer (some ⟨p0, 0, none⟩)] 107 (0, 0))], G99, G135] at S235
   obtain ⟨cs236, G237, ho238, hg239⟩ := hO215
   obtain ⟨A240, c241, G242, rfl, hO243, hq244⟩ := ho238
   have S245 : St _ _ _ [[(p0_1, .cells #[.int .i64 t206.2.2.1.Most, .slice A240 t206.2.2.1.L.length c241] 172 (0, 0))], G242, [(p0_0, .cells #[.int .i64 t206.2.1.most, .slice A229 t206.2.1.pairs.length c230] 169 (0, 0))], G231, [(p0, .cells #[.pointer (some ⟨p0_0, 0, none⟩), .pointer (some ⟨p0_1, 0, none⟩), .slice A216 (t206.2.2.2.1).length c217, .slice A220 (t206.2.2.2.2).length c221] 110 (0, 0))], G218, G222, [(b29, .cells #[.int .i64 a1.Kind, .int .i64 a1.On, .string (bs a1.K.S), .int .i64 a1.K.N, .int .i64 a1.V, .int .i64 a1.N, .int .i64 a1.M] 116 (0, 0))], [(b23, .cells #[.pointer (some ⟨p0, 0, none⟩)] 107 (0, 0))], G99, G135] := S235.objs (by rw [hg239, hq244]; simp)
   refine WD.p rfl (G.assign rfl) rfl ?_
   refine WD.nil ?_
   refine WEx.then_ ?_
   refine WCode.forget (l' := [(2, .pointer (some ⟨b23, 0, none⟩)), (3, .pointer (some ⟨b29, 0, none⟩)), (5, .int .i64 t51.1), (6, .slice A97 (t91).length c98), (7, .slice A132 l134.length c133), (8, .int .i64 x137), (9, .bool t206.1)]) ⟨rfl, rfl, rfl, rfl, rfl, rfl, rfl, trivial⟩ ?_
   refine WCode.seq ?_
   refine WCode.region ?_
   refine WOps.p (G.move rfl) rfl ?_
   refine WOps.p (G.not rfl rfl) rfl ?_
   refine WOps.nil ?_
   refine WEx.then_ ?_
   rcases ite_some hF with ⟨h246, hF⟩ | ⟨h246, hF⟩
   ·
    refine WCode.cond_f (kb (b := !t206.1) rfl (show (!t206.1) = false from by rw [h246]; rfl)) ?_
    refine WCode.skip ?_
    refine WEx.in_normal ?_
    refine WEx.then_ ?_
    refine WCode.region ?_
    refine WOps.p (G.move rfl) rfl ?_
    refine WOps.p (G.add rfl rfl (r := (w64 (x137 + 1))) rfl) rfl ?_
    refine WOps.p (G.assign rfl) rfl ?_
    refine WOps.nil ?_
    have S247 : St _ _ _ [[(p0_1, .cells #[.int .i64 t206.2.2.1.Most, .slice A240 t206.2.2.1.L.length c241] 172 (0, 0))], [(p0_0, .cells #[.int .i64 t206.2.1.most, .slice A229 t206.2.1.pairs.length c230] 169 (0, 0))], [(p0, .cells #[.pointer (some ⟨p0_0, 0, none⟩), .pointer (some ⟨p0_1, 0, none⟩), .slice A216 (t206.2.2.2.1).length c217, .slice A220 (t206.2.2.2.2).length c221] 110 (0, 0))], [(b29, .cells #[.int .i64 a1.Kind, .int .i64 a1.On, .string (bs a1.K.S), .int .i64 a1.K.N, .int .i64 a1.V, .int .i64 a1.N, .int .i64 a1.M] 116 (0, 0))], [(b23, .cells #[.pointer (some ⟨p0, 0, none⟩)] 107 (0, 0))], G99, G135, G242, G231, G218, G222] := St.reord S245 [0, 2, 4, 7, 8, 9, 10, 1, 3, 5, 6] 11 rfl (by decide) rfl
    refine WEx.again _ _ (by omega) ?_ ⟨A132, c133, l134, G135, w64 (x137 + 1), t206.2.2.1.Most, A240, c241, t206.2.2.1.L, G242, t206.2.1.most, A229, c230, t206.2.1.pairs, G231, A216, c217, (t206.2.2.2.1), G218, A220, c221, (t206.2.2.2.2), G222, rfl, hF, hO136, hO243, hO232, hO219, hO223, S247⟩
    exact ⟨rfl, rfl, rfl, rfl, rfl, rfl, trivial⟩
   ·
    refine WCode.cond_t (kb (b := !t206.1) rfl (show (!t206.1) = true from by rw [(Bool.eq_false_iff.2 h246)]; rfl)) ?_
    refine WCode.region ?_
    refine WOps.p (G.move rfl) rfl ?_
    refine WOps.p (G.move rfl) rfl ?_
    refine WOps.p (G.move rfl) rfl ?_
    obtain ⟨x248, hc249, hF⟩ := bind_some hF
    obtain ⟨j250, ej251, hj252, hl253⟩ := idx_spec hc249
    obtain ⟨b254, o255, cs256, eA257, hf258, hc259, hr260⟩ := SlR.at_ (hO100.rd (fun b o hb => S245.grp 9 rfl hb)) hj252
    have hq261 : cs256 = [.string (bs x248.K.S), .int .i64 x248.K.N, .int .i64 x248.V] := hr260
    subst hq261
    change cellsAt _ _ (o255 + j250 * 3) [.string (bs x248.K.S), .int .i64 x248.K.N, .int .i64 x248.V] at hc259
    refine WOps.p (G.idx T.el170 rfl eA257 rfl ej251 hl253) rfl ?_
    refine WOps.p (G.field T.fld205_0 rfl (show o255 + j250 * 3 + 0 = o255 + j250 * 3 + 0 from rfl)) rfl ?_
    refine WOps.r (G.loada T.agg103_2 rfl (cs := [.string (bs x248.K.S), .int .i64 x248.K.N]) (cellsAt.part hc259 0 rfl)) rfl ?_
    obtain ⟨b262, w263, E264, S265, X266, L267⟩ := St.lit S245 (P := Try.prog) (t := 176) (e := 103) (n := 1) (vs := [(0, .agg #[.string (bs x248.K.S), .int .i64 x248.K.N])]) (cs := #[.string (bs x248.K.S), .int .i64 x248.K.N]) (by kernel_rfl)
    have c268 := hc259.ext X266
    change St _ _ _ [[(b262, .cells #[.string (bs x248.K.S), .int .i64 x248.K.N] 103 (0, 0))], [(p0_1, .cells #[.int .i64 t206.2.2.1.Most, .slice A240 t206.2.2.1.L.length c241] 172 (0, 0))], G242, [(p0_0, .cells #[.int .i64 t206.2.1.most, .slice A229 t206.2.1.pairs.length c230] 169 (0, 0))], G231, [(p0, .cells #[.pointer (some ⟨p0_0, 0, none⟩), .pointer (some ⟨p0_1, 0, none⟩), .slice A216 (t206.2.2.2.1).length c217, .slice A220 (t206.2.2.2.2).length c221] 110 (0, 0))], G218, G222, [(b29, .cells #[.int .i64 a1.Kind, .int .i64 a1.On, .string (bs a1.K.S), .int .i64 a1.K.N, .int .i64 a1.V, .int .i64 a1.N, .int .i64 a1.M] 116 (0, 0))], [(b23, .cells #[.pointer (some ⟨p0, 0, none⟩)] 107 (0, 0))], G99, G135] at S265
    refine WOps.e (E264 (evp_cons rfl evp_nil)) rfl ?_
    obtain ⟨l269, hc270, hF⟩ := bind_some hF
    have S271 := S265.front 11 rfl
    change St _ _ _ [G135, [(b262, .cells #[.string (bs x248.K.S), .int .i64 x248.K.N] 103 (0, 0))], [(p0_1, .cells #[.int .i64 t206.2.2.1.Most, .slice A240 t206.2.2.1.L.length c241] 172 (0, 0))], G242, [(p0_0, .cells #[.int .i64 t206.2.1.most, .slice A229 t206.2.1.pairs.length c230] 169 (0, 0))], G231, [(p0, .cells #[.pointer (some ⟨p0_0, 0, none⟩), .pointer (some ⟨p0_1, 0, none⟩), .slice A216 (t206.2.2.2.1).length c217, .slice A220 (t206.2.2.2.2).length c221] 110 (0, 0))], G218, G222, [(b29, .cells #[.int .i64 a1.Kind, .int .i64 a1.On, .string (bs a1.K.S), .int .i64 a1.K.N, .int .i64 a1.V, .int .i64 a1.N, .int .i64 a1.M] 116 (0, 0))], [(b23, .cells #[.pointer (some ⟨p0, 0, none⟩)] 107 (0, 0))], G99] at S271
    obtain ⟨A272, c273, G274, w275, E276, hO277, S278, hk279⟩ := St.appP (P := Try.prog) (r := KeyS.rp) (M := ([x248.K] : List KeyS)) S271 T.elt176 rfl hO136 (Rd.of_blk (S271.blk 1 rfl) (n := 1) (sz := 2) rfl) ⟨_, _, [], [], rfl, rfl, ⟨rfl, rfl⟩, ⟨rfl, rfl⟩⟩ rfl hc270
    change St _ _ _ [G274, [(b262, .cells #[.string (bs x248.K.S), .int .i64 x248.K.N] 103 (0, 0))], [(p0_1, .cells #[.int .i64 t206.2.2.1.Most, .slice A240 t206.2.2.1.L.length c241] 172 (0, 0))], G242, [(p0_0, .cells #[.int .i64 t206.2.1.most, .slice A229 t206.2.1.pairs.length c230] 169 (0, 0))], G231, [(p0, .cells #[.pointer (some ⟨p0_0, 0, none⟩), .pointer (some ⟨p0_1, 0, none⟩), .slice A216 (t206.2.2.2.1).length c217, .slice A220 (t206.2.2.2.2).length c221] 110 (0, 0))], G218, G222, [(b29, .cells #[.int .i64 a1.Kind, .int .i64 a1.On, .string (bs a1.K.S), .int .i64 a1.K.N, .int .i64 a1.V, .int .i64 a1.N, .int .i64 a1.M] 116 (0, 0))], [(b23, .cells #[.pointer (some ⟨p0, 0, none⟩)] 107 (0, 0))], G99] at S278
    refine WOps.e (E276 rfl rfl) rfl ?_
    refine WOps.p (G.assign rfl) rfl ?_
    refine WOps.nil ?_
    refine WEx.in_normal ?_
    refine WEx.then_ ?_
    refine WCode.forget (l' := [(2, .pointer (some ⟨b23, 0, none⟩)), (3, .pointer (some ⟨b29, 0, none⟩)), (5, .int .i64 t51.1), (6, .slice A97 (t91).length c98), (7, .slice A272 l269.length c273), (8, .int .i64 x137)]) ⟨rfl, rfl, rfl, rfl, rfl, rfl, trivial⟩ ?_
    refine WCode.region ?_
    refine WOps.p (G.move rfl) rfl ?_
    refine WOps.p (G.add rfl rfl (r := (w64 (x137 + 1))) rfl) rfl ?_
    refine WOps.p (G.assign rfl) rfl ?_
    refine WOps.nil ?_
    have S280 : St _ _ _ [[(p0_1, .cells #[.int .i64 t206.2.2.1.Most, .slice A240 t206.2.2.1.L.length c241] 172 (0, 0))], [(p0_0, .cells #[.int .i64 t206.2.1.most, .slice A229 t206.2.1.pairs.length c230] 169 (0, 0))], [(p0, .cells #[.pointer (some ⟨p0_0, 0, none⟩), .pointer (some ⟨p0_1, 0, none⟩), .slice A216 (t206.2.2.2.1).length c217, .slice A220 (t206.2.2.2.2).length c221] 110 (0, 0))], [(b29, .cells #[.int .i64 a1.Kind, .int .i64 a1.On, .string (bs a1.K.S), .int .i64 a1.K.N, .int .i64 a1.V, .int .i64 a1.N, .int .i64 a1.M] 116 (0, 0))], [(b23, .cells #[.pointer (some ⟨p0, 0, none⟩)] 107 (0, 0))], G99, G274, G242, G231, G218, G222, [(b262, .cells #[.string (bs x248.K.S), .int .i64 x248.K.N] 103 (0, 0))]] := St.reord S278 [2, 4, 6, 9, 10, 11, 0, 3, 5, 7, 8, 1] 12 rfl (by decide) rfl
    have S281 := St.keep (As := [[(p0_1, .cells #[.int .i64 t206.2.2.1.Most, .slice A240 t206.2.2.1.L.length c241] 172 (0, 0))], [(p0_0, .cells #[.int .i64 t206.2.1.most, .slice A229 t206.2.1.pairs.length c230] 169 (0, 0))], [(p0, .cells #[.pointer (some ⟨p0_0, 0, none⟩), .pointer (some ⟨p0_1, 0, none⟩), .slice A216 (t206.2.2.2.1).length c217, .slice A220 (t206.2.2.2.2).length c221] 110 (0, 0))], [(b29, .cells #[.int .i64 a1.Kind, .int .i64 a1.On, .string (bs a1.K.S), .int .i64 a1.K.N, .int .i64 a1.V, .int .i64 a1.N, .int .i64 a1.M] 116 (0, 0))], [(b23, .cells #[.pointer (some ⟨p0, 0, none⟩)] 107 (0, 0))], G99, G274, G242, G231, G218, G222]) S280
    refine WEx.again _ _ (by omega) ?_ ⟨A272, c273, l269, G274, w64 (x137 + 1), t206.2.2.1.Most, A240, c241, t206.2.2.1.L, G242, t206.2.1.most, A229, c230, t206.2.1.pairs, G231, A216, c217, (t206.2.2.2.1), G218, A220, c221, (t206.2.2.2.2), G222, rfl, hF, hO277, hO243, hO232, hO219, hO223, S281⟩
    exact ⟨rfl, rfl, rfl, rfl, rfl, rfl, trivial⟩
  ·
   refine WCode.cond_f (kb (b := decide (x137 < ((t91).length : Int))) rfl (decide_eq_false h169)) ?_
   refine WCode.exit ?_
   refine WEx.then_exit ?_
   refine WEx.then_exit ?_
   refine WEx.in_exit ?_
   have S282 : St _ _ _ [[(p0_1, .cells #[.int .i64 x138, .slice A139 l141.length c140] 172 (0, 0))], [(p0_0, .cells #[.int .i64 x144, .slice A145 l147.length c146] 169 (0, 0))], [(p0, .cells #[.pointer (some ⟨p0_0, 0, none⟩), .pointer (some ⟨p0_1, 0, none⟩), .slice A150 l152.length c151, .slice A155 l157.length c156] 110 (0, 0))], [(b23, .cells #[.pointer (some ⟨p0, 0, none⟩)] 107 (0, 0))], G135, G142, G148, G153, G158, [(b29, .cells #[.int .i64 a1.Kind, .int .i64 a1.On, .string (bs a1.K.S), .int .i64 a1.K.N, .int .i64 a1.V, .int .i64 a1.N, .int .i64 a1.M] 116 (0, 0))], G99] := St.reord S161 [0, 1, 2, 4, 6, 7, 8, 9, 10, 3, 5] 11 rfl (by decide) rfl
   have S283 := St.keep (As := [[(p0_1, .cells #[.int .i64 x138, .slice A139 l141.length c140] 172 (0, 0))], [(p0_0, .cells #[.int .i64 x144, .slice A145 l147.length c146] 169 (0, 0))], [(p0, .cells #[.pointer (some ⟨p0_0, 0, none⟩), .pointer (some ⟨p0_1, 0, none⟩), .slice A150 l152.length c151, .slice A155 l157.length c156] 110 (0, 0))], [(b23, .cells #[.pointer (some ⟨p0, 0, none⟩)] 107 (0, 0))], G135, G142, G148, G153, G158]) S282
   refine WEx.cutend _ ?_ ⟨k162, A132, c133, l134, G135, x138, A139, c140, l141, G142, x144, A145, c146, l147, G148, A150, c151, l152, G153, A155, c156, l157, G158, rfl, hF, hO136, hO143, hO149, hO154, hO159, S283⟩
   exact ⟨rfl, rfl, rfl, trivial⟩
 ·
  rintro _ w128 ⟨q130, A101, c102, l103, G104, x106, A107, c108, l109, G110, x112, A113, c114, l115, G116, A118, c119, l120, G121, A123, c124, l125, G126, rfl, hF, hO105, hO111, hO117, hO122, hO127, S129⟩
  unfold sd_prunes.j1 at hF
  refine WCode.seq ?_
  refine WCode.seq ?_
  refine WCode.draw [⟨0, 1, [1, 2, 3, 4, 10]⟩, ⟨1, 0, []⟩, ⟨2, 0, []⟩, ⟨3, 1, [4, 10]⟩, ⟨4, 0, []⟩, ⟨5, 1, [6, 7, 8, 9, 10]⟩, ⟨6, 0, []⟩, ⟨7, 0, []⟩, ⟨8, 1, [9, 10]⟩, ⟨9, 0, []⟩, ⟨10, 0, []⟩] T.mixed (by kernel_rfl) (by intro _ _ d _ _ h; cases d <;> exact h) rfl (by kernel_rfl) ?_
  have S284 := S129.drew
  generalize w128.drew = w285 at *
  refine WD.r rfl (G.load1 T.one107 rfl (cell_blk (S284.blk 3 rfl) rfl)) rfl ?_
  refine WD.p rfl (G.nilp rfl) rfl ?_
  refine WD.p rfl (G.field T.fld110_2 rfl (show 0 + 2 = 2 from rfl)) rfl ?_
  refine WD.r rfl (G.load1 T.one108 rfl (cell_blk (S284.blk 2 rfl) rfl)) rfl ?_
  refine WD.p rfl (G.len T.el108 rfl) rfl ?_
  refine WD.r rfl (G.load1 T.one107 rfl (cell_blk (S284.blk 3 rfl) rfl)) rfl ?_
  refine WD.p rfl (G.nilp rfl) rfl ?_
  refine WD.p rfl (G.field T.fld110_3 rfl (show 0 + 3 = 3 from rfl)) rfl ?_
  refine WD.r rfl (G.load1 T.one108 rfl (cell_blk (S284.blk 2 rfl) rfl)) rfl ?_
  refine WD.p rfl (G.len T.el108 rfl) rfl ?_
  refine WD.p rfl (G.neq rfl rfl rfl) rfl ?_
  refine WD.nil ?_
  refine WEx.then_ ?_
  refine WCode.forget (l' := [(2, .pointer (some ⟨b23, 0, none⟩)), (5, .int .i64 t51.1), (7, .slice A101 l103.length c102), (67, .bool (!(decide ((l120.length : Int) = (l125.length : Int)))))]) ⟨rfl, rfl, rfl, rfl, trivial⟩ ?_
  rcases ite_some hF with ⟨h286, hF⟩ | ⟨h286, hF⟩
  ·
   refine WCode.cond_f (kb (b := !(decide ((l120.length : Int) = (l125.length : Int)))) rfl (show (!(decide ((l120.length : Int) = (l125.length : Int)))) = false from by rw [(decide_eq_true h286)]; rfl)) ?_
   refine WCode.skip ?_
   refine WEx.then_ ?_
   refine WCode.cutseq (fun l_ w_ => ∃ q289 : Nat, l_ = [(2, .pointer (some ⟨b23, 0, none⟩)), (5, .int .i64 t51.1), (7, .slice A101 l103.length c102)] ∧ sd_prunes.j2 q289 t51 l103 x106 l109 x112 l115 l120 l125 = some r_ ∧ St w (KS [[(p0, .cells #[.pointer (some ⟨p0_0, 0, none⟩), .pointer (some ⟨p0_1, 0, none⟩), .slice A0_2 a0_2.length c0_2, .slice A0_3 a0_3.length c0_3] 110 (0, 0))], G0_0, G0_1, G0_2, G0_3]) w_ [[(p0_1, .cells #[.int .i64 x106, .slice A107 l109.length c108] 172 (0, 0))], [(p0_0, .cells #[.int .i64 x112, .slice A113 l115.length c114] 169 (0, 0))], [(p0, .cells #[.pointer (some ⟨p0_0, 0, none⟩), .pointer (some ⟨p0_1, 0, none⟩), .slice A118 l120.length c119, .slice A123 l125.length c124] 110 (0, 0))], [(b23, .cells #[.pointer (some ⟨p0, 0, none⟩)] 107 (0, 0))], G104, G110, G116, G121, G126]) ?_ ?_
   ·
    refine WCode.seq ?_
    refine WCode.region ?_
    refine WOps.p (G.assign rfl) rfl ?_
    refine WOps.nil ?_
    refine WEx.then_ ?_
    refine WCode.block ?_
    refine WCode.forget (l' := [(2, .pointer (some ⟨b23, 0, none⟩)), (5, .int .i64 t51.1), (7, .slice A101 l103.length c102), (10, .int .i64 0)]) ⟨rfl, rfl, rfl, rfl, trivial⟩ ?_
    refine WCode.loop (fun n_ l_ w_ => ∃ x291 : Int, l_ = [(2, .pointer (some ⟨b23, 0, none⟩)), (5, .int .i64 t51.1), (7, .slice A101 l103.length c102), (10, .int .i64 x291)] ∧ sd_prunes.l2 n_ t51 l103 x106 l109 x112 l115 l120 l125 x291 = some r_ ∧ St w (KS [[(p0, .cells #[.pointer (some ⟨p0_0, 0, none⟩), .pointer (some ⟨p0_1, 0, none⟩), .slice A0_2 a0_2.length c0_2, .slice A0_3 a0_3.length c0_3] 110 (0, 0))], G0_0, G0_1, G0_2, G0_3]) w_ [[(p0_1, .cells #[.int .i64 x106, .slice A107 l109.length c108] 172 (0, 0))], [(p0_0, .cells #[.int .i64 x112, .slice A113 l115.length c114] 169 (0, 0))], [(p0, .cells #[.pointer (some ⟨p0_0, 0, none⟩), .pointer (some ⟨p0_1, 0, none⟩), .slice A118 l120.length c119, .slice A123 l125.length c124] 110 (0, 0))], [(b23, .cells #[.pointer (some ⟨p0, 0, none⟩)] 107 (0, 0))], G104, G110, G116, G121, G126]) q130 ⟨0, rfl, hF, S284⟩ ?_
    rintro n295 _ w292 ⟨x291, rfl, hF, S293⟩
    obtain _ | k294 := n295
    · exact nomatch (show (none : Option (Bool × ShK × ShR × (List Asked) × (List Asked))) = some r_ from hF)
    rw [sd_prunes.l2] at hF
    refine WCode.seq ?_
    refine WCode.seq ?_
    refine WCode.region ?_
    refine WOps.p (G.move rfl) rfl ?_
    refine WOps.r (G.load1 T.one107 rfl (cell_blk (S293.blk 3 rfl) rfl)) rfl ?_
    refine WOps.p (G.nilp rfl) rfl ?_
    refine WOps.p (G.field T.fld110_3 rfl (show 0 + 3 = 3 from rfl)) rfl ?_
    refine WOps.r (G.load1 T.one108 rfl (cell_blk (S293.blk 2 rfl) rfl)) rfl ?_
    refine WOps.p (G.len T.el108 rfl) rfl ?_
    refine WOps.p (G.lss rfl rfl rfl) rfl ?_
    refine WOps.nil ?_
    refine WEx.then_ ?_
    rcases ite_some hF with ⟨h297, hF⟩ | ⟨h297, hF⟩
    ·
     refine WCode.cond_t (kb (b := decide (x291 < (l125.length : Int))) rfl (decide_eq_true h297)) ?_
     refine WCode.skip ?_
     refine WEx.then_ ?_
     refine WCode.seq ?_
     refine WCode.block ?_
     refine WCode.seq ?_
     refine WCode.draw [⟨4, 0, []⟩, ⟨11, 0, []⟩, ⟨0, 1, [1, 2, 3, 5, 6, 14]⟩, ⟨1, 0, []⟩, ⟨2, 0, []⟩, ⟨3, 1, [5, 6, 14]⟩, ⟨5, 0, []⟩, ⟨6, 1, [14]⟩, ⟨7, 1, [8, 9, 10, 12, 13, 14]⟩, ⟨8, 0, []⟩, ⟨9, 0, []⟩, ⟨10, 1, [12, 13, 14]⟩, ⟨12, 0, []⟩, ⟨13, 1, [14]⟩, ⟨14, 0, []⟩] T.mixed (by kernel_rfl) (by intro _ _ d _ _ h; cases d <;> exact h) rfl (by kernel_rfl) ?_
     have S298 := S293.drew
     generalize w292.drew = w299 at *
     refine WD.p rfl (G.move rfl) rfl ?_
     refine WD.p rfl (G.move rfl) rfl ?_
     refine WD.r rfl (G.load1 T.one107 rfl (cell_blk (S298.blk 3 rfl) rfl)) rfl ?_
     refine WD.p rfl (G.nilp rfl) rfl ?_
     refine WD.p rfl (G.field T.fld110_2 rfl (show 0 + 2 = 2 from rfl)) rfl ?_
     refine WD.r rfl (G.load1 T.one108 rfl (cell_blk (S298.blk 2 rfl) rfl)) rfl ?_
     obtain ⟨x300, hc301, hF⟩ := bind_some hF
     obtain ⟨j302, ej303, hj304, hl305⟩ := idx_spec hc301
     obtain ⟨b306, o307, cs308, eA309, hf310, hc311, hr312⟩ := SlR.at_ (hO122.rd (fun b o hb => S298.grp 7 rfl hb)) hj304
     have hq313 : cs308 = [.string (bs x300.K.S), .int .i64 x300.K.N, .int .i64 x300.V, .int .i64 x300.Len, .int .i64 x300.There] := hr312
     subst hq313
     change cellsAt _ _ (o307 + j302 * 5) [.string (bs x300.K.S), .int .i64 x300.K.N, .int .i64 x300.V, .int .i64 x300.Len, .int .i64 x300.There] at hc311
     refine WD.p rfl (G.idx T.el108 rfl eA309 rfl ej303 hl305) rfl ?_
     refine WD.r rfl (G.loada T.agg212_5 rfl (cs := [.string (bs x300.K.S), .int .i64 x300.K.N, .int .i64 x300.V, .int .i64 x300.Len, .int .i64 x300.There]) hc311) rfl ?_
     refine WD.r rfl (G.load1 T.one107 rfl (cell_blk (S298.blk 3 rfl) rfl)) rfl ?_
     refine WD.p rfl (G.nilp rfl) rfl ?_
     refine WD.p rfl (G.field T.fld110_3 rfl (show 0 + 3 = 3 from rfl)) rfl ?_
     refine WD.r rfl (G.load1 T.one108 rfl (cell_blk (S298.blk 2 rfl) rfl)) rfl ?_
     obtain ⟨x314, hc315, hF⟩ := bind_some hF
     obtain ⟨j316, ej317, hj318, hl319⟩ := idx_spec hc315
     obtain ⟨b320, o321, cs322, eA323, hf324, hc325, hr326⟩ := SlR.at_ (hO127.rd (fun b o hb => S298.grp 8 rfl hb)) hj318
     have hq327 : cs322 = [.string (bs x314.K.S), .int .i64 x314.K.N, .int .i64 x314.V, .int .i64 x314.Len, .int .i64 x314.There] := hr326
     subst hq327
     change cellsAt _ _ (o321 + j316 * 5) [.string (bs x314.K.S), .int .i64 x314.K.N, .int .i64 x314.V, .int .i64 x314.Len, .int .i64 x314.There] at hc325
     refine WD.p rfl (G.idx T.el108 rfl eA323 rfl ej317 hl319) rfl ?_
     refine WD.r rfl (G.loada T.agg212_5 rfl (cs := [.string (bs x314.K.S), .int .i64 x314.K.N, .int .i64 x314.V, .int .i64 x314.Len, .int .i64 x314.There]) hc325) rfl ?_
     refine WD.p rfl (G.neqa rfl rfl (by kernel_rfl) (Asked.eqIn212 x300 x314) rfl) rfl ?_
     refine WD.nil ?_
     refine WEx.then_ ?_
     refine WCode.forget (l' := [(2, .pointer (some ⟨b23, 0, none⟩)), (5, .int .i64 t51.1), (7, .slice A101 l103.length c102), (10, .int .i64 x291), (91, .bool (!(decide (x300 = x314))))]) ⟨rfl, rfl, rfl, rfl, rfl, trivial⟩ ?_
     rcases ite_some hF with ⟨h328, hF⟩ | ⟨h328, hF⟩
     ·
      refine WCode.cond_f (kb (b := !(decide (x300 = x314))) rfl (show (!(decide (x300 = x314))) = false from by rw [(decide_eq_true h328)]; rfl)) ?_
      refine WCode.skip ?_
      refine WEx.in_normal ?_
      refine WEx.then_ ?_
      refine WCode.region ?_
      refine WOps.p (G.move rfl) rfl ?_
      refine WOps.p (G.add rfl rfl (r := (w64 (x291 + 1))) rfl) rfl ?_
      refine WOps.p (G.assign rfl) rfl ?_
      refine WOps.nil ?_
      refine WEx.again _ _ (by omega) ?_ ⟨w64 (x291 + 1), rfl, hF, S298⟩
      exact ⟨rfl, rfl, rfl, rfl, trivial⟩
     ·
      refine WCode.cond_t (kb (b := !(decide (x300 = x314))) rfl (show (!(decide (x300 = x314))) = true from by rw [(decide_eq_false h328)]; rfl)) ?_
      refine WCode.seq ?_
      refine WCode.region ?_
      refine WOps.p (G.assign rfl) rfl ?_
      refine WOps.nil ?_
      refine WEx.then_ ?_
      refine WCode.ret ?_
      refine WEx.in_ret ?_
      refine WEx.then_ret ?_
      refine WEx.then_ret ?_
      refine WEx.in_ret ?_
      refine WEx.then_ret ?_
      obtain rfl := some_eq hF
      refine WEx.ret1 rfl rfl ?_
      have S329 := (S298.front 6 rfl).front 2 rfl
      change St _ _ _ [[(p0_0, .cells #[.int .i64 x112, .slice A113 l115.length c114] 169 (0, 0))], G116, [(p0_1, .cells #[.int .i64 x106, .slice A107 l109.length c108] 172 (0, 0))], [(p0, .cells #[.pointer (some ⟨p0_0, 0, none⟩), .pointer (some ⟨p0_1, 0, none⟩), .slice A118 l120.length c119, .slice A123 l125.length c124] 110 (0, 0))], [(b23, .cells #[.pointer (some ⟨p0, 0, none⟩)] 107 (0, 0))], G104, G110, G121, G126] at S329
      have hO330 : ObjO 169 ShK.rp p0_0 (⟨x112, l115⟩ : ShK) ([(p0_0, .cells #[.int .i64 x112, .slice A113 l115.length c114] 169 (0, 0))] ++ (G116)) := ⟨_, _, ⟨A113, c114, G116, rfl, hO117, rfl⟩, rfl⟩
      have S331 : St _ _ _ [[(p0_0, .cells #[.int .i64 x112, .slice A113 l115.length c114] 169 (0, 0))] ++ (G116), [(p0_1, .cells #[.int .i64 x106, .slice A107 l109.length c108] 172 (0, 0))], [(p0, .cells #[.pointer (some ⟨p0_0, 0, none⟩), .pointer (some ⟨p0_1, 0, none⟩), .slice A118 l120.length c119, .slice A123 l125.length c124] 110 (0, 0))], [(b23, .cells #[.pointer (some ⟨p0, 0, none⟩)] 107 (0, 0))], G104, G110, G121, G126] := S329.objs (by simp)
      have S332 := (S331.front 5 rfl).front 2 rfl
      change St _ _ _ [[(p0_1, .cells #[.int .i64 x106, .slice A107 l109.length c108] 172 (0, 0))], G110, [(p0_0, .cells #[.int .i64 x112, .slice A113 l115.length c114] 169 (0, 0))] ++ (G116), [(p0, .cells #[.pointer (some ⟨p0_0, 0, none⟩), .pointer (some ⟨p0_1, 0, none⟩), .slice A118 l120.length c119, .slice A123 l125.length c124] 110 (0, 0))], [(b23, .cells #[.pointer (some ⟨p0, 0, none⟩)] 107 (0, 0))], G104, G121, G126] at S332
      have hO333 : ObjO 172 ShR.rp p0_1 (⟨x106, l109⟩ : ShR) ([(p0_1, .cells #[.int .i64 x106, .slice A107 l109.length c108] 172 (0, 0))] ++ (G110)) := ⟨_, _, ⟨A107, c108, G110, rfl, hO111, rfl⟩, rfl⟩
      have S334 : St _ _ _ [[(p0_1, .cells #[.int .i64 x106, .slice A107 l109.length c108] 172 (0, 0))] ++ (G110), [(p0_0, .cells #[.int .i64 x112, .slice A113 l115.length c114] 169 (0, 0))] ++ (G116), [(p0, .cells #[.pointer (some ⟨p0_0, 0, none⟩), .pointer (some ⟨p0_1, 0, none⟩), .slice A118 l120.length c119, .slice A123 l125.length c124] 110 (0, 0))], [(b23, .cells #[.pointer (some ⟨p0, 0, none⟩)] 107 (0, 0))], G104, G121, G126] := S332.objs (by simp)
      have S335 : St _ _ _ [[(p0, .cells #[.pointer (some ⟨p0_0, 0, none⟩), .pointer (some ⟨p0_1, 0, none⟩), .slice A118 l120.length c119, .slice A123 l125.length c124] 110 (0, 0))], [(p0_0, .cells #[.int .i64 x112, .slice A113 l115.length c114] 169 (0, 0))] ++ (G116), [(p0_1, .cells #[.int .i64 x106, .slice A107 l109.length c108] 172 (0, 0))] ++ (G110), G121, G126, [(b23, .cells #[.pointer (some ⟨p0, 0, none⟩)] 107 (0, 0))], G104] := St.reord S334 [2, 1, 0, 5, 6, 3, 4] 7 rfl (by decide) rfl
      exact ⟨[(p0_0, .cells #[.int .i64 x112, .slice A113 l115.length c114] 169 (0, 0))] ++ (G116), [(p0_1, .cells #[.int .i64 x106, .slice A107 l109.length c108] 172 (0, 0))] ++ (G110), A118, c119, G121, A123, c124, G126, rfl, hO330, hO333, hO122, hO127, St.keep (As := [[(p0, .cells #[.pointer (some ⟨p0_0, 0, none⟩), .pointer (some ⟨p0_1, 0, none⟩), .slice A118 l120.length c119, .slice A123 l125.length c124] 110 (0, 0))], [(p0_0, .cells #[.int .i64 x112, .slice A113 l115.length c114] 169 (0, 0))] ++ (G116), [(p0_1, .cells #[.int .i64 x106, .slice A107 l109.length c108] 172 (0, 0))] ++ (G110), G121, G126]) S335⟩
    ·
     refine WCode.cond_f (kb (b := decide (x291 < (l125.length : Int))) rfl (decide_eq_false h297)) ?_
     refine WCode.exit ?_
     refine WEx.then_exit ?_
     refine WEx.then_exit ?_
     refine WEx.in_exit ?_
     refine WEx.cutend _ ?_ ⟨k294, rfl, hF, S293⟩
     exact ⟨rfl, rfl, rfl, trivial⟩
   ·
    rintro _ w287 ⟨q289, rfl, hF, S288⟩
    unfold sd_prunes.j2 at hF
    refine WCode.seq ?_
    refine WCode.region ?_
    refine WOps.p (G.move rfl) rfl ?_
    refine WOps.r (G.load1 T.one107 rfl (cell_blk (S288.blk 3 rfl) rfl)) rfl ?_
    refine WOps.p (G.nilp rfl) rfl ?_
    refine WOps.p (G.field T.fld110_1 rfl (show 0 + 1 = 1 from rfl)) rfl ?_
    refine WOps.r (G.load1 T.one104 rfl (cell_blk (S288.blk 2 rfl) rfl)) rfl ?_
    refine WOps.p (G.move rfl) rfl ?_
    have S336 := (S288.front 5 rfl).front 1 rfl
    change St _ _ _ [[(p0_1, .cells #[.int .i64 x106, .slice A107 l109.length c108] 172 (0, 0))], G110, [(p0_0, .cells #[.int .i64 x112, .slice A113 l115.length c114] 169 (0, 0))], [(p0, .cells #[.pointer (some ⟨p0_0, 0, none⟩), .pointer (some ⟨p0_1, 0, none⟩), .slice A118 l120.length c119, .slice A123 l125.length c124] 110 (0, 0))], [(b23, .cells #[.pointer (some ⟨p0, 0, none⟩)] 107 (0, 0))], G104, G116, G121, G126] at S336
    have hO337 : ObjO 172 ShR.rp p0_1 (⟨x106, l109⟩ : ShR) ([(p0_1, .cells #[.int .i64 x106, .slice A107 l109.length c108] 172 (0, 0))] ++ (G110)) := ⟨_, _, ⟨A107, c108, G110, rfl, hO111, rfl⟩, rfl⟩
    have S338 : St _ _ _ [[(p0_1, .cells #[.int .i64 x106, .slice A107 l109.length c108] 172 (0, 0))] ++ (G110), [(p0_0, .cells #[.int .i64 x112, .slice A113 l115.length c114] 169 (0, 0))], [(p0, .cells #[.pointer (some ⟨p0_0, 0, none⟩), .pointer (some ⟨p0_1, 0, none⟩), .slice A118 l120.length c119, .slice A123 l125.length c124] 110 (0, 0))], [(b23, .cells #[.pointer (some ⟨p0, 0, none⟩)] 107 (0, 0))], G104, G116, G121, G126] := S336.objs (by simp)
    obtain ⟨t339, hc340, hF⟩ := bind_some hF
    refine WOps.call T.call122 (evs_cons rfl (evs_cons rfl evs_nil)) rfl ?_
    refine (rk_Takes_calls q289 (⟨x106, l109⟩ : ShR) l103 hO337 (hO105.rd (fun b o hb => S338.grp 4 rfl hb)) (St.outG (Bs := [[(p0_1, .cells #[.int .i64 x106, .slice A107 l109.length c108] 172 (0, 0))] ++ (G110)]) S338 3 rfl) hc340 (St.hpN (As := [[(p0_1, .cells #[.int .i64 x106, .slice A107 l109.length c108] 172 (0, 0))] ++ (G110)]) S338)).mono ?_
    rintro _ w341 ⟨G344, rfl, hO345, T342⟩
    have S343 := St.callN (As := [[(p0_1, .cells #[.int .i64 x106, .slice A107 l109.length c108] 172 (0, 0))] ++ (G110)]) S338 T342
    change St _ _ _ [G344, [(p0_0, .cells #[.int .i64 x112, .slice A113 l115.length c114] 169 (0, 0))], [(p0, .cells #[.pointer (some ⟨p0_0, 0, none⟩), .pointer (some ⟨p0_1, 0, none⟩), .slice A118 l120.length c119, .slice A123 l125.length c124] 110 (0, 0))], [(b23, .cells #[.pointer (some ⟨p0, 0, none⟩)] 107 (0, 0))], G104, G116, G121, G126] at S343
    refine ⟨_, rfl, ?_⟩
    obtain ⟨cs346, G347, ho348, hg349⟩ := hO345
    obtain ⟨A350, c351, G352, rfl, hO353, hq354⟩ := ho348
    have S355 : St _ _ _ [[(p0_1, .cells #[.int .i64 t339.2.Most, .slice A350 t339.2.L.length c351] 172 (0, 0))], G352, [(p0_0, .cells #[.int .i64 x112, .slice A113 l115.length c114] 169 (0, 0))], [(p0, .cells #[.pointer (some ⟨p0_0, 0, none⟩), .pointer (some ⟨p0_1, 0, none⟩), .slice A118 l120.length c119, .slice A123 l125.length c124] 110 (0, 0))], [(b23, .cells #[.pointer (some ⟨p0, 0, none⟩)] 107 (0, 0))], G104, G116, G121, G126] := S343.objs (by rw [hg349, hq354]; simp)
    refine WOps.p (G.eql rfl rfl rfl) rfl ?_
    refine WOps.p (G.assign rfl) rfl ?_
    refine WOps.nil ?_
    refine WEx.then_ ?_
    refine WCode.forget (l' := [(4, .bool (decide (t51.1 = t339.1)))]) ⟨rfl, trivial⟩ ?_
    refine WCode.ret ?_
    obtain rfl := some_eq hF
    refine WEx.ret1 rfl rfl ?_
    have S356 := (S355.front 6 rfl).front 3 rfl
    change St _ _ _ [[(p0_0, .cells #[.int .i64 x112, .slice A113 l115.length c114] 169 (0, 0))], G116, [(p0_1, .cells #[.int .i64 t339.2.Most, .slice A350 t339.2.L.length c351] 172 (0, 0))], G352, [(p0, .cells #[.pointer (some ⟨p0_0, 0, none⟩), .pointer (some ⟨p0_1, 0, none⟩), .slice A118 l120.length c119, .slice A123 l125.length c124] 110 (0, 0))], [(b23, .cells #[.pointer (some ⟨p0, 0, none⟩)] 107 (0, 0))], G104, G121, G126] at S356
    have hO357 : ObjO 169 ShK.rp p0_0 (⟨x112, l115⟩ : ShK) ([(p0_0, .cells #[.int .i64 x112, .slice A113 l115.length c114] 169 (0, 0))] ++ (G116)) := ⟨_, _, ⟨A113, c114, G116, rfl, hO117, rfl⟩, rfl⟩
    have S358 : St _ _ _ [[(p0_0, .cells #[.int .i64 x112, .slice A113 l115.length c114] 169 (0, 0))] ++ (G116), [(p0_1, .cells #[.int .i64 t339.2.Most, .slice A350 t339.2.L.length c351] 172 (0, 0))], G352, [(p0, .cells #[.pointer (some ⟨p0_0, 0, none⟩), .pointer (some ⟨p0_1, 0, none⟩), .slice A118 l120.length c119, .slice A123 l125.length c124] 110 (0, 0))], [(b23, .cells #[.pointer (some ⟨p0, 0, none⟩)] 107 (0, 0))], G104, G121, G126] := S356.objs (by simp)
    have S359 := (S358.front 2 rfl).front 2 rfl
    change St _ _ _ [[(p0_1, .cells #[.int .i64 t339.2.Most, .slice A350 t339.2.L.length c351] 172 (0, 0))], G352, [(p0_0, .cells #[.int .i64 x112, .slice A113 l115.length c114] 169 (0, 0))] ++ (G116), [(p0, .cells #[.pointer (some ⟨p0_0, 0, none⟩), .pointer (some ⟨p0_1, 0, none⟩), .slice A118 l120.length c119, .slice A123 l125.length c124] 110 (0, 0))], [(b23, .cells #[.pointer (some ⟨p0, 0, none⟩)] 107 (0, 0))], G104, G121, G126] at S359
    have hO360 : ObjO 172 ShR.rp p0_1 t339.2 ([(p0_1, .cells #[.int .i64 t339.2.Most, .slice A350 t339.2.L.length c351] 172 (0, 0))] ++ (G352)) := ⟨_, _, ⟨A350, c351, G352, rfl, hO353, rfl⟩, rfl⟩
    have S361 : St _ _ _ [[(p0_1, .cells #[.int .i64 t339.2.Most, .slice A350 t339.2.L.length c351] 172 (0, 0))] ++ (G352), [(p0_0, .cells #[.int .i64 x112, .slice A113 l115.length c114] 169 (0, 0))] ++ (G116), [(p0, .cells #[.pointer (some ⟨p0_0, 0, none⟩), .pointer (some ⟨p0_1, 0, none⟩), .slice A118 l120.length c119, .slice A123 l125.length c124] 110 (0, 0))], [(b23, .cells #[.pointer (some ⟨p0, 0, none⟩)] 107 (0, 0))], G104, G121, G126] := S359.objs (by simp)
    have S362 : St _ _ _ [[(p0, .cells #[.pointer (some ⟨p0_0, 0, none⟩), .pointer (some ⟨p0_1, 0, none⟩), .slice A118 l120.length c119, .slice A123 l125.length c124] 110 (0, 0))], [(p0_0, .cells #[.int .i64 x112, .slice A113 l115.length c114] 169 (0, 0))] ++ (G116), [(p0_1, .cells #[.int .i64 t339.2.Most, .slice A350 t339.2.L.length c351] 172 (0, 0))] ++ (G352), G121, G126, [(b23, .cells #[.pointer (some ⟨p0, 0, none⟩)] 107 (0, 0))], G104] := St.reord S361 [2, 1, 0, 5, 6, 3, 4] 7 rfl (by decide) rfl
    exact ⟨[(p0_0, .cells #[.int .i64 x112, .slice A113 l115.length c114] 169 (0, 0))] ++ (G116), [(p0_1, .cells #[.int .i64 t339.2.Most, .slice A350 t339.2.L.length c351] 172 (0, 0))] ++ (G352), A118, c119, G121, A123, c124, G126, rfl, hO357, hO360, hO122, hO127, St.keep (As := [[(p0, .cells #[.pointer (some ⟨p0_0, 0, none⟩), .pointer (some ⟨p0_1, 0, none⟩), .slice A118 l120.length c119, .slice A123 l125.length c124] 110 (0, 0))], [(p0_0, .cells #[.int .i64 x112, .slice A113 l115.length c114] 169 (0, 0))] ++ (G116), [(p0_1, .cells #[.int .i64 t339.2.Most, .slice A350 t339.2.L.length c351] 172 (0, 0))] ++ (G352), G121, G126]) S362⟩
  ·
   refine WCode.cond_t (kb (b := !(decide ((l120.length : Int) = (l125.length : Int)))) rfl (show (!(decide ((l120.length : Int) = (l125.length : Int)))) = true from by rw [(decide_eq_false h286)]; rfl)) ?_
   refine WCode.seq ?_
   refine WCode.region ?_
   refine WOps.p (G.assign rfl) rfl ?_
   refine WOps.nil ?_
   refine WEx.then_ ?_
   refine WCode.ret ?_
   refine WEx.then_ret ?_
   obtain rfl := some_eq hF
   refine WEx.ret1 rfl rfl ?_
   have S363 := (S284.front 6 rfl).front 2 rfl
   change St _ _ _ [[(p0_0, .cells #[.int .i64 x112, .slice A113 l115.length c114] 169 (0, 0))], G116, [(p0_1, .cells #[.int .i64 x106, .slice A107 l109.length c108] 172 (0, 0))], [(p0, .cells #[.pointer (some ⟨p0_0, 0, none⟩), .pointer (some ⟨p0_1, 0, none⟩), .slice A118 l120.length c119, .slice A123 l125.length c124] 110 (0, 0))], [(b23, .cells #[.pointer (some ⟨p0, 0, none⟩)] 107 (0, 0))], G104, G110, G121, G126] at S363
   have hO364 : ObjO 169 ShK.rp p0_0 (⟨x112, l115⟩ : ShK) ([(p0_0, .cells #[.int .i64 x112, .slice A113 l115.length c114] 169 (0, 0))] ++ (G116)) := ⟨_, _, ⟨A113, c114, G116, rfl, hO117, rfl⟩, rfl⟩
   have S365 : St _ _ _ [[(p0_0, .cells #[.int .i64 x112, .slice A113 l115.length c114] 169 (0, 0))] ++ (G116), [(p0_1, .cells #[.int .i64 x106, .slice A107 l109.length c108] 172 (0, 0))], [(p0, .cells #[.pointer (some ⟨p0_0, 0, none⟩), .pointer (some ⟨p0_1, 0, none⟩), .slice A118 l120.length c119, .slice A123 l125.length c124] 110 (0, 0))], [(b23, .cells #[.pointer (some ⟨p0, 0, none⟩)] 107 (0, 0))], G104, G110, G121, G126] := S363.objs (by simp)
   have S366 := (S365.front 5 rfl).front 2 rfl
   change St _ _ _ [[(p0_1, .cells #[.int .i64 x106, .slice A107 l109.length c108] 172 (0, 0))], G110, [(p0_0, .cells #[.int .i64 x112, .slice A113 l115.length c114] 169 (0, 0))] ++ (G116), [(p0, .cells #[.pointer (some ⟨p0_0, 0, none⟩), .pointer (some ⟨p0_1, 0, none⟩), .slice A118 l120.length c119, .slice A123 l125.length c124] 110 (0, 0))], [(b23, .cells #[.pointer (some ⟨p0, 0, none⟩)] 107 (0, 0))], G104, G121, G126] at S366
   have hO367 : ObjO 172 ShR.rp p0_1 (⟨x106, l109⟩ : ShR) ([(p0_1, .cells #[.int .i64 x106, .slice A107 l109.length c108] 172 (0, 0))] ++ (G110)) := ⟨_, _, ⟨A107, c108, G110, rfl, hO111, rfl⟩, rfl⟩
   have S368 : St _ _ _ [[(p0_1, .cells #[.int .i64 x106, .slice A107 l109.length c108] 172 (0, 0))] ++ (G110), [(p0_0, .cells #[.int .i64 x112, .slice A113 l115.length c114] 169 (0, 0))] ++ (G116), [(p0, .cells #[.pointer (some ⟨p0_0, 0, none⟩), .pointer (some ⟨p0_1, 0, none⟩), .slice A118 l120.length c119, .slice A123 l125.length c124] 110 (0, 0))], [(b23, .cells #[.pointer (some ⟨p0, 0, none⟩)] 107 (0, 0))], G104, G121, G126] := S366.objs (by simp)
   have S369 : St _ _ _ [[(p0, .cells #[.pointer (some ⟨p0_0, 0, none⟩), .pointer (some ⟨p0_1, 0, none⟩), .slice A118 l120.length c119, .slice A123 l125.length c124] 110 (0, 0))], [(p0_0, .cells #[.int .i64 x112, .slice A113 l115.length c114] 169 (0, 0))] ++ (G116), [(p0_1, .cells #[.int .i64 x106, .slice A107 l109.length c108] 172 (0, 0))] ++ (G110), G121, G126, [(b23, .cells #[.pointer (some ⟨p0, 0, none⟩)] 107 (0, 0))], G104] := St.reord S368 [2, 1, 0, 5, 6, 3, 4] 7 rfl (by decide) rfl
   exact ⟨[(p0_0, .cells #[.int .i64 x112, .slice A113 l115.length c114] 169 (0, 0))] ++ (G116), [(p0_1, .cells #[.int .i64 x106, .slice A107 l109.length c108] 172 (0, 0))] ++ (G110), A118, c119, G121, A123, c124, G126, rfl, hO364, hO367, hO122, hO127, St.keep (As := [[(p0, .cells #[.pointer (some ⟨p0_0, 0, none⟩), .pointer (some ⟨p0_1, 0, none⟩), .slice A118 l120.length c119, .slice A123 l125.length c124] 110 (0, 0))], [(p0_0, .cells #[.int .i64 x112, .slice A113 l115.length c114] 169 (0, 0))] ++ (G116), [(p0_1, .cells #[.int .i64 x106, .slice A107 l109.length c108] 172 (0, 0))] ++ (G110), G121, G126]) S369⟩

end Go.Proofs.Ytoahkjehjmbojaa
