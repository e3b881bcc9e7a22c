/- Functions and their walks (printed by auto.py over the engine). -/
import Derived.Test.YtoahkjehjmbojaaProg
import Derived.Test.YtoahkjehjmbojaaPC
namespace Go.Proofs.Ytoahkjehjmbojaa
open Go Go.Eng
set_option linter.unusedSimpArgs false
set_option linter.unusedVariables false

theorem T.agg116_7 : isAggT Try.prog 116 7 = true := by kernel_rfl
theorem T.agg212_5 : isAggT Try.prog 212 5 = true := by kernel_rfl
theorem T.call101 : Callable Try.prog 101 := Callable.mk Try.func101 (by kernel_rfl) (by kernel_rfl)
theorem T.call117 : Callable Try.prog 117 := Callable.mk Try.func117 (by kernel_rfl) (by kernel_rfl)
theorem T.call119 : Callable Try.prog 119 := Callable.mk Try.func119 (by kernel_rfl) (by kernel_rfl)
theorem T.call130 : Callable Try.prog 130 := Callable.mk Try.func130 (by kernel_rfl) (by kernel_rfl)
theorem T.call90 : Callable Try.prog 90 := Callable.mk Try.func90 (by kernel_rfl) (by kernel_rfl)
theorem T.call92 : Callable Try.prog 92 := Callable.mk Try.func92 (by kernel_rfl) (by kernel_rfl)
theorem T.el108 : slEl Try.prog 108 = some 5 := by kernel_rfl
theorem T.elt108 : Elt Try.prog 108 212 5 48 := elt_mk (z := .agg #[.string ⟨#[]⟩, .int .i64 0, .int .i64 0, .int .i64 0, .int .i64 0]) Try.underlying108 (by kernel_rfl) rfl
theorem T.fld110_0 : fldOff Try.prog 110 0 = some 0 := by kernel_rfl
theorem T.fld110_2 : fldOff Try.prog 110 2 = some 2 := by kernel_rfl
theorem T.fld116_4 : fldOff Try.prog 116 4 = some 5 := by kernel_rfl
theorem T.fld116_5 : fldOff Try.prog 116 5 = some 6 := by kernel_rfl
theorem T.fld212_3 : fldOff Try.prog 212 3 = some 4 := by kernel_rfl
theorem T.one107 : isOneT Try.prog 107 = true := by kernel_rfl
theorem T.one108 : isOneT Try.prog 108 = true := by kernel_rfl
theorem T.one99 : isOneT Try.prog 99 = true := by kernel_rfl
theorem T.size108_1 : sizeT Try.prog 108 = some 1 := by kernel_rfl
theorem T.size212_5 : sizeT Try.prog 212 = some 5 := by kernel_rfl
theorem T.zero212 : zeroOf Try.prog 212 = some (.agg #[.string (bs ([] : List UInt8)), .int .i64 0, .int .i64 0, .int .i64 0, .int .i64 0]) := by kernel_rfl
structure Asked where
  K : KeyS
  V : Int
  Len : Int
  There : Int
  deriving DecidableEq
def Asked.cs (x : Asked) : List Value := [.string (bs x.K.S), .int .i64 x.K.N, .int .i64 x.V, .int .i64 x.Len, .int .i64 x.There]
def Asked.rp : Rp Asked := .plain Asked.cs 5 (fun _ => rfl) (fun _ => rfl)
structure Side where
  s : Option ShK
  r : Option ShR
  asked : List Asked
  was : List Asked
  deriving DecidableEq
def Side.rp : Rp Side where
  sz := 4
  rd := fun w F x cs => ∃ v1 : Value, ∃ v2 : Value, ∃ A3 : Option Addr, ∃ c3 : Nat, ∃ A4 : Option Addr, ∃ c4 : Nat, cs = [v1, v2, .slice A3 (x.asked).length c3, .slice A4 (x.was).length c4] ∧ OptR 169 ShK.rp w F v1 (x.s) ∧ OptR 172 ShR.rp w F v2 (x.r) ∧ SlR Asked.rp w F A3 c3 (x.asked) ∧ SlR Asked.rp w F A4 c4 (x.was)
  own := fun x cs G => ∃ v1 : Value, ∃ G1 : Grp, ∃ v2 : Value, ∃ G2 : Grp, ∃ A3 : Option Addr, ∃ c3 : Nat, ∃ G3 : Grp, ∃ A4 : Option Addr, ∃ c4 : Nat, ∃ G4 : Grp, cs = [v1, v2, .slice A3 (x.asked).length c3, .slice A4 (x.was).length c4] ∧ OptO 169 ShK.rp v1 (x.s) G1 ∧ OptO 172 ShR.rp v2 (x.r) G2 ∧ SlO 212 Asked.rp (.slice A3 (x.asked).length c3) (x.asked) G3 ∧ SlO 212 Asked.rp (.slice A4 (x.was).length c4) (x.was) G4 ∧ G = G1 ++ (G2 ++ (G3 ++ (G4)))
  len := by rintro _ _ _ _ ⟨_, _, _, _, _, _, rfl, _⟩; rfl
  one := by
    rintro _ _ _ _ ⟨v1, v2, A3, c3, A4, c4, rfl, h1, h2, h3, h4⟩ u_ hu_
    simp only [List.mem_cons, List.not_mem_nil, or_false] at hu_
    rcases hu_ with rfl | rfl | rfl | rfl <;> first | rfl | exact OptR.one (by assumption) | exact OptO.oneC (by assumption)
  lenO := by rintro _ _ _ ⟨_, _, _, _, _, _, _, _, _, _, rfl, _⟩; rfl
  oneO := by
    rintro _ _ _ ⟨v1, G1, v2, G2, A3, c3, G3, A4, c4, G4, rfl, h1, h2, h3, h4, _⟩ u_ hu_
    simp only [List.mem_cons, List.not_mem_nil, or_false] at hu_
    rcases hu_ with rfl | rfl | rfl | rfl <;> first | rfl | exact OptR.one (by assumption) | exact OptO.oneC (by assumption)
  ext := by rintro _ _ _ _ _ ⟨v1, v2, A3, c3, A4, c4, rfl, h1, h2, h3, h4⟩ hE; exact ⟨v1, v2, A3, c3, A4, c4, rfl, h1.ext hE, h2.ext hE, h3.ext hE, h4.ext hE⟩
  mono := by rintro _ _ _ _ _ ⟨v1, v2, A3, c3, A4, c4, rfl, h1, h2, h3, h4⟩ hF; exact ⟨v1, v2, A3, c3, A4, c4, rfl, h1.mono hF, h2.mono hF, h3.mono hF, h4.mono hF⟩
  low := by
    rintro w x cs G ⟨v1, G1, v2, G2, A3, c3, G3, A4, c4, G4, rfl, h1, h2, h3, h4, hGe⟩ hG
    exact ⟨v1, v2, A3, c3, A4, c4, rfl, (h1.rd (fun b o hb => hG b o (by rw [hGe]; simp [hb]))).mono (fun b (hb : b ∈ keys G1) => show b ∈ keys G by rw [hGe]; simp [keys_append, hb]), (h2.rd (fun b o hb => hG b o (by rw [hGe]; simp [hb]))).mono (fun b (hb : b ∈ keys G2) => show b ∈ keys G by rw [hGe]; simp [keys_append, hb]), (h3.rd (fun b o hb => hG b o (by rw [hGe]; simp [hb]))).mono (fun b (hb : b ∈ keys G3) => show b ∈ keys G by rw [hGe]; simp [keys_append, hb]), (h4.rd (fun b o hb => hG b o (by rw [hGe]; simp [hb]))).mono (fun b (hb : b ∈ keys G4) => show b ∈ keys G by rw [hGe]; simp [keys_append, hb])⟩


def sd_keeps.j4 (q138 : Nat) (a0_1 : ShR) (a0_3 : List Asked) (a1 : OpS) (a3 : Int) (l116 : List Asked) (x130 : Int) (l133 : List Key__int_) : Option (Bool × ShK × ShR × (List Asked) × (List Asked)) := (Option.bind (sh_pick q138 (w64 ((w64 (a1.N + a3)) + (l116.length : Int))) 3) fun t217 => (some (decide (0 < t217), (⟨x130, l133⟩ : ShK), a0_1, l116, a0_3)))
def sd_keeps.j3 (q102 : Nat) (a0_0 : ShK) (a0_1 : ShR) (a0_2 : List Asked) (a0_3 : List Asked) (a1 : OpS) (a2 : KeyS) (a3 : Int) (x38 : Int) (s40 : List UInt8) (x41 : Int) (x74 : Int) (x99 : Int) : Option (Bool × ShK × ShR × (List Asked) × (List Asked)) := (Option.bind (cat a0_2 ([(⟨a2, a3, x74, x99⟩ : Asked)] : List Asked)) fun l116 => (if x38 = 1 then (Option.bind (sk_Put q102 a0_0 (⟨s40, x41⟩ : KeyS) (w64 (-a3))) fun t146 => (sd_keeps.j4 q102 a0_1 a0_3 a1 a3 l116 t146.2.most t146.2.pairs)) else (if x38 = 2 then (Option.bind (sk_Drop q102 a0_0 (⟨s40, x41⟩ : KeyS)) fun t171 => (sd_keeps.j4 q102 a0_1 a0_3 a1 a3 l116 t171.2.most t171.2.pairs)) else (if x38 = 3 then (Option.bind (sk_PruneW q102 a0_0) fun t194 => (sd_keeps.j4 q102 a0_1 a0_3 a1 a3 l116 t194.2.most t194.2.pairs)) else (sd_keeps.j4 q102 a0_1 a0_3 a1 a3 l116 a0_0.most a0_0.pairs)))))
def sd_keeps.j2 (q77 : Nat) (a0_0 : ShK) (a0_1 : ShR) (a0_2 : List Asked) (a0_3 : List Asked) (a1 : OpS) (a2 : KeyS) (a3 : Int) (x38 : Int) (s40 : List UInt8) (x41 : Int) (t66 : Int × Bool) (x74 : Int) : Option (Bool × ShK × ShR × (List Asked) × (List Asked)) := (if t66.2 = true then (sd_keeps.j3 q77 a0_0 a0_1 a0_2 a0_3 a1 a2 a3 x38 s40 x41 x74 t66.1) else (sd_keeps.j3 q77 a0_0 a0_1 a0_2 a0_3 a1 a2 a3 x38 s40 x41 x74 0))
def sd_keeps.j1 (q44 : Nat) (a0_0 : ShK) (a0_1 : ShR) (a0_2 : List Asked) (a0_3 : List Asked) (a1 : OpS) (a2 : KeyS) (a3 : Int) (x38 : Int) (s40 : List UInt8) (x41 : Int) : Option (Bool × ShK × ShR × (List Asked) × (List Asked)) := (Option.bind (sk_Get q44 a0_0 (⟨s40, x41⟩ : KeyS)) fun t66 => (Option.bind (sk_Len q44 a0_0) fun t81 => (sd_keeps.j2 q44 a0_0 a0_1 a0_2 a0_3 a1 a2 a3 x38 s40 x41 t66 t81)))
def sd_keeps (k : Nat) (a0_0 : ShK) (a0_1 : ShR) (a0_2 : List Asked) (a0_3 : List Asked) (a1 : OpS) (a2 : KeyS) (a3 : Int) : Option (Bool × ShK × ShR × (List Asked) × (List Asked)) := (Option.bind (sh_busy k a1.M (w64 ((a0_2.length : Int) + 1))) fun t48 => (sd_keeps.j1 k a0_0 a0_1 a0_2 a0_3 a1 a2 a3 t48.1 t48.2.S t48.2.N))
set_option maxRecDepth 100000 in
set_option maxHeartbeats 1000000 in
theorem sd_keeps_calls (k : Nat) {p0 : Nat} (a0_0 : ShK) {p0_0 : Nat} {G0_0 : Grp} (a0_1 : ShR) {p0_1 : Nat} {G0_1 : Grp} (a0_2 : List Asked) {A0_2 : Option Addr} {c0_2 : Nat} {G0_2 : Grp} (a0_3 : List Asked) {A0_3 : Option Addr} {c0_3 : Nat} {G0_3 : Grp} (a1 : OpS) (a2 : KeyS) (a3 : Int) {w : World} (hO0_0 : ObjO 169 ShK.rp p0_0 a0_0 G0_0) (hO0_1 : ObjO 172 ShR.rp p0_1 a0_1 G0_1) (hO0_2 : SlO 212 Asked.rp (.slice A0_2 a0_2.length c0_2) a0_2 G0_2) (hO0_3 : SlO 212 Asked.rp (.slice A0_3 a0_3.length c0_3) a0_3 G0_3) {r_ : Bool × ShK × ShR × (List Asked) × (List Asked)} (h_ : sd_keeps k a0_0 a0_1 a0_2 a0_3 a1 a2 a3 = some r_) (hp_ : Hp w ([[(p0, .cells #[.pointer (some ⟨p0_0, 0, none⟩), .pointer (some ⟨p0_1, 0, none⟩), .slice A0_2 a0_2.length c0_2, .slice A0_3 a0_3.length c0_3] 110 (0, 0))], G0_0, G0_1, G0_2, G0_3]).flatten) :
    Calls Try.prog 119 [.pointer (some ⟨p0, 0, none⟩), .agg #[.int .i64 a1.Kind, .int .i64 a1.On, .string (bs a1.K.S), .int .i64 a1.K.N, .int .i64 a1.V, .int .i64 a1.N, .int .i64 a1.M], .agg #[.string (bs a2.S), .int .i64 a2.N], .int .i64 a3].toArray w fun e w' => ∃ Ge0_0' : Grp, ∃ Ge0_1' : Grp, ∃ Ae0_2' : Option Addr, ∃ ce0_2' : Nat, ∃ Ge0_2' : Grp, ∃ Ae0_3' : Option Addr, ∃ ce0_3' : Nat, ∃ Ge0_3' : Grp, e = .returned (.bool r_.1) ∧ ObjO 169 ShK.rp p0_0 (r_.2.1) Ge0_0' ∧ ObjO 172 ShR.rp p0_1 (r_.2.2.1) Ge0_1' ∧ SlO 212 Asked.rp (.slice Ae0_2' (r_.2.2.2.1).length ce0_2') (r_.2.2.2.1) Ge0_2' ∧ SlO 212 Asked.rp (.slice Ae0_3' (r_.2.2.2.2).length ce0_3') (r_.2.2.2.2) Ge0_3' ∧ St w (KS [[(p0, .cells #[.pointer (some ⟨p0_0, 0, none⟩), .pointer (some ⟨p0_1, 0, none⟩), .slice A0_2 a0_2.length c0_2, .slice A0_3 a0_3.length c0_3] 110 (0, 0))], G0_0, G0_1, G0_2, G0_3]) w' [[(p0, .cells #[.pointer (some ⟨p0_0, 0, none⟩), .pointer (some ⟨p0_1, 0, none⟩), .slice Ae0_2' (r_.2.2.2.1).length ce0_2', .slice Ae0_3' (r_.2.2.2.2).length ce0_3'] 110 (0, 0))], Ge0_0', Ge0_1', Ge0_2', Ge0_3'] := by
 have hF := h_
 clear h_
 unfold sd_keeps at hF
 have S := St.initK [[(p0, .cells #[.pointer (some ⟨p0_0, 0, none⟩), .pointer (some ⟨p0_1, 0, none⟩), .slice A0_2 a0_2.length c0_2, .slice A0_3 a0_3.length c0_3] 110 (0, 0))], G0_0, G0_1, G0_2, G0_3] hp_
 have S4 := S.front 1 rfl
 change St _ _ _ [G0_0, [(p0, .cells #[.pointer (some ⟨p0_0, 0, none⟩), .pointer (some ⟨p0_1, 0, none⟩), .slice A0_2 a0_2.length c0_2, .slice A0_3 a0_3.length c0_3] 110 (0, 0))], G0_1, G0_2, G0_3] at S4
 obtain ⟨cs5, G6, ho7, hg8⟩ := hO0_0
 obtain ⟨A9, c10, G11, rfl, hO12, hq13⟩ := ho7
 have S14 : St _ _ _ [[(p0_0, .cells #[.int .i64 a0_0.most, .slice A9 a0_0.pairs.length c10] 169 (0, 0))], G11, [(p0, .cells #[.pointer (some ⟨p0_0, 0, none⟩), .pointer (some ⟨p0_1, 0, none⟩), .slice A0_2 a0_2.length c0_2, .slice A0_3 a0_3.length c0_3] 110 (0, 0))], G0_1, G0_2, G0_3] := S4.objs (by rw [hg8, hq13]; simp)
 have S15 := S14.front 3 rfl
 change St _ _ _ [G0_1, [(p0_0, .cells #[.int .i64 a0_0.most, .slice A9 a0_0.pairs.length c10] 169 (0, 0))], G11, [(p0, .cells #[.pointer (some ⟨p0_0, 0, none⟩), .pointer (some ⟨p0_1, 0, none⟩), .slice A0_2 a0_2.length c0_2, .slice A0_3 a0_3.length c0_3] 110 (0, 0))], G0_2, G0_3] at S15
 obtain ⟨cs16, G17, ho18, hg19⟩ := hO0_1
 obtain ⟨A20, c21, G22, rfl, hO23, hq24⟩ := ho18
 have S25 : St _ _ _ [[(p0_1, .cells #[.int .i64 a0_1.Most, .slice A20 a0_1.L.length c21] 172 (0, 0))], G22, [(p0_0, .cells #[.int .i64 a0_0.most, .slice A9 a0_0.pairs.length c10] 169 (0, 0))], G11, [(p0, .cells #[.pointer (some ⟨p0_0, 0, none⟩), .pointer (some ⟨p0_1, 0, none⟩), .slice A0_2 a0_2.length c0_2, .slice A0_3 a0_3.length c0_3] 110 (0, 0))], G0_2, G0_3] := S15.objs (by rw [hg19, hq24]; simp)
 refine enter 94 [(0, .pointer (some ⟨p0, 0, none⟩)), (1, .agg #[.int .i64 a1.Kind, .int .i64 a1.On, .string (bs a1.K.S), .int .i64 a1.K.N, .int .i64 a1.V, .int .i64 a1.N, .int .i64 a1.M]), (2, .agg #[.string (bs a2.S), .int .i64 a2.N]), (3, .int .i64 a3)] Try.func119 rfl rfl rfl rfl ?_
 refine WCode.seq ?_
 refine WCode.region ?_
 obtain ⟨b26, w27, E28, S29, X30, L31⟩ := St.box S25 Try.prog 116 (.agg #[.int .i64 a1.Kind, .int .i64 a1.On, .string (bs a1.K.S), .int .i64 a1.K.N, .int .i64 a1.V, .int .i64 a1.N, .int .i64 a1.M])
 change St _ _ _ [[(b26, .cells #[.int .i64 a1.Kind, .int .i64 a1.On, .string (bs a1.K.S), .int .i64 a1.K.N, .int .i64 a1.V, .int .i64 a1.N, .int .i64 a1.M] 116 (0, 0))], [(p0_1, .cells #[.int .i64 a0_1.Most, .slice A20 a0_1.L.length c21] 172 (0, 0))], G22, [(p0_0, .cells #[.int .i64 a0_0.most, .slice A9 a0_0.pairs.length c10] 169 (0, 0))], G11, [(p0, .cells #[.pointer (some ⟨p0_0, 0, none⟩), .pointer (some ⟨p0_1, 0, none⟩), .slice A0_2 a0_2.length c0_2, .slice A0_3 a0_3.length c0_3] 110 (0, 0))], G0_2, G0_3] at S29
 refine WOps.e (E28 rfl) rfl ?_
 obtain ⟨b32, w33, E34, S35, X36, L37⟩ := St.box S29 Try.prog 103 (.agg #[.string (bs a2.S), .int .i64 a2.N])
 change St _ _ _ [[(b32, .cells #[.string (bs a2.S), .int .i64 a2.N] 103 (0, 0))], [(b26, .cells #[.int .i64 a1.Kind, .int .i64 a1.On, .string (bs a1.K.S), .int .i64 a1.K.N, .int .i64 a1.V, .int .i64 a1.N, .int .i64 a1.M] 116 (0, 0))], [(p0_1, .cells #[.int .i64 a0_1.Most, .slice A20 a0_1.L.length c21] 172 (0, 0))], G22, [(p0_0, .cells #[.int .i64 a0_0.most, .slice A9 a0_0.pairs.length c10] 169 (0, 0))], G11, [(p0, .cells #[.pointer (some ⟨p0_0, 0, none⟩), .pointer (some ⟨p0_1, 0, none⟩), .slice A0_2 a0_2.length c0_2, .slice A0_3 a0_3.length c0_3] 110 (0, 0))], G0_2, G0_3] at S35
 refine WOps.e (E34 rfl) rfl ?_
 refine WOps.p (G.assign rfl) rfl ?_
 refine WOps.nil ?_
 refine WEx.then_ ?_
 refine WCode.cutseq (fun l_ w_ => ∃ q44 : Nat, ∃ x38 : Int, ∃ b39 : Nat, ∃ s40 : List UInt8, ∃ x41 : Int, l_ = [(0, .pointer (some ⟨p0, 0, none⟩)), (3, .int .i64 a3), (5, .pointer (some ⟨b26, 0, none⟩)), (6, .pointer (some ⟨b32, 0, none⟩)), (9, .int .i64 x38), (10, .pointer (some ⟨b39, 0, none⟩))] ∧ sd_keeps.j1 q44 a0_0 a0_1 a0_2 a0_3 a1 a2 a3 x38 s40 x41 = some r_ ∧ St w (KS [[(p0, .cells #[.pointer (some ⟨p0_0, 0, none⟩), .pointer (some ⟨p0_1, 0, none⟩), .slice A0_2 a0_2.length c0_2, .slice A0_3 a0_3.length c0_3] 110 (0, 0))], G0_0, G0_1, G0_2, G0_3]) w_ [[(b32, .cells #[.string (bs a2.S), .int .i64 a2.N] 103 (0, 0))], [(b26, .cells #[.int .i64 a1.Kind, .int .i64 a1.On, .string (bs a1.K.S), .int .i64 a1.K.N, .int .i64 a1.V, .int .i64 a1.N, .int .i64 a1.M] 116 (0, 0))], [(p0_1, .cells #[.int .i64 a0_1.Most, .slice A20 a0_1.L.length c21] 172 (0, 0))], [(p0_0, .cells #[.int .i64 a0_0.most, .slice A9 a0_0.pairs.length c10] 169 (0, 0))], [(p0, .cells #[.pointer (some ⟨p0_0, 0, none⟩), .pointer (some ⟨p0_1, 0, none⟩), .slice A0_2 a0_2.length c0_2, .slice A0_3 a0_3.length c0_3] 110 (0, 0))], [(b39, .cells #[.string (bs s40), .int .i64 x41] 103 (0, 0))], G22, G11, G0_2, G0_3]) ?_ ?_
 ·
  refine WCode.drawH (.one 0 0 (.one 2 0 (.one 3 0 (.one 4 0 (.one 1 1 (.one 5 1 (.one 6 0 (.one 7 0 (.fork 8 (.one 9 0 (.one 10 0 (.one 11 0 (.one 12 2 (.one 13 0 (.one 14 2 .nil)))))) 12 (.one 8 2 (.one 9 0 (.one 10 0 (.one 11 0 (.one 13 0 (.one 14 2 .nil))))))))))))))) (fun W_ => cellsAt W_ b26 0 [.int .i64 a1.Kind, .int .i64 a1.On, .string (bs a1.K.S), .int .i64 a1.K.N, .int .i64 a1.V, .int .i64 a1.N, .int .i64 a1.M] ∧ cellsAt W_ p0 0 [.pointer (some ⟨p0_0, 0, none⟩), .pointer (some ⟨p0_1, 0, none⟩), .slice A0_2 a0_2.length c0_2, .slice A0_3 a0_3.length c0_3] ∧ True) T.mixed (by kernel_rfl) (by intro _ _ d _ _ h; cases d <;> exact h) rfl rfl (by kernel_rfl) ?_ ?_
  all_goals have S46 := S35.drew
  all_goals generalize w33.drew = w47 at *
  · exact ⟨cellsAt.of_blk (S46.blk 1 rfl) rfl, cellsAt.of_blk (S46.blk 6 rfl) rfl, trivial⟩
  refine WH.p rfl wants (G.field T.fld116_5 rfl (show 0 + 6 = 6 from rfl)) rfl ?_
  refine WH.p rfl wants (G.move rfl) rfl ?_
  refine WH.p rfl wants (G.nilp rfl) rfl ?_
  refine WH.p rfl wants (G.field T.fld110_2 rfl (show 0 + 2 = 2 from rfl)) rfl ?_
  refine WH.r rfl wants (fun _ h_ => G.load1 T.one3 rfl (cellsAt.at h_.1 6 rfl)) rfl ?_
  refine WH.r rfl wants (fun _ h_ => G.load1 T.one108 rfl (cellsAt.at h_.2.1 2 rfl)) rfl ?_
  refine WH.p rfl wants (G.len T.el108 rfl) rfl ?_
  refine WH.p rfl wants (G.add rfl rfl (r := (w64 ((a0_2.length : Int) + 1))) rfl) rfl ?_
  obtain ⟨t48, hc49, hF⟩ := bind_some hF
  refine WH.fork ?_ ?_
  ·
   refine WH.call rfl wants T.call130 (evs_cons rfl (evs_cons rfl evs_nil)) rfl ?_
   refine (sh_busy_calls k a1.M (w64 ((a0_2.length : Int) + 1)) hc49).mono ?_
   rintro _ w50 ⟨rfl, T51⟩
   have S52 := St.callN (As := []) S46 T51
   change St _ _ _ [[(b32, .cells #[.string (bs a2.S), .int .i64 a2.N] 103 (0, 0))], [(b26, .cells #[.int .i64 a1.Kind, .int .i64 a1.On, .string (bs a1.K.S), .int .i64 a1.K.N, .int .i64 a1.V, .int .i64 a1.N, .int .i64 a1.M] 116 (0, 0))], [(p0_1, .cells #[.int .i64 a0_1.Most, .slice A20 a0_1.L.length c21] 172 (0, 0))], G22, [(p0_0, .cells #[.int .i64 a0_0.most, .slice A9 a0_0.pairs.length c10] 169 (0, 0))], G11, [(p0, .cells #[.pointer (some ⟨p0_0, 0, none⟩), .pointer (some ⟨p0_1, 0, none⟩), .slice A0_2 a0_2.length c0_2, .slice A0_3 a0_3.length c0_3] 110 (0, 0))], G0_2, G0_3] at S52
   refine ⟨_, rfl, ?_⟩
   refine ⟨⟨cellsAt.of_blk (S52.blk 1 rfl) rfl, cellsAt.of_blk (S52.blk 6 rfl) rfl, trivial⟩, ?_⟩
   refine WH.p rfl wants (G.move rfl) rfl ?_
   refine WH.p rfl wants (G.extract rfl rfl) rfl ?_
   refine WH.p rfl wants (G.extract rfl rfl) rfl ?_
   obtain ⟨b53, w54, E55, S56, X57, L58⟩ := St.var S52 (z := .agg #[.string (bs ([] : List UInt8)), .int .i64 0]) T.zero103
   change St _ _ _ [[(b53, .cells #[.string (bs ([] : List UInt8)), .int .i64 0] 103 (0, 0))], [(b32, .cells #[.string (bs a2.S), .int .i64 a2.N] 103 (0, 0))], [(b26, .cells #[.int .i64 a1.Kind, .int .i64 a1.On, .string (bs a1.K.S), .int .i64 a1.K.N, .int .i64 a1.V, .int .i64 a1.N, .int .i64 a1.M] 116 (0, 0))], [(p0_1, .cells #[.int .i64 a0_1.Most, .slice A20 a0_1.L.length c21] 172 (0, 0))], G22, [(p0_0, .cells #[.int .i64 a0_0.most, .slice A9 a0_0.pairs.length c10] 169 (0, 0))], G11, [(p0, .cells #[.pointer (some ⟨p0_0, 0, none⟩), .pointer (some ⟨p0_1, 0, none⟩), .slice A0_2 a0_2.length c0_2, .slice A0_3 a0_3.length c0_3] 110 (0, 0))], G0_2, G0_3] at S56
   refine WH.e rfl wants E55 rfl ⟨cellsAt.of_blk (S56.blk 2 rfl) rfl, cellsAt.of_blk (S56.blk 7 rfl) rfl, trivial⟩ ?_
   refine WH.p rfl wants (G.assign rfl) rfl ?_
   obtain ⟨w59, E60, S61⟩ := St.store (P := Try.prog) S56 0 103 (.agg #[.string (bs t48.2.S), .int .i64 t48.2.N]) (off := 0) (cur' := #[.string (bs t48.2.S), .int .i64 t48.2.N]) rfl T.size103_2 rfl rfl rfl
   change St _ _ _ [[(b53, .cells #[.string (bs t48.2.S), .int .i64 t48.2.N] 103 (0, 0))], [(b32, .cells #[.string (bs a2.S), .int .i64 a2.N] 103 (0, 0))], [(b26, .cells #[.int .i64 a1.Kind, .int .i64 a1.On, .string (bs a1.K.S), .int .i64 a1.K.N, .int .i64 a1.V, .int .i64 a1.N, .int .i64 a1.M] 116 (0, 0))], [(p0_1, .cells #[.int .i64 a0_1.Most, .slice A20 a0_1.L.length c21] 172 (0, 0))], G22, [(p0_0, .cells #[.int .i64 a0_0.most, .slice A9 a0_0.pairs.length c10] 169 (0, 0))], G11, [(p0, .cells #[.pointer (some ⟨p0_0, 0, none⟩), .pointer (some ⟨p0_1, 0, none⟩), .slice A0_2 a0_2.length c0_2, .slice A0_3 a0_3.length c0_3] 110 (0, 0))], G0_2, G0_3] at S61
   refine WH.u rfl wants (E60 rfl rfl) ⟨cellsAt.of_blk (S61.blk 2 rfl) rfl, cellsAt.of_blk (S61.blk 7 rfl) rfl, trivial⟩ ?_
   refine WH.nil ?_
   have S62 : St _ _ _ [[(b32, .cells #[.string (bs a2.S), .int .i64 a2.N] 103 (0, 0))], [(b26, .cells #[.int .i64 a1.Kind, .int .i64 a1.On, .string (bs a1.K.S), .int .i64 a1.K.N, .int .i64 a1.V, .int .i64 a1.N, .int .i64 a1.M] 116 (0, 0))], [(p0_1, .cells #[.int .i64 a0_1.Most, .slice A20 a0_1.L.length c21] 172 (0, 0))], [(p0_0, .cells #[.int .i64 a0_0.most, .slice A9 a0_0.pairs.length c10] 169 (0, 0))], [(p0, .cells #[.pointer (some ⟨p0_0, 0, none⟩), .pointer (some ⟨p0_1, 0, none⟩), .slice A0_2 a0_2.length c0_2, .slice A0_3 a0_3.length c0_3] 110 (0, 0))], [(b53, .cells #[.string (bs t48.2.S), .int .i64 t48.2.N] 103 (0, 0))], G22, G11, G0_2, G0_3] := St.reord S61 [1, 2, 3, 5, 7, 0, 4, 6, 8, 9] 10 rfl (by decide) rfl
   refine WEx.cutend _ ?_ ⟨k, t48.1, b53, t48.2.S, t48.2.N, rfl, hF, S62⟩
   exact ⟨rfl, rfl, rfl, rfl, rfl, rfl, trivial⟩
  ·
   obtain ⟨b50, w51, E52, S53, X54, L55⟩ := St.var S46 (z := .agg #[.string (bs ([] : List UInt8)), .int .i64 0]) T.zero103
   change St _ _ _ [[(b50, .cells #[.string (bs ([] : List UInt8)), .int .i64 0] 103 (0, 0))], [(b32, .cells #[.string (bs a2.S), .int .i64 a2.N] 103 (0, 0))], [(b26, .cells #[.int .i64 a1.Kind, .int .i64 a1.On, .string (bs a1.K.S), .int .i64 a1.K.N, .int .i64 a1.V, .int .i64 a1.N, .int .i64 a1.M] 116 (0, 0))], [(p0_1, .cells #[.int .i64 a0_1.Most, .slice A20 a0_1.L.length c21] 172 (0, 0))], G22, [(p0_0, .cells #[.int .i64 a0_0.most, .slice A9 a0_0.pairs.length c10] 169 (0, 0))], G11, [(p0, .cells #[.pointer (some ⟨p0_0, 0, none⟩), .pointer (some ⟨p0_1, 0, none⟩), .slice A0_2 a0_2.length c0_2, .slice A0_3 a0_3.length c0_3] 110 (0, 0))], G0_2, G0_3] at S53
   refine WH.e rfl wants E52 rfl ⟨cellsAt.of_blk (S53.blk 2 rfl) rfl, cellsAt.of_blk (S53.blk 7 rfl) rfl, trivial⟩ ?_
   refine WH.call rfl wants T.call130 (evs_cons rfl (evs_cons rfl evs_nil)) rfl ?_
   refine (sh_busy_calls k a1.M (w64 ((a0_2.length : Int) + 1)) hc49).mono ?_
   rintro _ w56 ⟨rfl, T57⟩
   have S58 := St.callN (As := []) S53 T57
   change St _ _ _ [[(b50, .cells #[.string (bs ([] : List UInt8)), .int .i64 0] 103 (0, 0))], [(b32, .cells #[.string (bs a2.S), .int .i64 a2.N] 103 (0, 0))], [(b26, .cells #[.int .i64 a1.Kind, .int .i64 a1.On, .string (bs a1.K.S), .int .i64 a1.K.N, .int .i64 a1.V, .int .i64 a1.N, .int .i64 a1.M] 116 (0, 0))], [(p0_1, .cells #[.int .i64 a0_1.Most, .slice A20 a0_1.L.length c21] 172 (0, 0))], G22, [(p0_0, .cells #[.int .i64 a0_0.most, .slice A9 a0_0.pairs.length c10] 169 (0, 0))], G11, [(p0, .cells #[.pointer (some ⟨p0_0, 0, none⟩), .pointer (some ⟨p0_1, 0, none⟩), .slice A0_2 a0_2.length c0_2, .slice A0_3 a0_3.length c0_3] 110 (0, 0))], G0_2, G0_3] at S58
   refine ⟨_, rfl, ?_⟩
   refine ⟨⟨cellsAt.of_blk (S58.blk 2 rfl) rfl, cellsAt.of_blk (S58.blk 7 rfl) rfl, trivial⟩, ?_⟩
   refine WH.p rfl wants (G.move rfl) rfl ?_
   refine WH.p rfl wants (G.extract rfl rfl) rfl ?_
   refine WH.p rfl wants (G.extract rfl rfl) rfl ?_
   refine WH.p rfl wants (G.assign rfl) rfl ?_
   obtain ⟨w59, E60, S61⟩ := St.store (P := Try.prog) S58 0 103 (.agg #[.string (bs t48.2.S), .int .i64 t48.2.N]) (off := 0) (cur' := #[.string (bs t48.2.S), .int .i64 t48.2.N]) rfl T.size103_2 rfl rfl rfl
   change St _ _ _ [[(b50, .cells #[.string (bs t48.2.S), .int .i64 t48.2.N] 103 (0, 0))], [(b32, .cells #[.string (bs a2.S), .int .i64 a2.N] 103 (0, 0))], [(b26, .cells #[.int .i64 a1.Kind, .int .i64 a1.On, .string (bs a1.K.S), .int .i64 a1.K.N, .int .i64 a1.V, .int .i64 a1.N, .int .i64 a1.M] 116 (0, 0))], [(p0_1, .cells #[.int .i64 a0_1.Most, .slice A20 a0_1.L.length c21] 172 (0, 0))], G22, [(p0_0, .cells #[.int .i64 a0_0.most, .slice A9 a0_0.pairs.length c10] 169 (0, 0))], G11, [(p0, .cells #[.pointer (some ⟨p0_0, 0, none⟩), .pointer (some ⟨p0_1, 0, none⟩), .slice A0_2 a0_2.length c0_2, .slice A0_3 a0_3.length c0_3] 110 (0, 0))], G0_2, G0_3] at S61
   refine WH.u rfl wants (E60 rfl rfl) ⟨cellsAt.of_blk (S61.blk 2 rfl) rfl, cellsAt.of_blk (S61.blk 7 rfl) rfl, trivial⟩ ?_
   refine WH.nil ?_
   have S62 : St _ _ _ [[(b32, .cells #[.string (bs a2.S), .int .i64 a2.N] 103 (0, 0))], [(b26, .cells #[.int .i64 a1.Kind, .int .i64 a1.On, .string (bs a1.K.S), .int .i64 a1.K.N, .int .i64 a1.V, .int .i64 a1.N, .int .i64 a1.M] 116 (0, 0))], [(p0_1, .cells #[.int .i64 a0_1.Most, .slice A20 a0_1.L.length c21] 172 (0, 0))], [(p0_0, .cells #[.int .i64 a0_0.most, .slice A9 a0_0.pairs.length c10] 169 (0, 0))], [(p0, .cells #[.pointer (some ⟨p0_0, 0, none⟩), .pointer (some ⟨p0_1, 0, none⟩), .slice A0_2 a0_2.length c0_2, .slice A0_3 a0_3.length c0_3] 110 (0, 0))], [(b50, .cells #[.string (bs t48.2.S), .int .i64 t48.2.N] 103 (0, 0))], G22, G11, G0_2, G0_3] := St.reord S61 [1, 2, 3, 5, 7, 0, 4, 6, 8, 9] 10 rfl (by decide) rfl
   refine WEx.cutend _ ?_ ⟨k, t48.1, b50, t48.2.S, t48.2.N, rfl, hF, S62⟩
   exact ⟨rfl, rfl, rfl, rfl, rfl, rfl, trivial⟩
 ·
  rintro _ w42 ⟨q44, x38, b39, s40, x41, rfl, hF, S43⟩
  unfold sd_keeps.j1 at hF
  refine WCode.seq ?_
  refine WCode.draw [⟨0, 0, []⟩, ⟨1, 0, []⟩, ⟨2, 0, []⟩, ⟨3, 1, [5, 6, 7, 8, 9, 10]⟩, ⟨4, 1, [5, 6, 7, 8, 9, 10]⟩, ⟨5, 2, []⟩, ⟨6, 0, []⟩, ⟨7, 0, []⟩, ⟨8, 0, []⟩, ⟨9, 0, []⟩, ⟨10, 0, []⟩] T.mixed (by kernel_rfl) (by intro _ _ d _ _ h; cases d <;> exact h) rfl (by kernel_rfl) ?_
  have S63 := S43.drew
  generalize w42.drew = w65 at *
  refine WD.p rfl (G.move rfl) rfl ?_
  refine WD.p rfl (G.nilp rfl) rfl ?_
  refine WD.p rfl (G.field T.fld110_0 rfl (show 0 + 0 = 0 from rfl)) rfl ?_
  refine WD.r rfl (G.load1 T.one99 rfl (cell_blk (S63.blk 4 rfl) rfl)) rfl ?_
  refine WD.r rfl (G.loada T.agg103_2 rfl (cs := [.string (bs s40), .int .i64 x41]) (cellsAt.of_blk (S63.blk 5 rfl) rfl)) rfl ?_
  obtain ⟨t66, hc67, hF⟩ := bind_some hF
  have S68 := (S63.front 7 rfl).front 4 rfl
  change St _ _ _ [[(p0_0, .cells #[.int .i64 a0_0.most, .slice A9 a0_0.pairs.length c10] 169 (0, 0))], G11, [(b32, .cells #[.string (bs a2.S), .int .i64 a2.N] 103 (0, 0))], [(b26, .cells #[.int .i64 a1.Kind, .int .i64 a1.On, .string (bs a1.K.S), .int .i64 a1.K.N, .int .i64 a1.V, .int .i64 a1.N, .int .i64 a1.M] 116 (0, 0))], [(p0_1, .cells #[.int .i64 a0_1.Most, .slice A20 a0_1.L.length c21] 172 (0, 0))], [(p0, .cells #[.pointer (some ⟨p0_0, 0, none⟩), .pointer (some ⟨p0_1, 0, none⟩), .slice A0_2 a0_2.length c0_2, .slice A0_3 a0_3.length c0_3] 110 (0, 0))], [(b39, .cells #[.string (bs s40), .int .i64 x41] 103 (0, 0))], G22, G0_2, G0_3] at S68
  have hP69 : PtR 169 ShK.rp w65 (KS [[(p0_0, .cells #[.int .i64 a0_0.most, .slice A9 a0_0.pairs.length c10] 169 (0, 0))], G11]) p0_0 a0_0 := ⟨_, S68.blk 0 rfl, KS_at 0 rfl (by simp [keys]), ⟨A9, c10, rfl, ((hO12.rd (fun b o hb => S68.grp 1 rfl hb)).mono (fun b hb => KS_at 1 rfl hb))⟩⟩
  refine WD.call rfl T.call92 (evs_cons rfl (evs_cons rfl evs_nil)) rfl ?_
  refine (sk_Get_calls q44 a0_0 (⟨s40, x41⟩ : KeyS) hP69 (St.outN (Bs := []) (As := [[(p0_0, .cells #[.int .i64 a0_0.most, .slice A9 a0_0.pairs.length c10] 169 (0, 0))], G11]) S68) hc67).mono ?_
  rintro _ w70 ⟨rfl, T71⟩
  have S72 := St.callN (As := []) S68 T71
  change St _ _ _ [[(p0_0, .cells #[.int .i64 a0_0.most, .slice A9 a0_0.pairs.length c10] 169 (0, 0))], G11, [(b32, .cells #[.string (bs a2.S), .int .i64 a2.N] 103 (0, 0))], [(b26, .cells #[.int .i64 a1.Kind, .int .i64 a1.On, .string (bs a1.K.S), .int .i64 a1.K.N, .int .i64 a1.V, .int .i64 a1.N, .int .i64 a1.M] 116 (0, 0))], [(p0_1, .cells #[.int .i64 a0_1.Most, .slice A20 a0_1.L.length c21] 172 (0, 0))], [(p0, .cells #[.pointer (some ⟨p0_0, 0, none⟩), .pointer (some ⟨p0_1, 0, none⟩), .slice A0_2 a0_2.length c0_2, .slice A0_3 a0_3.length c0_3] 110 (0, 0))], [(b39, .cells #[.string (bs s40), .int .i64 x41] 103 (0, 0))], G22, G0_2, G0_3] at S72
  refine ⟨_, rfl, ?_⟩
  refine WD.p rfl (G.move rfl) rfl ?_
  refine WD.p rfl (G.extract rfl rfl) rfl ?_
  refine WD.p rfl (G.extract rfl rfl) rfl ?_
  refine WD.p rfl (G.assign rfl) rfl ?_
  refine WD.p rfl (G.assign rfl) rfl ?_
  refine WD.nil ?_
  refine WEx.then_ ?_
  refine WCode.cutseq (fun l_ w_ => ∃ q77 : Nat, ∃ b73 : Nat, ∃ x74 : Int, l_ = [(0, .pointer (some ⟨p0, 0, none⟩)), (3, .int .i64 a3), (5, .pointer (some ⟨b26, 0, none⟩)), (9, .int .i64 x38), (10, .pointer (some ⟨b39, 0, none⟩)), (11, .int .i64 t66.1), (12, .bool t66.2), (13, .pointer (some ⟨b73, 0, none⟩))] ∧ sd_keeps.j2 q77 a0_0 a0_1 a0_2 a0_3 a1 a2 a3 x38 s40 x41 t66 x74 = some r_ ∧ St w (KS [[(p0, .cells #[.pointer (some ⟨p0_0, 0, none⟩), .pointer (some ⟨p0_1, 0, none⟩), .slice A0_2 a0_2.length c0_2, .slice A0_3 a0_3.length c0_3] 110 (0, 0))], G0_0, G0_1, G0_2, G0_3]) w_ [[(p0_0, .cells #[.int .i64 a0_0.most, .slice A9 a0_0.pairs.length c10] 169 (0, 0))], [(b26, .cells #[.int .i64 a1.Kind, .int .i64 a1.On, .string (bs a1.K.S), .int .i64 a1.K.N, .int .i64 a1.V, .int .i64 a1.N, .int .i64 a1.M] 116 (0, 0))], [(p0_1, .cells #[.int .i64 a0_1.Most, .slice A20 a0_1.L.length c21] 172 (0, 0))], [(p0, .cells #[.pointer (some ⟨p0_0, 0, none⟩), .pointer (some ⟨p0_1, 0, none⟩), .slice A0_2 a0_2.length c0_2, .slice A0_3 a0_3.length c0_3] 110 (0, 0))], [(b39, .cells #[.string (bs s40), .int .i64 x41] 103 (0, 0))], [(b73, .cells #[.string (bs a2.S), .int .i64 a2.N, .int .i64 a3, .int .i64 x74, .int .i64 0] 212 (0, 0))], G11, G22, G0_2, G0_3]) ?_ ?_
  ·
   refine WCode.drawH (.one 1 0 (.one 2 0 (.one 3 0 (.one 4 0 (.one 0 1 (.one 5 1 (.fork 6 (.one 7 0 (.one 8 2 (.one 9 2 .nil))) 8 (.one 6 2 (.one 7 0 (.one 9 2 .nil)))))))))) (fun W_ => cellsAt W_ b32 0 [.string (bs a2.S), .int .i64 a2.N] ∧ cellsAt W_ p0 0 [.pointer (some ⟨p0_0, 0, none⟩), .pointer (some ⟨p0_1, 0, none⟩), .slice A0_2 a0_2.length c0_2, .slice A0_3 a0_3.length c0_3] ∧ True) T.mixed (by kernel_rfl) (by intro _ _ d _ _ h; cases d <;> exact h) rfl rfl (by kernel_rfl) ?_ ?_
   all_goals have S79 := S72.drew
   all_goals generalize w70.drew = w80 at *
   · exact ⟨cellsAt.of_blk (S79.blk 2 rfl) rfl, cellsAt.of_blk (S79.blk 5 rfl) rfl, trivial⟩
   refine WH.p rfl wants (G.move rfl) rfl ?_
   refine WH.p rfl wants (G.move rfl) rfl ?_
   refine WH.p rfl wants (G.nilp rfl) rfl ?_
   refine WH.p rfl wants (G.field T.fld110_0 rfl (show 0 + 0 = 0 from rfl)) rfl ?_
   refine WH.r rfl wants (fun _ h_ => G.loada T.agg103_2 rfl (cs := [.string (bs a2.S), .int .i64 a2.N]) (cellsAt.part h_.1 0 rfl)) rfl ?_
   refine WH.r rfl wants (fun _ h_ => G.load1 T.one99 rfl (cellsAt.at h_.2.1 0 rfl)) rfl ?_
   obtain ⟨t81, hc82, hF⟩ := bind_some hF
   refine WH.fork ?_ ?_
   ·
    have hP83 : PtR 169 ShK.rp w80 (KS [[(p0_0, .cells #[.int .i64 a0_0.most, .slice A9 a0_0.pairs.length c10] 169 (0, 0))], G11]) p0_0 a0_0 := ⟨_, S79.blk 0 rfl, KS_at 0 rfl (by simp [keys]), ⟨A9, c10, rfl, ((hO12.rd (fun b o hb => S79.grp 1 rfl hb)).mono (fun b hb => KS_at 1 rfl hb))⟩⟩
    refine WH.call rfl wants T.call101 (evs_cons rfl evs_nil) rfl ?_
    refine (sk_Len_calls q44 a0_0 hP83 (St.outN (Bs := []) (As := [[(p0_0, .cells #[.int .i64 a0_0.most, .slice A9 a0_0.pairs.length c10] 169 (0, 0))], G11]) S79) hc82).mono ?_
    rintro _ w84 ⟨rfl, T85⟩
    have S86 := St.callN (As := []) S79 T85
    change St _ _ _ [[(p0_0, .cells #[.int .i64 a0_0.most, .slice A9 a0_0.pairs.length c10] 169 (0, 0))], G11, [(b32, .cells #[.string (bs a2.S), .int .i64 a2.N] 103 (0, 0))], [(b26, .cells #[.int .i64 a1.Kind, .int .i64 a1.On, .string (bs a1.K.S), .int .i64 a1.K.N, .int .i64 a1.V, .int .i64 a1.N, .int .i64 a1.M] 116 (0, 0))], [(p0_1, .cells #[.int .i64 a0_1.Most, .slice A20 a0_1.L.length c21] 172 (0, 0))], [(p0, .cells #[.pointer (some ⟨p0_0, 0, none⟩), .pointer (some ⟨p0_1, 0, none⟩), .slice A0_2 a0_2.length c0_2, .slice A0_3 a0_3.length c0_3] 110 (0, 0))], [(b39, .cells #[.string (bs s40), .int .i64 x41] 103 (0, 0))], G22, G0_2, G0_3] at S86
    refine ⟨_, rfl, ?_⟩
    refine ⟨⟨cellsAt.of_blk (S86.blk 2 rfl) rfl, cellsAt.of_blk (S86.blk 5 rfl) rfl, trivial⟩, ?_⟩
    refine WH.p rfl wants (G.build (cells := #[.string (bs a2.S), .int .i64 a2.N, .int .i64 a3, .int .i64 t81, .int .i64 0]) (evp_spec (evp_cons rfl (evp_cons rfl (evp_cons rfl evp_nil)))) (by kernel_rfl)) rfl ?_
    obtain ⟨b87, w88, E89, S90, X91, L92⟩ := St.var S86 (z := .agg #[.string (bs ([] : List UInt8)), .int .i64 0, .int .i64 0, .int .i64 0, .int .i64 0]) T.zero212
    change St _ _ _ [[(b87, .cells #[.string (bs ([] : List UInt8)), .int .i64 0, .int .i64 0, .int .i64 0, .int .i64 0] 212 (0, 0))], [(p0_0, .cells #[.int .i64 a0_0.most, .slice A9 a0_0.pairs.length c10] 169 (0, 0))], G11, [(b32, .cells #[.string (bs a2.S), .int .i64 a2.N] 103 (0, 0))], [(b26, .cells #[.int .i64 a1.Kind, .int .i64 a1.On, .string (bs a1.K.S), .int .i64 a1.K.N, .int .i64 a1.V, .int .i64 a1.N, .int .i64 a1.M] 116 (0, 0))], [(p0_1, .cells #[.int .i64 a0_1.Most, .slice A20 a0_1.L.length c21] 172 (0, 0))], [(p0, .cells #[.pointer (some ⟨p0_0, 0, none⟩), .pointer (some ⟨p0_1, 0, none⟩), .slice A0_2 a0_2.length c0_2, .slice A0_3 a0_3.length c0_3] 110 (0, 0))], [(b39, .cells #[.string (bs s40), .int .i64 x41] 103 (0, 0))], G22, G0_2, G0_3] at S90
    refine WH.e rfl wants E89 rfl ⟨cellsAt.of_blk (S90.blk 3 rfl) rfl, cellsAt.of_blk (S90.blk 6 rfl) rfl, trivial⟩ ?_
    obtain ⟨w93, E94, S95⟩ := St.store (P := Try.prog) S90 0 212 (.agg #[.string (bs a2.S), .int .i64 a2.N, .int .i64 a3, .int .i64 t81, .int .i64 0]) (off := 0) (cur' := #[.string (bs a2.S), .int .i64 a2.N, .int .i64 a3, .int .i64 t81, .int .i64 0]) rfl T.size212_5 rfl rfl rfl
    change St _ _ _ [[(b87, .cells #[.string (bs a2.S), .int .i64 a2.N, .int .i64 a3, .int .i64 t81, .int .i64 0] 212 (0, 0))], [(p0_0, .cells #[.int .i64 a0_0.most, .slice A9 a0_0.pairs.length c10] 169 (0, 0))], G11, [(b32, .cells #[.string (bs a2.S), .int .i64 a2.N] 103 (0, 0))], [(b26, .cells #[.int .i64 a1.Kind, .int .i64 a1.On, .string (bs a1.K.S), .int .i64 a1.K.N, .int .i64 a1.V, .int .i64 a1.N, .int .i64 a1.M] 116 (0, 0))], [(p0_1, .cells #[.int .i64 a0_1.Most, .slice A20 a0_1.L.length c21] 172 (0, 0))], [(p0, .cells #[.pointer (some ⟨p0_0, 0, none⟩), .pointer (some ⟨p0_1, 0, none⟩), .slice A0_2 a0_2.length c0_2, .slice A0_3 a0_3.length c0_3] 110 (0, 0))], [(b39, .cells #[.string (bs s40), .int .i64 x41] 103 (0, 0))], G22, G0_2, G0_3] at S95
    refine WH.u rfl wants (E94 rfl rfl) ⟨cellsAt.of_blk (S95.blk 3 rfl) rfl, cellsAt.of_blk (S95.blk 6 rfl) rfl, trivial⟩ ?_
    refine WH.nil ?_
    have S96 : St _ _ _ [[(p0_0, .cells #[.int .i64 a0_0.most, .slice A9 a0_0.pairs.length c10] 169 (0, 0))], [(b26, .cells #[.int .i64 a1.Kind, .int .i64 a1.On, .string (bs a1.K.S), .int .i64 a1.K.N, .int .i64 a1.V, .int .i64 a1.N, .int .i64 a1.M] 116 (0, 0))], [(p0_1, .cells #[.int .i64 a0_1.Most, .slice A20 a0_1.L.length c21] 172 (0, 0))], [(p0, .cells #[.pointer (some ⟨p0_0, 0, none⟩), .pointer (some ⟨p0_1, 0, none⟩), .slice A0_2 a0_2.length c0_2, .slice A0_3 a0_3.length c0_3] 110 (0, 0))], [(b39, .cells #[.string (bs s40), .int .i64 x41] 103 (0, 0))], [(b87, .cells #[.string (bs a2.S), .int .i64 a2.N, .int .i64 a3, .int .i64 t81, .int .i64 0] 212 (0, 0))], G11, G22, G0_2, G0_3, [(b32, .cells #[.string (bs a2.S), .int .i64 a2.N] 103 (0, 0))]] := St.reord S95 [1, 4, 5, 6, 7, 0, 2, 8, 9, 10, 3] 11 rfl (by decide) rfl
    have S97 := St.keep (As := [[(p0_0, .cells #[.int .i64 a0_0.most, .slice A9 a0_0.pairs.length c10] 169 (0, 0))], [(b26, .cells #[.int .i64 a1.Kind, .int .i64 a1.On, .string (bs a1.K.S), .int .i64 a1.K.N, .int .i64 a1.V, .int .i64 a1.N, .int .i64 a1.M] 116 (0, 0))], [(p0_1, .cells #[.int .i64 a0_1.Most, .slice A20 a0_1.L.length c21] 172 (0, 0))], [(p0, .cells #[.pointer (some ⟨p0_0, 0, none⟩), .pointer (some ⟨p0_1, 0, none⟩), .slice A0_2 a0_2.length c0_2, .slice A0_3 a0_3.length c0_3] 110 (0, 0))], [(b39, .cells #[.string (bs s40), .int .i64 x41] 103 (0, 0))], [(b87, .cells #[.string (bs a2.S), .int .i64 a2.N, .int .i64 a3, .int .i64 t81, .int .i64 0] 212 (0, 0))], G11, G22, G0_2, G0_3]) S96
    refine WEx.cutend _ ?_ ⟨q44, b87, t81, rfl, hF, S97⟩
    exact ⟨rfl, rfl, rfl, rfl, rfl, rfl, rfl, rfl, trivial⟩
   ·
    obtain ⟨b83, w84, E85, S86, X87, L88⟩ := St.var S79 (z := .agg #[.string (bs ([] : List UInt8)), .int .i64 0, .int .i64 0, .int .i64 0, .int .i64 0]) T.zero212
    change St _ _ _ [[(b83, .cells #[.string (bs ([] : List UInt8)), .int .i64 0, .int .i64 0, .int .i64 0, .int .i64 0] 212 (0, 0))], [(p0_0, .cells #[.int .i64 a0_0.most, .slice A9 a0_0.pairs.length c10] 169 (0, 0))], G11, [(b32, .cells #[.string (bs a2.S), .int .i64 a2.N] 103 (0, 0))], [(b26, .cells #[.int .i64 a1.Kind, .int .i64 a1.On, .string (bs a1.K.S), .int .i64 a1.K.N, .int .i64 a1.V, .int .i64 a1.N, .int .i64 a1.M] 116 (0, 0))], [(p0_1, .cells #[.int .i64 a0_1.Most, .slice A20 a0_1.L.length c21] 172 (0, 0))], [(p0, .cells #[.pointer (some ⟨p0_0, 0, none⟩), .pointer (some ⟨p0_1, 0, none⟩), .slice A0_2 a0_2.length c0_2, .slice A0_3 a0_3.length c0_3] 110 (0, 0))], [(b39, .cells #[.string (bs s40), .int .i64 x41] 103 (0, 0))], G22, G0_2, G0_3] at S86
    refine WH.e rfl wants E85 rfl ⟨cellsAt.of_blk (S86.blk 3 rfl) rfl, cellsAt.of_blk (S86.blk 6 rfl) rfl, trivial⟩ ?_
    have S89 := (S86.front 2 rfl).front 2 rfl
    change St _ _ _ [[(p0_0, .cells #[.int .i64 a0_0.most, .slice A9 a0_0.pairs.length c10] 169 (0, 0))], G11, [(b83, .cells #[.string (bs ([] : List UInt8)), .int .i64 0, .int .i64 0, .int .i64 0, .int .i64 0] 212 (0, 0))], [(b32, .cells #[.string (bs a2.S), .int .i64 a2.N] 103 (0, 0))], [(b26, .cells #[.int .i64 a1.Kind, .int .i64 a1.On, .string (bs a1.K.S), .int .i64 a1.K.N, .int .i64 a1.V, .int .i64 a1.N, .int .i64 a1.M] 116 (0, 0))], [(p0_1, .cells #[.int .i64 a0_1.Most, .slice A20 a0_1.L.length c21] 172 (0, 0))], [(p0, .cells #[.pointer (some ⟨p0_0, 0, none⟩), .pointer (some ⟨p0_1, 0, none⟩), .slice A0_2 a0_2.length c0_2, .slice A0_3 a0_3.length c0_3] 110 (0, 0))], [(b39, .cells #[.string (bs s40), .int .i64 x41] 103 (0, 0))], G22, G0_2, G0_3] at S89
    have hP90 : PtR 169 ShK.rp w84 (KS [[(p0_0, .cells #[.int .i64 a0_0.most, .slice A9 a0_0.pairs.length c10] 169 (0, 0))], G11]) p0_0 a0_0 := ⟨_, S89.blk 0 rfl, KS_at 0 rfl (by simp [keys]), ⟨A9, c10, rfl, ((hO12.rd (fun b o hb => S89.grp 1 rfl hb)).mono (fun b hb => KS_at 1 rfl hb))⟩⟩
    refine WH.call rfl wants T.call101 (evs_cons rfl evs_nil) rfl ?_
    refine (sk_Len_calls q44 a0_0 hP90 (St.outN (Bs := []) (As := [[(p0_0, .cells #[.int .i64 a0_0.most, .slice A9 a0_0.pairs.length c10] 169 (0, 0))], G11]) S89) hc82).mono ?_
    rintro _ w91 ⟨rfl, T92⟩
    have S93 := St.callN (As := []) S89 T92
    change St _ _ _ [[(p0_0, .cells #[.int .i64 a0_0.most, .slice A9 a0_0.pairs.length c10] 169 (0, 0))], G11, [(b83, .cells #[.string (bs ([] : List UInt8)), .int .i64 0, .int .i64 0, .int .i64 0, .int .i64 0] 212 (0, 0))], [(b32, .cells #[.string (bs a2.S), .int .i64 a2.N] 103 (0, 0))], [(b26, .cells #[.int .i64 a1.Kind, .int .i64 a1.On, .string (bs a1.K.S), .int .i64 a1.K.N, .int .i64 a1.V, .int .i64 a1.N, .int .i64 a1.M] 116 (0, 0))], [(p0_1, .cells #[.int .i64 a0_1.Most, .slice A20 a0_1.L.length c21] 172 (0, 0))], [(p0, .cells #[.pointer (some ⟨p0_0, 0, none⟩), .pointer (some ⟨p0_1, 0, none⟩), .slice A0_2 a0_2.length c0_2, .slice A0_3 a0_3.length c0_3] 110 (0, 0))], [(b39, .cells #[.string (bs s40), .int .i64 x41] 103 (0, 0))], G22, G0_2, G0_3] at S93
    refine ⟨_, rfl, ?_⟩
    refine ⟨⟨cellsAt.of_blk (S93.blk 3 rfl) rfl, cellsAt.of_blk (S93.blk 6 rfl) rfl, trivial⟩, ?_⟩
    refine WH.p rfl wants (G.build (cells := #[.string (bs a2.S), .int .i64 a2.N, .int .i64 a3, .int .i64 t81, .int .i64 0]) (evp_spec (evp_cons rfl (evp_cons rfl (evp_cons rfl evp_nil)))) (by kernel_rfl)) rfl ?_
    obtain ⟨w94, E95, S96⟩ := St.store (P := Try.prog) S93 2 212 (.agg #[.string (bs a2.S), .int .i64 a2.N, .int .i64 a3, .int .i64 t81, .int .i64 0]) (off := 0) (cur' := #[.string (bs a2.S), .int .i64 a2.N, .int .i64 a3, .int .i64 t81, .int .i64 0]) rfl T.size212_5 rfl rfl rfl
    change St _ _ _ [[(p0_0, .cells #[.int .i64 a0_0.most, .slice A9 a0_0.pairs.length c10] 169 (0, 0))], G11, [(b83, .cells #[.string (bs a2.S), .int .i64 a2.N, .int .i64 a3, .int .i64 t81, .int .i64 0] 212 (0, 0))], [(b32, .cells #[.string (bs a2.S), .int .i64 a2.N] 103 (0, 0))], [(b26, .cells #[.int .i64 a1.Kind, .int .i64 a1.On, .string (bs a1.K.S), .int .i64 a1.K.N, .int .i64 a1.V, .int .i64 a1.N, .int .i64 a1.M] 116 (0, 0))], [(p0_1, .cells #[.int .i64 a0_1.Most, .slice A20 a0_1.L.length c21] 172 (0, 0))], [(p0, .cells #[.pointer (some ⟨p0_0, 0, none⟩), .pointer (some ⟨p0_1, 0, none⟩), .slice A0_2 a0_2.length c0_2, .slice A0_3 a0_3.length c0_3] 110 (0, 0))], [(b39, .cells #[.string (bs s40), .int .i64 x41] 103 (0, 0))], G22, G0_2, G0_3] at S96
    refine WH.u rfl wants (E95 rfl rfl) ⟨cellsAt.of_blk (S96.blk 3 rfl) rfl, cellsAt.of_blk (S96.blk 6 rfl) rfl, trivial⟩ ?_
    refine WH.nil ?_
    have S97 : St _ _ _ [[(p0_0, .cells #[.int .i64 a0_0.most, .slice A9 a0_0.pairs.length c10] 169 (0, 0))], [(b26, .cells #[.int .i64 a1.Kind, .int .i64 a1.On, .string (bs a1.K.S), .int .i64 a1.K.N, .int .i64 a1.V, .int .i64 a1.N, .int .i64 a1.M] 116 (0, 0))], [(p0_1, .cells #[.int .i64 a0_1.Most, .slice A20 a0_1.L.length c21] 172 (0, 0))], [(p0, .cells #[.pointer (some ⟨p0_0, 0, none⟩), .pointer (some ⟨p0_1, 0, none⟩), .slice A0_2 a0_2.length c0_2, .slice A0_3 a0_3.length c0_3] 110 (0, 0))], [(b39, .cells #[.string (bs s40), .int .i64 x41] 103 (0, 0))], [(b83, .cells #[.string (bs a2.S), .int .i64 a2.N, .int .i64 a3, .int .i64 t81, .int .i64 0] 212 (0, 0))], G11, G22, G0_2, G0_3, [(b32, .cells #[.string (bs a2.S), .int .i64 a2.N] 103 (0, 0))]] := St.reord S96 [0, 4, 5, 6, 7, 2, 1, 8, 9, 10, 3] 11 rfl (by decide) rfl
    have S98 := St.keep (As := [[(p0_0, .cells #[.int .i64 a0_0.most, .slice A9 a0_0.pairs.length c10] 169 (0, 0))], [(b26, .cells #[.int .i64 a1.Kind, .int .i64 a1.On, .string (bs a1.K.S), .int .i64 a1.K.N, .int .i64 a1.V, .int .i64 a1.N, .int .i64 a1.M] 116 (0, 0))], [(p0_1, .cells #[.int .i64 a0_1.Most, .slice A20 a0_1.L.length c21] 172 (0, 0))], [(p0, .cells #[.pointer (some ⟨p0_0, 0, none⟩), .pointer (some ⟨p0_1, 0, none⟩), .slice A0_2 a0_2.length c0_2, .slice A0_3 a0_3.length c0_3] 110 (0, 0))], [(b39, .cells #[.string (bs s40), .int .i64 x41] 103 (0, 0))], [(b83, .cells #[.string (bs a2.S), .int .i64 a2.N, .int .i64 a3, .int .i64 t81, .int .i64 0] 212 (0, 0))], G11, G22, G0_2, G0_3]) S97
    refine WEx.cutend _ ?_ ⟨q44, b83, t81, rfl, hF, S98⟩
    exact ⟨rfl, rfl, rfl, rfl, rfl, rfl, rfl, rfl, trivial⟩
  ·
   rintro _ w75 ⟨q77, b73, x74, rfl, hF, S76⟩
   unfold sd_keeps.j2 at hF
   refine WCode.cutseq (fun l_ w_ => ∃ q102 : Nat, ∃ x99 : Int, l_ = [(0, .pointer (some ⟨p0, 0, none⟩)), (3, .int .i64 a3), (5, .pointer (some ⟨b26, 0, none⟩)), (9, .int .i64 x38), (10, .pointer (some ⟨b39, 0, none⟩)), (13, .pointer (some ⟨b73, 0, none⟩))] ∧ sd_keeps.j3 q102 a0_0 a0_1 a0_2 a0_3 a1 a2 a3 x38 s40 x41 x74 x99 = some r_ ∧ St w (KS [[(p0, .cells #[.pointer (some ⟨p0_0, 0, none⟩), .pointer (some ⟨p0_1, 0, none⟩), .slice A0_2 a0_2.length c0_2, .slice A0_3 a0_3.length c0_3] 110 (0, 0))], G0_0, G0_1, G0_2, G0_3]) w_ [[(p0_0, .cells #[.int .i64 a0_0.most, .slice A9 a0_0.pairs.length c10] 169 (0, 0))], [(b26, .cells #[.int .i64 a1.Kind, .int .i64 a1.On, .string (bs a1.K.S), .int .i64 a1.K.N, .int .i64 a1.V, .int .i64 a1.N, .int .i64 a1.M] 116 (0, 0))], [(p0_1, .cells #[.int .i64 a0_1.Most, .slice A20 a0_1.L.length c21] 172 (0, 0))], [(p0, .cells #[.pointer (some ⟨p0_0, 0, none⟩), .pointer (some ⟨p0_1, 0, none⟩), .slice A0_2 a0_2.length c0_2, .slice A0_3 a0_3.length c0_3] 110 (0, 0))], [(b39, .cells #[.string (bs s40), .int .i64 x41] 103 (0, 0))], [(b73, .cells #[.string (bs a2.S), .int .i64 a2.N, .int .i64 a3, .int .i64 x74, .int .i64 x99] 212 (0, 0))], G11, G22, G0_2, G0_3]) ?_ ?_
   ·
    refine WCode.seq ?_
    refine WCode.region ?_
    refine WOps.p (G.move rfl) rfl ?_
    refine WOps.nil ?_
    refine WEx.then_ ?_
    rcases ite_some hF with ⟨h104, hF⟩ | ⟨h104, hF⟩
    ·
     refine WCode.cond_t (kb (b := t66.2) rfl h104) ?_
     refine WCode.region ?_
     refine WOps.p (G.move rfl) rfl ?_
     refine WOps.p (G.field T.fld212_3 rfl (show 0 + 4 = 4 from rfl)) rfl ?_
     obtain ⟨w105, E106, S107⟩ := St.store (P := Try.prog) S76 5 3 (.int .i64 t66.1) (off := 4) (cur' := #[.string (bs a2.S), .int .i64 a2.N, .int .i64 a3, .int .i64 x74, .int .i64 t66.1]) rfl T.size3_1 rfl rfl rfl
     change St _ _ _ [[(p0_0, .cells #[.int .i64 a0_0.most, .slice A9 a0_0.pairs.length c10] 169 (0, 0))], [(b26, .cells #[.int .i64 a1.Kind, .int .i64 a1.On, .string (bs a1.K.S), .int .i64 a1.K.N, .int .i64 a1.V, .int .i64 a1.N, .int .i64 a1.M] 116 (0, 0))], [(p0_1, .cells #[.int .i64 a0_1.Most, .slice A20 a0_1.L.length c21] 172 (0, 0))], [(p0, .cells #[.pointer (some ⟨p0_0, 0, none⟩), .pointer (some ⟨p0_1, 0, none⟩), .slice A0_2 a0_2.length c0_2, .slice A0_3 a0_3.length c0_3] 110 (0, 0))], [(b39, .cells #[.string (bs s40), .int .i64 x41] 103 (0, 0))], [(b73, .cells #[.string (bs a2.S), .int .i64 a2.N, .int .i64 a3, .int .i64 x74, .int .i64 t66.1] 212 (0, 0))], G11, G22, G0_2, G0_3] at S107
     refine WOps.u (E106 rfl rfl) ?_
     refine WOps.nil ?_
     refine WEx.cutend _ ?_ ⟨q77, t66.1, rfl, hF, S107⟩
     exact ⟨rfl, rfl, rfl, rfl, rfl, rfl, trivial⟩
    ·
     refine WCode.cond_f (kb (b := t66.2) rfl (Bool.eq_false_iff.2 h104)) ?_
     refine WCode.skip ?_
     refine WEx.cutend _ ?_ ⟨q77, 0, rfl, hF, S76⟩
     exact ⟨rfl, rfl, rfl, rfl, rfl, rfl, trivial⟩
   ·
    rintro _ w100 ⟨q102, x99, rfl, hF, S101⟩
    unfold sd_keeps.j3 at hF
    refine WCode.seq ?_
    refine WCode.draw [⟨0, 0, []⟩, ⟨1, 0, []⟩, ⟨2, 0, []⟩, ⟨3, 0, []⟩, ⟨4, 1, [7, 8, 9, 10]⟩, ⟨5, 1, [6, 7, 8, 9, 10]⟩, ⟨6, 2, []⟩, ⟨7, 2, []⟩, ⟨8, 0, []⟩, ⟨9, 0, []⟩, ⟨10, 2, []⟩] T.mixed (by kernel_rfl) (by intro _ _ d _ _ h; cases d <;> exact h) rfl (by kernel_rfl) ?_
    have S108 := S101.drew
    generalize w100.drew = w109 at *
    refine WD.p rfl (G.move rfl) rfl ?_
    refine WD.p rfl (G.move rfl) rfl ?_
    refine WD.p rfl (G.nilp rfl) rfl ?_
    refine WD.p rfl (G.field T.fld110_2 rfl (show 0 + 2 = 2 from rfl)) rfl ?_
    refine WD.r rfl (G.load1 T.one108 rfl (cell_blk (S108.blk 3 rfl) rfl)) rfl ?_
    refine WD.r rfl (G.loada T.agg212_5 rfl (cs := [.string (bs a2.S), .int .i64 a2.N, .int .i64 a3, .int .i64 x74, .int .i64 x99]) (cellsAt.of_blk (S108.blk 5 rfl) rfl)) rfl ?_
    obtain ⟨b110, w111, E112, S113, X114, L115⟩ := St.lit S108 (P := Try.prog) (t := 108) (e := 212) (n := 1) (vs := [(0, .agg #[.string (bs a2.S), .int .i64 a2.N, .int .i64 a3, .int .i64 x74, .int .i64 x99])]) (cs := #[.string (bs a2.S), .int .i64 a2.N, .int .i64 a3, .int .i64 x74, .int .i64 x99]) (by kernel_rfl)
    change St _ _ _ [[(b110, .cells #[.string (bs a2.S), .int .i64 a2.N, .int .i64 a3, .int .i64 x74, .int .i64 x99] 212 (0, 0))], [(p0_0, .cells #[.int .i64 a0_0.most, .slice A9 a0_0.pairs.length c10] 169 (0, 0))], [(b26, .cells #[.int .i64 a1.Kind, .int .i64 a1.On, .string (bs a1.K.S), .int .i64 a1.K.N, .int .i64 a1.V, .int .i64 a1.N, .int .i64 a1.M] 116 (0, 0))], [(p0_1, .cells #[.int .i64 a0_1.Most, .slice A20 a0_1.L.length c21] 172 (0, 0))], [(p0, .cells #[.pointer (some ⟨p0_0, 0, none⟩), .pointer (some ⟨p0_1, 0, none⟩), .slice A0_2 a0_2.length c0_2, .slice A0_3 a0_3.length c0_3] 110 (0, 0))], [(b39, .cells #[.string (bs s40), .int .i64 x41] 103 (0, 0))], [(b73, .cells #[.string (bs a2.S), .int .i64 a2.N, .int .i64 a3, .int .i64 x74, .int .i64 x99] 212 (0, 0))], G11, G22, G0_2, G0_3] at S113
    refine WD.e rfl (E112 (evp_cons rfl evp_nil)) rfl ?_
    obtain ⟨l116, hc117, hF⟩ := bind_some hF
    have S118 := S113.front 9 rfl
    change St _ _ _ [G0_2, [(b110, .cells #[.string (bs a2.S), .int .i64 a2.N, .int .i64 a3, .int .i64 x74, .int .i64 x99] 212 (0, 0))], [(p0_0, .cells #[.int .i64 a0_0.most, .slice A9 a0_0.pairs.length c10] 169 (0, 0))], [(b26, .cells #[.int .i64 a1.Kind, .int .i64 a1.On, .string (bs a1.K.S), .int .i64 a1.K.N, .int .i64 a1.V, .int .i64 a1.N, .int .i64 a1.M] 116 (0, 0))], [(p0_1, .cells #[.int .i64 a0_1.Most, .slice A20 a0_1.L.length c21] 172 (0, 0))], [(p0, .cells #[.pointer (some ⟨p0_0, 0, none⟩), .pointer (some ⟨p0_1, 0, none⟩), .slice A0_2 a0_2.length c0_2, .slice A0_3 a0_3.length c0_3] 110 (0, 0))], [(b39, .cells #[.string (bs s40), .int .i64 x41] 103 (0, 0))], [(b73, .cells #[.string (bs a2.S), .int .i64 a2.N, .int .i64 a3, .int .i64 x74, .int .i64 x99] 212 (0, 0))], G11, G22, G0_3] at S118
    obtain ⟨A119, c120, G121, w122, E123, hO124, S125, hk126⟩ := St.appP (P := Try.prog) (r := Asked.rp) (M := ([(⟨a2, a3, x74, x99⟩ : Asked)] : List Asked)) S118 T.elt108 rfl hO0_2 (Rd.of_blk (S118.blk 1 rfl) (n := 1) (sz := 5) rfl) ⟨_, _, [], [], rfl, rfl, ⟨rfl, rfl⟩, ⟨rfl, rfl⟩⟩ rfl hc117
    change St _ _ _ [G121, [(b110, .cells #[.string (bs a2.S), .int .i64 a2.N, .int .i64 a3, .int .i64 x74, .int .i64 x99] 212 (0, 0))], [(p0_0, .cells #[.int .i64 a0_0.most, .slice A9 a0_0.pairs.length c10] 169 (0, 0))], [(b26, .cells #[.int .i64 a1.Kind, .int .i64 a1.On, .string (bs a1.K.S), .int .i64 a1.K.N, .int .i64 a1.V, .int .i64 a1.N, .int .i64 a1.M] 116 (0, 0))], [(p0_1, .cells #[.int .i64 a0_1.Most, .slice A20 a0_1.L.length c21] 172 (0, 0))], [(p0, .cells #[.pointer (some ⟨p0_0, 0, none⟩), .pointer (some ⟨p0_1, 0, none⟩), .slice A0_2 a0_2.length c0_2, .slice A0_3 a0_3.length c0_3] 110 (0, 0))], [(b39, .cells #[.string (bs s40), .int .i64 x41] 103 (0, 0))], [(b73, .cells #[.string (bs a2.S), .int .i64 a2.N, .int .i64 a3, .int .i64 x74, .int .i64 x99] 212 (0, 0))], G11, G22, G0_3] at S125
    refine WD.e rfl (E123 rfl rfl) rfl ?_
    refine WD.p rfl (G.nilp rfl) rfl ?_
    refine WD.p rfl (G.field T.fld110_2 rfl (show 0 + 2 = 2 from rfl)) rfl ?_
    obtain ⟨w127, E128, S129⟩ := St.store (P := Try.prog) S125 5 108 (.slice A119 l116.length c120) (off := 2) (cur' := #[.pointer (some ⟨p0_0, 0, none⟩), .pointer (some ⟨p0_1, 0, none⟩), .slice A119 l116.length c120, .slice A0_3 a0_3.length c0_3]) rfl T.size108_1 rfl rfl rfl
    change St _ _ _ [G121, [(b110, .cells #[.string (bs a2.S), .int .i64 a2.N, .int .i64 a3, .int .i64 x74, .int .i64 x99] 212 (0, 0))], [(p0_0, .cells #[.int .i64 a0_0.most, .slice A9 a0_0.pairs.length c10] 169 (0, 0))], [(b26, .cells #[.int .i64 a1.Kind, .int .i64 a1.On, .string (bs a1.K.S), .int .i64 a1.K.N, .int .i64 a1.V, .int .i64 a1.N, .int .i64 a1.M] 116 (0, 0))], [(p0_1, .cells #[.int .i64 a0_1.Most, .slice A20 a0_1.L.length c21] 172 (0, 0))], [(p0, .cells #[.pointer (some ⟨p0_0, 0, none⟩), .pointer (some ⟨p0_1, 0, none⟩), .slice A119 l116.length c120, .slice A0_3 a0_3.length c0_3] 110 (0, 0))], [(b39, .cells #[.string (bs s40), .int .i64 x41] 103 (0, 0))], [(b73, .cells #[.string (bs a2.S), .int .i64 a2.N, .int .i64 a3, .int .i64 x74, .int .i64 x99] 212 (0, 0))], G11, G22, G0_3] at S129
    refine WD.u rfl (E128 rfl rfl) ?_
    refine WD.nil ?_
    refine WEx.then_ ?_
    refine WCode.forget (l' := [(0, .pointer (some ⟨p0, 0, none⟩)), (3, .int .i64 a3), (5, .pointer (some ⟨b26, 0, none⟩)), (9, .int .i64 x38), (10, .pointer (some ⟨b39, 0, none⟩))]) ⟨rfl, rfl, rfl, rfl, rfl, trivial⟩ ?_
    refine WCode.cutseq (fun l_ w_ => ∃ q138 : Nat, ∃ x130 : Int, ∃ A131 : Option Addr, ∃ c132 : Nat, ∃ l133 : List Key__int_, ∃ G134 : Grp, l_ = [(0, .pointer (some ⟨p0, 0, none⟩)), (3, .int .i64 a3), (5, .pointer (some ⟨b26, 0, none⟩))] ∧ sd_keeps.j4 q138 a0_1 a0_3 a1 a3 l116 x130 l133 = some r_ ∧ (SlO 203 Key__int_.rp (.slice A131 l133.length c132) l133 G134) ∧ St w (KS [[(p0, .cells #[.pointer (some ⟨p0_0, 0, none⟩), .pointer (some ⟨p0_1, 0, none⟩), .slice A0_2 a0_2.length c0_2, .slice A0_3 a0_3.length c0_3] 110 (0, 0))], G0_0, G0_1, G0_2, G0_3]) w_ [[(p0_0, .cells #[.int .i64 x130, .slice A131 l133.length c132] 169 (0, 0))], [(b26, .cells #[.int .i64 a1.Kind, .int .i64 a1.On, .string (bs a1.K.S), .int .i64 a1.K.N, .int .i64 a1.V, .int .i64 a1.N, .int .i64 a1.M] 116 (0, 0))], [(p0_1, .cells #[.int .i64 a0_1.Most, .slice A20 a0_1.L.length c21] 172 (0, 0))], [(p0, .cells #[.pointer (some ⟨p0_0, 0, none⟩), .pointer (some ⟨p0_1, 0, none⟩), .slice A119 l116.length c120, .slice A0_3 a0_3.length c0_3] 110 (0, 0))], G22, G121, G0_3, G134]) ?_ ?_
    ·
     refine WCode.seq ?_
     refine WCode.region ?_
     refine WOps.p (G.move rfl) rfl ?_
     refine WOps.nil ?_
     refine WEx.then_ ?_
     refine WCode.block ?_
     refine WCode.seq ?_
     refine WCode.region ?_
     refine WOps.p (G.eql rfl rfl rfl) rfl ?_
     refine WOps.p (G.assign rfl) rfl ?_
     refine WOps.nil ?_
     refine WEx.then_ ?_
     rcases ite_some hF with ⟨h140, hF⟩ | ⟨h140, hF⟩
     ·
      refine WCode.cond_t (kb (b := decide (x38 = 1)) rfl (decide_eq_true h140)) ?_
      refine WCode.draw [⟨0, 0, []⟩, ⟨1, 0, []⟩, ⟨2, 0, []⟩, ⟨5, 0, []⟩, ⟨6, 0, []⟩, ⟨3, 1, [7]⟩, ⟨4, 1, [7]⟩, ⟨7, 2, []⟩] T.mixed (by kernel_rfl) (by intro _ _ d _ _ h; cases d <;> exact h) rfl (by kernel_rfl) ?_
      have S141 := S129.drew
      generalize w127.drew = w142 at *
      refine WD.p rfl (G.move rfl) rfl ?_
      refine WD.p rfl (G.nilp rfl) rfl ?_
      refine WD.p rfl (G.field T.fld110_0 rfl (show 0 + 0 = 0 from rfl)) rfl ?_
      refine WD.p rfl (G.move rfl) rfl ?_
      refine WD.p rfl (G.neg rfl (r := (w64 (-a3))) rfl) rfl ?_
      refine WD.r rfl (G.load1 T.one99 rfl (cell_blk (S141.blk 5 rfl) rfl)) rfl ?_
      refine WD.r rfl (G.loada T.agg103_2 rfl (cs := [.string (bs s40), .int .i64 x41]) (cellsAt.of_blk (S141.blk 6 rfl) rfl)) rfl ?_
      have S143 := (S141.front 8 rfl).front 3 rfl
      change St _ _ _ [[(p0_0, .cells #[.int .i64 a0_0.most, .slice A9 a0_0.pairs.length c10] 169 (0, 0))], G11, G121, [(b110, .cells #[.string (bs a2.S), .int .i64 a2.N, .int .i64 a3, .int .i64 x74, .int .i64 x99] 212 (0, 0))], [(b26, .cells #[.int .i64 a1.Kind, .int .i64 a1.On, .string (bs a1.K.S), .int .i64 a1.K.N, .int .i64 a1.V, .int .i64 a1.N, .int .i64 a1.M] 116 (0, 0))], [(p0_1, .cells #[.int .i64 a0_1.Most, .slice A20 a0_1.L.length c21] 172 (0, 0))], [(p0, .cells #[.pointer (some ⟨p0_0, 0, none⟩), .pointer (some ⟨p0_1, 0, none⟩), .slice A119 l116.length c120, .slice A0_3 a0_3.length c0_3] 110 (0, 0))], [(b39, .cells #[.string (bs s40), .int .i64 x41] 103 (0, 0))], [(b73, .cells #[.string (bs a2.S), .int .i64 a2.N, .int .i64 a3, .int .i64 x74, .int .i64 x99] 212 (0, 0))], G22, G0_3] at S143
      have hO144 : ObjO 169 ShK.rp p0_0 a0_0 ([(p0_0, .cells #[.int .i64 a0_0.most, .slice A9 a0_0.pairs.length c10] 169 (0, 0))] ++ (G11)) := ⟨_, _, ⟨A9, c10, G11, rfl, hO12, rfl⟩, rfl⟩
      have S145 : St _ _ _ [[(p0_0, .cells #[.int .i64 a0_0.most, .slice A9 a0_0.pairs.length c10] 169 (0, 0))] ++ (G11), G121, [(b110, .cells #[.string (bs a2.S), .int .i64 a2.N, .int .i64 a3, .int .i64 x74, .int .i64 x99] 212 (0, 0))], [(b26, .cells #[.int .i64 a1.Kind, .int .i64 a1.On, .string (bs a1.K.S), .int .i64 a1.K.N, .int .i64 a1.V, .int .i64 a1.N, .int .i64 a1.M] 116 (0, 0))], [(p0_1, .cells #[.int .i64 a0_1.Most, .slice A20 a0_1.L.length c21] 172 (0, 0))], [(p0, .cells #[.pointer (some ⟨p0_0, 0, none⟩), .pointer (some ⟨p0_1, 0, none⟩), .slice A119 l116.length c120, .slice A0_3 a0_3.length c0_3] 110 (0, 0))], [(b39, .cells #[.string (bs s40), .int .i64 x41] 103 (0, 0))], [(b73, .cells #[.string (bs a2.S), .int .i64 a2.N, .int .i64 a3, .int .i64 x74, .int .i64 x99] 212 (0, 0))], G22, G0_3] := S143.objs (by simp)
      obtain ⟨t146, hc147, hF⟩ := bind_some hF
      refine WD.call rfl T.call90 (evs_cons rfl (evs_cons rfl (evs_cons rfl evs_nil))) rfl ?_
      refine (sk_Put_calls q102 a0_0 (⟨s40, x41⟩ : KeyS) (w64 (-a3)) hO144 hc147 (St.hpN (As := [[(p0_0, .cells #[.int .i64 a0_0.most, .slice A9 a0_0.pairs.length c10] 169 (0, 0))] ++ (G11)]) S145)).mono ?_
      rintro _ w148 ⟨G151, rfl, hO152, T149⟩
      have S150 := St.callN (As := [[(p0_0, .cells #[.int .i64 a0_0.most, .slice A9 a0_0.pairs.length c10] 169 (0, 0))] ++ (G11)]) S145 T149
      change St _ _ _ [G151, G121, [(b110, .cells #[.string (bs a2.S), .int .i64 a2.N, .int .i64 a3, .int .i64 x74, .int .i64 x99] 212 (0, 0))], [(b26, .cells #[.int .i64 a1.Kind, .int .i64 a1.On, .string (bs a1.K.S), .int .i64 a1.K.N, .int .i64 a1.V, .int .i64 a1.N, .int .i64 a1.M] 116 (0, 0))], [(p0_1, .cells #[.int .i64 a0_1.Most, .slice A20 a0_1.L.length c21] 172 (0, 0))], [(p0, .cells #[.pointer (some ⟨p0_0, 0, none⟩), .pointer (some ⟨p0_1, 0, none⟩), .slice A119 l116.length c120, .slice A0_3 a0_3.length c0_3] 110 (0, 0))], [(b39, .cells #[.string (bs s40), .int .i64 x41] 103 (0, 0))], [(b73, .cells #[.string (bs a2.S), .int .i64 a2.N, .int .i64 a3, .int .i64 x74, .int .i64 x99] 212 (0, 0))], G22, G0_3] at S150
      refine ⟨_, rfl, ?_⟩
      obtain ⟨cs153, G154, ho155, hg156⟩ := hO152
      obtain ⟨A157, c158, G159, rfl, hO160, hq161⟩ := ho155
      have S162 : St _ _ _ [[(p0_0, .cells #[.int .i64 t146.2.most, .slice A157 t146.2.pairs.length c158] 169 (0, 0))], G159, G121, [(b110, .cells #[.string (bs a2.S), .int .i64 a2.N, .int .i64 a3, .int .i64 x74, .int .i64 x99] 212 (0, 0))], [(b26, .cells #[.int .i64 a1.Kind, .int .i64 a1.On, .string (bs a1.K.S), .int .i64 a1.K.N, .int .i64 a1.V, .int .i64 a1.N, .int .i64 a1.M] 116 (0, 0))], [(p0_1, .cells #[.int .i64 a0_1.Most, .slice A20 a0_1.L.length c21] 172 (0, 0))], [(p0, .cells #[.pointer (some ⟨p0_0, 0, none⟩), .pointer (some ⟨p0_1, 0, none⟩), .slice A119 l116.length c120, .slice A0_3 a0_3.length c0_3] 110 (0, 0))], [(b39, .cells #[.string (bs s40), .int .i64 x41] 103 (0, 0))], [(b73, .cells #[.string (bs a2.S), .int .i64 a2.N, .int .i64 a3, .int .i64 x74, .int .i64 x99] 212 (0, 0))], G22, G0_3] := S150.objs (by rw [hg156, hq161]; simp)
      refine WD.nil ?_
      refine WEx.in_normal ?_
      have S163 : St _ _ _ [[(p0_0, .cells #[.int .i64 t146.2.most, .slice A157 t146.2.pairs.length c158] 169 (0, 0))], [(b26, .cells #[.int .i64 a1.Kind, .int .i64 a1.On, .string (bs a1.K.S), .int .i64 a1.K.N, .int .i64 a1.V, .int .i64 a1.N, .int .i64 a1.M] 116 (0, 0))], [(p0_1, .cells #[.int .i64 a0_1.Most, .slice A20 a0_1.L.length c21] 172 (0, 0))], [(p0, .cells #[.pointer (some ⟨p0_0, 0, none⟩), .pointer (some ⟨p0_1, 0, none⟩), .slice A119 l116.length c120, .slice A0_3 a0_3.length c0_3] 110 (0, 0))], G22, G121, G0_3, G159, [(b110, .cells #[.string (bs a2.S), .int .i64 a2.N, .int .i64 a3, .int .i64 x74, .int .i64 x99] 212 (0, 0))], [(b39, .cells #[.string (bs s40), .int .i64 x41] 103 (0, 0))], [(b73, .cells #[.string (bs a2.S), .int .i64 a2.N, .int .i64 a3, .int .i64 x74, .int .i64 x99] 212 (0, 0))]] := St.reord S162 [0, 4, 5, 6, 9, 2, 10, 1, 3, 7, 8] 11 rfl (by decide) rfl
      have S164 := St.keep (As := [[(p0_0, .cells #[.int .i64 t146.2.most, .slice A157 t146.2.pairs.length c158] 169 (0, 0))], [(b26, .cells #[.int .i64 a1.Kind, .int .i64 a1.On, .string (bs a1.K.S), .int .i64 a1.K.N, .int .i64 a1.V, .int .i64 a1.N, .int .i64 a1.M] 116 (0, 0))], [(p0_1, .cells #[.int .i64 a0_1.Most, .slice A20 a0_1.L.length c21] 172 (0, 0))], [(p0, .cells #[.pointer (some ⟨p0_0, 0, none⟩), .pointer (some ⟨p0_1, 0, none⟩), .slice A119 l116.length c120, .slice A0_3 a0_3.length c0_3] 110 (0, 0))], G22, G121, G0_3, G159]) S163
      refine WEx.cutend _ ?_ ⟨q102, t146.2.most, A157, c158, t146.2.pairs, G159, rfl, hF, hO160, S164⟩
      exact ⟨rfl, rfl, rfl, trivial⟩
     ·
      refine WCode.cond_f (kb (b := decide (x38 = 1)) rfl (decide_eq_false h140)) ?_
      refine WCode.seq ?_
      refine WCode.region ?_
      refine WOps.p (G.eql rfl rfl rfl) rfl ?_
      refine WOps.p (G.assign rfl) rfl ?_
      refine WOps.nil ?_
      refine WEx.then_ ?_
      rcases ite_some hF with ⟨h165, hF⟩ | ⟨h165, hF⟩
      ·
       refine WCode.cond_t (kb (b := decide (x38 = 2)) rfl (decide_eq_true h165)) ?_
       refine WCode.draw [⟨0, 0, []⟩, ⟨1, 0, []⟩, ⟨2, 0, []⟩, ⟨3, 1, [5]⟩, ⟨4, 1, [5]⟩, ⟨5, 2, []⟩] T.mixed (by kernel_rfl) (by intro _ _ d _ _ h; cases d <;> exact h) rfl (by kernel_rfl) ?_
       have S166 := S129.drew
       generalize w127.drew = w167 at *
       refine WD.p rfl (G.move rfl) rfl ?_
       refine WD.p rfl (G.nilp rfl) rfl ?_
       refine WD.p rfl (G.field T.fld110_0 rfl (show 0 + 0 = 0 from rfl)) rfl ?_
       refine WD.r rfl (G.load1 T.one99 rfl (cell_blk (S166.blk 5 rfl) rfl)) rfl ?_
       refine WD.r rfl (G.loada T.agg103_2 rfl (cs := [.string (bs s40), .int .i64 x41]) (cellsAt.of_blk (S166.blk 6 rfl) rfl)) rfl ?_
       have S168 := (S166.front 8 rfl).front 3 rfl
       change St _ _ _ [[(p0_0, .cells #[.int .i64 a0_0.most, .slice A9 a0_0.pairs.length c10] 169 (0, 0))], G11, G121, [(b110, .cells #[.string (bs a2.S), .int .i64 a2.N, .int .i64 a3, .int .i64 x74, .int .i64 x99] 212 (0, 0))], [(b26, .cells #[.int .i64 a1.Kind, .int .i64 a1.On, .string (bs a1.K.S), .int .i64 a1.K.N, .int .i64 a1.V, .int .i64 a1.N, .int .i64 a1.M] 116 (0, 0))], [(p0_1, .cells #[.int .i64 a0_1.Most, .slice A20 a0_1.L.length c21] 172 (0, 0))], [(p0, .cells #[.pointer (some ⟨p0_0, 0, none⟩), .pointer (some ⟨p0_1, 0, none⟩), .slice A119 l116.length c120, .slice A0_3 a0_3.length c0_3] 110 (0, 0))], [(b39, .cells #[.string (bs s40), .int .i64 x41] 103 (0, 0))], [(b73, .cells #[.string (bs a2.S), .int .i64 a2.N, .int .i64 a3, .int .i64 x74, .int .i64 x99] 212 (0, 0))], G22, G0_3] at S168
       have hO169 : ObjO 169 ShK.rp p0_0 a0_0 ([(p0_0, .cells #[.int .i64 a0_0.most, .slice A9 a0_0.pairs.length c10] 169 (0, 0))] ++ (G11)) := ⟨_, _, ⟨A9, c10, G11, rfl, hO12, rfl⟩, rfl⟩
       have S170 : St _ _ _ [[(p0_0, .cells #[.int .i64 a0_0.most, .slice A9 a0_0.pairs.length c10] 169 (0, 0))] ++ (G11), G121, [(b110, .cells #[.string (bs a2.S), .int .i64 a2.N, .int .i64 a3, .int .i64 x74, .int .i64 x99] 212 (0, 0))], [(b26, .cells #[.int .i64 a1.Kind, .int .i64 a1.On, .string (bs a1.K.S), .int .i64 a1.K.N, .int .i64 a1.V, .int .i64 a1.N, .int .i64 a1.M] 116 (0, 0))], [(p0_1, .cells #[.int .i64 a0_1.Most, .slice A20 a0_1.L.length c21] 172 (0, 0))], [(p0, .cells #[.pointer (some ⟨p0_0, 0, none⟩), .pointer (some ⟨p0_1, 0, none⟩), .slice A119 l116.length c120, .slice A0_3 a0_3.length c0_3] 110 (0, 0))], [(b39, .cells #[.string (bs s40), .int .i64 x41] 103 (0, 0))], [(b73, .cells #[.string (bs a2.S), .int .i64 a2.N, .int .i64 a3, .int .i64 x74, .int .i64 x99] 212 (0, 0))], G22, G0_3] := S168.objs (by simp)
       obtain ⟨t171, hc172, hF⟩ := bind_some hF
       refine WD.call rfl T.call94 (evs_cons rfl (evs_cons rfl evs_nil)) rfl ?_
       refine (sk_Drop_calls q102 a0_0 (⟨s40, x41⟩ : KeyS) hO169 hc172 (St.hpN (As := [[(p0_0, .cells #[.int .i64 a0_0.most, .slice A9 a0_0.pairs.length c10] 169 (0, 0))] ++ (G11)]) S170)).mono ?_
       rintro _ w173 ⟨G176, rfl, hO177, T174⟩
       have S175 := St.callN (As := [[(p0_0, .cells #[.int .i64 a0_0.most, .slice A9 a0_0.pairs.length c10] 169 (0, 0))] ++ (G11)]) S170 T174
       change St _ _ _ [G176, G121, [(b110, .cells #[.string (bs a2.S), .int .i64 a2.N, .int .i64 a3, .int .i64 x74, .int .i64 x99] 212 (0, 0))], [(b26, .cells #[.int .i64 a1.Kind, .int .i64 a1.On, .string (bs a1.K.S), .int .i64 a1.K.N, .int .i64 a1.V, .int .i64 a1.N, .int .i64 a1.M] 116 (0, 0))], [(p0_1, .cells #[.int .i64 a0_1.Most, .slice A20 a0_1.L.length c21] 172 (0, 0))], [(p0, .cells #[.pointer (some ⟨p0_0, 0, none⟩), .pointer (some ⟨p0_1, 0, none⟩), .slice A119 l116.length c120, .slice A0_3 a0_3.length c0_3] 110 (0, 0))], [(b39, .cells #[.string (bs s40), .int .i64 x41] 103 (0, 0))], [(b73, .cells #[.string (bs a2.S), .int .i64 a2.N, .int .i64 a3, .int .i64 x74, .int .i64 x99] 212 (0, 0))], G22, G0_3] at S175
       refine ⟨_, rfl, ?_⟩
       obtain ⟨cs178, G179, ho180, hg181⟩ := hO177
       obtain ⟨A182, c183, G184, rfl, hO185, hq186⟩ := ho180
       have S187 : St _ _ _ [[(p0_0, .cells #[.int .i64 t171.2.most, .slice A182 t171.2.pairs.length c183] 169 (0, 0))], G184, G121, [(b110, .cells #[.string (bs a2.S), .int .i64 a2.N, .int .i64 a3, .int .i64 x74, .int .i64 x99] 212 (0, 0))], [(b26, .cells #[.int .i64 a1.Kind, .int .i64 a1.On, .string (bs a1.K.S), .int .i64 a1.K.N, .int .i64 a1.V, .int .i64 a1.N, .int .i64 a1.M] 116 (0, 0))], [(p0_1, .cells #[.int .i64 a0_1.Most, .slice A20 a0_1.L.length c21] 172 (0, 0))], [(p0, .cells #[.pointer (some ⟨p0_0, 0, none⟩), .pointer (some ⟨p0_1, 0, none⟩), .slice A119 l116.length c120, .slice A0_3 a0_3.length c0_3] 110 (0, 0))], [(b39, .cells #[.string (bs s40), .int .i64 x41] 103 (0, 0))], [(b73, .cells #[.string (bs a2.S), .int .i64 a2.N, .int .i64 a3, .int .i64 x74, .int .i64 x99] 212 (0, 0))], G22, G0_3] := S175.objs (by rw [hg181, hq186]; simp)
       refine WD.nil ?_
       refine WEx.in_normal ?_
       have S188 : St _ _ _ [[(p0_0, .cells #[.int .i64 t171.2.most, .slice A182 t171.2.pairs.length c183] 169 (0, 0))], [(b26, .cells #[.int .i64 a1.Kind, .int .i64 a1.On, .string (bs a1.K.S), .int .i64 a1.K.N, .int .i64 a1.V, .int .i64 a1.N, .int .i64 a1.M] 116 (0, 0))], [(p0_1, .cells #[.int .i64 a0_1.Most, .slice A20 a0_1.L.length c21] 172 (0, 0))], [(p0, .cells #[.pointer (some ⟨p0_0, 0, none⟩), .pointer (some ⟨p0_1, 0, none⟩), .slice A119 l116.length c120, .slice A0_3 a0_3.length c0_3] 110 (0, 0))], G22, G121, G0_3, G184, [(b110, .cells #[.string (bs a2.S), .int .i64 a2.N, .int .i64 a3, .int .i64 x74, .int .i64 x99] 212 (0, 0))], [(b39, .cells #[.string (bs s40), .int .i64 x41] 103 (0, 0))], [(b73, .cells #[.string (bs a2.S), .int .i64 a2.N, .int .i64 a3, .int .i64 x74, .int .i64 x99] 212 (0, 0))]] := St.reord S187 [0, 4, 5, 6, 9, 2, 10, 1, 3, 7, 8] 11 rfl (by decide) rfl
       have S189 := St.keep (As := [[(p0_0, .cells #[.int .i64 t171.2.most, .slice A182 t171.2.pairs.length c183] 169 (0, 0))], [(b26, .cells #[.int .i64 a1.Kind, .int .i64 a1.On, .string (bs a1.K.S), .int .i64 a1.K.N, .int .i64 a1.V, .int .i64 a1.N, .int .i64 a1.M] 116 (0, 0))], [(p0_1, .cells #[.int .i64 a0_1.Most, .slice A20 a0_1.L.length c21] 172 (0, 0))], [(p0, .cells #[.pointer (some ⟨p0_0, 0, none⟩), .pointer (some ⟨p0_1, 0, none⟩), .slice A119 l116.length c120, .slice A0_3 a0_3.length c0_3] 110 (0, 0))], G22, G121, G0_3, G184]) S188
       refine WEx.cutend _ ?_ ⟨q102, t171.2.most, A182, c183, t171.2.pairs, G184, rfl, hF, hO185, S189⟩
       exact ⟨rfl, rfl, rfl, trivial⟩
      ·
       refine WCode.cond_f (kb (b := decide (x38 = 2)) rfl (decide_eq_false h165)) ?_
       refine WCode.seq ?_
       refine WCode.region ?_
       refine WOps.p (G.eql rfl rfl rfl) rfl ?_
       refine WOps.p (G.assign rfl) rfl ?_
       refine WOps.nil ?_
       refine WEx.then_ ?_
       rcases ite_some hF with ⟨h190, hF⟩ | ⟨h190, hF⟩
       ·
        refine WCode.cond_t (kb (b := decide (x38 = 3)) rfl (decide_eq_true h190)) ?_
        refine WCode.region ?_
        refine WOps.p (G.move rfl) rfl ?_
        refine WOps.p (G.nilp rfl) rfl ?_
        refine WOps.p (G.field T.fld110_0 rfl (show 0 + 0 = 0 from rfl)) rfl ?_
        refine WOps.r (G.load1 T.one99 rfl (cell_blk (S129.blk 5 rfl) rfl)) rfl ?_
        have S191 := (S129.front 8 rfl).front 3 rfl
        change St _ _ _ [[(p0_0, .cells #[.int .i64 a0_0.most, .slice A9 a0_0.pairs.length c10] 169 (0, 0))], G11, G121, [(b110, .cells #[.string (bs a2.S), .int .i64 a2.N, .int .i64 a3, .int .i64 x74, .int .i64 x99] 212 (0, 0))], [(b26, .cells #[.int .i64 a1.Kind, .int .i64 a1.On, .string (bs a1.K.S), .int .i64 a1.K.N, .int .i64 a1.V, .int .i64 a1.N, .int .i64 a1.M] 116 (0, 0))], [(p0_1, .cells #[.int .i64 a0_1.Most, .slice A20 a0_1.L.length c21] 172 (0, 0))], [(p0, .cells #[.pointer (some ⟨p0_0, 0, none⟩), .pointer (some ⟨p0_1, 0, none⟩), .slice A119 l116.length c120, .slice A0_3 a0_3.length c0_3] 110 (0, 0))], [(b39, .cells #[.string (bs s40), .int .i64 x41] 103 (0, 0))], [(b73, .cells #[.string (bs a2.S), .int .i64 a2.N, .int .i64 a3, .int .i64 x74, .int .i64 x99] 212 (0, 0))], G22, G0_3] at S191
        have hO192 : ObjO 169 ShK.rp p0_0 a0_0 ([(p0_0, .cells #[.int .i64 a0_0.most, .slice A9 a0_0.pairs.length c10] 169 (0, 0))] ++ (G11)) := ⟨_, _, ⟨A9, c10, G11, rfl, hO12, rfl⟩, rfl⟩
        have S193 : St _ _ _ [[(p0_0, .cells #[.int .i64 a0_0.most, .slice A9 a0_0.pairs.length c10] 169 (0, 0))] ++ (G11), G121, [(b110, .cells #[.string (bs a2.S), .int .i64 a2.N, .int .i64 a3, .int .i64 x74, .int .i64 x99] 212 (0, 0))], [(b26, .cells #[.int .i64 a1.Kind, .int .i64 a1.On, .string (bs a1.K.S), .int .i64 a1.K.N, .int .i64 a1.V, .int .i64 a1.N, .int .i64 a1.M] 116 (0, 0))], [(p0_1, .cells #[.int .i64 a0_1.Most, .slice A20 a0_1.L.length c21] 172 (0, 0))], [(p0, .cells #[.pointer (some ⟨p0_0, 0, none⟩), .pointer (some ⟨p0_1, 0, none⟩), .slice A119 l116.length c120, .slice A0_3 a0_3.length c0_3] 110 (0, 0))], [(b39, .cells #[.string (bs s40), .int .i64 x41] 103 (0, 0))], [(b73, .cells #[.string (bs a2.S), .int .i64 a2.N, .int .i64 a3, .int .i64 x74, .int .i64 x99] 212 (0, 0))], G22, G0_3] := S191.objs (by simp)
        obtain ⟨t194, hc195, hF⟩ := bind_some hF
        refine WOps.call T.call117 (evs_cons rfl (evs_cons rfl evs_nil)) rfl ?_
        refine (sk_PruneW_calls q102 a0_0 hO192 hc195 (St.hpN (As := [[(p0_0, .cells #[.int .i64 a0_0.most, .slice A9 a0_0.pairs.length c10] 169 (0, 0))] ++ (G11)]) S193)).mono ?_
        rintro _ w196 ⟨G199, rfl, hO200, T197⟩
        have S198 := St.callN (As := [[(p0_0, .cells #[.int .i64 a0_0.most, .slice A9 a0_0.pairs.length c10] 169 (0, 0))] ++ (G11)]) S193 T197
        change St _ _ _ [G199, G121, [(b110, .cells #[.string (bs a2.S), .int .i64 a2.N, .int .i64 a3, .int .i64 x74, .int .i64 x99] 212 (0, 0))], [(b26, .cells #[.int .i64 a1.Kind, .int .i64 a1.On, .string (bs a1.K.S), .int .i64 a1.K.N, .int .i64 a1.V, .int .i64 a1.N, .int .i64 a1.M] 116 (0, 0))], [(p0_1, .cells #[.int .i64 a0_1.Most, .slice A20 a0_1.L.length c21] 172 (0, 0))], [(p0, .cells #[.pointer (some ⟨p0_0, 0, none⟩), .pointer (some ⟨p0_1, 0, none⟩), .slice A119 l116.length c120, .slice A0_3 a0_3.length c0_3] 110 (0, 0))], [(b39, .cells #[.string (bs s40), .int .i64 x41] 103 (0, 0))], [(b73, .cells #[.string (bs a2.S), .int .i64 a2.N, .int .i64 a3, .int .i64 x74, .int .i64 x99] 212 (0, 0))], G22, G0_3] at S198
        refine ⟨_, rfl, ?_⟩
        obtain ⟨cs201, G202, ho203, hg204⟩ := hO200
        obtain ⟨A205, c206, G207, rfl, hO208, hq209⟩ := ho203
        have S210 : St _ _ _ [[(p0_0, .cells #[.int .i64 t194.2.most, .slice A205 t194.2.pairs.length c206] 169 (0, 0))], G207, G121, [(b110, .cells #[.string (bs a2.S), .int .i64 a2.N, .int .i64 a3, .int .i64 x74, .int .i64 x99] 212 (0, 0))], [(b26, .cells #[.int .i64 a1.Kind, .int .i64 a1.On, .string (bs a1.K.S), .int .i64 a1.K.N, .int .i64 a1.V, .int .i64 a1.N, .int .i64 a1.M] 116 (0, 0))], [(p0_1, .cells #[.int .i64 a0_1.Most, .slice A20 a0_1.L.length c21] 172 (0, 0))], [(p0, .cells #[.pointer (some ⟨p0_0, 0, none⟩), .pointer (some ⟨p0_1, 0, none⟩), .slice A119 l116.length c120, .slice A0_3 a0_3.length c0_3] 110 (0, 0))], [(b39, .cells #[.string (bs s40), .int .i64 x41] 103 (0, 0))], [(b73, .cells #[.string (bs a2.S), .int .i64 a2.N, .int .i64 a3, .int .i64 x74, .int .i64 x99] 212 (0, 0))], G22, G0_3] := S198.objs (by rw [hg204, hq209]; simp)
        refine WOps.nil ?_
        refine WEx.in_normal ?_
        have S211 : St _ _ _ [[(p0_0, .cells #[.int .i64 t194.2.most, .slice A205 t194.2.pairs.length c206] 169 (0, 0))], [(b26, .cells #[.int .i64 a1.Kind, .int .i64 a1.On, .string (bs a1.K.S), .int .i64 a1.K.N, .int .i64 a1.V, .int .i64 a1.N, .int .i64 a1.M] 116 (0, 0))], [(p0_1, .cells #[.int .i64 a0_1.Most, .slice A20 a0_1.L.length c21] 172 (0, 0))], [(p0, .cells #[.pointer (some ⟨p0_0, 0, none⟩), .pointer (some ⟨p0_1, 0, none⟩), .slice A119 l116.length c120, .slice A0_3 a0_3.length c0_3] 110 (0, 0))], G22, G121, G0_3, G207, [(b110, .cells #[.string (bs a2.S), .int .i64 a2.N, .int .i64 a3, .int .i64 x74, .int .i64 x99] 212 (0, 0))], [(b39, .cells #[.string (bs s40), .int .i64 x41] 103 (0, 0))], [(b73, .cells #[.string (bs a2.S), .int .i64 a2.N, .int .i64 a3, .int .i64 x74, .int .i64 x99] 212 (0, 0))]] := St.reord S210 [0, 4, 5, 6, 9, 2, 10, 1, 3, 7, 8] 11 rfl (by decide) rfl
        have S212 := St.keep (As := [[(p0_0, .cells #[.int .i64 t194.2.most, .slice A205 t194.2.pairs.length c206] 169 (0, 0))], [(b26, .cells #[.int .i64 a1.Kind, .int .i64 a1.On, .string (bs a1.K.S), .int .i64 a1.K.N, .int .i64 a1.V, .int .i64 a1.N, .int .i64 a1.M] 116 (0, 0))], [(p0_1, .cells #[.int .i64 a0_1.Most, .slice A20 a0_1.L.length c21] 172 (0, 0))], [(p0, .cells #[.pointer (some ⟨p0_0, 0, none⟩), .pointer (some ⟨p0_1, 0, none⟩), .slice A119 l116.length c120, .slice A0_3 a0_3.length c0_3] 110 (0, 0))], G22, G121, G0_3, G207]) S211
        refine WEx.cutend _ ?_ ⟨q102, t194.2.most, A205, c206, t194.2.pairs, G207, rfl, hF, hO208, S212⟩
        exact ⟨rfl, rfl, rfl, trivial⟩
       ·
        refine WCode.cond_f (kb (b := decide (x38 = 3)) rfl (decide_eq_false h190)) ?_
        refine WCode.skip ?_
        refine WEx.in_normal ?_
        have S213 : St _ _ _ [[(p0_0, .cells #[.int .i64 a0_0.most, .slice A9 a0_0.pairs.length c10] 169 (0, 0))], [(b26, .cells #[.int .i64 a1.Kind, .int .i64 a1.On, .string (bs a1.K.S), .int .i64 a1.K.N, .int .i64 a1.V, .int .i64 a1.N, .int .i64 a1.M] 116 (0, 0))], [(p0_1, .cells #[.int .i64 a0_1.Most, .slice A20 a0_1.L.length c21] 172 (0, 0))], [(p0, .cells #[.pointer (some ⟨p0_0, 0, none⟩), .pointer (some ⟨p0_1, 0, none⟩), .slice A119 l116.length c120, .slice A0_3 a0_3.length c0_3] 110 (0, 0))], G22, G121, G0_3, G11, [(b110, .cells #[.string (bs a2.S), .int .i64 a2.N, .int .i64 a3, .int .i64 x74, .int .i64 x99] 212 (0, 0))], [(b39, .cells #[.string (bs s40), .int .i64 x41] 103 (0, 0))], [(b73, .cells #[.string (bs a2.S), .int .i64 a2.N, .int .i64 a3, .int .i64 x74, .int .i64 x99] 212 (0, 0))]] := St.reord S129 [2, 3, 4, 5, 9, 0, 10, 8, 1, 6, 7] 11 rfl (by decide) rfl
        have S214 := St.keep (As := [[(p0_0, .cells #[.int .i64 a0_0.most, .slice A9 a0_0.pairs.length c10] 169 (0, 0))], [(b26, .cells #[.int .i64 a1.Kind, .int .i64 a1.On, .string (bs a1.K.S), .int .i64 a1.K.N, .int .i64 a1.V, .int .i64 a1.N, .int .i64 a1.M] 116 (0, 0))], [(p0_1, .cells #[.int .i64 a0_1.Most, .slice A20 a0_1.L.length c21] 172 (0, 0))], [(p0, .cells #[.pointer (some ⟨p0_0, 0, none⟩), .pointer (some ⟨p0_1, 0, none⟩), .slice A119 l116.length c120, .slice A0_3 a0_3.length c0_3] 110 (0, 0))], G22, G121, G0_3, G11]) S213
        refine WEx.cutend _ ?_ ⟨q102, a0_0.most, A9, c10, a0_0.pairs, G11, rfl, hF, hO12, S214⟩
        exact ⟨rfl, rfl, rfl, trivial⟩
    ·
     rintro _ w136 ⟨q138, x130, A131, c132, l133, G134, rfl, hF, hO135, S137⟩
     unfold sd_keeps.j4 at hF
     refine WCode.seq ?_
     refine WCode.draw [⟨0, 0, []⟩, ⟨2, 0, []⟩, ⟨4, 0, []⟩, ⟨5, 0, []⟩, ⟨6, 0, []⟩, ⟨1, 1, [3, 9, 10, 11, 12]⟩, ⟨3, 0, []⟩, ⟨7, 1, [8, 9, 10, 11, 12]⟩, ⟨8, 0, []⟩, ⟨9, 0, []⟩, ⟨10, 2, []⟩, ⟨11, 0, []⟩, ⟨12, 0, []⟩] T.mixed (by kernel_rfl) (by intro _ _ d _ _ h; cases d <;> exact h) rfl (by kernel_rfl) ?_
     have S215 := S137.drew
     generalize w136.drew = w216 at *
     refine WD.p rfl (G.field T.fld116_4 rfl (show 0 + 5 = 5 from rfl)) rfl ?_
     refine WD.p rfl (G.move rfl) rfl ?_
     refine WD.p rfl (G.move rfl) rfl ?_
     refine WD.p rfl (G.nilp rfl) rfl ?_
     refine WD.p rfl (G.field T.fld110_2 rfl (show 0 + 2 = 2 from rfl)) rfl ?_
     refine WD.r rfl (G.load1 T.one3 rfl (cell_blk (S215.blk 1 rfl) rfl)) rfl ?_
     refine WD.p rfl (G.add rfl rfl (r := (w64 (a1.N + a3))) rfl) rfl ?_
     refine WD.r rfl (G.load1 T.one108 rfl (cell_blk (S215.blk 3 rfl) rfl)) rfl ?_
     refine WD.p rfl (G.len T.el108 rfl) rfl ?_
     refine WD.p rfl (G.add rfl rfl (r := (w64 ((w64 (a1.N + a3)) + (l116.length : Int)))) rfl) rfl ?_
     obtain ⟨t217, hc218, hF⟩ := bind_some hF
     refine WD.call rfl T.call54 (evs_cons rfl (evs_cons rfl evs_nil)) rfl ?_
     refine (sh_pick_calls q138 (w64 ((w64 (a1.N + a3)) + (l116.length : Int))) 3 hc218).mono ?_
     rintro _ w219 ⟨rfl, T220⟩
     have S221 := St.callN (As := []) S215 T220
     change St _ _ _ [[(p0_0, .cells #[.int .i64 x130, .slice A131 l133.length c132] 169 (0, 0))], [(b26, .cells #[.int .i64 a1.Kind, .int .i64 a1.On, .string (bs a1.K.S), .int .i64 a1.K.N, .int .i64 a1.V, .int .i64 a1.N, .int .i64 a1.M] 116 (0, 0))], [(p0_1, .cells #[.int .i64 a0_1.Most, .slice A20 a0_1.L.length c21] 172 (0, 0))], [(p0, .cells #[.pointer (some ⟨p0_0, 0, none⟩), .pointer (some ⟨p0_1, 0, none⟩), .slice A119 l116.length c120, .slice A0_3 a0_3.length c0_3] 110 (0, 0))], G22, G121, G0_3, G134] at S221
     refine ⟨_, rfl, ?_⟩
     refine WD.p rfl (G.gtr rfl rfl rfl) rfl ?_
     refine WD.p rfl (G.assign rfl) rfl ?_
     refine WD.nil ?_
     refine WEx.then_ ?_
     refine WCode.forget (l' := [(8, .bool (decide (0 < t217)))]) ⟨rfl, trivial⟩ ?_
     refine WCode.ret ?_
     obtain rfl := some_eq hF
     refine WEx.ret1 rfl rfl ?_
     have S222 := (S221.front 7 rfl).front 1 rfl
     change St _ _ _ [[(p0_0, .cells #[.int .i64 x130, .slice A131 l133.length c132] 169 (0, 0))], G134, [(b26, .cells #[.int .i64 a1.Kind, .int .i64 a1.On, .string (bs a1.K.S), .int .i64 a1.K.N, .int .i64 a1.V, .int .i64 a1.N, .int .i64 a1.M] 116 (0, 0))], [(p0_1, .cells #[.int .i64 a0_1.Most, .slice A20 a0_1.L.length c21] 172 (0, 0))], [(p0, .cells #[.pointer (some ⟨p0_0, 0, none⟩), .pointer (some ⟨p0_1, 0, none⟩), .slice A119 l116.length c120, .slice A0_3 a0_3.length c0_3] 110 (0, 0))], G22, G121, G0_3] at S222
     have hO223 : ObjO 169 ShK.rp p0_0 (⟨x130, l133⟩ : ShK) ([(p0_0, .cells #[.int .i64 x130, .slice A131 l133.length c132] 169 (0, 0))] ++ (G134)) := ⟨_, _, ⟨A131, c132, G134, rfl, hO135, rfl⟩, rfl⟩
     have S224 : St _ _ _ [[(p0_0, .cells #[.int .i64 x130, .slice A131 l133.length c132] 169 (0, 0))] ++ (G134), [(b26, .cells #[.int .i64 a1.Kind, .int .i64 a1.On, .string (bs a1.K.S), .int .i64 a1.K.N, .int .i64 a1.V, .int .i64 a1.N, .int .i64 a1.M] 116 (0, 0))], [(p0_1, .cells #[.int .i64 a0_1.Most, .slice A20 a0_1.L.length c21] 172 (0, 0))], [(p0, .cells #[.pointer (some ⟨p0_0, 0, none⟩), .pointer (some ⟨p0_1, 0, none⟩), .slice A119 l116.length c120, .slice A0_3 a0_3.length c0_3] 110 (0, 0))], G22, G121, G0_3] := S222.objs (by simp)
     have S225 := (S224.front 4 rfl).front 3 rfl
     change St _ _ _ [[(p0_1, .cells #[.int .i64 a0_1.Most, .slice A20 a0_1.L.length c21] 172 (0, 0))], G22, [(p0_0, .cells #[.int .i64 x130, .slice A131 l133.length c132] 169 (0, 0))] ++ (G134), [(b26, .cells #[.int .i64 a1.Kind, .int .i64 a1.On, .string (bs a1.K.S), .int .i64 a1.K.N, .int .i64 a1.V, .int .i64 a1.N, .int .i64 a1.M] 116 (0, 0))], [(p0, .cells #[.pointer (some ⟨p0_0, 0, none⟩), .pointer (some ⟨p0_1, 0, none⟩), .slice A119 l116.length c120, .slice A0_3 a0_3.length c0_3] 110 (0, 0))], G121, G0_3] at S225
     have hO226 : ObjO 172 ShR.rp p0_1 a0_1 ([(p0_1, .cells #[.int .i64 a0_1.Most, .slice A20 a0_1.L.length c21] 172 (0, 0))] ++ (G22)) := ⟨_, _, ⟨A20, c21, G22, rfl, hO23, rfl⟩, rfl⟩
     have S227 : St _ _ _ [[(p0_1, .cells #[.int .i64 a0_1.Most, .slice A20 a0_1.L.length c21] 172 (0, 0))] ++ (G22), [(p0_0, .cells #[.int .i64 x130, .slice A131 l133.length c132] 169 (0, 0))] ++ (G134), [(b26, .cells #[.int .i64 a1.Kind, .int .i64 a1.On, .string (bs a1.K.S), .int .i64 a1.K.N, .int .i64 a1.V, .int .i64 a1.N, .int .i64 a1.M] 116 (0, 0))], [(p0, .cells #[.pointer (some ⟨p0_0, 0, none⟩), .pointer (some ⟨p0_1, 0, none⟩), .slice A119 l116.length c120, .slice A0_3 a0_3.length c0_3] 110 (0, 0))], G121, G0_3] := S225.objs (by simp)
     have S228 : St _ _ _ [[(p0, .cells #[.pointer (some ⟨p0_0, 0, none⟩), .pointer (some ⟨p0_1, 0, none⟩), .slice A119 l116.length c120, .slice A0_3 a0_3.length c0_3] 110 (0, 0))], [(p0_0, .cells #[.int .i64 x130, .slice A131 l133.length c132] 169 (0, 0))] ++ (G134), [(p0_1, .cells #[.int .i64 a0_1.Most, .slice A20 a0_1.L.length c21] 172 (0, 0))] ++ (G22), G121, G0_3, [(b26, .cells #[.int .i64 a1.Kind, .int .i64 a1.On, .string (bs a1.K.S), .int .i64 a1.K.N, .int .i64 a1.V, .int .i64 a1.N, .int .i64 a1.M] 116 (0, 0))]] := St.reord S227 [3, 1, 0, 4, 5, 2] 6 rfl (by decide) rfl
     exact ⟨[(p0_0, .cells #[.int .i64 x130, .slice A131 l133.length c132] 169 (0, 0))] ++ (G134), [(p0_1, .cells #[.int .i64 a0_1.Most, .slice A20 a0_1.L.length c21] 172 (0, 0))] ++ (G22), A119, c120, G121, A0_3, c0_3, G0_3, rfl, hO223, hO226, hO124, hO0_3, St.keep (As := [[(p0, .cells #[.pointer (some ⟨p0_0, 0, none⟩), .pointer (some ⟨p0_1, 0, none⟩), .slice A119 l116.length c120, .slice A0_3 a0_3.length c0_3] 110 (0, 0))], [(p0_0, .cells #[.int .i64 x130, .slice A131 l133.length c132] 169 (0, 0))] ++ (G134), [(p0_1, .cells #[.int .i64 a0_1.Most, .slice A20 a0_1.L.length c21] 172 (0, 0))] ++ (G22), G121, G0_3]) S228⟩

def sd_clo (k : Nat) (a0 : KeyS) (a1 : Int) (ac0_0 : ShK) (ac0_1 : ShR) (ac0_2 : List Asked) (ac0_3 : List Asked) (bc1 : OpS) : Option (Bool × ShK × ShR × (List Asked) × (List Asked)) := (Option.bind (sd_keeps k ac0_0 ac0_1 ac0_2 ac0_3 bc1 a0 a1) fun t35 => (some (t35.1, t35.2.1, t35.2.2.1, (t35.2.2.2.1), (t35.2.2.2.2))))
set_option maxRecDepth 100000 in
set_option maxHeartbeats 1000000 in
theorem sd_clo_calls (k : Nat) (a0 : KeyS) (a1 : Int) {qc0 : Nat} {pc0 : Nat} (ac0_0 : ShK) {pc0_0 : Nat} {Gc0_0 : Grp} (ac0_1 : ShR) {pc0_1 : Nat} {Gc0_1 : Grp} (ac0_2 : List Asked) {Ac0_2 : Option Addr} {cc0_2 : Nat} {Gc0_2 : Grp} (ac0_3 : List Asked) {Ac0_3 : Option Addr} {cc0_3 : Nat} {Gc0_3 : Grp} (bc1 : OpS) {qc1 : Nat} {w : World} (hBc0 : w.heap[qc0]? = some (.cells #[.pointer (some ⟨pc0, 0, none⟩)] 107 (0, 0))) (hNc0 : qc0 ∉ keys ([[(pc0, .cells #[.pointer (some ⟨pc0_0, 0, none⟩), .pointer (some ⟨pc0_1, 0, none⟩), .slice Ac0_2 ac0_2.length cc0_2, .slice Ac0_3 ac0_3.length cc0_3] 110 (0, 0))], Gc0_0, Gc0_1, Gc0_2, Gc0_3] : List Grp).flatten) (hOc0_0 : ObjO 169 ShK.rp pc0_0 ac0_0 Gc0_0) (hOc0_1 : ObjO 172 ShR.rp pc0_1 ac0_1 Gc0_1) (hOc0_2 : SlO 212 Asked.rp (.slice Ac0_2 ac0_2.length cc0_2) ac0_2 Gc0_2) (hOc0_3 : SlO 212 Asked.rp (.slice Ac0_3 ac0_3.length cc0_3) ac0_3 Gc0_3) (hBc1 : w.heap[qc1]? = some (.cells #[.int .i64 bc1.Kind, .int .i64 bc1.On, .string (bs bc1.K.S), .int .i64 bc1.K.N, .int .i64 bc1.V, .int .i64 bc1.N, .int .i64 bc1.M] 116 (0, 0))) (hNc1 : qc1 ∉ keys ([[(pc0, .cells #[.pointer (some ⟨pc0_0, 0, none⟩), .pointer (some ⟨pc0_1, 0, none⟩), .slice Ac0_2 ac0_2.length cc0_2, .slice Ac0_3 ac0_3.length cc0_3] 110 (0, 0))], Gc0_0, Gc0_1, Gc0_2, Gc0_3] : List Grp).flatten) {r_ : Bool × ShK × ShR × (List Asked) × (List Asked)} (h_ : sd_clo k a0 a1 ac0_0 ac0_1 ac0_2 ac0_3 bc1 = some r_) (hp_ : Hp w ([[(pc0, .cells #[.pointer (some ⟨pc0_0, 0, none⟩), .pointer (some ⟨pc0_1, 0, none⟩), .slice Ac0_2 ac0_2.length cc0_2, .slice Ac0_3 ac0_3.length cc0_3] 110 (0, 0))], Gc0_0, Gc0_1, Gc0_2, Gc0_3]).flatten) :
    Calls Try.prog 118 [.agg #[.string (bs a0.S), .int .i64 a0.N], .int .i64 a1, .pointer (some ⟨qc0, 0, none⟩), .pointer (some ⟨qc1, 0, none⟩)].toArray w fun e w' => ∃ Gec0_0' : Grp, ∃ Gec0_1' : Grp, ∃ Aec0_2' : Option Addr, ∃ cec0_2' : Nat, ∃ Gec0_2' : Grp, ∃ Aec0_3' : Option Addr, ∃ cec0_3' : Nat, ∃ Gec0_3' : Grp, e = .returned (.bool r_.1) ∧ ObjO 169 ShK.rp pc0_0 (r_.2.1) Gec0_0' ∧ ObjO 172 ShR.rp pc0_1 (r_.2.2.1) Gec0_1' ∧ SlO 212 Asked.rp (.slice Aec0_2' (r_.2.2.2.1).length cec0_2') (r_.2.2.2.1) Gec0_2' ∧ SlO 212 Asked.rp (.slice Aec0_3' (r_.2.2.2.2).length cec0_3') (r_.2.2.2.2) Gec0_3' ∧ St w (KS [[(pc0, .cells #[.pointer (some ⟨pc0_0, 0, none⟩), .pointer (some ⟨pc0_1, 0, none⟩), .slice Ac0_2 ac0_2.length cc0_2, .slice Ac0_3 ac0_3.length cc0_3] 110 (0, 0))], Gc0_0, Gc0_1, Gc0_2, Gc0_3]) w' [[(pc0, .cells #[.pointer (some ⟨pc0_0, 0, none⟩), .pointer (some ⟨pc0_1, 0, none⟩), .slice Aec0_2' (r_.2.2.2.1).length cec0_2', .slice Aec0_3' (r_.2.2.2.2).length cec0_3'] 110 (0, 0))], Gec0_0', Gec0_1', Gec0_2', Gec0_3'] := by
 have hF := h_
 clear h_
 unfold sd_clo at hF
 have S := St.initK [[(pc0, .cells #[.pointer (some ⟨pc0_0, 0, none⟩), .pointer (some ⟨pc0_1, 0, none⟩), .slice Ac0_2 ac0_2.length cc0_2, .slice Ac0_3 ac0_3.length cc0_3] 110 (0, 0))], Gc0_0, Gc0_1, Gc0_2, Gc0_3] hp_
 have S1 := S.front 1 rfl
 change St _ _ _ [Gc0_0, [(pc0, .cells #[.pointer (some ⟨pc0_0, 0, none⟩), .pointer (some ⟨pc0_1, 0, none⟩), .slice Ac0_2 ac0_2.length cc0_2, .slice Ac0_3 ac0_3.length cc0_3] 110 (0, 0))], Gc0_1, Gc0_2, Gc0_3] at S1
 obtain ⟨cs2, G3, ho4, hg5⟩ := hOc0_0
 obtain ⟨A6, c7, G8, rfl, hO9, hq10⟩ := ho4
 have S11 : St _ _ _ [[(pc0_0, .cells #[.int .i64 ac0_0.most, .slice A6 ac0_0.pairs.length c7] 169 (0, 0))], G8, [(pc0, .cells #[.pointer (some ⟨pc0_0, 0, none⟩), .pointer (some ⟨pc0_1, 0, none⟩), .slice Ac0_2 ac0_2.length cc0_2, .slice Ac0_3 ac0_3.length cc0_3] 110 (0, 0))], Gc0_1, Gc0_2, Gc0_3] := S1.objs (by rw [hg5, hq10]; simp)
 have S12 := S11.front 3 rfl
 change St _ _ _ [Gc0_1, [(pc0_0, .cells #[.int .i64 ac0_0.most, .slice A6 ac0_0.pairs.length c7] 169 (0, 0))], G8, [(pc0, .cells #[.pointer (some ⟨pc0_0, 0, none⟩), .pointer (some ⟨pc0_1, 0, none⟩), .slice Ac0_2 ac0_2.length cc0_2, .slice Ac0_3 ac0_3.length cc0_3] 110 (0, 0))], Gc0_2, Gc0_3] at S12
 obtain ⟨cs13, G14, ho15, hg16⟩ := hOc0_1
 obtain ⟨A17, c18, G19, rfl, hO20, hq21⟩ := ho15
 have S22 : St _ _ _ [[(pc0_1, .cells #[.int .i64 ac0_1.Most, .slice A17 ac0_1.L.length c18] 172 (0, 0))], G19, [(pc0_0, .cells #[.int .i64 ac0_0.most, .slice A6 ac0_0.pairs.length c7] 169 (0, 0))], G8, [(pc0, .cells #[.pointer (some ⟨pc0_0, 0, none⟩), .pointer (some ⟨pc0_1, 0, none⟩), .slice Ac0_2 ac0_2.length cc0_2, .slice Ac0_3 ac0_3.length cc0_3] 110 (0, 0))], Gc0_2, Gc0_3] := S12.objs (by rw [hg16, hq21]; simp)
 refine enter 12 [(0, .agg #[.string (bs a0.S), .int .i64 a0.N]), (1, .int .i64 a1), (2, .pointer (some ⟨qc0, 0, none⟩)), (3, .pointer (some ⟨qc1, 0, none⟩))] Try.func118 rfl rfl rfl rfl ?_
 refine WCode.seq ?_
 refine WCode.region ?_
 obtain ⟨b23, w24, E25, S26, X27, L28⟩ := St.box S22 Try.prog 103 (.agg #[.string (bs a0.S), .int .i64 a0.N])
 change St _ _ _ [[(b23, .cells #[.string (bs a0.S), .int .i64 a0.N] 103 (0, 0))], [(pc0_1, .cells #[.int .i64 ac0_1.Most, .slice A17 ac0_1.L.length c18] 172 (0, 0))], G19, [(pc0_0, .cells #[.int .i64 ac0_0.most, .slice A6 ac0_0.pairs.length c7] 169 (0, 0))], G8, [(pc0, .cells #[.pointer (some ⟨pc0_0, 0, none⟩), .pointer (some ⟨pc0_1, 0, none⟩), .slice Ac0_2 ac0_2.length cc0_2, .slice Ac0_3 ac0_3.length cc0_3] 110 (0, 0))], Gc0_2, Gc0_3] at S26
 refine WOps.e (E25 rfl) rfl ?_
 refine WOps.p (G.assign rfl) rfl ?_
 refine WOps.nil ?_
 refine WEx.then_ ?_
 refine WCode.seq ?_
 refine WCode.region ?_
 refine WOps.r (G.load1 T.one107 rfl (cell_blk ((S26.fr qc0 (lt_of_blk hBc0) hNc0).trans hBc0) rfl)) rfl ?_
 refine WOps.r (G.loada T.agg116_7 rfl (cs := [.int .i64 bc1.Kind, .int .i64 bc1.On, .string (bs bc1.K.S), .int .i64 bc1.K.N, .int .i64 bc1.V, .int .i64 bc1.N, .int .i64 bc1.M]) (cellsAt.of_blk ((S26.fr qc1 (lt_of_blk hBc1) hNc1).trans hBc1) rfl)) rfl ?_
 refine WOps.r (G.loada T.agg103_2 rfl (cs := [.string (bs a0.S), .int .i64 a0.N]) (cellsAt.of_blk (S26.blk 0 rfl) rfl)) rfl ?_
 refine WOps.p (G.move rfl) rfl ?_
 have S29 := (S26.front 4 rfl).front 4 rfl
 change St _ _ _ [[(pc0_0, .cells #[.int .i64 ac0_0.most, .slice A6 ac0_0.pairs.length c7] 169 (0, 0))], G8, [(b23, .cells #[.string (bs a0.S), .int .i64 a0.N] 103 (0, 0))], [(pc0_1, .cells #[.int .i64 ac0_1.Most, .slice A17 ac0_1.L.length c18] 172 (0, 0))], G19, [(pc0, .cells #[.pointer (some ⟨pc0_0, 0, none⟩), .pointer (some ⟨pc0_1, 0, none⟩), .slice Ac0_2 ac0_2.length cc0_2, .slice Ac0_3 ac0_3.length cc0_3] 110 (0, 0))], Gc0_2, Gc0_3] at S29
 have hO30 : ObjO 169 ShK.rp pc0_0 ac0_0 ([(pc0_0, .cells #[.int .i64 ac0_0.most, .slice A6 ac0_0.pairs.length c7] 169 (0, 0))] ++ (G8)) := ⟨_, _, ⟨A6, c7, G8, rfl, hO9, rfl⟩, rfl⟩
 have S31 : St _ _ _ [[(pc0_0, .cells #[.int .i64 ac0_0.most, .slice A6 ac0_0.pairs.length c7] 169 (0, 0))] ++ (G8), [(b23, .cells #[.string (bs a0.S), .int .i64 a0.N] 103 (0, 0))], [(pc0_1, .cells #[.int .i64 ac0_1.Most, .slice A17 ac0_1.L.length c18] 172 (0, 0))], G19, [(pc0, .cells #[.pointer (some ⟨pc0_0, 0, none⟩), .pointer (some ⟨pc0_1, 0, none⟩), .slice Ac0_2 ac0_2.length cc0_2, .slice Ac0_3 ac0_3.length cc0_3] 110 (0, 0))], Gc0_2, Gc0_3] := S29.objs (by simp)
 have S32 := (S31.front 3 rfl).front 3 rfl
 change St _ _ _ [[(pc0_1, .cells #[.int .i64 ac0_1.Most, .slice A17 ac0_1.L.length c18] 172 (0, 0))], G19, [(pc0_0, .cells #[.int .i64 ac0_0.most, .slice A6 ac0_0.pairs.length c7] 169 (0, 0))] ++ (G8), [(b23, .cells #[.string (bs a0.S), .int .i64 a0.N] 103 (0, 0))], [(pc0, .cells #[.pointer (some ⟨pc0_0, 0, none⟩), .pointer (some ⟨pc0_1, 0, none⟩), .slice Ac0_2 ac0_2.length cc0_2, .slice Ac0_3 ac0_3.length cc0_3] 110 (0, 0))], Gc0_2, Gc0_3] at S32
 have hO33 : ObjO 172 ShR.rp pc0_1 ac0_1 ([(pc0_1, .cells #[.int .i64 ac0_1.Most, .slice A17 ac0_1.L.length c18] 172 (0, 0))] ++ (G19)) := ⟨_, _, ⟨A17, c18, G19, rfl, hO20, rfl⟩, rfl⟩
 have S34 : St _ _ _ [[(pc0_1, .cells #[.int .i64 ac0_1.Most, .slice A17 ac0_1.L.length c18] 172 (0, 0))] ++ (G19), [(pc0_0, .cells #[.int .i64 ac0_0.most, .slice A6 ac0_0.pairs.length c7] 169 (0, 0))] ++ (G8), [(b23, .cells #[.string (bs a0.S), .int .i64 a0.N] 103 (0, 0))], [(pc0, .cells #[.pointer (some ⟨pc0_0, 0, none⟩), .pointer (some ⟨pc0_1, 0, none⟩), .slice Ac0_2 ac0_2.length cc0_2, .slice Ac0_3 ac0_3.length cc0_3] 110 (0, 0))], Gc0_2, Gc0_3] := S32.objs (by simp)
 obtain ⟨t35, hc36, hF⟩ := bind_some hF
 have S37 : St _ _ _ [[(pc0, .cells #[.pointer (some ⟨pc0_0, 0, none⟩), .pointer (some ⟨pc0_1, 0, none⟩), .slice Ac0_2 ac0_2.length cc0_2, .slice Ac0_3 ac0_3.length cc0_3] 110 (0, 0))], [(pc0_0, .cells #[.int .i64 ac0_0.most, .slice A6 ac0_0.pairs.length c7] 169 (0, 0))] ++ (G8), [(pc0_1, .cells #[.int .i64 ac0_1.Most, .slice A17 ac0_1.L.length c18] 172 (0, 0))] ++ (G19), Gc0_2, Gc0_3, [(b23, .cells #[.string (bs a0.S), .int .i64 a0.N] 103 (0, 0))]] := St.reord S34 [3, 1, 0, 4, 5, 2] 6 rfl (by decide) rfl
 refine WOps.call T.call119 (evs_cons rfl (evs_cons rfl (evs_cons rfl (evs_cons rfl evs_nil)))) rfl ?_
 refine (sd_keeps_calls k ac0_0 ac0_1 ac0_2 ac0_3 bc1 a0 a1 hO30 hO33 hOc0_2 hOc0_3 hc36 (St.hpN (As := [[(pc0, .cells #[.pointer (some ⟨pc0_0, 0, none⟩), .pointer (some ⟨pc0_1, 0, none⟩), .slice Ac0_2 ac0_2.length cc0_2, .slice Ac0_3 ac0_3.length cc0_3] 110 (0, 0))], [(pc0_0, .cells #[.int .i64 ac0_0.most, .slice A6 ac0_0.pairs.length c7] 169 (0, 0))] ++ (G8), [(pc0_1, .cells #[.int .i64 ac0_1.Most, .slice A17 ac0_1.L.length c18] 172 (0, 0))] ++ (G19), Gc0_2, Gc0_3]) S37)).mono ?_
 rintro _ w38 ⟨G41, G43, A45, c46, G47, A49, c50, G51, rfl, hO42, hO44, hO48, hO52, T39⟩
 have S40 := St.callN (As := [[(pc0, .cells #[.pointer (some ⟨pc0_0, 0, none⟩), .pointer (some ⟨pc0_1, 0, none⟩), .slice Ac0_2 ac0_2.length cc0_2, .slice Ac0_3 ac0_3.length cc0_3] 110 (0, 0))], [(pc0_0, .cells #[.int .i64 ac0_0.most, .slice A6 ac0_0.pairs.length c7] 169 (0, 0))] ++ (G8), [(pc0_1, .cells #[.int .i64 ac0_1.Most, .slice A17 ac0_1.L.length c18] 172 (0, 0))] ++ (G19), Gc0_2, Gc0_3]) S37 T39
 change St _ _ _ [[(pc0, .cells #[.pointer (some ⟨pc0_0, 0, none⟩), .pointer (some ⟨pc0_1, 0, none⟩), .slice A45 (t35.2.2.2.1).length c46, .slice A49 (t35.2.2.2.2).length c50] 110 (0, 0))], G41, G43, G47, G51, [(b23, .cells #[.string (bs a0.S), .int .i64 a0.N] 103 (0, 0))]] at S40
 refine ⟨_, rfl, ?_⟩
 have S53 := S40.front 1 rfl
 change St _ _ _ [G41, [(pc0, .cells #[.pointer (some ⟨pc0_0, 0, none⟩), .pointer (some ⟨pc0_1, 0, none⟩), .slice A45 (t35.2.2.2.1).length c46, .slice A49 (t35.2.2.2.2).length c50] 110 (0, 0))], G43, G47, G51, [(b23, .cells #[.string (bs a0.S), .int .i64 a0.N] 103 (0, 0))]] at S53
 obtain ⟨cs54, G55, ho56, hg57⟩ := hO42
 obtain ⟨A58, c59, G60, rfl, hO61, hq62⟩ := ho56
 have S63 : St _ _ _ [[(pc0_0, .cells #[.int .i64 t35.2.1.most, .slice A58 t35.2.1.pairs.length c59] 169 (0, 0))], G60, [(pc0, .cells #[.pointer (some ⟨pc0_0, 0, none⟩), .pointer (some ⟨pc0_1, 0, none⟩), .slice A45 (t35.2.2.2.1).length c46, .slice A49 (t35.2.2.2.2).length c50] 110 (0, 0))], G43, G47, G51, [(b23, .cells #[.string (bs a0.S), .int .i64 a0.N] 103 (0, 0))]] := S53.objs (by rw [hg57, hq62]; simp)
 have S64 := S63.front 3 rfl
 change St _ _ _ [G43, [(pc0_0, .cells #[.int .i64 t35.2.1.most, .slice A58 t35.2.1.pairs.length c59] 169 (0, 0))], G60, [(pc0, .cells #[.pointer (some ⟨pc0_0, 0, none⟩), .pointer (some ⟨pc0_1, 0, none⟩), .slice A45 (t35.2.2.2.1).length c46, .slice A49 (t35.2.2.2.2).length c50] 110 (0, 0))], G47, G51, [(b23, .cells #[.string (bs a0.S), .int .i64 a0.N] 103 (0, 0))]] at S64
 obtain ⟨cs65, G66, ho67, hg68⟩ := hO44
 obtain ⟨A69, c70, G71, rfl, hO72, hq73⟩ := ho67
 have S74 : St _ _ _ [[(pc0_1, .cells #[.int .i64 t35.2.2.1.Most, .slice A69 t35.2.2.1.L.length c70] 172 (0, 0))], G71, [(pc0_0, .cells #[.int .i64 t35.2.1.most, .slice A58 t35.2.1.pairs.length c59] 169 (0, 0))], G60, [(pc0, .cells #[.pointer (some ⟨pc0_0, 0, none⟩), .pointer (some ⟨pc0_1, 0, none⟩), .slice A45 (t35.2.2.2.1).length c46, .slice A49 (t35.2.2.2.2).length c50] 110 (0, 0))], G47, G51, [(b23, .cells #[.string (bs a0.S), .int .i64 a0.N] 103 (0, 0))]] := S64.objs (by rw [hg68, hq73]; simp)
 refine WOps.p (G.assign rfl) rfl ?_
 refine WOps.nil ?_
 refine WEx.then_ ?_
 refine WCode.forget (l' := [(6, .bool t35.1)]) ⟨rfl, trivial⟩ ?_
 refine WCode.ret ?_
 obtain rfl := some_eq hF
 refine WEx.ret1 rfl rfl ?_
 have S75 := (S74.front 3 rfl).front 3 rfl
 change St _ _ _ [[(pc0_0, .cells #[.int .i64 t35.2.1.most, .slice A58 t35.2.1.pairs.length c59] 169 (0, 0))], G60, [(pc0_1, .cells #[.int .i64 t35.2.2.1.Most, .slice A69 t35.2.2.1.L.length c70] 172 (0, 0))], G71, [(pc0, .cells #[.pointer (some ⟨pc0_0, 0, none⟩), .pointer (some ⟨pc0_1, 0, none⟩), .slice A45 (t35.2.2.2.1).length c46, .slice A49 (t35.2.2.2.2).length c50] 110 (0, 0))], G47, G51, [(b23, .cells #[.string (bs a0.S), .int .i64 a0.N] 103 (0, 0))]] at S75
 have hO76 : ObjO 169 ShK.rp pc0_0 t35.2.1 ([(pc0_0, .cells #[.int .i64 t35.2.1.most, .slice A58 t35.2.1.pairs.length c59] 169 (0, 0))] ++ (G60)) := ⟨_, _, ⟨A58, c59, G60, rfl, hO61, rfl⟩, rfl⟩
 have S77 : St _ _ _ [[(pc0_0, .cells #[.int .i64 t35.2.1.most, .slice A58 t35.2.1.pairs.length c59] 169 (0, 0))] ++ (G60), [(pc0_1, .cells #[.int .i64 t35.2.2.1.Most, .slice A69 t35.2.2.1.L.length c70] 172 (0, 0))], G71, [(pc0, .cells #[.pointer (some ⟨pc0_0, 0, none⟩), .pointer (some ⟨pc0_1, 0, none⟩), .slice A45 (t35.2.2.2.1).length c46, .slice A49 (t35.2.2.2.2).length c50] 110 (0, 0))], G47, G51, [(b23, .cells #[.string (bs a0.S), .int .i64 a0.N] 103 (0, 0))]] := S75.objs (by simp)
 have S78 := (S77.front 2 rfl).front 2 rfl
 change St _ _ _ [[(pc0_1, .cells #[.int .i64 t35.2.2.1.Most, .slice A69 t35.2.2.1.L.length c70] 172 (0, 0))], G71, [(pc0_0, .cells #[.int .i64 t35.2.1.most, .slice A58 t35.2.1.pairs.length c59] 169 (0, 0))] ++ (G60), [(pc0, .cells #[.pointer (some ⟨pc0_0, 0, none⟩), .pointer (some ⟨pc0_1, 0, none⟩), .slice A45 (t35.2.2.2.1).length c46, .slice A49 (t35.2.2.2.2).length c50] 110 (0, 0))], G47, G51, [(b23, .cells #[.string (bs a0.S), .int .i64 a0.N] 103 (0, 0))]] at S78
 have hO79 : ObjO 172 ShR.rp pc0_1 t35.2.2.1 ([(pc0_1, .cells #[.int .i64 t35.2.2.1.Most, .slice A69 t35.2.2.1.L.length c70] 172 (0, 0))] ++ (G71)) := ⟨_, _, ⟨A69, c70, G71, rfl, hO72, rfl⟩, rfl⟩
 have S80 : St _ _ _ [[(pc0_1, .cells #[.int .i64 t35.2.2.1.Most, .slice A69 t35.2.2.1.L.length c70] 172 (0, 0))] ++ (G71), [(pc0_0, .cells #[.int .i64 t35.2.1.most, .slice A58 t35.2.1.pairs.length c59] 169 (0, 0))] ++ (G60), [(pc0, .cells #[.pointer (some ⟨pc0_0, 0, none⟩), .pointer (some ⟨pc0_1, 0, none⟩), .slice A45 (t35.2.2.2.1).length c46, .slice A49 (t35.2.2.2.2).length c50] 110 (0, 0))], G47, G51, [(b23, .cells #[.string (bs a0.S), .int .i64 a0.N] 103 (0, 0))]] := S78.objs (by simp)
 have S81 : St _ _ _ [[(pc0, .cells #[.pointer (some ⟨pc0_0, 0, none⟩), .pointer (some ⟨pc0_1, 0, none⟩), .slice A45 (t35.2.2.2.1).length c46, .slice A49 (t35.2.2.2.2).length c50] 110 (0, 0))], [(pc0_0, .cells #[.int .i64 t35.2.1.most, .slice A58 t35.2.1.pairs.length c59] 169 (0, 0))] ++ (G60), [(pc0_1, .cells #[.int .i64 t35.2.2.1.Most, .slice A69 t35.2.2.1.L.length c70] 172 (0, 0))] ++ (G71), G47, G51, [(b23, .cells #[.string (bs a0.S), .int .i64 a0.N] 103 (0, 0))]] := St.reord S80 [2, 1, 0, 3, 4, 5] 6 rfl (by decide) rfl
 exact ⟨[(pc0_0, .cells #[.int .i64 t35.2.1.most, .slice A58 t35.2.1.pairs.length c59] 169 (0, 0))] ++ (G60), [(pc0_1, .cells #[.int .i64 t35.2.2.1.Most, .slice A69 t35.2.2.1.L.length c70] 172 (0, 0))] ++ (G71), A45, c46, G47, A49, c50, G51, rfl, hO76, hO79, hO48, hO52, St.keep (As := [[(pc0, .cells #[.pointer (some ⟨pc0_0, 0, none⟩), .pointer (some ⟨pc0_1, 0, none⟩), .slice A45 (t35.2.2.2.1).length c46, .slice A49 (t35.2.2.2.2).length c50] 110 (0, 0))], [(pc0_0, .cells #[.int .i64 t35.2.1.most, .slice A58 t35.2.1.pairs.length c59] 169 (0, 0))] ++ (G60), [(pc0_1, .cells #[.int .i64 t35.2.2.1.Most, .slice A69 t35.2.2.1.L.length c70] 172 (0, 0))] ++ (G71), G47, G51]) S81⟩

end Go.Proofs.Ytoahkjehjmbojaa
