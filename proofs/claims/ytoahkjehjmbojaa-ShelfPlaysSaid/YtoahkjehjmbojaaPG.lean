/- Functions and their walks (printed by auto.py over the engine). -/
import Derived.Test.YtoahkjehjmbojaaProg
import Derived.Test.YtoahkjehjmbojaaPF
namespace Go.Proofs.Ytoahkjehjmbojaa
open Go Go.Eng
set_option linter.unusedSimpArgs false
set_option linter.unusedVariables false

theorem T.call96 : Callable Try.prog 96 := Callable.mk Try.func96 (by kernel_rfl) (by kernel_rfl)
theorem T.call97 : Callable Try.prog 97 := Callable.mk Try.func97 (by kernel_rfl) (by kernel_rfl)
theorem T.call98 : Callable Try.prog 98 := Callable.mk Try.func98 (by kernel_rfl) (by kernel_rfl)
theorem T.call99 : Callable Try.prog 99 := Callable.mk Try.func99 (by kernel_rfl) (by kernel_rfl)
theorem T.elt112 : Elt Try.prog 112 176 1 24 := elt_mk (z := .slice none 0 0) Try.underlying112 (by kernel_rfl) rfl
theorem T.fld114_0 : fldOff Try.prog 114 0 = some 0 := by kernel_rfl
theorem T.fld114_1 : fldOff Try.prog 114 1 = some 1 := by kernel_rfl
theorem T.fld116_0 : fldOff Try.prog 116 0 = some 0 := by kernel_rfl
theorem T.fld116_3 : fldOff Try.prog 116 3 = some 4 := by kernel_rfl
theorem T.one112 : isOneT Try.prog 112 = true := by kernel_rfl
theorem T.size112_1 : sizeT Try.prog 112 = some 1 := by kernel_rfl
structure BookS where
  free : List (List KeyS)
  want : List (List KeyS)
  all : List (List KeyS)
  lists : Int
  deriving DecidableEq
def BookS.rp : Rp BookS where
  sz := 4
  rd := fun w F x cs => ∃ A1 : Option Addr, ∃ c1 : Nat, ∃ A2 : Option Addr, ∃ c2 : Nat, ∃ A3 : Option Addr, ∃ c3 : Nat, cs = [.slice A1 (x.free).length c1, .slice A2 (x.want).length c2, .slice A3 (x.all).length c3, .int .i64 x.lists] ∧ SlR (Rp.slice 103 KeyS.rp) w F A1 c1 (x.free) ∧ SlR (Rp.slice 103 KeyS.rp) w F A2 c2 (x.want) ∧ SlR (Rp.slice 103 KeyS.rp) w F A3 c3 (x.all)
  own := fun x cs G => ∃ A1 : Option Addr, ∃ c1 : Nat, ∃ G1 : Grp, ∃ A2 : Option Addr, ∃ c2 : Nat, ∃ G2 : Grp, ∃ A3 : Option Addr, ∃ c3 : Nat, ∃ G3 : Grp, cs = [.slice A1 (x.free).length c1, .slice A2 (x.want).length c2, .slice A3 (x.all).length c3, .int .i64 x.lists] ∧ SlO 176 (Rp.slice 103 KeyS.rp) (.slice A1 (x.free).length c1) (x.free) G1 ∧ SlO 176 (Rp.slice 103 KeyS.rp) (.slice A2 (x.want).length c2) (x.want) G2 ∧ PoolO 176 103 KeyS.rp A3 c3 (x.all) G3 ∧ G = G1 ++ (G2 ++ (G3))
  len := by rintro _ _ _ _ ⟨_, _, _, _, _, _, rfl, _⟩; rfl
  one := by rintro _ _ _ _ ⟨_, _, _, _, _, _, rfl, _⟩; exact one_of_all rfl
  lenO := by rintro _ _ _ ⟨_, _, _, _, _, _, _, _, _, rfl, _⟩; rfl
  oneO := by rintro _ _ _ ⟨_, _, _, _, _, _, _, _, _, rfl, _⟩; exact one_of_all rfl
  ext := by rintro _ _ _ _ _ ⟨A1, c1, A2, c2, A3, c3, rfl, h1, h2, h3⟩ hE; exact ⟨A1, c1, A2, c2, A3, c3, rfl, h1.ext hE, h2.ext hE, h3.ext hE⟩
  mono := by rintro _ _ _ _ _ ⟨A1, c1, A2, c2, A3, c3, rfl, h1, h2, h3⟩ hF; exact ⟨A1, c1, A2, c2, A3, c3, rfl, h1.mono hF, h2.mono hF, h3.mono hF⟩
  low := by
    rintro w x cs G ⟨A1, c1, G1, A2, c2, G2, A3, c3, G3, rfl, h1, h2, h3, hGe⟩ hG
    exact ⟨A1, c1, A2, c2, A3, c3, rfl, (h1.rd (fun b o hb => hG b o (by rw [hGe]; simp [hb]))).mono (fun b (hb : b ∈ keys G1) => show b ∈ keys G by rw [hGe]; simp [keys_append, hb]), (h2.rd (fun b o hb => hG b o (by rw [hGe]; simp [hb]))).mono (fun b (hb : b ∈ keys G2) => show b ∈ keys G by rw [hGe]; simp [keys_append, hb]), (h3.rd (fun b o hb => hG b o (by rw [hGe]; simp [hb]))).mono (fun b (hb : b ∈ keys G3) => show b ∈ keys G by rw [hGe]; simp [keys_append, hb])⟩


def sd_step.l1 : Nat → ShK → ShR → List Asked → List Asked → BookS → Int → List (List KeyS) → List (List KeyS) → Option (Bool × BookS × ShK × ShR × (List Asked) × (List Asked))
  | 0, _, _, _, _, _, _, _, _ => none
  | k214 + 1, a0_0, a0_1, a0_2, a0_3, a2, x201, l204, l209 => (if x201 < 2 then (Option.bind (sk_Keys k214 a0_0) fun t220 => (Option.bind (rk_Keys k214 a0_1) fun t231 => (Option.bind (sh_keys k214 (t220) (t231)) fun t242 => (if t242 = true then (Option.bind (cat l204 ([(t220)] : List (List KeyS))) fun l254 => (Option.bind (cat l209 ([(t231)] : List (List KeyS))) fun l275 => (sd_step.l1 k214 a0_0 a0_1 a0_2 a0_3 a2 (w64 (x201 + 1)) l254 l275))) else (some (false, (⟨l204, l209, a2.all, a2.lists⟩ : BookS), a0_0, a0_1, a0_2, a0_3)))))) else (some (true, (⟨l204, l209, a2.all, a2.lists⟩ : BookS), a0_0, a0_1, a0_2, a0_3)))
def sd_step (k : Nat) (a0_0 : ShK) (a0_1 : ShR) (a0_2 : List Asked) (a0_3 : List Asked) (a1 : OpS) (a2 : BookS) : Option (Bool × BookS × ShK × ShR × (List Asked) × (List Asked)) := (if a1.Kind = 1 then (Option.bind (sk_Put k a0_0 a1.K a1.V) fun t56 => (Option.bind (rk_Put k a0_1 a1.K a1.V) fun t78 => (some (decide (t56.1 = t78.1), a2, t56.2, t78.2, a0_2, a0_3)))) else (if a1.Kind = 2 then (Option.bind (sk_Get k a0_0 a1.K) fun t108 => (Option.bind (rk_Get k a0_1 a1.K) fun t117 => (if t108.1 = t117.1 then (some ((t108.2 == t117.2), a2, a0_0, a0_1, a0_2, a0_3)) else (some (false, a2, a0_0, a0_1, a0_2, a0_3))))) else (if a1.Kind = 3 then (Option.bind (sk_Drop k a0_0 a1.K) fun t151 => (Option.bind (rk_Drop k a0_1 a1.K) fun t173 => (some (decide (t151.1 = t173.1), a2, t151.2, t173.2, a0_2, a0_3)))) else (if a1.Kind = 4 then (sd_step.l1 k a0_0 a0_1 a0_2 a0_3 a2 0 a2.free a2.want) else (if a1.Kind = 5 then (Option.bind (sd_prunes k a0_0 a0_1 a0_2 a0_3 a1) fun t319 => (some (t319.1, a2, t319.2.1, t319.2.2.1, (t319.2.2.2.1), (t319.2.2.2.2)))) else (some (true, a2, a0_0, a0_1, a0_2, a0_3)))))))
set_option maxRecDepth 100000 in
set_option maxHeartbeats 1000000 in
theorem sd_step_calls (k : Nat) {p0 : Nat} (a0_0 : ShK) {p0_0 : Nat} {G0_0 : Grp} (a0_1 : ShR) {p0_1 : Nat} {G0_1 : Grp} (a0_2 : List Asked) {A0_2 : Option Addr} {c0_2 : Nat} {G0_2 : Grp} (a0_3 : List Asked) {A0_3 : Option Addr} {c0_3 : Nat} {G0_3 : Grp} (a1 : OpS) (a2 : BookS) {p2 : Nat} {G2 : Grp} {w : World} (hO0_0 : ObjO 169 ShK.rp p0_0 a0_0 G0_0) (hO0_1 : ObjO 172 ShR.rp p0_1 a0_1 G0_1) (hO0_2 : SlO 212 Asked.rp (.slice A0_2 a0_2.length c0_2) a0_2 G0_2) (hO0_3 : SlO 212 Asked.rp (.slice A0_3 a0_3.length c0_3) a0_3 G0_3) (hO2 : ObjO 114 BookS.rp p2 a2 G2) {r_ : Bool × BookS × ShK × ShR × (List Asked) × (List Asked)} (h_ : sd_step k a0_0 a0_1 a0_2 a0_3 a1 a2 = some r_) (hp_ : Hp w ([[(p0, .cells #[.pointer (some ⟨p0_0, 0, none⟩), .pointer (some ⟨p0_1, 0, none⟩), .slice A0_2 a0_2.length c0_2, .slice A0_3 a0_3.length c0_3] 110 (0, 0))], G0_0, G0_1, G0_2, G0_3, G2]).flatten) :
    Calls Try.prog 55 [.pointer (some ⟨p0, 0, none⟩), .agg #[.int .i64 a1.Kind, .int .i64 a1.On, .string (bs a1.K.S), .int .i64 a1.K.N, .int .i64 a1.V, .int .i64 a1.N, .int .i64 a1.M], .pointer (some ⟨p2, 0, none⟩)].toArray w fun e w' => ∃ Go2' : Grp, ∃ Ge0_0' : Grp, ∃ Ge0_1' : Grp, ∃ Ae0_2' : Option Addr, ∃ ce0_2' : Nat, ∃ Ge0_2' : Grp, ∃ Ae0_3' : Option Addr, ∃ ce0_3' : Nat, ∃ Ge0_3' : Grp, e = .returned (.bool r_.1) ∧ ObjO 114 BookS.rp p2 (r_.2.1) Go2' ∧ ObjO 169 ShK.rp p0_0 (r_.2.2.1) Ge0_0' ∧ ObjO 172 ShR.rp p0_1 (r_.2.2.2.1) Ge0_1' ∧ SlO 212 Asked.rp (.slice Ae0_2' (r_.2.2.2.2.1).length ce0_2') (r_.2.2.2.2.1) Ge0_2' ∧ SlO 212 Asked.rp (.slice Ae0_3' (r_.2.2.2.2.2).length ce0_3') (r_.2.2.2.2.2) Ge0_3' ∧ St w (KS [[(p0, .cells #[.pointer (some ⟨p0_0, 0, none⟩), .pointer (some ⟨p0_1, 0, none⟩), .slice A0_2 a0_2.length c0_2, .slice A0_3 a0_3.length c0_3] 110 (0, 0))], G0_0, G0_1, G0_2, G0_3, G2]) w' [Go2', [(p0, .cells #[.pointer (some ⟨p0_0, 0, none⟩), .pointer (some ⟨p0_1, 0, none⟩), .slice Ae0_2' (r_.2.2.2.2.1).length ce0_2', .slice Ae0_3' (r_.2.2.2.2.2).length ce0_3'] 110 (0, 0))], Ge0_0', Ge0_1', Ge0_2', Ge0_3'] := by
 have hF := h_
 clear h_
 unfold sd_step at hF
 have S := St.initK [[(p0, .cells #[.pointer (some ⟨p0_0, 0, none⟩), .pointer (some ⟨p0_1, 0, none⟩), .slice A0_2 a0_2.length c0_2, .slice A0_3 a0_3.length c0_3] 110 (0, 0))], G0_0, G0_1, G0_2, G0_3, G2] hp_
 have S3 := S.front 1 rfl
 change St _ _ _ [G0_0, [(p0, .cells #[.pointer (some ⟨p0_0, 0, none⟩), .pointer (some ⟨p0_1, 0, none⟩), .slice A0_2 a0_2.length c0_2, .slice A0_3 a0_3.length c0_3] 110 (0, 0))], G0_1, G0_2, G0_3, G2] at S3
 obtain ⟨cs4, G5, ho6, hg7⟩ := hO0_0
 obtain ⟨A8, c9, G10, rfl, hO11, hq12⟩ := ho6
 have S13 : St _ _ _ [[(p0_0, .cells #[.int .i64 a0_0.most, .slice A8 a0_0.pairs.length c9] 169 (0, 0))], G10, [(p0, .cells #[.pointer (some ⟨p0_0, 0, none⟩), .pointer (some ⟨p0_1, 0, none⟩), .slice A0_2 a0_2.length c0_2, .slice A0_3 a0_3.length c0_3] 110 (0, 0))], G0_1, G0_2, G0_3, G2] := S3.objs (by rw [hg7, hq12]; simp)
 have S14 := S13.front 3 rfl
 change St _ _ _ [G0_1, [(p0_0, .cells #[.int .i64 a0_0.most, .slice A8 a0_0.pairs.length c9] 169 (0, 0))], G10, [(p0, .cells #[.pointer (some ⟨p0_0, 0, none⟩), .pointer (some ⟨p0_1, 0, none⟩), .slice A0_2 a0_2.length c0_2, .slice A0_3 a0_3.length c0_3] 110 (0, 0))], G0_2, G0_3, G2] at S14
 obtain ⟨cs15, G16, ho17, hg18⟩ := hO0_1
 obtain ⟨A19, c20, G21, rfl, hO22, hq23⟩ := ho17
 have S24 : St _ _ _ [[(p0_1, .cells #[.int .i64 a0_1.Most, .slice A19 a0_1.L.length c20] 172 (0, 0))], G21, [(p0_0, .cells #[.int .i64 a0_0.most, .slice A8 a0_0.pairs.length c9] 169 (0, 0))], G10, [(p0, .cells #[.pointer (some ⟨p0_0, 0, none⟩), .pointer (some ⟨p0_1, 0, none⟩), .slice A0_2 a0_2.length c0_2, .slice A0_3 a0_3.length c0_3] 110 (0, 0))], G0_2, G0_3, G2] := S14.objs (by rw [hg18, hq23]; simp)
 have S25 := S24.front 7 rfl
 change St _ _ _ [G2, [(p0_1, .cells #[.int .i64 a0_1.Most, .slice A19 a0_1.L.length c20] 172 (0, 0))], G21, [(p0_0, .cells #[.int .i64 a0_0.most, .slice A8 a0_0.pairs.length c9] 169 (0, 0))], G10, [(p0, .cells #[.pointer (some ⟨p0_0, 0, none⟩), .pointer (some ⟨p0_1, 0, none⟩), .slice A0_2 a0_2.length c0_2, .slice A0_3 a0_3.length c0_3] 110 (0, 0))], G0_2, G0_3] at S25
 obtain ⟨cs26, G27, ho28, hg29⟩ := hO2
 obtain ⟨A30, c31, G32, A34, c35, G36, A38, c39, G40, rfl, hO33, hO37, hO41, hq42⟩ := ho28
 have S43 : St _ _ _ [[(p2, .cells #[.slice A30 a2.free.length c31, .slice A34 a2.want.length c35, .slice A38 a2.all.length c39, .int .i64 a2.lists] 114 (0, 0))], G32, G36, G40, [(p0_1, .cells #[.int .i64 a0_1.Most, .slice A19 a0_1.L.length c20] 172 (0, 0))], G21, [(p0_0, .cells #[.int .i64 a0_0.most, .slice A8 a0_0.pairs.length c9] 169 (0, 0))], G10, [(p0, .cells #[.pointer (some ⟨p0_0, 0, none⟩), .pointer (some ⟨p0_1, 0, none⟩), .slice A0_2 a0_2.length c0_2, .slice A0_3 a0_3.length c0_3] 110 (0, 0))], G0_2, G0_3] := S25.objs (by rw [hg29, hq42]; simp)
 refine enter 135 [(0, .pointer (some ⟨p0, 0, none⟩)), (1, .agg #[.int .i64 a1.Kind, .int .i64 a1.On, .string (bs a1.K.S), .int .i64 a1.K.N, .int .i64 a1.V, .int .i64 a1.N, .int .i64 a1.M]), (2, .pointer (some ⟨p2, 0, none⟩))] Try.func55 rfl rfl rfl rfl ?_
 refine WCode.seq ?_
 refine WCode.region ?_
 obtain ⟨b44, w45, E46, S47, X48, L49⟩ := St.box S43 Try.prog 116 (.agg #[.int .i64 a1.Kind, .int .i64 a1.On, .string (bs a1.K.S), .int .i64 a1.K.N, .int .i64 a1.V, .int .i64 a1.N, .int .i64 a1.M])
 change St _ _ _ [[(b44, .cells #[.int .i64 a1.Kind, .int .i64 a1.On, .string (bs a1.K.S), .int .i64 a1.K.N, .int .i64 a1.V, .int .i64 a1.N, .int .i64 a1.M] 116 (0, 0))], [(p2, .cells #[.slice A30 a2.free.length c31, .slice A34 a2.want.length c35, .slice A38 a2.all.length c39, .int .i64 a2.lists] 114 (0, 0))], G32, G36, G40, [(p0_1, .cells #[.int .i64 a0_1.Most, .slice A19 a0_1.L.length c20] 172 (0, 0))], G21, [(p0_0, .cells #[.int .i64 a0_0.most, .slice A8 a0_0.pairs.length c9] 169 (0, 0))], G10, [(p0, .cells #[.pointer (some ⟨p0_0, 0, none⟩), .pointer (some ⟨p0_1, 0, none⟩), .slice A0_2 a0_2.length c0_2, .slice A0_3 a0_3.length c0_3] 110 (0, 0))], G0_2, G0_3] at S47
 refine WOps.e (E46 rfl) rfl ?_
 refine WOps.p (G.assign rfl) rfl ?_
 refine WOps.nil ?_
 refine WEx.then_ ?_
 refine WCode.seq ?_
 refine WCode.seq ?_
 refine WCode.region ?_
 refine WOps.p (G.field T.fld116_0 rfl (show 0 + 0 = 0 from rfl)) rfl ?_
 refine WOps.r (G.load1 T.one3 rfl (cell_blk (S47.blk 0 rfl) rfl)) rfl ?_
 refine WOps.nil ?_
 refine WEx.then_ ?_
 refine WCode.block ?_
 refine WCode.seq ?_
 refine WCode.region ?_
 refine WOps.p (G.eql rfl rfl rfl) rfl ?_
 refine WOps.p (G.assign rfl) rfl ?_
 refine WOps.nil ?_
 refine WEx.then_ ?_
 rcases ite_some hF with ⟨h50, hF⟩ | ⟨h50, hF⟩
 ·
  refine WCode.cond_t (kb (b := decide (a1.Kind = 1)) rfl (decide_eq_true h50)) ?_
  refine WCode.seq ?_
  refine WCode.draw [⟨0, 0, []⟩, ⟨1, 0, []⟩, ⟨2, 0, []⟩, ⟨4, 0, []⟩, ⟨6, 0, []⟩, ⟨3, 1, [8, 9]⟩, ⟨5, 1, [8, 9]⟩, ⟨7, 1, [8, 9]⟩, ⟨8, 2, []⟩, ⟨9, 0, []⟩] T.mixed (by kernel_rfl) (by intro _ _ d _ _ h; cases d <;> exact h) rfl (by kernel_rfl) ?_
  have S51 := S47.drew
  generalize w45.drew = w52 at *
  refine WD.p rfl (G.move rfl) rfl ?_
  refine WD.p rfl (G.nilp rfl) rfl ?_
  refine WD.p rfl (G.field T.fld110_0 rfl (show 0 + 0 = 0 from rfl)) rfl ?_
  refine WD.p rfl (G.field T.fld116_2 rfl (show 0 + 2 = 2 from rfl)) rfl ?_
  refine WD.p rfl (G.field T.fld116_3 rfl (show 0 + 4 = 4 from rfl)) rfl ?_
  refine WD.r rfl (G.load1 T.one99 rfl (cell_blk (S51.blk 9 rfl) rfl)) rfl ?_
  refine WD.r rfl (G.loada T.agg103_2 rfl (cs := [.string (bs a1.K.S), .int .i64 a1.K.N]) (cellsAt.of_blk (S51.blk 0 rfl) rfl)) rfl ?_
  refine WD.r rfl (G.load1 T.one3 rfl (cell_blk (S51.blk 0 rfl) rfl)) rfl ?_
  have S53 := (S51.front 8 rfl).front 8 rfl
  change St _ _ _ [[(p0_0, .cells #[.int .i64 a0_0.most, .slice A8 a0_0.pairs.length c9] 169 (0, 0))], G10, [(b44, .cells #[.int .i64 a1.Kind, .int .i64 a1.On, .string (bs a1.K.S), .int .i64 a1.K.N, .int .i64 a1.V, .int .i64 a1.N, .int .i64 a1.M] 116 (0, 0))], [(p2, .cells #[.slice A30 a2.free.length c31, .slice A34 a2.want.length c35, .slice A38 a2.all.length c39, .int .i64 a2.lists] 114 (0, 0))], G32, G36, G40, [(p0_1, .cells #[.int .i64 a0_1.Most, .slice A19 a0_1.L.length c20] 172 (0, 0))], G21, [(p0, .cells #[.pointer (some ⟨p0_0, 0, none⟩), .pointer (some ⟨p0_1, 0, none⟩), .slice A0_2 a0_2.length c0_2, .slice A0_3 a0_3.length c0_3] 110 (0, 0))], G0_2, G0_3] at S53
  have hO54 : ObjO 169 ShK.rp p0_0 a0_0 ([(p0_0, .cells #[.int .i64 a0_0.most, .slice A8 a0_0.pairs.length c9] 169 (0, 0))] ++ (G10)) := ⟨_, _, ⟨A8, c9, G10, rfl, hO11, rfl⟩, rfl⟩
  have S55 : St _ _ _ [[(p0_0, .cells #[.int .i64 a0_0.most, .slice A8 a0_0.pairs.length c9] 169 (0, 0))] ++ (G10), [(b44, .cells #[.int .i64 a1.Kind, .int .i64 a1.On, .string (bs a1.K.S), .int .i64 a1.K.N, .int .i64 a1.V, .int .i64 a1.N, .int .i64 a1.M] 116 (0, 0))], [(p2, .cells #[.slice A30 a2.free.length c31, .slice A34 a2.want.length c35, .slice A38 a2.all.length c39, .int .i64 a2.lists] 114 (0, 0))], G32, G36, G40, [(p0_1, .cells #[.int .i64 a0_1.Most, .slice A19 a0_1.L.length c20] 172 (0, 0))], G21, [(p0, .cells #[.pointer (some ⟨p0_0, 0, none⟩), .pointer (some ⟨p0_1, 0, none⟩), .slice A0_2 a0_2.length c0_2, .slice A0_3 a0_3.length c0_3] 110 (0, 0))], G0_2, G0_3] := S53.objs (by simp)
  obtain ⟨t56, hc57, hF⟩ := bind_some hF
  refine WD.call rfl T.call90 (evs_cons rfl (evs_cons rfl (evs_cons rfl evs_nil))) rfl ?_
  refine (sk_Put_calls k a0_0 a1.K a1.V hO54 hc57 (St.hpN (As := [[(p0_0, .cells #[.int .i64 a0_0.most, .slice A8 a0_0.pairs.length c9] 169 (0, 0))] ++ (G10)]) S55)).mono ?_
  rintro _ w58 ⟨G61, rfl, hO62, T59⟩
  have S60 := St.callN (As := [[(p0_0, .cells #[.int .i64 a0_0.most, .slice A8 a0_0.pairs.length c9] 169 (0, 0))] ++ (G10)]) S55 T59
  change St _ _ _ [G61, [(b44, .cells #[.int .i64 a1.Kind, .int .i64 a1.On, .string (bs a1.K.S), .int .i64 a1.K.N, .int .i64 a1.V, .int .i64 a1.N, .int .i64 a1.M] 116 (0, 0))], [(p2, .cells #[.slice A30 a2.free.length c31, .slice A34 a2.want.length c35, .slice A38 a2.all.length c39, .int .i64 a2.lists] 114 (0, 0))], G32, G36, G40, [(p0_1, .cells #[.int .i64 a0_1.Most, .slice A19 a0_1.L.length c20] 172 (0, 0))], G21, [(p0, .cells #[.pointer (some ⟨p0_0, 0, none⟩), .pointer (some ⟨p0_1, 0, none⟩), .slice A0_2 a0_2.length c0_2, .slice A0_3 a0_3.length c0_3] 110 (0, 0))], G0_2, G0_3] at S60
  refine ⟨_, rfl, ?_⟩
  obtain ⟨cs63, G64, ho65, hg66⟩ := hO62
  obtain ⟨A67, c68, G69, rfl, hO70, hq71⟩ := ho65
  have S72 : St _ _ _ [[(p0_0, .cells #[.int .i64 t56.2.most, .slice A67 t56.2.pairs.length c68] 169 (0, 0))], G69, [(b44, .cells #[.int .i64 a1.Kind, .int .i64 a1.On, .string (bs a1.K.S), .int .i64 a1.K.N, .int .i64 a1.V, .int .i64 a1.N, .int .i64 a1.M] 116 (0, 0))], [(p2, .cells #[.slice A30 a2.free.length c31, .slice A34 a2.want.length c35, .slice A38 a2.all.length c39, .int .i64 a2.lists] 114 (0, 0))], G32, G36, G40, [(p0_1, .cells #[.int .i64 a0_1.Most, .slice A19 a0_1.L.length c20] 172 (0, 0))], G21, [(p0, .cells #[.pointer (some ⟨p0_0, 0, none⟩), .pointer (some ⟨p0_1, 0, none⟩), .slice A0_2 a0_2.length c0_2, .slice A0_3 a0_3.length c0_3] 110 (0, 0))], G0_2, G0_3] := S60.objs (by rw [hg66, hq71]; simp)
  refine WD.p rfl (G.assign rfl) rfl ?_
  refine WD.nil ?_
  refine WEx.then_ ?_
  refine WCode.forget (l' := [(0, .pointer (some ⟨p0, 0, none⟩)), (4, .pointer (some ⟨b44, 0, none⟩)), (7, .int .i64 t56.1)]) ⟨rfl, rfl, rfl, trivial⟩ ?_
  refine WCode.seq ?_
  refine WCode.draw [⟨0, 0, []⟩, ⟨1, 0, []⟩, ⟨2, 0, []⟩, ⟨3, 0, []⟩, ⟨5, 0, []⟩, ⟨7, 0, []⟩, ⟨4, 1, [9, 10, 11]⟩, ⟨6, 1, [9, 10, 11]⟩, ⟨8, 1, [9, 10, 11]⟩, ⟨9, 2, []⟩, ⟨10, 0, []⟩, ⟨11, 0, []⟩] T.mixed (by kernel_rfl) (by intro _ _ d _ _ h; cases d <;> exact h) rfl (by kernel_rfl) ?_
  have S73 := S72.drew
  generalize w58.drew = w74 at *
  refine WD.p rfl (G.move rfl) rfl ?_
  refine WD.p rfl (G.move rfl) rfl ?_
  refine WD.p rfl (G.nilp rfl) rfl ?_
  refine WD.p rfl (G.field T.fld110_1 rfl (show 0 + 1 = 1 from rfl)) rfl ?_
  refine WD.p rfl (G.field T.fld116_2 rfl (show 0 + 2 = 2 from rfl)) rfl ?_
  refine WD.p rfl (G.field T.fld116_3 rfl (show 0 + 4 = 4 from rfl)) rfl ?_
  refine WD.r rfl (G.load1 T.one104 rfl (cell_blk (S73.blk 9 rfl) rfl)) rfl ?_
  refine WD.r rfl (G.loada T.agg103_2 rfl (cs := [.string (bs a1.K.S), .int .i64 a1.K.N]) (cellsAt.of_blk (S73.blk 2 rfl) rfl)) rfl ?_
  refine WD.r rfl (G.load1 T.one3 rfl (cell_blk (S73.blk 2 rfl) rfl)) rfl ?_
  have S75 := (S73.front 8 rfl).front 8 rfl
  change St _ _ _ [[(p0_1, .cells #[.int .i64 a0_1.Most, .slice A19 a0_1.L.length c20] 172 (0, 0))], G21, [(p0_0, .cells #[.int .i64 t56.2.most, .slice A67 t56.2.pairs.length c68] 169 (0, 0))], G69, [(b44, .cells #[.int .i64 a1.Kind, .int .i64 a1.On, .string (bs a1.K.S), .int .i64 a1.K.N, .int .i64 a1.V, .int .i64 a1.N, .int .i64 a1.M] 116 (0, 0))], [(p2, .cells #[.slice A30 a2.free.length c31, .slice A34 a2.want.length c35, .slice A38 a2.all.length c39, .int .i64 a2.lists] 114 (0, 0))], G32, G36, G40, [(p0, .cells #[.pointer (some ⟨p0_0, 0, none⟩), .pointer (some ⟨p0_1, 0, none⟩), .slice A0_2 a0_2.length c0_2, .slice A0_3 a0_3.length c0_3] 110 (0, 0))], G0_2, G0_3] at S75
  have hO76 : ObjO 172 ShR.rp p0_1 a0_1 ([(p0_1, .cells #[.int .i64 a0_1.Most, .slice A19 a0_1.L.length c20] 172 (0, 0))] ++ (G21)) := ⟨_, _, ⟨A19, c20, G21, rfl, hO22, rfl⟩, rfl⟩
  have S77 : St _ _ _ [[(p0_1, .cells #[.int .i64 a0_1.Most, .slice A19 a0_1.L.length c20] 172 (0, 0))] ++ (G21), [(p0_0, .cells #[.int .i64 t56.2.most, .slice A67 t56.2.pairs.length c68] 169 (0, 0))], G69, [(b44, .cells #[.int .i64 a1.Kind, .int .i64 a1.On, .string (bs a1.K.S), .int .i64 a1.K.N, .int .i64 a1.V, .int .i64 a1.N, .int .i64 a1.M] 116 (0, 0))], [(p2, .cells #[.slice A30 a2.free.length c31, .slice A34 a2.want.length c35, .slice A38 a2.all.length c39, .int .i64 a2.lists] 114 (0, 0))], G32, G36, G40, [(p0, .cells #[.pointer (some ⟨p0_0, 0, none⟩), .pointer (some ⟨p0_1, 0, none⟩), .slice A0_2 a0_2.length c0_2, .slice A0_3 a0_3.length c0_3] 110 (0, 0))], G0_2, G0_3] := S75.objs (by simp)
  obtain ⟨t78, hc79, hF⟩ := bind_some hF
  refine WD.call rfl T.call91 (evs_cons rfl (evs_cons rfl (evs_cons rfl evs_nil))) rfl ?_
  refine (rk_Put_calls k a0_1 a1.K a1.V hO76 hc79 (St.hpN (As := [[(p0_1, .cells #[.int .i64 a0_1.Most, .slice A19 a0_1.L.length c20] 172 (0, 0))] ++ (G21)]) S77)).mono ?_
  rintro _ w80 ⟨G83, rfl, hO84, T81⟩
  have S82 := St.callN (As := [[(p0_1, .cells #[.int .i64 a0_1.Most, .slice A19 a0_1.L.length c20] 172 (0, 0))] ++ (G21)]) S77 T81
  change St _ _ _ [G83, [(p0_0, .cells #[.int .i64 t56.2.most, .slice A67 t56.2.pairs.length c68] 169 (0, 0))], G69, [(b44, .cells #[.int .i64 a1.Kind, .int .i64 a1.On, .string (bs a1.K.S), .int .i64 a1.K.N, .int .i64 a1.V, .int .i64 a1.N, .int .i64 a1.M] 116 (0, 0))], [(p2, .cells #[.slice A30 a2.free.length c31, .slice A34 a2.want.length c35, .slice A38 a2.all.length c39, .int .i64 a2.lists] 114 (0, 0))], G32, G36, G40, [(p0, .cells #[.pointer (some ⟨p0_0, 0, none⟩), .pointer (some ⟨p0_1, 0, none⟩), .slice A0_2 a0_2.length c0_2, .slice A0_3 a0_3.length c0_3] 110 (0, 0))], G0_2, G0_3] at S82
  refine ⟨_, rfl, ?_⟩
  obtain ⟨cs85, G86, ho87, hg88⟩ := hO84
  obtain ⟨A89, c90, G91, rfl, hO92, hq93⟩ := ho87
  have S94 : St _ _ _ [[(p0_1, .cells #[.int .i64 t78.2.Most, .slice A89 t78.2.L.length c90] 172 (0, 0))], G91, [(p0_0, .cells #[.int .i64 t56.2.most, .slice A67 t56.2.pairs.length c68] 169 (0, 0))], G69, [(b44, .cells #[.int .i64 a1.Kind, .int .i64 a1.On, .string (bs a1.K.S), .int .i64 a1.K.N, .int .i64 a1.V, .int .i64 a1.N, .int .i64 a1.M] 116 (0, 0))], [(p2, .cells #[.slice A30 a2.free.length c31, .slice A34 a2.want.length c35, .slice A38 a2.all.length c39, .int .i64 a2.lists] 114 (0, 0))], G32, G36, G40, [(p0, .cells #[.pointer (some ⟨p0_0, 0, none⟩), .pointer (some ⟨p0_1, 0, none⟩), .slice A0_2 a0_2.length c0_2, .slice A0_3 a0_3.length c0_3] 110 (0, 0))], G0_2, G0_3] := S82.objs (by rw [hg88, hq93]; simp)
  refine WD.p rfl (G.eql rfl rfl rfl) rfl ?_
  refine WD.p rfl (G.assign rfl) rfl ?_
  refine WD.nil ?_
  refine WEx.then_ ?_
  refine WCode.forget (l' := [(6, .bool (decide (t56.1 = t78.1)))]) ⟨rfl, trivial⟩ ?_
  refine WCode.ret ?_
  refine WEx.in_ret ?_
  refine WEx.then_ret ?_
  obtain rfl := some_eq hF
  refine WEx.ret1 rfl rfl ?_
  have S95 : St _ _ _ [[(p2, .cells #[.slice A30 a2.free.length c31, .slice A34 a2.want.length c35, .slice A38 a2.all.length c39, .int .i64 a2.lists] 114 (0, 0))], G32, G36, G40, [(p0_1, .cells #[.int .i64 t78.2.Most, .slice A89 t78.2.L.length c90] 172 (0, 0))], G91, [(p0_0, .cells #[.int .i64 t56.2.most, .slice A67 t56.2.pairs.length c68] 169 (0, 0))], G69, [(b44, .cells #[.int .i64 a1.Kind, .int .i64 a1.On, .string (bs a1.K.S), .int .i64 a1.K.N, .int .i64 a1.V, .int .i64 a1.N, .int .i64 a1.M] 116 (0, 0))], [(p0, .cells #[.pointer (some ⟨p0_0, 0, none⟩), .pointer (some ⟨p0_1, 0, none⟩), .slice A0_2 a0_2.length c0_2, .slice A0_3 a0_3.length c0_3] 110 (0, 0))], G0_2, G0_3] := St.reord S94 [5, 6, 7, 8, 0, 1, 2, 3, 4, 9, 10, 11] 12 rfl (by decide) rfl
  have hO96 : ObjO 114 BookS.rp p2 a2 ([(p2, .cells #[.slice A30 a2.free.length c31, .slice A34 a2.want.length c35, .slice A38 a2.all.length c39, .int .i64 a2.lists] 114 (0, 0))] ++ (G32 ++ (G36 ++ (G40)))) := ⟨_, _, ⟨A30, c31, G32, A34, c35, G36, A38, c39, G40, rfl, hO33, hO37, hO41, rfl⟩, rfl⟩
  have S97 : St _ _ _ [[(p2, .cells #[.slice A30 a2.free.length c31, .slice A34 a2.want.length c35, .slice A38 a2.all.length c39, .int .i64 a2.lists] 114 (0, 0))] ++ (G32 ++ (G36 ++ (G40))), [(p0_1, .cells #[.int .i64 t78.2.Most, .slice A89 t78.2.L.length c90] 172 (0, 0))], G91, [(p0_0, .cells #[.int .i64 t56.2.most, .slice A67 t56.2.pairs.length c68] 169 (0, 0))], G69, [(b44, .cells #[.int .i64 a1.Kind, .int .i64 a1.On, .string (bs a1.K.S), .int .i64 a1.K.N, .int .i64 a1.V, .int .i64 a1.N, .int .i64 a1.M] 116 (0, 0))], [(p0, .cells #[.pointer (some ⟨p0_0, 0, none⟩), .pointer (some ⟨p0_1, 0, none⟩), .slice A0_2 a0_2.length c0_2, .slice A0_3 a0_3.length c0_3] 110 (0, 0))], G0_2, G0_3] := S95.objs (by simp)
  have S98 := (S97.front 4 rfl).front 4 rfl
  change St _ _ _ [[(p0_0, .cells #[.int .i64 t56.2.most, .slice A67 t56.2.pairs.length c68] 169 (0, 0))], G69, [(p2, .cells #[.slice A30 a2.free.length c31, .slice A34 a2.want.length c35, .slice A38 a2.all.length c39, .int .i64 a2.lists] 114 (0, 0))] ++ (G32 ++ (G36 ++ (G40))), [(p0_1, .cells #[.int .i64 t78.2.Most, .slice A89 t78.2.L.length c90] 172 (0, 0))], G91, [(b44, .cells #[.int .i64 a1.Kind, .int .i64 a1.On, .string (bs a1.K.S), .int .i64 a1.K.N, .int .i64 a1.V, .int .i64 a1.N, .int .i64 a1.M] 116 (0, 0))], [(p0, .cells #[.pointer (some ⟨p0_0, 0, none⟩), .pointer (some ⟨p0_1, 0, none⟩), .slice A0_2 a0_2.length c0_2, .slice A0_3 a0_3.length c0_3] 110 (0, 0))], G0_2, G0_3] at S98
  have hO99 : ObjO 169 ShK.rp p0_0 t56.2 ([(p0_0, .cells #[.int .i64 t56.2.most, .slice A67 t56.2.pairs.length c68] 169 (0, 0))] ++ (G69)) := ⟨_, _, ⟨A67, c68, G69, rfl, hO70, rfl⟩, rfl⟩
  have S100 : St _ _ _ [[(p0_0, .cells #[.int .i64 t56.2.most, .slice A67 t56.2.pairs.length c68] 169 (0, 0))] ++ (G69), [(p2, .cells #[.slice A30 a2.free.length c31, .slice A34 a2.want.length c35, .slice A38 a2.all.length c39, .int .i64 a2.lists] 114 (0, 0))] ++ (G32 ++ (G36 ++ (G40))), [(p0_1, .cells #[.int .i64 t78.2.Most, .slice A89 t78.2.L.length c90] 172 (0, 0))], G91, [(b44, .cells #[.int .i64 a1.Kind, .int .i64 a1.On, .string (bs a1.K.S), .int .i64 a1.K.N, .int .i64 a1.V, .int .i64 a1.N, .int .i64 a1.M] 116 (0, 0))], [(p0, .cells #[.pointer (some ⟨p0_0, 0, none⟩), .pointer (some ⟨p0_1, 0, none⟩), .slice A0_2 a0_2.length c0_2, .slice A0_3 a0_3.length c0_3] 110 (0, 0))], G0_2, G0_3] := S98.objs (by simp)
  have S101 := (S100.front 3 rfl).front 3 rfl
  change St _ _ _ [[(p0_1, .cells #[.int .i64 t78.2.Most, .slice A89 t78.2.L.length c90] 172 (0, 0))], G91, [(p0_0, .cells #[.int .i64 t56.2.most, .slice A67 t56.2.pairs.length c68] 169 (0, 0))] ++ (G69), [(p2, .cells #[.slice A30 a2.free.length c31, .slice A34 a2.want.length c35, .slice A38 a2.all.length c39, .int .i64 a2.lists] 114 (0, 0))] ++ (G32 ++ (G36 ++ (G40))), [(b44, .cells #[.int .i64 a1.Kind, .int .i64 a1.On, .string (bs a1.K.S), .int .i64 a1.K.N, .int .i64 a1.V, .int .i64 a1.N, .int .i64 a1.M] 116 (0, 0))], [(p0, .cells #[.pointer (some ⟨p0_0, 0, none⟩), .pointer (some ⟨p0_1, 0, none⟩), .slice A0_2 a0_2.length c0_2, .slice A0_3 a0_3.length c0_3] 110 (0, 0))], G0_2, G0_3] at S101
  have hO102 : ObjO 172 ShR.rp p0_1 t78.2 ([(p0_1, .cells #[.int .i64 t78.2.Most, .slice A89 t78.2.L.length c90] 172 (0, 0))] ++ (G91)) := ⟨_, _, ⟨A89, c90, G91, rfl, hO92, rfl⟩, rfl⟩
  have S103 : St _ _ _ [[(p0_1, .cells #[.int .i64 t78.2.Most, .slice A89 t78.2.L.length c90] 172 (0, 0))] ++ (G91), [(p0_0, .cells #[.int .i64 t56.2.most, .slice A67 t56.2.pairs.length c68] 169 (0, 0))] ++ (G69), [(p2, .cells #[.slice A30 a2.free.length c31, .slice A34 a2.want.length c35, .slice A38 a2.all.length c39, .int .i64 a2.lists] 114 (0, 0))] ++ (G32 ++ (G36 ++ (G40))), [(b44, .cells #[.int .i64 a1.Kind, .int .i64 a1.On, .string (bs a1.K.S), .int .i64 a1.K.N, .int .i64 a1.V, .int .i64 a1.N, .int .i64 a1.M] 116 (0, 0))], [(p0, .cells #[.pointer (some ⟨p0_0, 0, none⟩), .pointer (some ⟨p0_1, 0, none⟩), .slice A0_2 a0_2.length c0_2, .slice A0_3 a0_3.length c0_3] 110 (0, 0))], G0_2, G0_3] := S101.objs (by simp)
  have S104 : St _ _ _ [[(p2, .cells #[.slice A30 a2.free.length c31, .slice A34 a2.want.length c35, .slice A38 a2.all.length c39, .int .i64 a2.lists] 114 (0, 0))] ++ (G32 ++ (G36 ++ (G40))), [(p0, .cells #[.pointer (some ⟨p0_0, 0, none⟩), .pointer (some ⟨p0_1, 0, none⟩), .slice A0_2 a0_2.length c0_2, .slice A0_3 a0_3.length c0_3] 110 (0, 0))], [(p0_0, .cells #[.int .i64 t56.2.most, .slice A67 t56.2.pairs.length c68] 169 (0, 0))] ++ (G69), [(p0_1, .cells #[.int .i64 t78.2.Most, .slice A89 t78.2.L.length c90] 172 (0, 0))] ++ (G91), G0_2, G0_3, [(b44, .cells #[.int .i64 a1.Kind, .int .i64 a1.On, .string (bs a1.K.S), .int .i64 a1.K.N, .int .i64 a1.V, .int .i64 a1.N, .int .i64 a1.M] 116 (0, 0))]] := St.reord S103 [2, 4, 1, 0, 5, 6, 3] 7 rfl (by decide) rfl
  exact ⟨[(p2, .cells #[.slice A30 a2.free.length c31, .slice A34 a2.want.length c35, .slice A38 a2.all.length c39, .int .i64 a2.lists] 114 (0, 0))] ++ (G32 ++ (G36 ++ (G40))), [(p0_0, .cells #[.int .i64 t56.2.most, .slice A67 t56.2.pairs.length c68] 169 (0, 0))] ++ (G69), [(p0_1, .cells #[.int .i64 t78.2.Most, .slice A89 t78.2.L.length c90] 172 (0, 0))] ++ (G91), A0_2, c0_2, G0_2, A0_3, c0_3, G0_3, rfl, hO96, hO99, hO102, hO0_2, hO0_3, St.keep (As := [[(p2, .cells #[.slice A30 a2.free.length c31, .slice A34 a2.want.length c35, .slice A38 a2.all.length c39, .int .i64 a2.lists] 114 (0, 0))] ++ (G32 ++ (G36 ++ (G40))), [(p0, .cells #[.pointer (some ⟨p0_0, 0, none⟩), .pointer (some ⟨p0_1, 0, none⟩), .slice A0_2 a0_2.length c0_2, .slice A0_3 a0_3.length c0_3] 110 (0, 0))], [(p0_0, .cells #[.int .i64 t56.2.most, .slice A67 t56.2.pairs.length c68] 169 (0, 0))] ++ (G69), [(p0_1, .cells #[.int .i64 t78.2.Most, .slice A89 t78.2.L.length c90] 172 (0, 0))] ++ (G91), G0_2, G0_3]) S104⟩
 ·
  refine WCode.cond_f (kb (b := decide (a1.Kind = 1)) rfl (decide_eq_false h50)) ?_
  refine WCode.seq ?_
  refine WCode.region ?_
  refine WOps.p (G.eql rfl rfl rfl) rfl ?_
  refine WOps.p (G.assign rfl) rfl ?_
  refine WOps.nil ?_
  refine WEx.then_ ?_
  rcases ite_some hF with ⟨h105, hF⟩ | ⟨h105, hF⟩
  ·
   refine WCode.cond_t (kb (b := decide (a1.Kind = 2)) rfl (decide_eq_true h105)) ?_
   refine WCode.seq ?_
   refine WCode.draw [⟨0, 0, []⟩, ⟨1, 0, []⟩, ⟨2, 0, []⟩, ⟨4, 0, []⟩, ⟨3, 1, [6, 7, 8, 9, 10, 11]⟩, ⟨5, 1, [6, 7, 8, 9, 10, 11]⟩, ⟨6, 2, []⟩, ⟨7, 0, []⟩, ⟨8, 0, []⟩, ⟨9, 0, []⟩, ⟨10, 0, []⟩, ⟨11, 0, []⟩] T.mixed (by kernel_rfl) (by intro _ _ d _ _ h; cases d <;> exact h) rfl (by kernel_rfl) ?_
   have S106 := S47.drew
   generalize w45.drew = w107 at *
   refine WD.p rfl (G.move rfl) rfl ?_
   refine WD.p rfl (G.nilp rfl) rfl ?_
   refine WD.p rfl (G.field T.fld110_0 rfl (show 0 + 0 = 0 from rfl)) rfl ?_
   refine WD.p rfl (G.field T.fld116_2 rfl (show 0 + 2 = 2 from rfl)) rfl ?_
   refine WD.r rfl (G.load1 T.one99 rfl (cell_blk (S106.blk 9 rfl) rfl)) rfl ?_
   refine WD.r rfl (G.loada T.agg103_2 rfl (cs := [.string (bs a1.K.S), .int .i64 a1.K.N]) (cellsAt.of_blk (S106.blk 0 rfl) rfl)) rfl ?_
   obtain ⟨t108, hc109, hF⟩ := bind_some hF
   have S110 := (S106.front 8 rfl).front 8 rfl
   change St _ _ _ [[(p0_0, .cells #[.int .i64 a0_0.most, .slice A8 a0_0.pairs.length c9] 169 (0, 0))], G10, [(b44, .cells #[.int .i64 a1.Kind, .int .i64 a1.On, .string (bs a1.K.S), .int .i64 a1.K.N, .int .i64 a1.V, .int .i64 a1.N, .int .i64 a1.M] 116 (0, 0))], [(p2, .cells #[.slice A30 a2.free.length c31, .slice A34 a2.want.length c35, .slice A38 a2.all.length c39, .int .i64 a2.lists] 114 (0, 0))], G32, G36, G40, [(p0_1, .cells #[.int .i64 a0_1.Most, .slice A19 a0_1.L.length c20] 172 (0, 0))], G21, [(p0, .cells #[.pointer (some ⟨p0_0, 0, none⟩), .pointer (some ⟨p0_1, 0, none⟩), .slice A0_2 a0_2.length c0_2, .slice A0_3 a0_3.length c0_3] 110 (0, 0))], G0_2, G0_3] at S110
   have hP111 : PtR 169 ShK.rp w107 (KS [[(p0_0, .cells #[.int .i64 a0_0.most, .slice A8 a0_0.pairs.length c9] 169 (0, 0))], G10]) p0_0 a0_0 := ⟨_, S110.blk 0 rfl, KS_at 0 rfl (by simp [keys]), ⟨A8, c9, rfl, ((hO11.rd (fun b o hb => S110.grp 1 rfl hb)).mono (fun b hb => KS_at 1 rfl hb))⟩⟩
   refine WD.call rfl T.call92 (evs_cons rfl (evs_cons rfl evs_nil)) rfl ?_
   refine (sk_Get_calls k a0_0 a1.K hP111 (St.outN (Bs := []) (As := [[(p0_0, .cells #[.int .i64 a0_0.most, .slice A8 a0_0.pairs.length c9] 169 (0, 0))], G10]) S110) hc109).mono ?_
   rintro _ w112 ⟨rfl, T113⟩
   have S114 := St.callN (As := []) S110 T113
   change St _ _ _ [[(p0_0, .cells #[.int .i64 a0_0.most, .slice A8 a0_0.pairs.length c9] 169 (0, 0))], G10, [(b44, .cells #[.int .i64 a1.Kind, .int .i64 a1.On, .string (bs a1.K.S), .int .i64 a1.K.N, .int .i64 a1.V, .int .i64 a1.N, .int .i64 a1.M] 116 (0, 0))], [(p2, .cells #[.slice A30 a2.free.length c31, .slice A34 a2.want.length c35, .slice A38 a2.all.length c39, .int .i64 a2.lists] 114 (0, 0))], G32, G36, G40, [(p0_1, .cells #[.int .i64 a0_1.Most, .slice A19 a0_1.L.length c20] 172 (0, 0))], G21, [(p0, .cells #[.pointer (some ⟨p0_0, 0, none⟩), .pointer (some ⟨p0_1, 0, none⟩), .slice A0_2 a0_2.length c0_2, .slice A0_3 a0_3.length c0_3] 110 (0, 0))], G0_2, G0_3] at S114
   refine ⟨_, rfl, ?_⟩
   refine WD.p rfl (G.move rfl) rfl ?_
   refine WD.p rfl (G.extract rfl rfl) rfl ?_
   refine WD.p rfl (G.extract rfl rfl) rfl ?_
   refine WD.p rfl (G.assign rfl) rfl ?_
   refine WD.p rfl (G.assign rfl) rfl ?_
   refine WD.nil ?_
   refine WEx.then_ ?_
   refine WCode.forget (l' := [(0, .pointer (some ⟨p0, 0, none⟩)), (4, .pointer (some ⟨b44, 0, none⟩)), (8, .int .i64 t108.1), (9, .bool t108.2)]) ⟨rfl, rfl, rfl, rfl, trivial⟩ ?_
   refine WCode.seq ?_
   refine WCode.draw [⟨0, 0, []⟩, ⟨1, 0, []⟩, ⟨2, 0, []⟩, ⟨4, 0, []⟩, ⟨3, 1, [6, 7, 8, 9, 10, 11]⟩, ⟨5, 1, [6, 7, 8, 9, 10, 11]⟩, ⟨6, 2, []⟩, ⟨7, 0, []⟩, ⟨8, 0, []⟩, ⟨9, 0, []⟩, ⟨10, 0, []⟩, ⟨11, 0, []⟩] T.mixed (by kernel_rfl) (by intro _ _ d _ _ h; cases d <;> exact h) rfl (by kernel_rfl) ?_
   have S115 := S114.drew
   generalize w112.drew = w116 at *
   refine WD.p rfl (G.move rfl) rfl ?_
   refine WD.p rfl (G.nilp rfl) rfl ?_
   refine WD.p rfl (G.field T.fld110_1 rfl (show 0 + 1 = 1 from rfl)) rfl ?_
   refine WD.p rfl (G.field T.fld116_2 rfl (show 0 + 2 = 2 from rfl)) rfl ?_
   refine WD.r rfl (G.load1 T.one104 rfl (cell_blk (S115.blk 9 rfl) rfl)) rfl ?_
   refine WD.r rfl (G.loada T.agg103_2 rfl (cs := [.string (bs a1.K.S), .int .i64 a1.K.N]) (cellsAt.of_blk (S115.blk 2 rfl) rfl)) rfl ?_
   obtain ⟨t117, hc118, hF⟩ := bind_some hF
   have S119 := (S115.front 8 rfl).front 8 rfl
   change St _ _ _ [[(p0_1, .cells #[.int .i64 a0_1.Most, .slice A19 a0_1.L.length c20] 172 (0, 0))], G21, [(p0_0, .cells #[.int .i64 a0_0.most, .slice A8 a0_0.pairs.length c9] 169 (0, 0))], G10, [(b44, .cells #[.int .i64 a1.Kind, .int .i64 a1.On, .string (bs a1.K.S), .int .i64 a1.K.N, .int .i64 a1.V, .int .i64 a1.N, .int .i64 a1.M] 116 (0, 0))], [(p2, .cells #[.slice A30 a2.free.length c31, .slice A34 a2.want.length c35, .slice A38 a2.all.length c39, .int .i64 a2.lists] 114 (0, 0))], G32, G36, G40, [(p0, .cells #[.pointer (some ⟨p0_0, 0, none⟩), .pointer (some ⟨p0_1, 0, none⟩), .slice A0_2 a0_2.length c0_2, .slice A0_3 a0_3.length c0_3] 110 (0, 0))], G0_2, G0_3] at S119
   have hP120 : PtR 172 ShR.rp w116 (KS [[(p0_1, .cells #[.int .i64 a0_1.Most, .slice A19 a0_1.L.length c20] 172 (0, 0))], G21]) p0_1 a0_1 := ⟨_, S119.blk 0 rfl, KS_at 0 rfl (by simp [keys]), ⟨A19, c20, rfl, ((hO22.rd (fun b o hb => S119.grp 1 rfl hb)).mono (fun b hb => KS_at 1 rfl hb))⟩⟩
   refine WD.call rfl T.call93 (evs_cons rfl (evs_cons rfl evs_nil)) rfl ?_
   refine (rk_Get_calls k a0_1 a1.K hP120 (St.outN (Bs := []) (As := [[(p0_1, .cells #[.int .i64 a0_1.Most, .slice A19 a0_1.L.length c20] 172 (0, 0))], G21]) S119) hc118).mono ?_
   rintro _ w121 ⟨rfl, T122⟩
   have S123 := St.callN (As := []) S119 T122
   change St _ _ _ [[(p0_1, .cells #[.int .i64 a0_1.Most, .slice A19 a0_1.L.length c20] 172 (0, 0))], G21, [(p0_0, .cells #[.int .i64 a0_0.most, .slice A8 a0_0.pairs.length c9] 169 (0, 0))], G10, [(b44, .cells #[.int .i64 a1.Kind, .int .i64 a1.On, .string (bs a1.K.S), .int .i64 a1.K.N, .int .i64 a1.V, .int .i64 a1.N, .int .i64 a1.M] 116 (0, 0))], [(p2, .cells #[.slice A30 a2.free.length c31, .slice A34 a2.want.length c35, .slice A38 a2.all.length c39, .int .i64 a2.lists] 114 (0, 0))], G32, G36, G40, [(p0, .cells #[.pointer (some ⟨p0_0, 0, none⟩), .pointer (some ⟨p0_1, 0, none⟩), .slice A0_2 a0_2.length c0_2, .slice A0_3 a0_3.length c0_3] 110 (0, 0))], G0_2, G0_3] at S123
   refine ⟨_, rfl, ?_⟩
   refine WD.p rfl (G.move rfl) rfl ?_
   refine WD.p rfl (G.extract rfl rfl) rfl ?_
   refine WD.p rfl (G.extract rfl rfl) rfl ?_
   refine WD.p rfl (G.assign rfl) rfl ?_
   refine WD.p rfl (G.assign rfl) rfl ?_
   refine WD.nil ?_
   refine WEx.then_ ?_
   refine WCode.forget (l' := [(8, .int .i64 t108.1), (9, .bool t108.2), (10, .int .i64 t117.1), (11, .bool t117.2)]) ⟨rfl, rfl, rfl, rfl, trivial⟩ ?_
   refine WCode.seq ?_
   refine WCode.region ?_
   refine WOps.p (G.move rfl) rfl ?_
   refine WOps.p (G.move rfl) rfl ?_
   refine WOps.p (G.eql rfl rfl rfl) rfl ?_
   refine WOps.p (G.move rfl) rfl ?_
   rcases ite_some hF with ⟨h124, hF⟩ | ⟨h124, hF⟩
   ·
    refine WOps.on rfl (kbl (b := decide (t108.1 = t117.1)) rfl (decide_eq_true h124)) ?_
    refine WOps.p (G.move rfl) rfl ?_
    refine WOps.on rfl (kbl (b := decide (t108.1 = t117.1)) rfl (decide_eq_true h124)) ?_
    refine WOps.p (G.move rfl) rfl ?_
    refine WOps.on rfl (kbl (b := decide (t108.1 = t117.1)) rfl (decide_eq_true h124)) ?_
    refine WOps.p (G.eqlb Try.underlying4 rfl rfl rfl) rfl ?_
    refine WOps.p (G.pick_t (kb (b := decide (t108.1 = t117.1)) rfl (decide_eq_true h124)) rfl) rfl ?_
    refine WOps.p (G.assign rfl) rfl ?_
    refine WOps.nil ?_
    refine WEx.then_ ?_
    refine WCode.forget (l' := [(6, .bool (t108.2 == t117.2))]) ⟨rfl, trivial⟩ ?_
    refine WCode.ret ?_
    refine WEx.in_ret ?_
    refine WEx.then_ret ?_
    obtain rfl := some_eq hF
    refine WEx.ret1 rfl rfl ?_
    have S125 : St _ _ _ [[(p2, .cells #[.slice A30 a2.free.length c31, .slice A34 a2.want.length c35, .slice A38 a2.all.length c39, .int .i64 a2.lists] 114 (0, 0))], G32, G36, G40, [(p0_1, .cells #[.int .i64 a0_1.Most, .slice A19 a0_1.L.length c20] 172 (0, 0))], G21, [(p0_0, .cells #[.int .i64 a0_0.most, .slice A8 a0_0.pairs.length c9] 169 (0, 0))], G10, [(b44, .cells #[.int .i64 a1.Kind, .int .i64 a1.On, .string (bs a1.K.S), .int .i64 a1.K.N, .int .i64 a1.V, .int .i64 a1.N, .int .i64 a1.M] 116 (0, 0))], [(p0, .cells #[.pointer (some ⟨p0_0, 0, none⟩), .pointer (some ⟨p0_1, 0, none⟩), .slice A0_2 a0_2.length c0_2, .slice A0_3 a0_3.length c0_3] 110 (0, 0))], G0_2, G0_3] := St.reord S123 [5, 6, 7, 8, 0, 1, 2, 3, 4, 9, 10, 11] 12 rfl (by decide) rfl
    have hO126 : ObjO 114 BookS.rp p2 a2 ([(p2, .cells #[.slice A30 a2.free.length c31, .slice A34 a2.want.length c35, .slice A38 a2.all.length c39, .int .i64 a2.lists] 114 (0, 0))] ++ (G32 ++ (G36 ++ (G40)))) := ⟨_, _, ⟨A30, c31, G32, A34, c35, G36, A38, c39, G40, rfl, hO33, hO37, hO41, rfl⟩, rfl⟩
    have S127 : St _ _ _ [[(p2, .cells #[.slice A30 a2.free.length c31, .slice A34 a2.want.length c35, .slice A38 a2.all.length c39, .int .i64 a2.lists] 114 (0, 0))] ++ (G32 ++ (G36 ++ (G40))), [(p0_1, .cells #[.int .i64 a0_1.Most, .slice A19 a0_1.L.length c20] 172 (0, 0))], G21, [(p0_0, .cells #[.int .i64 a0_0.most, .slice A8 a0_0.pairs.length c9] 169 (0, 0))], G10, [(b44, .cells #[.int .i64 a1.Kind, .int .i64 a1.On, .string (bs a1.K.S), .int .i64 a1.K.N, .int .i64 a1.V, .int .i64 a1.N, .int .i64 a1.M] 116 (0, 0))], [(p0, .cells #[.pointer (some ⟨p0_0, 0, none⟩), .pointer (some ⟨p0_1, 0, none⟩), .slice A0_2 a0_2.length c0_2, .slice A0_3 a0_3.length c0_3] 110 (0, 0))], G0_2, G0_3] := S125.objs (by simp)
    have S128 := (S127.front 4 rfl).front 4 rfl
    change St _ _ _ [[(p0_0, .cells #[.int .i64 a0_0.most, .slice A8 a0_0.pairs.length c9] 169 (0, 0))], G10, [(p2, .cells #[.slice A30 a2.free.length c31, .slice A34 a2.want.length c35, .slice A38 a2.all.length c39, .int .i64 a2.lists] 114 (0, 0))] ++ (G32 ++ (G36 ++ (G40))), [(p0_1, .cells #[.int .i64 a0_1.Most, .slice A19 a0_1.L.length c20] 172 (0, 0))], G21, [(b44, .cells #[.int .i64 a1.Kind, .int .i64 a1.On, .string (bs a1.K.S), .int .i64 a1.K.N, .int .i64 a1.V, .int .i64 a1.N, .int .i64 a1.M] 116 (0, 0))], [(p0, .cells #[.pointer (some ⟨p0_0, 0, none⟩), .pointer (some ⟨p0_1, 0, none⟩), .slice A0_2 a0_2.length c0_2, .slice A0_3 a0_3.length c0_3] 110 (0, 0))], G0_2, G0_3] at S128
    have hO129 : ObjO 169 ShK.rp p0_0 a0_0 ([(p0_0, .cells #[.int .i64 a0_0.most, .slice A8 a0_0.pairs.length c9] 169 (0, 0))] ++ (G10)) := ⟨_, _, ⟨A8, c9, G10, rfl, hO11, rfl⟩, rfl⟩
    have S130 : St _ _ _ [[(p0_0, .cells #[.int .i64 a0_0.most, .slice A8 a0_0.pairs.length c9] 169 (0, 0))] ++ (G10), [(p2, .cells #[.slice A30 a2.free.length c31, .slice A34 a2.want.length c35, .slice A38 a2.all.length c39, .int .i64 a2.lists] 114 (0, 0))] ++ (G32 ++ (G36 ++ (G40))), [(p0_1, .cells #[.int .i64 a0_1.Most, .slice A19 a0_1.L.length c20] 172 (0, 0))], G21, [(b44, .cells #[.int .i64 a1.Kind, .int .i64 a1.On, .string (bs a1.K.S), .int .i64 a1.K.N, .int .i64 a1.V, .int .i64 a1.N, .int .i64 a1.M] 116 (0, 0))], [(p0, .cells #[.pointer (some ⟨p0_0, 0, none⟩), .pointer (some ⟨p0_1, 0, none⟩), .slice A0_2 a0_2.length c0_2, .slice A0_3 a0_3.length c0_3] 110 (0, 0))], G0_2, G0_3] := S128.objs (by simp)
    have S131 := (S130.front 3 rfl).front 3 rfl
    change St _ _ _ [[(p0_1, .cells #[.int .i64 a0_1.Most, .slice A19 a0_1.L.length c20] 172 (0, 0))], G21, [(p0_0, .cells #[.int .i64 a0_0.most, .slice A8 a0_0.pairs.length c9] 169 (0, 0))] ++ (G10), [(p2, .cells #[.slice A30 a2.free.length c31, .slice A34 a2.want.length c35, .slice A38 a2.all.length c39, .int .i64 a2.lists] 114 (0, 0))] ++ (G32 ++ (G36 ++ (G40))), [(b44, .cells #[.int .i64 a1.Kind, .int .i64 a1.On, .string (bs a1.K.S), .int .i64 a1.K.N, .int .i64 a1.V, .int .i64 a1.N, .int .i64 a1.M] 116 (0, 0))], [(p0, .cells #[.pointer (some ⟨p0_0, 0, none⟩), .pointer (some ⟨p0_1, 0, none⟩), .slice A0_2 a0_2.length c0_2, .slice A0_3 a0_3.length c0_3] 110 (0, 0))], G0_2, G0_3] at S131
    have hO132 : ObjO 172 ShR.rp p0_1 a0_1 ([(p0_1, .cells #[.int .i64 a0_1.Most, .slice A19 a0_1.L.length c20] 172 (0, 0))] ++ (G21)) := ⟨_, _, ⟨A19, c20, G21, rfl, hO22, rfl⟩, rfl⟩
    have S133 : St _ _ _ [[(p0_1, .cells #[.int .i64 a0_1.Most, .slice A19 a0_1.L.length c20] 172 (0, 0))] ++ (G21), [(p0_0, .cells #[.int .i64 a0_0.most, .slice A8 a0_0.pairs.length c9] 169 (0, 0))] ++ (G10), [(p2, .cells #[.slice A30 a2.free.length c31, .slice A34 a2.want.length c35, .slice A38 a2.all.length c39, .int .i64 a2.lists] 114 (0, 0))] ++ (G32 ++ (G36 ++ (G40))), [(b44, .cells #[.int .i64 a1.Kind, .int .i64 a1.On, .string (bs a1.K.S), .int .i64 a1.K.N, .int .i64 a1.V, .int .i64 a1.N, .int .i64 a1.M] 116 (0, 0))], [(p0, .cells #[.pointer (some ⟨p0_0, 0, none⟩), .pointer (some ⟨p0_1, 0, none⟩), .slice A0_2 a0_2.length c0_2, .slice A0_3 a0_3.length c0_3] 110 (0, 0))], G0_2, G0_3] := S131.objs (by simp)
    have S134 : St _ _ _ [[(p2, .cells #[.slice A30 a2.free.length c31, .slice A34 a2.want.length c35, .slice A38 a2.all.length c39, .int .i64 a2.lists] 114 (0, 0))] ++ (G32 ++ (G36 ++ (G40))), [(p0, .cells #[.pointer (some ⟨p0_0, 0, none⟩), .pointer (some ⟨p0_1, 0, none⟩), .slice A0_2 a0_2.length c0_2, .slice A0_3 a0_3.length c0_3] 110 (0, 0))], [(p0_0, .cells #[.int .i64 a0_0.most, .slice A8 a0_0.pairs.length c9] 169 (0, 0))] ++ (G10), [(p0_1, .cells #[.int .i64 a0_1.Most, .slice A19 a0_1.L.length c20] 172 (0, 0))] ++ (G21), G0_2, G0_3, [(b44, .cells #[.int .i64 a1.Kind, .int .i64 a1.On, .string (bs a1.K.S), .int .i64 a1.K.N, .int .i64 a1.V, .int .i64 a1.N, .int .i64 a1.M] 116 (0, 0))]] := St.reord S133 [2, 4, 1, 0, 5, 6, 3] 7 rfl (by decide) rfl
    exact ⟨[(p2, .cells #[.slice A30 a2.free.length c31, .slice A34 a2.want.length c35, .slice A38 a2.all.length c39, .int .i64 a2.lists] 114 (0, 0))] ++ (G32 ++ (G36 ++ (G40))), [(p0_0, .cells #[.int .i64 a0_0.most, .slice A8 a0_0.pairs.length c9] 169 (0, 0))] ++ (G10), [(p0_1, .cells #[.int .i64 a0_1.Most, .slice A19 a0_1.L.length c20] 172 (0, 0))] ++ (G21), A0_2, c0_2, G0_2, A0_3, c0_3, G0_3, rfl, hO126, hO129, hO132, hO0_2, hO0_3, St.keep (As := [[(p2, .cells #[.slice A30 a2.free.length c31, .slice A34 a2.want.length c35, .slice A38 a2.all.length c39, .int .i64 a2.lists] 114 (0, 0))] ++ (G32 ++ (G36 ++ (G40))), [(p0, .cells #[.pointer (some ⟨p0_0, 0, none⟩), .pointer (some ⟨p0_1, 0, none⟩), .slice A0_2 a0_2.length c0_2, .slice A0_3 a0_3.length c0_3] 110 (0, 0))], [(p0_0, .cells #[.int .i64 a0_0.most, .slice A8 a0_0.pairs.length c9] 169 (0, 0))] ++ (G10), [(p0_1, .cells #[.int .i64 a0_1.Most, .slice A19 a0_1.L.length c20] 172 (0, 0))] ++ (G21), G0_2, G0_3]) S134⟩
   ·
    refine WOps.off rfl (kbl (b := decide (t108.1 = t117.1)) rfl (decide_eq_false h124)) rfl rfl ?_
    refine WOps.off rfl (kbl (b := decide (t108.1 = t117.1)) rfl (decide_eq_false h124)) rfl rfl ?_
    refine WOps.off rfl (kbl (b := decide (t108.1 = t117.1)) rfl (decide_eq_false h124)) rfl rfl ?_
    refine WOps.p (G.pick_f (kb (b := decide (t108.1 = t117.1)) rfl (decide_eq_false h124)) rfl) rfl ?_
    refine WOps.p (G.assign rfl) rfl ?_
    refine WOps.nil ?_
    refine WEx.then_ ?_
    refine WCode.forget (l' := [(6, .bool false)]) ⟨rfl, trivial⟩ ?_
    refine WCode.ret ?_
    refine WEx.in_ret ?_
    refine WEx.then_ret ?_
    obtain rfl := some_eq hF
    refine WEx.ret1 rfl rfl ?_
    have S135 : St _ _ _ [[(p2, .cells #[.slice A30 a2.free.length c31, .slice A34 a2.want.length c35, .slice A38 a2.all.length c39, .int .i64 a2.lists] 114 (0, 0))], G32, G36, G40, [(p0_1, .cells #[.int .i64 a0_1.Most, .slice A19 a0_1.L.length c20] 172 (0, 0))], G21, [(p0_0, .cells #[.int .i64 a0_0.most, .slice A8 a0_0.pairs.length c9] 169 (0, 0))], G10, [(b44, .cells #[.int .i64 a1.Kind, .int .i64 a1.On, .string (bs a1.K.S), .int .i64 a1.K.N, .int .i64 a1.V, .int .i64 a1.N, .int .i64 a1.M] 116 (0, 0))], [(p0, .cells #[.pointer (some ⟨p0_0, 0, none⟩), .pointer (some ⟨p0_1, 0, none⟩), .slice A0_2 a0_2.length c0_2, .slice A0_3 a0_3.length c0_3] 110 (0, 0))], G0_2, G0_3] := St.reord S123 [5, 6, 7, 8, 0, 1, 2, 3, 4, 9, 10, 11] 12 rfl (by decide) rfl
    have hO136 : ObjO 114 BookS.rp p2 a2 ([(p2, .cells #[.slice A30 a2.free.length c31, .slice A34 a2.want.length c35, .slice A38 a2.all.length c39, .int .i64 a2.lists] 114 (0, 0))] ++ (G32 ++ (G36 ++ (G40)))) := ⟨_, _, ⟨A30, c31, G32, A34, c35, G36, A38, c39, G40, rfl, hO33, hO37, hO41, rfl⟩, rfl⟩
    have S137 : St _ _ _ [[(p2, .cells #[.slice A30 a2.free.length c31, .slice A34 a2.want.length c35, .slice A38 a2.all.length c39, .int .i64 a2.lists] 114 (0, 0))] ++ (G32 ++ (G36 ++ (G40))), [(p0_1, .cells #[.int .i64 a0_1.Most, .slice A19 a0_1.L.length c20] 172 (0, 0))], G21, [(p0_0, .cells #[.int .i64 a0_0.most, .slice A8 a0_0.pairs.length c9] 169 (0, 0))], G10, [(b44, .cells #[.int .i64 a1.Kind, .int .i64 a1.On, .string (bs a1.K.S), .int .i64 a1.K.N, .int .i64 a1.V, .int .i64 a1.N, .int .i64 a1.M] 116 (0, 0))], [(p0, .cells #[.pointer (some ⟨p0_0, 0, none⟩), .pointer (some ⟨p0_1, 0, none⟩), .slice A0_2 a0_2.length c0_2, .slice A0_3 a0_3.length c0_3] 110 (0, 0))], G0_2, G0_3] := S135.objs (by simp)
    have S138 := (S137.front 4 rfl).front 4 rfl
    change St _ _ _ [[(p0_0, .cells #[.int .i64 a0_0.most, .slice A8 a0_0.pairs.length c9] 169 (0, 0))], G10, [(p2, .cells #[.slice A30 a2.free.length c31, .slice A34 a2.want.length c35, .slice A38 a2.all.length c39, .int .i64 a2.lists] 114 (0, 0))] ++ (G32 ++ (G36 ++ (G40))), [(p0_1, .cells #[.int .i64 a0_1.Most, .slice A19 a0_1.L.length c20] 172 (0, 0))], G21, [(b44, .cells #[.int .i64 a1.Kind, .int .i64 a1.On, .string (bs a1.K.S), .int .i64 a1.K.N, .int .i64 a1.V, .int .i64 a1.N, .int .i64 a1.M] 116 (0, 0))], [(p0, .cells #[.pointer (some ⟨p0_0, 0, none⟩), .pointer (some ⟨p0_1, 0, none⟩), .slice A0_2 a0_2.length c0_2, .slice A0_3 a0_3.length c0_3] 110 (0, 0))], G0_2, G0_3] at S138
    have hO139 : ObjO 169 ShK.rp p0_0 a0_0 ([(p0_0, .cells #[.int .i64 a0_0.most, .slice A8 a0_0.pairs.length c9] 169 (0, 0))] ++ (G10)) := ⟨_, _, ⟨A8, c9, G10, rfl, hO11, rfl⟩, rfl⟩
    have S140 : St _ _ _ [[(p0_0, .cells #[.int .i64 a0_0.most, .slice A8 a0_0.pairs.length c9] 169 (0, 0))] ++ (G10), [(p2, .cells #[.slice A30 a2.free.length c31, .slice A34 a2.want.length c35, .slice A38 a2.all.length c39, .int .i64 a2.lists] 114 (0, 0))] ++ (G32 ++ (G36 ++ (G40))), [(p0_1, .cells #[.int .i64 a0_1.Most, .slice A19 a0_1.L.length c20] 172 (0, 0))], G21, [(b44, .cells #[.int .i64 a1.Kind, .int .i64 a1.On, .string (bs a1.K.S), .int .i64 a1.K.N, .int .i64 a1.V, .int .i64 a1.N, .int .i64 a1.M] 116 (0, 0))], [(p0, .cells #[.pointer (some ⟨p0_0, 0, none⟩), .pointer (some ⟨p0_1, 0, none⟩), .slice A0_2 a0_2.length c0_2, .slice A0_3 a0_3.length c0_3] 110 (0, 0))], G0_2, G0_3] := S138.objs (by simp)
    have S141 := (S140.front 3 rfl).front 3 rfl
    change St _ _ _ [[(p0_1, .cells #[.int .i64 a0_1.Most, .slice A19 a0_1.L.length c20] 172 (0, 0))], G21, [(p0_0, .cells #[.int .i64 a0_0.most, .slice A8 a0_0.pairs.length c9] 169 (0, 0))] ++ (G10), [(p2, .cells #[.slice A30 a2.free.length c31, .slice A34 a2.want.length c35, .slice A38 a2.all.length c39, .int .i64 a2.lists] 114 (0, 0))] ++ (G32 ++ (G36 ++ (G40))), [(b44, .cells #[.int .i64 a1.Kind, .int .i64 a1.On, .string (bs a1.K.S), .int .i64 a1.K.N, .int .i64 a1.V, .int .i64 a1.N, .int .i64 a1.M] 116 (0, 0))], [(p0, .cells #[.pointer (some ⟨p0_0, 0, none⟩), .pointer (some ⟨p0_1, 0, none⟩), .slice A0_2 a0_2.length c0_2, .slice A0_3 a0_3.length c0_3] 110 (0, 0))], G0_2, G0_3] at S141
    have hO142 : ObjO 172 ShR.rp p0_1 a0_1 ([(p0_1, .cells #[.int .i64 a0_1.Most, .slice A19 a0_1.L.length c20] 172 (0, 0))] ++ (G21)) := ⟨_, _, ⟨A19, c20, G21, rfl, hO22, rfl⟩, rfl⟩
    have S143 : St _ _ _ [[(p0_1, .cells #[.int .i64 a0_1.Most, .slice A19 a0_1.L.length c20] 172 (0, 0))] ++ (G21), [(p0_0, .cells #[.int .i64 a0_0.most, .slice A8 a0_0.pairs.length c9] 169 (0, 0))] ++ (G10), [(p2, .cells #[.slice A30 a2.free.length c31, .slice A34 a2.want.length c35, .slice A38 a2.all.length c39, .int .i64 a2.lists] 114 (0, 0))] ++ (G32 ++ (G36 ++ (G40))), [(b44, .cells #[.int .i64 a1.Kind, .int .i64 a1.On, .string (bs a1.K.S), .int .i64 a1.K.N, .int .i64 a1.V, .int .i64 a1.N, .int .i64 a1.M] 116 (0, 0))], [(p0, .cells #[.pointer (some ⟨p0_0, 0, none⟩), .pointer (some ⟨p0_1, 0, none⟩), .slice A0_2 a0_2.length c0_2, .slice A0_3 a0_3.length c0_3] 110 (0, 0))], G0_2, G0_3] := S141.objs (by simp)
    have S144 : St _ _ _ [[(p2, .cells #[.slice A30 a2.free.length c31, .slice A34 a2.want.length c35, .slice A38 a2.all.length c39, .int .i64 a2.lists] 114 (0, 0))] ++ (G32 ++ (G36 ++ (G40))), [(p0, .cells #[.pointer (some ⟨p0_0, 0, none⟩), .pointer (some ⟨p0_1, 0, none⟩), .slice A0_2 a0_2.length c0_2, .slice A0_3 a0_3.length c0_3] 110 (0, 0))], [(p0_0, .cells #[.int .i64 a0_0.most, .slice A8 a0_0.pairs.length c9] 169 (0, 0))] ++ (G10), [(p0_1, .cells #[.int .i64 a0_1.Most, .slice A19 a0_1.L.length c20] 172 (0, 0))] ++ (G21), G0_2, G0_3, [(b44, .cells #[.int .i64 a1.Kind, .int .i64 a1.On, .string (bs a1.K.S), .int .i64 a1.K.N, .int .i64 a1.V, .int .i64 a1.N, .int .i64 a1.M] 116 (0, 0))]] := St.reord S143 [2, 4, 1, 0, 5, 6, 3] 7 rfl (by decide) rfl
    exact ⟨[(p2, .cells #[.slice A30 a2.free.length c31, .slice A34 a2.want.length c35, .slice A38 a2.all.length c39, .int .i64 a2.lists] 114 (0, 0))] ++ (G32 ++ (G36 ++ (G40))), [(p0_0, .cells #[.int .i64 a0_0.most, .slice A8 a0_0.pairs.length c9] 169 (0, 0))] ++ (G10), [(p0_1, .cells #[.int .i64 a0_1.Most, .slice A19 a0_1.L.length c20] 172 (0, 0))] ++ (G21), A0_2, c0_2, G0_2, A0_3, c0_3, G0_3, rfl, hO136, hO139, hO142, hO0_2, hO0_3, St.keep (As := [[(p2, .cells #[.slice A30 a2.free.length c31, .slice A34 a2.want.length c35, .slice A38 a2.all.length c39, .int .i64 a2.lists] 114 (0, 0))] ++ (G32 ++ (G36 ++ (G40))), [(p0, .cells #[.pointer (some ⟨p0_0, 0, none⟩), .pointer (some ⟨p0_1, 0, none⟩), .slice A0_2 a0_2.length c0_2, .slice A0_3 a0_3.length c0_3] 110 (0, 0))], [(p0_0, .cells #[.int .i64 a0_0.most, .slice A8 a0_0.pairs.length c9] 169 (0, 0))] ++ (G10), [(p0_1, .cells #[.int .i64 a0_1.Most, .slice A19 a0_1.L.length c20] 172 (0, 0))] ++ (G21), G0_2, G0_3]) S144⟩
  ·
   refine WCode.cond_f (kb (b := decide (a1.Kind = 2)) rfl (decide_eq_false h105)) ?_
   refine WCode.seq ?_
   refine WCode.region ?_
   refine WOps.p (G.eql rfl rfl rfl) rfl ?_
   refine WOps.p (G.assign rfl) rfl ?_
   refine WOps.nil ?_
   refine WEx.then_ ?_
   rcases ite_some hF with ⟨h145, hF⟩ | ⟨h145, hF⟩
   ·
    refine WCode.cond_t (kb (b := decide (a1.Kind = 3)) rfl (decide_eq_true h145)) ?_
    refine WCode.seq ?_
    refine WCode.draw [⟨0, 0, []⟩, ⟨1, 0, []⟩, ⟨2, 0, []⟩, ⟨4, 0, []⟩, ⟨3, 1, [6, 7]⟩, ⟨5, 1, [6, 7]⟩, ⟨6, 2, []⟩, ⟨7, 0, []⟩] T.mixed (by kernel_rfl) (by intro _ _ d _ _ h; cases d <;> exact h) rfl (by kernel_rfl) ?_
    have S146 := S47.drew
    generalize w45.drew = w147 at *
    refine WD.p rfl (G.move rfl) rfl ?_
    refine WD.p rfl (G.nilp rfl) rfl ?_
    refine WD.p rfl (G.field T.fld110_0 rfl (show 0 + 0 = 0 from rfl)) rfl ?_
    refine WD.p rfl (G.field T.fld116_2 rfl (show 0 + 2 = 2 from rfl)) rfl ?_
    refine WD.r rfl (G.load1 T.one99 rfl (cell_blk (S146.blk 9 rfl) rfl)) rfl ?_
    refine WD.r rfl (G.loada T.agg103_2 rfl (cs := [.string (bs a1.K.S), .int .i64 a1.K.N]) (cellsAt.of_blk (S146.blk 0 rfl) rfl)) rfl ?_
    have S148 := (S146.front 8 rfl).front 8 rfl
    change St _ _ _ [[(p0_0, .cells #[.int .i64 a0_0.most, .slice A8 a0_0.pairs.length c9] 169 (0, 0))], G10, [(b44, .cells #[.int .i64 a1.Kind, .int .i64 a1.On, .string (bs a1.K.S), .int .i64 a1.K.N, .int .i64 a1.V, .int .i64 a1.N, .int .i64 a1.M] 116 (0, 0))], [(p2, .cells #[.slice A30 a2.free.length c31, .slice A34 a2.want.length c35, .slice A38 a2.all.length c39, .int .i64 a2.lists] 114 (0, 0))], G32, G36, G40, [(p0_1, .cells #[.int .i64 a0_1.Most, .slice A19 a0_1.L.length c20] 172 (0, 0))], G21, [(p0, .cells #[.pointer (some ⟨p0_0, 0, none⟩), .pointer (some ⟨p0_1, 0, none⟩), .slice A0_2 a0_2.length c0_2, .slice A0_3 a0_3.length c0_3] 110 (0, 0))], G0_2, G0_3] at S148
    have hO149 : ObjO 169 ShK.rp p0_0 a0_0 ([(p0_0, .cells #[.int .i64 a0_0.most, .slice A8 a0_0.pairs.length c9] 169 (0, 0))] ++ (G10)) := ⟨_, _, ⟨A8, c9, G10, rfl, hO11, rfl⟩, rfl⟩
    have S150 : St _ _ _ [[(p0_0, .cells #[.int .i64 a0_0.most, .slice A8 a0_0.pairs.length c9] 169 (0, 0))] ++ (G10), [(b44, .cells #[.int .i64 a1.Kind, .int .i64 a1.On, .string (bs a1.K.S), .int .i64 a1.K.N, .int .i64 a1.V, .int .i64 a1.N, .int .i64 a1.M] 116 (0, 0))], [(p2, .cells #[.slice A30 a2.free.length c31, .slice A34 a2.want.length c35, .slice A38 a2.all.length c39, .int .i64 a2.lists] 114 (0, 0))], G32, G36, G40, [(p0_1, .cells #[.int .i64 a0_1.Most, .slice A19 a0_1.L.length c20] 172 (0, 0))], G21, [(p0, .cells #[.pointer (some ⟨p0_0, 0, none⟩), .pointer (some ⟨p0_1, 0, none⟩), .slice A0_2 a0_2.length c0_2, .slice A0_3 a0_3.length c0_3] 110 (0, 0))], G0_2, G0_3] := S148.objs (by simp)
    obtain ⟨t151, hc152, hF⟩ := bind_some hF
    refine WD.call rfl T.call94 (evs_cons rfl (evs_cons rfl evs_nil)) rfl ?_
    refine (sk_Drop_calls k a0_0 a1.K hO149 hc152 (St.hpN (As := [[(p0_0, .cells #[.int .i64 a0_0.most, .slice A8 a0_0.pairs.length c9] 169 (0, 0))] ++ (G10)]) S150)).mono ?_
    rintro _ w153 ⟨G156, rfl, hO157, T154⟩
    have S155 := St.callN (As := [[(p0_0, .cells #[.int .i64 a0_0.most, .slice A8 a0_0.pairs.length c9] 169 (0, 0))] ++ (G10)]) S150 T154
    change St _ _ _ [G156, [(b44, .cells #[.int .i64 a1.Kind, .int .i64 a1.On, .string (bs a1.K.S), .int .i64 a1.K.N, .int .i64 a1.V, .int .i64 a1.N, .int .i64 a1.M] 116 (0, 0))], [(p2, .cells #[.slice A30 a2.free.length c31, .slice A34 a2.want.length c35, .slice A38 a2.all.length c39, .int .i64 a2.lists] 114 (0, 0))], G32, G36, G40, [(p0_1, .cells #[.int .i64 a0_1.Most, .slice A19 a0_1.L.length c20] 172 (0, 0))], G21, [(p0, .cells #[.pointer (some ⟨p0_0, 0, none⟩), .pointer (some ⟨p0_1, 0, none⟩), .slice A0_2 a0_2.length c0_2, .slice A0_3 a0_3.length c0_3] 110 (0, 0))], G0_2, G0_3] at S155
    refine ⟨_, rfl, ?_⟩
    obtain ⟨cs158, G159, ho160, hg161⟩ := hO157
    obtain ⟨A162, c163, G164, rfl, hO165, hq166⟩ := ho160
    have S167 : St _ _ _ [[(p0_0, .cells #[.int .i64 t151.2.most, .slice A162 t151.2.pairs.length c163] 169 (0, 0))], G164, [(b44, .cells #[.int .i64 a1.Kind, .int .i64 a1.On, .string (bs a1.K.S), .int .i64 a1.K.N, .int .i64 a1.V, .int .i64 a1.N, .int .i64 a1.M] 116 (0, 0))], [(p2, .cells #[.slice A30 a2.free.length c31, .slice A34 a2.want.length c35, .slice A38 a2.all.length c39, .int .i64 a2.lists] 114 (0, 0))], G32, G36, G40, [(p0_1, .cells #[.int .i64 a0_1.Most, .slice A19 a0_1.L.length c20] 172 (0, 0))], G21, [(p0, .cells #[.pointer (some ⟨p0_0, 0, none⟩), .pointer (some ⟨p0_1, 0, none⟩), .slice A0_2 a0_2.length c0_2, .slice A0_3 a0_3.length c0_3] 110 (0, 0))], G0_2, G0_3] := S155.objs (by rw [hg161, hq166]; simp)
    refine WD.p rfl (G.assign rfl) rfl ?_
    refine WD.nil ?_
    refine WEx.then_ ?_
    refine WCode.forget (l' := [(0, .pointer (some ⟨p0, 0, none⟩)), (4, .pointer (some ⟨b44, 0, none⟩)), (12, .int .i64 t151.1)]) ⟨rfl, rfl, rfl, trivial⟩ ?_
    refine WCode.seq ?_
    refine WCode.draw [⟨0, 0, []⟩, ⟨1, 0, []⟩, ⟨2, 0, []⟩, ⟨3, 0, []⟩, ⟨5, 0, []⟩, ⟨4, 1, [7, 8, 9]⟩, ⟨6, 1, [7, 8, 9]⟩, ⟨7, 2, []⟩, ⟨8, 0, []⟩, ⟨9, 0, []⟩] T.mixed (by kernel_rfl) (by intro _ _ d _ _ h; cases d <;> exact h) rfl (by kernel_rfl) ?_
    have S168 := S167.drew
    generalize w153.drew = w169 at *
    refine WD.p rfl (G.move rfl) rfl ?_
    refine WD.p rfl (G.move rfl) rfl ?_
    refine WD.p rfl (G.nilp rfl) rfl ?_
    refine WD.p rfl (G.field T.fld110_1 rfl (show 0 + 1 = 1 from rfl)) rfl ?_
    refine WD.p rfl (G.field T.fld116_2 rfl (show 0 + 2 = 2 from rfl)) rfl ?_
    refine WD.r rfl (G.load1 T.one104 rfl (cell_blk (S168.blk 9 rfl) rfl)) rfl ?_
    refine WD.r rfl (G.loada T.agg103_2 rfl (cs := [.string (bs a1.K.S), .int .i64 a1.K.N]) (cellsAt.of_blk (S168.blk 2 rfl) rfl)) rfl ?_
    have S170 := (S168.front 8 rfl).front 8 rfl
    change St _ _ _ [[(p0_1, .cells #[.int .i64 a0_1.Most, .slice A19 a0_1.L.length c20] 172 (0, 0))], G21, [(p0_0, .cells #[.int .i64 t151.2.most, .slice A162 t151.2.pairs.length c163] 169 (0, 0))], G164, [(b44, .cells #[.int .i64 a1.Kind, .int .i64 a1.On, .string (bs a1.K.S), .int .i64 a1.K.N, .int .i64 a1.V, .int .i64 a1.N, .int .i64 a1.M] 116 (0, 0))], [(p2, .cells #[.slice A30 a2.free.length c31, .slice A34 a2.want.length c35, .slice A38 a2.all.length c39, .int .i64 a2.lists] 114 (0, 0))], G32, G36, G40, [(p0, .cells #[.pointer (some ⟨p0_0, 0, none⟩), .pointer (some ⟨p0_1, 0, none⟩), .slice A0_2 a0_2.length c0_2, .slice A0_3 a0_3.length c0_3] 110 (0, 0))], G0_2, G0_3] at S170
    have hO171 : ObjO 172 ShR.rp p0_1 a0_1 ([(p0_1, .cells #[.int .i64 a0_1.Most, .slice A19 a0_1.L.length c20] 172 (0, 0))] ++ (G21)) := ⟨_, _, ⟨A19, c20, G21, rfl, hO22, rfl⟩, rfl⟩
    have S172 : St _ _ _ [[(p0_1, .cells #[.int .i64 a0_1.Most, .slice A19 a0_1.L.length c20] 172 (0, 0))] ++ (G21), [(p0_0, .cells #[.int .i64 t151.2.most, .slice A162 t151.2.pairs.length c163] 169 (0, 0))], G164, [(b44, .cells #[.int .i64 a1.Kind, .int .i64 a1.On, .string (bs a1.K.S), .int .i64 a1.K.N, .int .i64 a1.V, .int .i64 a1.N, .int .i64 a1.M] 116 (0, 0))], [(p2, .cells #[.slice A30 a2.free.length c31, .slice A34 a2.want.length c35, .slice A38 a2.all.length c39, .int .i64 a2.lists] 114 (0, 0))], G32, G36, G40, [(p0, .cells #[.pointer (some ⟨p0_0, 0, none⟩), .pointer (some ⟨p0_1, 0, none⟩), .slice A0_2 a0_2.length c0_2, .slice A0_3 a0_3.length c0_3] 110 (0, 0))], G0_2, G0_3] := S170.objs (by simp)
    obtain ⟨t173, hc174, hF⟩ := bind_some hF
    refine WD.call rfl T.call95 (evs_cons rfl (evs_cons rfl evs_nil)) rfl ?_
    refine (rk_Drop_calls k a0_1 a1.K hO171 hc174 (St.hpN (As := [[(p0_1, .cells #[.int .i64 a0_1.Most, .slice A19 a0_1.L.length c20] 172 (0, 0))] ++ (G21)]) S172)).mono ?_
    rintro _ w175 ⟨G178, rfl, hO179, T176⟩
    have S177 := St.callN (As := [[(p0_1, .cells #[.int .i64 a0_1.Most, .slice A19 a0_1.L.length c20] 172 (0, 0))] ++ (G21)]) S172 T176
    change St _ _ _ [G178, [(p0_0, .cells #[.int .i64 t151.2.most, .slice A162 t151.2.pairs.length c163] 169 (0, 0))], G164, [(b44, .cells #[.int .i64 a1.Kind, .int .i64 a1.On, .string (bs a1.K.S), .int .i64 a1.K.N, .int .i64 a1.V, .int .i64 a1.N, .int .i64 a1.M] 116 (0, 0))], [(p2, .cells #[.slice A30 a2.free.length c31, .slice A34 a2.want.length c35, .slice A38 a2.all.length c39, .int .i64 a2.lists] 114 (0, 0))], G32, G36, G40, [(p0, .cells #[.pointer (some ⟨p0_0, 0, none⟩), .pointer (some ⟨p0_1, 0, none⟩), .slice A0_2 a0_2.length c0_2, .slice A0_3 a0_3.length c0_3] 110 (0, 0))], G0_2, G0_3] at S177
    refine ⟨_, rfl, ?_⟩
    obtain ⟨cs180, G181, ho182, hg183⟩ := hO179
    obtain ⟨A184, c185, G186, rfl, hO187, hq188⟩ := ho182
    have S189 : St _ _ _ [[(p0_1, .cells #[.int .i64 t173.2.Most, .slice A184 t173.2.L.length c185] 172 (0, 0))], G186, [(p0_0, .cells #[.int .i64 t151.2.most, .slice A162 t151.2.pairs.length c163] 169 (0, 0))], G164, [(b44, .cells #[.int .i64 a1.Kind, .int .i64 a1.On, .string (bs a1.K.S), .int .i64 a1.K.N, .int .i64 a1.V, .int .i64 a1.N, .int .i64 a1.M] 116 (0, 0))], [(p2, .cells #[.slice A30 a2.free.length c31, .slice A34 a2.want.length c35, .slice A38 a2.all.length c39, .int .i64 a2.lists] 114 (0, 0))], G32, G36, G40, [(p0, .cells #[.pointer (some ⟨p0_0, 0, none⟩), .pointer (some ⟨p0_1, 0, none⟩), .slice A0_2 a0_2.length c0_2, .slice A0_3 a0_3.length c0_3] 110 (0, 0))], G0_2, G0_3] := S177.objs (by rw [hg183, hq188]; simp)
    refine WD.p rfl (G.eql rfl rfl rfl) rfl ?_
    refine WD.p rfl (G.assign rfl) rfl ?_
    refine WD.nil ?_
    refine WEx.then_ ?_
    refine WCode.forget (l' := [(6, .bool (decide (t151.1 = t173.1)))]) ⟨rfl, trivial⟩ ?_
    refine WCode.ret ?_
    refine WEx.in_ret ?_
    refine WEx.then_ret ?_
    obtain rfl := some_eq hF
    refine WEx.ret1 rfl rfl ?_
    have S190 : St _ _ _ [[(p2, .cells #[.slice A30 a2.free.length c31, .slice A34 a2.want.length c35, .slice A38 a2.all.length c39, .int .i64 a2.lists] 114 (0, 0))], G32, G36, G40, [(p0_1, .cells #[.int .i64 t173.2.Most, .slice A184 t173.2.L.length c185] 172 (0, 0))], G186, [(p0_0, .cells #[.int .i64 t151.2.most, .slice A162 t151.2.pairs.length c163] 169 (0, 0))], G164, [(b44, .cells #[.int .i64 a1.Kind, .int .i64 a1.On, .string (bs a1.K.S), .int .i64 a1.K.N, .int .i64 a1.V, .int .i64 a1.N, .int .i64 a1.M] 116 (0, 0))], [(p0, .cells #[.pointer (some ⟨p0_0, 0, none⟩), .pointer (some ⟨p0_1, 0, none⟩), .slice A0_2 a0_2.length c0_2, .slice A0_3 a0_3.length c0_3] 110 (0, 0))], G0_2, G0_3] := St.reord S189 [5, 6, 7, 8, 0, 1, 2, 3, 4, 9, 10, 11] 12 rfl (by decide) rfl
    have hO191 : ObjO 114 BookS.rp p2 a2 ([(p2, .cells #[.slice A30 a2.free.length c31, .slice A34 a2.want.length c35, .slice A38 a2.all.length c39, .int .i64 a2.lists] 114 (0, 0))] ++ (G32 ++ (G36 ++ (G40)))) := ⟨_, _, ⟨A30, c31, G32, A34, c35, G36, A38, c39, G40, rfl, hO33, hO37, hO41, rfl⟩, rfl⟩
    have S192 : St _ _ _ [[(p2, .cells #[.slice A30 a2.free.length c31, .slice A34 a2.want.length c35, .slice A38 a2.all.length c39, .int .i64 a2.lists] 114 (0, 0))] ++ (G32 ++ (G36 ++ (G40))), [(p0_1, .cells #[.int .i64 t173.2.Most, .slice A184 t173.2.L.length c185] 172 (0, 0))], G186, [(p0_0, .cells #[.int .i64 t151.2.most, .slice A162 t151.2.pairs.length c163] 169 (0, 0))], G164, [(b44, .cells #[.int .i64 a1.Kind, .int .i64 a1.On, .string (bs a1.K.S), .int .i64 a1.K.N, .int .i64 a1.V, .int .i64 a1.N, .int .i64 a1.M] 116 (0, 0))], [(p0, .cells #[.pointer (some ⟨p0_0, 0, none⟩), .pointer (some ⟨p0_1, 0, none⟩), .slice A0_2 a0_2.length c0_2, .slice A0_3 a0_3.length c0_3] 110 (0, 0))], G0_2, G0_3] := S190.objs (by simp)
    have S193 := (S192.front 4 rfl).front 4 rfl
    change St _ _ _ [[(p0_0, .cells #[.int .i64 t151.2.most, .slice A162 t151.2.pairs.length c163] 169 (0, 0))], G164, [(p2, .cells #[.slice A30 a2.free.length c31, .slice A34 a2.want.length c35, .slice A38 a2.all.length c39, .int .i64 a2.lists] 114 (0, 0))] ++ (G32 ++ (G36 ++ (G40))), [(p0_1, .cells #[.int .i64 t173.2.Most, .slice A184 t173.2.L.length c185] 172 (0, 0))], G186, [(b44, .cells #[.int .i64 a1.Kind, .int .i64 a1.On, .string (bs a1.K.S), .int .i64 a1.K.N, .int .i64 a1.V, .int .i64 a1.N, .int .i64 a1.M] 116 (0, 0))], [(p0, .cells #[.pointer (some ⟨p0_0, 0, none⟩), .pointer (some ⟨p0_1, 0, none⟩), .slice A0_2 a0_2.length c0_2, .slice A0_3 a0_3.length c0_3] 110 (0, 0))], G0_2, G0_3] at S193
    have hO194 : ObjO 169 ShK.rp p0_0 t151.2 ([(p0_0, .cells #[.int .i64 t151.2.most, .slice A162 t151.2.pairs.length c163] 169 (0, 0))] ++ (G164)) := ⟨_, _, ⟨A162, c163, G164, rfl, hO165, rfl⟩, rfl⟩
    have S195 : St _ _ _ [[(p0_0, .cells #[.int .i64 t151.2.most, .slice A162 t151.2.pairs.length c163] 169 (0, 0))] ++ (G164), [(p2, .cells #[.slice A30 a2.free.length c31, .slice A34 a2.want.length c35, .slice A38 a2.all.length c39, .int .i64 a2.lists] 114 (0, 0))] ++ (G32 ++ (G36 ++ (G40))), [(p0_1, .cells #[.int .i64 t173.2.Most, .slice A184 t173.2.L.length c185] 172 (0, 0))], G186, [(b44, .cells #[.int .i64 a1.Kind, .int .i64 a1.On, .string (bs a1.K.S), .int .i64 a1.K.N, .int .i64 a1.V, .int .i64 a1.N, .int .i64 a1.M] 116 (0, 0))], [(p0, .cells #[.pointer (some ⟨p0_0, 0, none⟩), .pointer (some ⟨p0_1, 0, none⟩), .slice A0_2 a0_2.length c0_2, .slice A0_3 a0_3.length c0_3] 110 (0, 0))], G0_2, G0_3] := S193.objs (by simp)
    have S196 := (S195.front 3 rfl).front 3 rfl
    change St _ _ _ [[(p0_1, .cells #[.int .i64 t173.2.Most, .slice A184 t173.2.L.length c185] 172 (0, 0))], G186, [(p0_0, .cells #[.int .i64 t151.2.most, .slice A162 t151.2.pairs.length c163] 169 (0, 0))] ++ (G164), [(p2, .cells #[.slice A30 a2.free.length c31, .slice A34 a2.want.length c35, .slice A38 a2.all.length c39, .int .i64 a2.lists] 114 (0, 0))] ++ (G32 ++ (G36 ++ (G40))), [(b44, .cells #[.int .i64 a1.Kind, .int .i64 a1.On, .string (bs a1.K.S), .int .i64 a1.K.N, .int .i64 a1.V, .int .i64 a1.N, .int .i64 a1.M] 116 (0, 0))], [(p0, .cells #[.pointer (some ⟨p0_0, 0, none⟩), .pointer (some ⟨p0_1, 0, none⟩), .slice A0_2 a0_2.length c0_2, .slice A0_3 a0_3.length c0_3] 110 (0, 0))], G0_2, G0_3] at S196
    have hO197 : ObjO 172 ShR.rp p0_1 t173.2 ([(p0_1, .cells #[.int .i64 t173.2.Most, .slice A184 t173.2.L.length c185] 172 (0, 0))] ++ (G186)) := ⟨_, _, ⟨A184, c185, G186, rfl, hO187, rfl⟩, rfl⟩
    have S198 : St _ _ _ [[(p0_1, .cells #[.int .i64 t173.2.Most, .slice A184 t173.2.L.length c185] 172 (0, 0))] ++ (G186), [(p0_0, .cells #[.int .i64 t151.2.most, .slice A162 t151.2.pairs.length c163] 169 (0, 0))] ++ (G164), [(p2, .cells #[.slice A30 a2.free.length c31, .slice A34 a2.want.length c35, .slice A38 a2.all.length c39, .int .i64 a2.lists] 114 (0, 0))] ++ (G32 ++ (G36 ++ (G40))), [(b44, .cells #[.int .i64 a1.Kind, .int .i64 a1.On, .string (bs a1.K.S), .int .i64 a1.K.N, .int .i64 a1.V, .int .i64 a1.N, .int .i64 a1.M] 116 (0, 0))], [(p0, .cells #[.pointer (some ⟨p0_0, 0, none⟩), .pointer (some ⟨p0_1, 0, none⟩), .slice A0_2 a0_2.length c0_2, .slice A0_3 a0_3.length c0_3] 110 (0, 0))], G0_2, G0_3] := S196.objs (by simp)
    have S199 : St _ _ _ [[(p2, .cells #[.slice A30 a2.free.length c31, .slice A34 a2.want.length c35, .slice A38 a2.all.length c39, .int .i64 a2.lists] 114 (0, 0))] ++ (G32 ++ (G36 ++ (G40))), [(p0, .cells #[.pointer (some ⟨p0_0, 0, none⟩), .pointer (some ⟨p0_1, 0, none⟩), .slice A0_2 a0_2.length c0_2, .slice A0_3 a0_3.length c0_3] 110 (0, 0))], [(p0_0, .cells #[.int .i64 t151.2.most, .slice A162 t151.2.pairs.length c163] 169 (0, 0))] ++ (G164), [(p0_1, .cells #[.int .i64 t173.2.Most, .slice A184 t173.2.L.length c185] 172 (0, 0))] ++ (G186), G0_2, G0_3, [(b44, .cells #[.int .i64 a1.Kind, .int .i64 a1.On, .string (bs a1.K.S), .int .i64 a1.K.N, .int .i64 a1.V, .int .i64 a1.N, .int .i64 a1.M] 116 (0, 0))]] := St.reord S198 [2, 4, 1, 0, 5, 6, 3] 7 rfl (by decide) rfl
    exact ⟨[(p2, .cells #[.slice A30 a2.free.length c31, .slice A34 a2.want.length c35, .slice A38 a2.all.length c39, .int .i64 a2.lists] 114 (0, 0))] ++ (G32 ++ (G36 ++ (G40))), [(p0_0, .cells #[.int .i64 t151.2.most, .slice A162 t151.2.pairs.length c163] 169 (0, 0))] ++ (G164), [(p0_1, .cells #[.int .i64 t173.2.Most, .slice A184 t173.2.L.length c185] 172 (0, 0))] ++ (G186), A0_2, c0_2, G0_2, A0_3, c0_3, G0_3, rfl, hO191, hO194, hO197, hO0_2, hO0_3, St.keep (As := [[(p2, .cells #[.slice A30 a2.free.length c31, .slice A34 a2.want.length c35, .slice A38 a2.all.length c39, .int .i64 a2.lists] 114 (0, 0))] ++ (G32 ++ (G36 ++ (G40))), [(p0, .cells #[.pointer (some ⟨p0_0, 0, none⟩), .pointer (some ⟨p0_1, 0, none⟩), .slice A0_2 a0_2.length c0_2, .slice A0_3 a0_3.length c0_3] 110 (0, 0))], [(p0_0, .cells #[.int .i64 t151.2.most, .slice A162 t151.2.pairs.length c163] 169 (0, 0))] ++ (G164), [(p0_1, .cells #[.int .i64 t173.2.Most, .slice A184 t173.2.L.length c185] 172 (0, 0))] ++ (G186), G0_2, G0_3]) S199⟩
   ·
    refine WCode.cond_f (kb (b := decide (a1.Kind = 3)) rfl (decide_eq_false h145)) ?_
    refine WCode.seq ?_
    refine WCode.region ?_
    refine WOps.p (G.eql rfl rfl rfl) rfl ?_
    refine WOps.p (G.assign rfl) rfl ?_
    refine WOps.nil ?_
    refine WEx.then_ ?_
    refine WCode.forget (l' := [(0, .pointer (some ⟨p0, 0, none⟩)), (2, .pointer (some ⟨p2, 0, none⟩)), (4, .pointer (some ⟨b44, 0, none⟩)), (18, .int .i64 a1.Kind), (89, .bool (decide (a1.Kind = 4)))]) ⟨rfl, rfl, rfl, rfl, rfl, trivial⟩ ?_
    rcases ite_some hF with ⟨h200, hF⟩ | ⟨h200, hF⟩
    ·
     refine WCode.cond_t (kb (b := decide (a1.Kind = 4)) rfl (decide_eq_true h200)) ?_
     refine WCode.seq ?_
     refine WCode.region ?_
     refine WOps.p (G.assign rfl) rfl ?_
     refine WOps.nil ?_
     refine WEx.then_ ?_
     refine WCode.block ?_
     have S216 : St _ _ _ [[(p2, .cells #[.slice A30 a2.free.length c31, .slice A34 a2.want.length c35, .slice A38 a2.all.length c39, .int .i64 a2.lists] 114 (0, 0))], [(p0_1, .cells #[.int .i64 a0_1.Most, .slice A19 a0_1.L.length c20] 172 (0, 0))], [(p0_0, .cells #[.int .i64 a0_0.most, .slice A8 a0_0.pairs.length c9] 169 (0, 0))], [(p0, .cells #[.pointer (some ⟨p0_0, 0, none⟩), .pointer (some ⟨p0_1, 0, none⟩), .slice A0_2 a0_2.length c0_2, .slice A0_3 a0_3.length c0_3] 110 (0, 0))], G40, G21, G10, G0_2, G0_3, G32, G36, [(b44, .cells #[.int .i64 a1.Kind, .int .i64 a1.On, .string (bs a1.K.S), .int .i64 a1.K.N, .int .i64 a1.V, .int .i64 a1.N, .int .i64 a1.M] 116 (0, 0))]] := St.reord S47 [1, 5, 7, 9, 4, 6, 8, 10, 11, 2, 3, 0] 12 rfl (by decide) rfl
     have S217 := St.keep (As := [[(p2, .cells #[.slice A30 a2.free.length c31, .slice A34 a2.want.length c35, .slice A38 a2.all.length c39, .int .i64 a2.lists] 114 (0, 0))], [(p0_1, .cells #[.int .i64 a0_1.Most, .slice A19 a0_1.L.length c20] 172 (0, 0))], [(p0_0, .cells #[.int .i64 a0_0.most, .slice A8 a0_0.pairs.length c9] 169 (0, 0))], [(p0, .cells #[.pointer (some ⟨p0_0, 0, none⟩), .pointer (some ⟨p0_1, 0, none⟩), .slice A0_2 a0_2.length c0_2, .slice A0_3 a0_3.length c0_3] 110 (0, 0))], G40, G21, G10, G0_2, G0_3, G32, G36]) S216
     refine WCode.forget (l' := [(0, .pointer (some ⟨p0, 0, none⟩)), (2, .pointer (some ⟨p2, 0, none⟩)), (13, .int .i64 0)]) ⟨rfl, rfl, rfl, trivial⟩ ?_
     refine WCode.loop (fun n_ l_ w_ => ∃ x201 : Int, ∃ A202 : Option Addr, ∃ c203 : Nat, ∃ l204 : List (List KeyS), ∃ G205 : Grp, ∃ A207 : Option Addr, ∃ c208 : Nat, ∃ l209 : List (List KeyS), ∃ G210 : Grp, l_ = [(0, .pointer (some ⟨p0, 0, none⟩)), (2, .pointer (some ⟨p2, 0, none⟩)), (13, .int .i64 x201)] ∧ sd_step.l1 n_ a0_0 a0_1 a0_2 a0_3 a2 x201 l204 l209 = some r_ ∧ (SlO 176 (Rp.slice 103 KeyS.rp) (.slice A202 l204.length c203) l204 G205) ∧ (SlO 176 (Rp.slice 103 KeyS.rp) (.slice A207 l209.length c208) l209 G210) ∧ St w (KS [[(p0, .cells #[.pointer (some ⟨p0_0, 0, none⟩), .pointer (some ⟨p0_1, 0, none⟩), .slice A0_2 a0_2.length c0_2, .slice A0_3 a0_3.length c0_3] 110 (0, 0))], G0_0, G0_1, G0_2, G0_3, G2]) w_ [[(p2, .cells #[.slice A202 l204.length c203, .slice A207 l209.length c208, .slice A38 a2.all.length c39, .int .i64 a2.lists] 114 (0, 0))], [(p0_1, .cells #[.int .i64 a0_1.Most, .slice A19 a0_1.L.length c20] 172 (0, 0))], [(p0_0, .cells #[.int .i64 a0_0.most, .slice A8 a0_0.pairs.length c9] 169 (0, 0))], [(p0, .cells #[.pointer (some ⟨p0_0, 0, none⟩), .pointer (some ⟨p0_1, 0, none⟩), .slice A0_2 a0_2.length c0_2, .slice A0_3 a0_3.length c0_3] 110 (0, 0))], G40, G21, G10, G0_2, G0_3, G205, G210]) k ⟨0, A30, c31, a2.free, G32, A34, c35, a2.want, G36, rfl, hF, hO33, hO37, S217⟩ ?_
     rintro n215 _ w212 ⟨x201, A202, c203, l204, G205, A207, c208, l209, G210, rfl, hF, hO206, hO211, S213⟩
     obtain _ | k214 := n215
     · exact nomatch (show (none : Option (Bool × BookS × ShK × ShR × (List Asked) × (List Asked))) = some r_ from hF)
     rw [sd_step.l1] at hF
     refine WCode.seq ?_
     refine WCode.seq ?_
     refine WCode.region ?_
     refine WOps.p (G.move rfl) rfl ?_
     refine WOps.p (G.lss rfl rfl rfl) rfl ?_
     refine WOps.nil ?_
     refine WEx.then_ ?_
     rcases ite_some hF with ⟨h219, hF⟩ | ⟨h219, hF⟩
     ·
      refine WCode.cond_t (kb (b := decide (x201 < 2)) rfl (decide_eq_true h219)) ?_
      refine WCode.skip ?_
      refine WEx.then_ ?_
      refine WCode.seq ?_
      refine WCode.block ?_
      refine WCode.seq ?_
      refine WCode.region ?_
      refine WOps.p (G.move rfl) rfl ?_
      refine WOps.p (G.nilp rfl) rfl ?_
      refine WOps.p (G.field T.fld110_0 rfl (show 0 + 0 = 0 from rfl)) rfl ?_
      refine WOps.r (G.load1 T.one99 rfl (cell_blk (S213.blk 3 rfl) rfl)) rfl ?_
      obtain ⟨t220, hc221, hF⟩ := bind_some hF
      have S222 := (S213.front 6 rfl).front 3 rfl
      change St _ _ _ [[(p0_0, .cells #[.int .i64 a0_0.most, .slice A8 a0_0.pairs.length c9] 169 (0, 0))], G10, [(p2, .cells #[.slice A202 l204.length c203, .slice A207 l209.length c208, .slice A38 a2.all.length c39, .int .i64 a2.lists] 114 (0, 0))], [(p0_1, .cells #[.int .i64 a0_1.Most, .slice A19 a0_1.L.length c20] 172 (0, 0))], [(p0, .cells #[.pointer (some ⟨p0_0, 0, none⟩), .pointer (some ⟨p0_1, 0, none⟩), .slice A0_2 a0_2.length c0_2, .slice A0_3 a0_3.length c0_3] 110 (0, 0))], G40, G21, G0_2, G0_3, G205, G210] at S222
      have hP223 : PtR 169 ShK.rp w212 (KS [[(p0_0, .cells #[.int .i64 a0_0.most, .slice A8 a0_0.pairs.length c9] 169 (0, 0))], G10]) p0_0 a0_0 := ⟨_, S222.blk 0 rfl, KS_at 0 rfl (by simp [keys]), ⟨A8, c9, rfl, ((hO11.rd (fun b o hb => S222.grp 1 rfl hb)).mono (fun b hb => KS_at 1 rfl hb))⟩⟩
      refine WOps.call T.call96 (evs_cons rfl evs_nil) rfl ?_
      refine (sk_Keys_calls k214 a0_0 hP223 (St.outN (Bs := []) (As := [[(p0_0, .cells #[.int .i64 a0_0.most, .slice A8 a0_0.pairs.length c9] 169 (0, 0))], G10]) S222) hc221).mono ?_
      rintro _ w224 ⟨A227, c228, G229, rfl, hO230, T225⟩
      have S226 := St.callN (As := []) S222 T225
      change St _ _ _ [G229, [(p0_0, .cells #[.int .i64 a0_0.most, .slice A8 a0_0.pairs.length c9] 169 (0, 0))], G10, [(p2, .cells #[.slice A202 l204.length c203, .slice A207 l209.length c208, .slice A38 a2.all.length c39, .int .i64 a2.lists] 114 (0, 0))], [(p0_1, .cells #[.int .i64 a0_1.Most, .slice A19 a0_1.L.length c20] 172 (0, 0))], [(p0, .cells #[.pointer (some ⟨p0_0, 0, none⟩), .pointer (some ⟨p0_1, 0, none⟩), .slice A0_2 a0_2.length c0_2, .slice A0_3 a0_3.length c0_3] 110 (0, 0))], G40, G21, G0_2, G0_3, G205, G210] at S226
      refine ⟨_, rfl, ?_⟩
      refine WOps.p (G.assign rfl) rfl ?_
      refine WOps.nil ?_
      refine WEx.then_ ?_
      refine WCode.seq ?_
      refine WCode.region ?_
      refine WOps.p (G.move rfl) rfl ?_
      refine WOps.p (G.nilp rfl) rfl ?_
      refine WOps.p (G.field T.fld110_1 rfl (show 0 + 1 = 1 from rfl)) rfl ?_
      refine WOps.r (G.load1 T.one104 rfl (cell_blk (S226.blk 5 rfl) rfl)) rfl ?_
      obtain ⟨t231, hc232, hF⟩ := bind_some hF
      have S233 := (S226.front 7 rfl).front 5 rfl
      change St _ _ _ [[(p0_1, .cells #[.int .i64 a0_1.Most, .slice A19 a0_1.L.length c20] 172 (0, 0))], G21, G229, [(p0_0, .cells #[.int .i64 a0_0.most, .slice A8 a0_0.pairs.length c9] 169 (0, 0))], G10, [(p2, .cells #[.slice A202 l204.length c203, .slice A207 l209.length c208, .slice A38 a2.all.length c39, .int .i64 a2.lists] 114 (0, 0))], [(p0, .cells #[.pointer (some ⟨p0_0, 0, none⟩), .pointer (some ⟨p0_1, 0, none⟩), .slice A0_2 a0_2.length c0_2, .slice A0_3 a0_3.length c0_3] 110 (0, 0))], G40, G0_2, G0_3, G205, G210] at S233
      have hP234 : PtR 172 ShR.rp w224 (KS [[(p0_1, .cells #[.int .i64 a0_1.Most, .slice A19 a0_1.L.length c20] 172 (0, 0))], G21]) p0_1 a0_1 := ⟨_, S233.blk 0 rfl, KS_at 0 rfl (by simp [keys]), ⟨A19, c20, rfl, ((hO22.rd (fun b o hb => S233.grp 1 rfl hb)).mono (fun b hb => KS_at 1 rfl hb))⟩⟩
      refine WOps.call T.call97 (evs_cons rfl evs_nil) rfl ?_
      refine (rk_Keys_calls k214 a0_1 hP234 (St.outN (Bs := []) (As := [[(p0_1, .cells #[.int .i64 a0_1.Most, .slice A19 a0_1.L.length c20] 172 (0, 0))], G21]) S233) hc232).mono ?_
      rintro _ w235 ⟨A238, c239, G240, rfl, hO241, T236⟩
      have S237 := St.callN (As := []) S233 T236
      change St _ _ _ [G240, [(p0_1, .cells #[.int .i64 a0_1.Most, .slice A19 a0_1.L.length c20] 172 (0, 0))], G21, G229, [(p0_0, .cells #[.int .i64 a0_0.most, .slice A8 a0_0.pairs.length c9] 169 (0, 0))], G10, [(p2, .cells #[.slice A202 l204.length c203, .slice A207 l209.length c208, .slice A38 a2.all.length c39, .int .i64 a2.lists] 114 (0, 0))], [(p0, .cells #[.pointer (some ⟨p0_0, 0, none⟩), .pointer (some ⟨p0_1, 0, none⟩), .slice A0_2 a0_2.length c0_2, .slice A0_3 a0_3.length c0_3] 110 (0, 0))], G40, G0_2, G0_3, G205, G210] at S237
      refine ⟨_, rfl, ?_⟩
      refine WOps.p (G.assign rfl) rfl ?_
      refine WOps.nil ?_
      refine WEx.then_ ?_
      refine WCode.forget (l' := [(0, .pointer (some ⟨p0, 0, none⟩)), (2, .pointer (some ⟨p2, 0, none⟩)), (13, .int .i64 x201), (14, .slice A227 (t220).length c228), (15, .slice A238 (t231).length c239)]) ⟨rfl, rfl, rfl, rfl, rfl, trivial⟩ ?_
      refine WCode.seq ?_
      refine WCode.region ?_
      refine WOps.p (G.move rfl) rfl ?_
      refine WOps.p (G.move rfl) rfl ?_
      obtain ⟨t242, hc243, hF⟩ := bind_some hF
      refine WOps.call T.call98 (evs_cons rfl (evs_cons rfl evs_nil)) rfl ?_
      refine (sh_keys_calls k214 (t220) (t231) (hO230.rd (fun b o hb => S237.grp 3 rfl hb)) (St.outG (Bs := []) S237 3 rfl) (hO241.rd (fun b o hb => S237.grp 0 rfl hb)) (St.outG (Bs := []) S237 0 rfl) hc243).mono ?_
      rintro _ w244 ⟨rfl, T245⟩
      have S246 := St.callN (As := []) S237 T245
      change St _ _ _ [G240, [(p0_1, .cells #[.int .i64 a0_1.Most, .slice A19 a0_1.L.length c20] 172 (0, 0))], G21, G229, [(p0_0, .cells #[.int .i64 a0_0.most, .slice A8 a0_0.pairs.length c9] 169 (0, 0))], G10, [(p2, .cells #[.slice A202 l204.length c203, .slice A207 l209.length c208, .slice A38 a2.all.length c39, .int .i64 a2.lists] 114 (0, 0))], [(p0, .cells #[.pointer (some ⟨p0_0, 0, none⟩), .pointer (some ⟨p0_1, 0, none⟩), .slice A0_2 a0_2.length c0_2, .slice A0_3 a0_3.length c0_3] 110 (0, 0))], G40, G0_2, G0_3, G205, G210] at S246
      refine ⟨_, rfl, ?_⟩
      refine WOps.p (G.assign rfl) rfl ?_
      refine WOps.nil ?_
      refine WEx.then_ ?_
      refine WCode.seq ?_
      refine WCode.seq ?_
      refine WCode.region ?_
      refine WOps.p (G.move rfl) rfl ?_
      refine WOps.p (G.not rfl rfl) rfl ?_
      refine WOps.nil ?_
      refine WEx.then_ ?_
      rcases ite_some hF with ⟨h247, hF⟩ | ⟨h247, hF⟩
      ·
       refine WCode.cond_f (kb (b := !t242) rfl (show (!t242) = false from by rw [h247]; rfl)) ?_
       refine WCode.skip ?_
       refine WEx.then_ ?_
       refine WCode.seq ?_
       refine WCode.region ?_
       refine WOps.p (G.move rfl) rfl ?_
       refine WOps.p (G.move rfl) rfl ?_
       refine WOps.p (G.nilp rfl) rfl ?_
       refine WOps.p (G.field T.fld114_0 rfl (show 0 + 0 = 0 from rfl)) rfl ?_
       refine WOps.r (G.load1 T.one112 rfl (cell_blk (S246.blk 6 rfl) rfl)) rfl ?_
       refine WOps.p (G.move rfl) rfl ?_
       obtain ⟨b248, w249, E250, S251, X252, L253⟩ := St.lit S246 (P := Try.prog) (t := 112) (e := 176) (n := 1) (vs := [(0, .slice A227 (t220).length c228)]) (cs := #[.slice A227 (t220).length c228]) (by kernel_rfl)
       change St _ _ _ [[(b248, .cells #[.slice A227 (t220).length c228] 176 (0, 0))], G240, [(p0_1, .cells #[.int .i64 a0_1.Most, .slice A19 a0_1.L.length c20] 172 (0, 0))], G21, G229, [(p0_0, .cells #[.int .i64 a0_0.most, .slice A8 a0_0.pairs.length c9] 169 (0, 0))], G10, [(p2, .cells #[.slice A202 l204.length c203, .slice A207 l209.length c208, .slice A38 a2.all.length c39, .int .i64 a2.lists] 114 (0, 0))], [(p0, .cells #[.pointer (some ⟨p0_0, 0, none⟩), .pointer (some ⟨p0_1, 0, none⟩), .slice A0_2 a0_2.length c0_2, .slice A0_3 a0_3.length c0_3] 110 (0, 0))], G40, G0_2, G0_3, G205, G210] at S251
       refine WOps.e (E250 (evp_cons rfl evp_nil)) rfl ?_
       obtain ⟨l254, hc255, hF⟩ := bind_some hF
       have S256 := (S251.front 4 rfl).front 12 rfl
       change St _ _ _ [G205, G229, [(b248, .cells #[.slice A227 (t220).length c228] 176 (0, 0))], G240, [(p0_1, .cells #[.int .i64 a0_1.Most, .slice A19 a0_1.L.length c20] 172 (0, 0))], G21, [(p0_0, .cells #[.int .i64 a0_0.most, .slice A8 a0_0.pairs.length c9] 169 (0, 0))], G10, [(p2, .cells #[.slice A202 l204.length c203, .slice A207 l209.length c208, .slice A38 a2.all.length c39, .int .i64 a2.lists] 114 (0, 0))], [(p0, .cells #[.pointer (some ⟨p0_0, 0, none⟩), .pointer (some ⟨p0_1, 0, none⟩), .slice A0_2 a0_2.length c0_2, .slice A0_3 a0_3.length c0_3] 110 (0, 0))], G40, G0_2, G0_3, G210] at S256
       have S257 : St _ _ _ [G205, (G229 ++ ([])), [(b248, .cells #[.slice A227 (t220).length c228] 176 (0, 0))], G240, [(p0_1, .cells #[.int .i64 a0_1.Most, .slice A19 a0_1.L.length c20] 172 (0, 0))], G21, [(p0_0, .cells #[.int .i64 a0_0.most, .slice A8 a0_0.pairs.length c9] 169 (0, 0))], G10, [(p2, .cells #[.slice A202 l204.length c203, .slice A207 l209.length c208, .slice A38 a2.all.length c39, .int .i64 a2.lists] 114 (0, 0))], [(p0, .cells #[.pointer (some ⟨p0_0, 0, none⟩), .pointer (some ⟨p0_1, 0, none⟩), .slice A0_2 a0_2.length c0_2, .slice A0_3 a0_3.length c0_3] 110 (0, 0))], G40, G0_2, G0_3, G210] := S256.objs (by simp)
       obtain ⟨A258, c259, G260, w261, E262, hO263, S264, hk265⟩ := St.app (P := Try.prog) (r := (Rp.slice 103 KeyS.rp)) (M := ([(t220)] : List (List KeyS))) S257 T.elt112 rfl hO206 (Rd.of_blk (S257.blk 2 rfl) (n := 1) (sz := 1) rfl) ⟨[.slice A227 (t220).length c228], _, G229, _, rfl, rfl, ⟨_, rfl, hO230⟩, ⟨rfl, rfl⟩⟩ rfl hc255
       change St _ _ _ [G260, [(b248, .cells #[.slice A227 (t220).length c228] 176 (0, 0))], G240, [(p0_1, .cells #[.int .i64 a0_1.Most, .slice A19 a0_1.L.length c20] 172 (0, 0))], G21, [(p0_0, .cells #[.int .i64 a0_0.most, .slice A8 a0_0.pairs.length c9] 169 (0, 0))], G10, [(p2, .cells #[.slice A202 l204.length c203, .slice A207 l209.length c208, .slice A38 a2.all.length c39, .int .i64 a2.lists] 114 (0, 0))], [(p0, .cells #[.pointer (some ⟨p0_0, 0, none⟩), .pointer (some ⟨p0_1, 0, none⟩), .slice A0_2 a0_2.length c0_2, .slice A0_3 a0_3.length c0_3] 110 (0, 0))], G40, G0_2, G0_3, G210] at S264
       refine WOps.e (E262 rfl rfl) rfl ?_
       refine WOps.p (G.nilp rfl) rfl ?_
       refine WOps.p (G.field T.fld114_0 rfl (show 0 + 0 = 0 from rfl)) rfl ?_
       obtain ⟨w266, E267, S268⟩ := St.store (P := Try.prog) S264 7 112 (.slice A258 l254.length c259) (off := 0) (cur' := #[.slice A258 l254.length c259, .slice A207 l209.length c208, .slice A38 a2.all.length c39, .int .i64 a2.lists]) rfl T.size112_1 rfl rfl rfl
       change St _ _ _ [G260, [(b248, .cells #[.slice A227 (t220).length c228] 176 (0, 0))], G240, [(p0_1, .cells #[.int .i64 a0_1.Most, .slice A19 a0_1.L.length c20] 172 (0, 0))], G21, [(p0_0, .cells #[.int .i64 a0_0.most, .slice A8 a0_0.pairs.length c9] 169 (0, 0))], G10, [(p2, .cells #[.slice A258 l254.length c259, .slice A207 l209.length c208, .slice A38 a2.all.length c39, .int .i64 a2.lists] 114 (0, 0))], [(p0, .cells #[.pointer (some ⟨p0_0, 0, none⟩), .pointer (some ⟨p0_1, 0, none⟩), .slice A0_2 a0_2.length c0_2, .slice A0_3 a0_3.length c0_3] 110 (0, 0))], G40, G0_2, G0_3, G210] at S268
       refine WOps.u (E267 rfl rfl) ?_
       refine WOps.nil ?_
       refine WEx.then_ ?_
       refine WCode.forget (l' := [(0, .pointer (some ⟨p0, 0, none⟩)), (2, .pointer (some ⟨p2, 0, none⟩)), (13, .int .i64 x201), (15, .slice A238 (t231).length c239)]) ⟨rfl, rfl, rfl, rfl, trivial⟩ ?_
       refine WCode.region ?_
       refine WOps.p (G.move rfl) rfl ?_
       refine WOps.p (G.move rfl) rfl ?_
       refine WOps.p (G.nilp rfl) rfl ?_
       refine WOps.p (G.field T.fld114_1 rfl (show 0 + 1 = 1 from rfl)) rfl ?_
       refine WOps.r (G.load1 T.one112 rfl (cell_blk (S268.blk 7 rfl) rfl)) rfl ?_
       refine WOps.p (G.move rfl) rfl ?_
       obtain ⟨b269, w270, E271, S272, X273, L274⟩ := St.lit S268 (P := Try.prog) (t := 112) (e := 176) (n := 1) (vs := [(0, .slice A238 (t231).length c239)]) (cs := #[.slice A238 (t231).length c239]) (by kernel_rfl)
       change St _ _ _ [[(b269, .cells #[.slice A238 (t231).length c239] 176 (0, 0))], G260, [(b248, .cells #[.slice A227 (t220).length c228] 176 (0, 0))], G240, [(p0_1, .cells #[.int .i64 a0_1.Most, .slice A19 a0_1.L.length c20] 172 (0, 0))], G21, [(p0_0, .cells #[.int .i64 a0_0.most, .slice A8 a0_0.pairs.length c9] 169 (0, 0))], G10, [(p2, .cells #[.slice A258 l254.length c259, .slice A207 l209.length c208, .slice A38 a2.all.length c39, .int .i64 a2.lists] 114 (0, 0))], [(p0, .cells #[.pointer (some ⟨p0_0, 0, none⟩), .pointer (some ⟨p0_1, 0, none⟩), .slice A0_2 a0_2.length c0_2, .slice A0_3 a0_3.length c0_3] 110 (0, 0))], G40, G0_2, G0_3, G210] at S272
       refine WOps.e (E271 (evp_cons rfl evp_nil)) rfl ?_
       obtain ⟨l275, hc276, hF⟩ := bind_some hF
       have S277 := (S272.front 3 rfl).front 13 rfl
       change St _ _ _ [G210, G240, [(b269, .cells #[.slice A238 (t231).length c239] 176 (0, 0))], G260, [(b248, .cells #[.slice A227 (t220).length c228] 176 (0, 0))], [(p0_1, .cells #[.int .i64 a0_1.Most, .slice A19 a0_1.L.length c20] 172 (0, 0))], G21, [(p0_0, .cells #[.int .i64 a0_0.most, .slice A8 a0_0.pairs.length c9] 169 (0, 0))], G10, [(p2, .cells #[.slice A258 l254.length c259, .slice A207 l209.length c208, .slice A38 a2.all.length c39, .int .i64 a2.lists] 114 (0, 0))], [(p0, .cells #[.pointer (some ⟨p0_0, 0, none⟩), .pointer (some ⟨p0_1, 0, none⟩), .slice A0_2 a0_2.length c0_2, .slice A0_3 a0_3.length c0_3] 110 (0, 0))], G40, G0_2, G0_3] at S277
       have S278 : St _ _ _ [G210, (G240 ++ ([])), [(b269, .cells #[.slice A238 (t231).length c239] 176 (0, 0))], G260, [(b248, .cells #[.slice A227 (t220).length c228] 176 (0, 0))], [(p0_1, .cells #[.int .i64 a0_1.Most, .slice A19 a0_1.L.length c20] 172 (0, 0))], G21, [(p0_0, .cells #[.int .i64 a0_0.most, .slice A8 a0_0.pairs.length c9] 169 (0, 0))], G10, [(p2, .cells #[.slice A258 l254.length c259, .slice A207 l209.length c208, .slice A38 a2.all.length c39, .int .i64 a2.lists] 114 (0, 0))], [(p0, .cells #[.pointer (some ⟨p0_0, 0, none⟩), .pointer (some ⟨p0_1, 0, none⟩), .slice A0_2 a0_2.length c0_2, .slice A0_3 a0_3.length c0_3] 110 (0, 0))], G40, G0_2, G0_3] := S277.objs (by simp)
       obtain ⟨A279, c280, G281, w282, E283, hO284, S285, hk286⟩ := St.app (P := Try.prog) (r := (Rp.slice 103 KeyS.rp)) (M := ([(t231)] : List (List KeyS))) S278 T.elt112 rfl hO211 (Rd.of_blk (S278.blk 2 rfl) (n := 1) (sz := 1) rfl) ⟨[.slice A238 (t231).length c239], _, G240, _, rfl, rfl, ⟨_, rfl, hO241⟩, ⟨rfl, rfl⟩⟩ rfl hc276
       change St _ _ _ [G281, [(b269, .cells #[.slice A238 (t231).length c239] 176 (0, 0))], G260, [(b248, .cells #[.slice A227 (t220).length c228] 176 (0, 0))], [(p0_1, .cells #[.int .i64 a0_1.Most, .slice A19 a0_1.L.length c20] 172 (0, 0))], G21, [(p0_0, .cells #[.int .i64 a0_0.most, .slice A8 a0_0.pairs.length c9] 169 (0, 0))], G10, [(p2, .cells #[.slice A258 l254.length c259, .slice A207 l209.length c208, .slice A38 a2.all.length c39, .int .i64 a2.lists] 114 (0, 0))], [(p0, .cells #[.pointer (some ⟨p0_0, 0, none⟩), .pointer (some ⟨p0_1, 0, none⟩), .slice A0_2 a0_2.length c0_2, .slice A0_3 a0_3.length c0_3] 110 (0, 0))], G40, G0_2, G0_3] at S285
       refine WOps.e (E283 rfl rfl) rfl ?_
       refine WOps.p (G.nilp rfl) rfl ?_
       refine WOps.p (G.field T.fld114_1 rfl (show 0 + 1 = 1 from rfl)) rfl ?_
       obtain ⟨w287, E288, S289⟩ := St.store (P := Try.prog) S285 8 112 (.slice A279 l275.length c280) (off := 1) (cur' := #[.slice A258 l254.length c259, .slice A279 l275.length c280, .slice A38 a2.all.length c39, .int .i64 a2.lists]) rfl T.size112_1 rfl rfl rfl
       change St _ _ _ [G281, [(b269, .cells #[.slice A238 (t231).length c239] 176 (0, 0))], G260, [(b248, .cells #[.slice A227 (t220).length c228] 176 (0, 0))], [(p0_1, .cells #[.int .i64 a0_1.Most, .slice A19 a0_1.L.length c20] 172 (0, 0))], G21, [(p0_0, .cells #[.int .i64 a0_0.most, .slice A8 a0_0.pairs.length c9] 169 (0, 0))], G10, [(p2, .cells #[.slice A258 l254.length c259, .slice A279 l275.length c280, .slice A38 a2.all.length c39, .int .i64 a2.lists] 114 (0, 0))], [(p0, .cells #[.pointer (some ⟨p0_0, 0, none⟩), .pointer (some ⟨p0_1, 0, none⟩), .slice A0_2 a0_2.length c0_2, .slice A0_3 a0_3.length c0_3] 110 (0, 0))], G40, G0_2, G0_3] at S289
       refine WOps.u (E288 rfl rfl) ?_
       refine WOps.nil ?_
       refine WEx.in_normal ?_
       refine WEx.then_ ?_
       refine WCode.forget (l' := [(0, .pointer (some ⟨p0, 0, none⟩)), (2, .pointer (some ⟨p2, 0, none⟩)), (13, .int .i64 x201)]) ⟨rfl, rfl, rfl, trivial⟩ ?_
       refine WCode.region ?_
       refine WOps.p (G.move rfl) rfl ?_
       refine WOps.p (G.add rfl rfl (r := (w64 (x201 + 1))) rfl) rfl ?_
       refine WOps.p (G.assign rfl) rfl ?_
       refine WOps.nil ?_
       have S290 : St _ _ _ [[(p2, .cells #[.slice A258 l254.length c259, .slice A279 l275.length c280, .slice A38 a2.all.length c39, .int .i64 a2.lists] 114 (0, 0))], [(p0_1, .cells #[.int .i64 a0_1.Most, .slice A19 a0_1.L.length c20] 172 (0, 0))], [(p0_0, .cells #[.int .i64 a0_0.most, .slice A8 a0_0.pairs.length c9] 169 (0, 0))], [(p0, .cells #[.pointer (some ⟨p0_0, 0, none⟩), .pointer (some ⟨p0_1, 0, none⟩), .slice A0_2 a0_2.length c0_2, .slice A0_3 a0_3.length c0_3] 110 (0, 0))], G40, G21, G10, G0_2, G0_3, G260, G281, [(b269, .cells #[.slice A238 (t231).length c239] 176 (0, 0))], [(b248, .cells #[.slice A227 (t220).length c228] 176 (0, 0))]] := St.reord S289 [8, 4, 6, 9, 10, 5, 7, 11, 12, 2, 0, 1, 3] 13 rfl (by decide) rfl
       have S291 := St.keep (As := [[(p2, .cells #[.slice A258 l254.length c259, .slice A279 l275.length c280, .slice A38 a2.all.length c39, .int .i64 a2.lists] 114 (0, 0))], [(p0_1, .cells #[.int .i64 a0_1.Most, .slice A19 a0_1.L.length c20] 172 (0, 0))], [(p0_0, .cells #[.int .i64 a0_0.most, .slice A8 a0_0.pairs.length c9] 169 (0, 0))], [(p0, .cells #[.pointer (some ⟨p0_0, 0, none⟩), .pointer (some ⟨p0_1, 0, none⟩), .slice A0_2 a0_2.length c0_2, .slice A0_3 a0_3.length c0_3] 110 (0, 0))], G40, G21, G10, G0_2, G0_3, G260, G281]) S290
       refine WEx.again _ _ (by omega) ?_ ⟨w64 (x201 + 1), A258, c259, l254, G260, A279, c280, l275, G281, rfl, hF, hO263, hO284, S291⟩
       exact ⟨rfl, rfl, rfl, trivial⟩
      ·
       refine WCode.cond_t (kb (b := !t242) rfl (show (!t242) = true from by rw [(Bool.eq_false_iff.2 h247)]; rfl)) ?_
       refine WCode.seq ?_
       refine WCode.region ?_
       refine WOps.p (G.assign rfl) rfl ?_
       refine WOps.nil ?_
       refine WEx.then_ ?_
       refine WCode.forget (l' := [(6, .bool false)]) ⟨rfl, trivial⟩ ?_
       refine WCode.ret ?_
       refine WEx.then_ret ?_
       refine WEx.in_ret ?_
       refine WEx.then_ret ?_
       refine WEx.then_ret ?_
       refine WEx.in_ret ?_
       refine WEx.in_ret ?_
       refine WEx.then_ret ?_
       obtain rfl := some_eq hF
       refine WEx.ret1 rfl rfl ?_
       have S292 : St _ _ _ [[(p2, .cells #[.slice A202 l204.length c203, .slice A207 l209.length c208, .slice A38 a2.all.length c39, .int .i64 a2.lists] 114 (0, 0))], G205, G210, G40, G240, [(p0_1, .cells #[.int .i64 a0_1.Most, .slice A19 a0_1.L.length c20] 172 (0, 0))], G21, G229, [(p0_0, .cells #[.int .i64 a0_0.most, .slice A8 a0_0.pairs.length c9] 169 (0, 0))], G10, [(p0, .cells #[.pointer (some ⟨p0_0, 0, none⟩), .pointer (some ⟨p0_1, 0, none⟩), .slice A0_2 a0_2.length c0_2, .slice A0_3 a0_3.length c0_3] 110 (0, 0))], G0_2, G0_3] := St.reord S246 [6, 11, 12, 8, 0, 1, 2, 3, 4, 5, 7, 9, 10] 13 rfl (by decide) rfl
       have hO293 : ObjO 114 BookS.rp p2 (⟨l204, l209, a2.all, a2.lists⟩ : BookS) ([(p2, .cells #[.slice A202 l204.length c203, .slice A207 l209.length c208, .slice A38 a2.all.length c39, .int .i64 a2.lists] 114 (0, 0))] ++ (G205 ++ (G210 ++ (G40)))) := ⟨_, _, ⟨A202, c203, G205, A207, c208, G210, A38, c39, G40, rfl, hO206, hO211, hO41, rfl⟩, rfl⟩
       have S294 : St _ _ _ [[(p2, .cells #[.slice A202 l204.length c203, .slice A207 l209.length c208, .slice A38 a2.all.length c39, .int .i64 a2.lists] 114 (0, 0))] ++ (G205 ++ (G210 ++ (G40))), G240, [(p0_1, .cells #[.int .i64 a0_1.Most, .slice A19 a0_1.L.length c20] 172 (0, 0))], G21, G229, [(p0_0, .cells #[.int .i64 a0_0.most, .slice A8 a0_0.pairs.length c9] 169 (0, 0))], G10, [(p0, .cells #[.pointer (some ⟨p0_0, 0, none⟩), .pointer (some ⟨p0_1, 0, none⟩), .slice A0_2 a0_2.length c0_2, .slice A0_3 a0_3.length c0_3] 110 (0, 0))], G0_2, G0_3] := S292.objs (by simp)
       have S295 := (S294.front 6 rfl).front 6 rfl
       change St _ _ _ [[(p0_0, .cells #[.int .i64 a0_0.most, .slice A8 a0_0.pairs.length c9] 169 (0, 0))], G10, [(p2, .cells #[.slice A202 l204.length c203, .slice A207 l209.length c208, .slice A38 a2.all.length c39, .int .i64 a2.lists] 114 (0, 0))] ++ (G205 ++ (G210 ++ (G40))), G240, [(p0_1, .cells #[.int .i64 a0_1.Most, .slice A19 a0_1.L.length c20] 172 (0, 0))], G21, G229, [(p0, .cells #[.pointer (some ⟨p0_0, 0, none⟩), .pointer (some ⟨p0_1, 0, none⟩), .slice A0_2 a0_2.length c0_2, .slice A0_3 a0_3.length c0_3] 110 (0, 0))], G0_2, G0_3] at S295
       have hO296 : ObjO 169 ShK.rp p0_0 a0_0 ([(p0_0, .cells #[.int .i64 a0_0.most, .slice A8 a0_0.pairs.length c9] 169 (0, 0))] ++ (G10)) := ⟨_, _, ⟨A8, c9, G10, rfl, hO11, rfl⟩, rfl⟩
       have S297 : St _ _ _ [[(p0_0, .cells #[.int .i64 a0_0.most, .slice A8 a0_0.pairs.length c9] 169 (0, 0))] ++ (G10), [(p2, .cells #[.slice A202 l204.length c203, .slice A207 l209.length c208, .slice A38 a2.all.length c39, .int .i64 a2.lists] 114 (0, 0))] ++ (G205 ++ (G210 ++ (G40))), G240, [(p0_1, .cells #[.int .i64 a0_1.Most, .slice A19 a0_1.L.length c20] 172 (0, 0))], G21, G229, [(p0, .cells #[.pointer (some ⟨p0_0, 0, none⟩), .pointer (some ⟨p0_1, 0, none⟩), .slice A0_2 a0_2.length c0_2, .slice A0_3 a0_3.length c0_3] 110 (0, 0))], G0_2, G0_3] := S295.objs (by simp)
       have S298 := (S297.front 4 rfl).front 4 rfl
       change St _ _ _ [[(p0_1, .cells #[.int .i64 a0_1.Most, .slice A19 a0_1.L.length c20] 172 (0, 0))], G21, [(p0_0, .cells #[.int .i64 a0_0.most, .slice A8 a0_0.pairs.length c9] 169 (0, 0))] ++ (G10), [(p2, .cells #[.slice A202 l204.length c203, .slice A207 l209.length c208, .slice A38 a2.all.length c39, .int .i64 a2.lists] 114 (0, 0))] ++ (G205 ++ (G210 ++ (G40))), G240, G229, [(p0, .cells #[.pointer (some ⟨p0_0, 0, none⟩), .pointer (some ⟨p0_1, 0, none⟩), .slice A0_2 a0_2.length c0_2, .slice A0_3 a0_3.length c0_3] 110 (0, 0))], G0_2, G0_3] at S298
       have hO299 : ObjO 172 ShR.rp p0_1 a0_1 ([(p0_1, .cells #[.int .i64 a0_1.Most, .slice A19 a0_1.L.length c20] 172 (0, 0))] ++ (G21)) := ⟨_, _, ⟨A19, c20, G21, rfl, hO22, rfl⟩, rfl⟩
       have S300 : St _ _ _ [[(p0_1, .cells #[.int .i64 a0_1.Most, .slice A19 a0_1.L.length c20] 172 (0, 0))] ++ (G21), [(p0_0, .cells #[.int .i64 a0_0.most, .slice A8 a0_0.pairs.length c9] 169 (0, 0))] ++ (G10), [(p2, .cells #[.slice A202 l204.length c203, .slice A207 l209.length c208, .slice A38 a2.all.length c39, .int .i64 a2.lists] 114 (0, 0))] ++ (G205 ++ (G210 ++ (G40))), G240, G229, [(p0, .cells #[.pointer (some ⟨p0_0, 0, none⟩), .pointer (some ⟨p0_1, 0, none⟩), .slice A0_2 a0_2.length c0_2, .slice A0_3 a0_3.length c0_3] 110 (0, 0))], G0_2, G0_3] := S298.objs (by simp)
       have S301 : St _ _ _ [[(p2, .cells #[.slice A202 l204.length c203, .slice A207 l209.length c208, .slice A38 a2.all.length c39, .int .i64 a2.lists] 114 (0, 0))] ++ (G205 ++ (G210 ++ (G40))), [(p0, .cells #[.pointer (some ⟨p0_0, 0, none⟩), .pointer (some ⟨p0_1, 0, none⟩), .slice A0_2 a0_2.length c0_2, .slice A0_3 a0_3.length c0_3] 110 (0, 0))], [(p0_0, .cells #[.int .i64 a0_0.most, .slice A8 a0_0.pairs.length c9] 169 (0, 0))] ++ (G10), [(p0_1, .cells #[.int .i64 a0_1.Most, .slice A19 a0_1.L.length c20] 172 (0, 0))] ++ (G21), G0_2, G0_3, G240, G229] := St.reord S300 [2, 5, 1, 0, 6, 7, 3, 4] 8 rfl (by decide) rfl
       exact ⟨[(p2, .cells #[.slice A202 l204.length c203, .slice A207 l209.length c208, .slice A38 a2.all.length c39, .int .i64 a2.lists] 114 (0, 0))] ++ (G205 ++ (G210 ++ (G40))), [(p0_0, .cells #[.int .i64 a0_0.most, .slice A8 a0_0.pairs.length c9] 169 (0, 0))] ++ (G10), [(p0_1, .cells #[.int .i64 a0_1.Most, .slice A19 a0_1.L.length c20] 172 (0, 0))] ++ (G21), A0_2, c0_2, G0_2, A0_3, c0_3, G0_3, rfl, hO293, hO296, hO299, hO0_2, hO0_3, St.keep (As := [[(p2, .cells #[.slice A202 l204.length c203, .slice A207 l209.length c208, .slice A38 a2.all.length c39, .int .i64 a2.lists] 114 (0, 0))] ++ (G205 ++ (G210 ++ (G40))), [(p0, .cells #[.pointer (some ⟨p0_0, 0, none⟩), .pointer (some ⟨p0_1, 0, none⟩), .slice A0_2 a0_2.length c0_2, .slice A0_3 a0_3.length c0_3] 110 (0, 0))], [(p0_0, .cells #[.int .i64 a0_0.most, .slice A8 a0_0.pairs.length c9] 169 (0, 0))] ++ (G10), [(p0_1, .cells #[.int .i64 a0_1.Most, .slice A19 a0_1.L.length c20] 172 (0, 0))] ++ (G21), G0_2, G0_3]) S301⟩
     ·
      refine WCode.cond_f (kb (b := decide (x201 < 2)) rfl (decide_eq_false h219)) ?_
      refine WCode.exit ?_
      refine WEx.then_exit ?_
      refine WEx.then_exit ?_
      refine WEx.in_exit ?_
      refine WEx.in_normal ?_
      refine WEx.then_ ?_
      refine WCode.seq ?_
      refine WCode.region ?_
      refine WOps.p (G.assign rfl) rfl ?_
      refine WOps.nil ?_
      refine WEx.then_ ?_
      refine WCode.ret ?_
      obtain rfl := some_eq hF
      refine WEx.ret1 rfl rfl ?_
      have S302 : St _ _ _ [[(p2, .cells #[.slice A202 l204.length c203, .slice A207 l209.length c208, .slice A38 a2.all.length c39, .int .i64 a2.lists] 114 (0, 0))], G205, G210, G40, [(p0_1, .cells #[.int .i64 a0_1.Most, .slice A19 a0_1.L.length c20] 172 (0, 0))], [(p0_0, .cells #[.int .i64 a0_0.most, .slice A8 a0_0.pairs.length c9] 169 (0, 0))], [(p0, .cells #[.pointer (some ⟨p0_0, 0, none⟩), .pointer (some ⟨p0_1, 0, none⟩), .slice A0_2 a0_2.length c0_2, .slice A0_3 a0_3.length c0_3] 110 (0, 0))], G21, G10, G0_2, G0_3] := St.reord S213 [0, 9, 10, 4, 1, 2, 3, 5, 6, 7, 8] 11 rfl (by decide) rfl
      have hO303 : ObjO 114 BookS.rp p2 (⟨l204, l209, a2.all, a2.lists⟩ : BookS) ([(p2, .cells #[.slice A202 l204.length c203, .slice A207 l209.length c208, .slice A38 a2.all.length c39, .int .i64 a2.lists] 114 (0, 0))] ++ (G205 ++ (G210 ++ (G40)))) := ⟨_, _, ⟨A202, c203, G205, A207, c208, G210, A38, c39, G40, rfl, hO206, hO211, hO41, rfl⟩, rfl⟩
      have S304 : St _ _ _ [[(p2, .cells #[.slice A202 l204.length c203, .slice A207 l209.length c208, .slice A38 a2.all.length c39, .int .i64 a2.lists] 114 (0, 0))] ++ (G205 ++ (G210 ++ (G40))), [(p0_1, .cells #[.int .i64 a0_1.Most, .slice A19 a0_1.L.length c20] 172 (0, 0))], [(p0_0, .cells #[.int .i64 a0_0.most, .slice A8 a0_0.pairs.length c9] 169 (0, 0))], [(p0, .cells #[.pointer (some ⟨p0_0, 0, none⟩), .pointer (some ⟨p0_1, 0, none⟩), .slice A0_2 a0_2.length c0_2, .slice A0_3 a0_3.length c0_3] 110 (0, 0))], G21, G10, G0_2, G0_3] := S302.objs (by simp)
      have S305 := (S304.front 5 rfl).front 3 rfl
      change St _ _ _ [[(p0_0, .cells #[.int .i64 a0_0.most, .slice A8 a0_0.pairs.length c9] 169 (0, 0))], G10, [(p2, .cells #[.slice A202 l204.length c203, .slice A207 l209.length c208, .slice A38 a2.all.length c39, .int .i64 a2.lists] 114 (0, 0))] ++ (G205 ++ (G210 ++ (G40))), [(p0_1, .cells #[.int .i64 a0_1.Most, .slice A19 a0_1.L.length c20] 172 (0, 0))], [(p0, .cells #[.pointer (some ⟨p0_0, 0, none⟩), .pointer (some ⟨p0_1, 0, none⟩), .slice A0_2 a0_2.length c0_2, .slice A0_3 a0_3.length c0_3] 110 (0, 0))], G21, G0_2, G0_3] at S305
      have hO306 : ObjO 169 ShK.rp p0_0 a0_0 ([(p0_0, .cells #[.int .i64 a0_0.most, .slice A8 a0_0.pairs.length c9] 169 (0, 0))] ++ (G10)) := ⟨_, _, ⟨A8, c9, G10, rfl, hO11, rfl⟩, rfl⟩
      have S307 : St _ _ _ [[(p0_0, .cells #[.int .i64 a0_0.most, .slice A8 a0_0.pairs.length c9] 169 (0, 0))] ++ (G10), [(p2, .cells #[.slice A202 l204.length c203, .slice A207 l209.length c208, .slice A38 a2.all.length c39, .int .i64 a2.lists] 114 (0, 0))] ++ (G205 ++ (G210 ++ (G40))), [(p0_1, .cells #[.int .i64 a0_1.Most, .slice A19 a0_1.L.length c20] 172 (0, 0))], [(p0, .cells #[.pointer (some ⟨p0_0, 0, none⟩), .pointer (some ⟨p0_1, 0, none⟩), .slice A0_2 a0_2.length c0_2, .slice A0_3 a0_3.length c0_3] 110 (0, 0))], G21, G0_2, G0_3] := S305.objs (by simp)
      have S308 := (S307.front 4 rfl).front 3 rfl
      change St _ _ _ [[(p0_1, .cells #[.int .i64 a0_1.Most, .slice A19 a0_1.L.length c20] 172 (0, 0))], G21, [(p0_0, .cells #[.int .i64 a0_0.most, .slice A8 a0_0.pairs.length c9] 169 (0, 0))] ++ (G10), [(p2, .cells #[.slice A202 l204.length c203, .slice A207 l209.length c208, .slice A38 a2.all.length c39, .int .i64 a2.lists] 114 (0, 0))] ++ (G205 ++ (G210 ++ (G40))), [(p0, .cells #[.pointer (some ⟨p0_0, 0, none⟩), .pointer (some ⟨p0_1, 0, none⟩), .slice A0_2 a0_2.length c0_2, .slice A0_3 a0_3.length c0_3] 110 (0, 0))], G0_2, G0_3] at S308
      have hO309 : ObjO 172 ShR.rp p0_1 a0_1 ([(p0_1, .cells #[.int .i64 a0_1.Most, .slice A19 a0_1.L.length c20] 172 (0, 0))] ++ (G21)) := ⟨_, _, ⟨A19, c20, G21, rfl, hO22, rfl⟩, rfl⟩
      have S310 : St _ _ _ [[(p0_1, .cells #[.int .i64 a0_1.Most, .slice A19 a0_1.L.length c20] 172 (0, 0))] ++ (G21), [(p0_0, .cells #[.int .i64 a0_0.most, .slice A8 a0_0.pairs.length c9] 169 (0, 0))] ++ (G10), [(p2, .cells #[.slice A202 l204.length c203, .slice A207 l209.length c208, .slice A38 a2.all.length c39, .int .i64 a2.lists] 114 (0, 0))] ++ (G205 ++ (G210 ++ (G40))), [(p0, .cells #[.pointer (some ⟨p0_0, 0, none⟩), .pointer (some ⟨p0_1, 0, none⟩), .slice A0_2 a0_2.length c0_2, .slice A0_3 a0_3.length c0_3] 110 (0, 0))], G0_2, G0_3] := S308.objs (by simp)
      have S311 : St _ _ _ [[(p2, .cells #[.slice A202 l204.length c203, .slice A207 l209.length c208, .slice A38 a2.all.length c39, .int .i64 a2.lists] 114 (0, 0))] ++ (G205 ++ (G210 ++ (G40))), [(p0, .cells #[.pointer (some ⟨p0_0, 0, none⟩), .pointer (some ⟨p0_1, 0, none⟩), .slice A0_2 a0_2.length c0_2, .slice A0_3 a0_3.length c0_3] 110 (0, 0))], [(p0_0, .cells #[.int .i64 a0_0.most, .slice A8 a0_0.pairs.length c9] 169 (0, 0))] ++ (G10), [(p0_1, .cells #[.int .i64 a0_1.Most, .slice A19 a0_1.L.length c20] 172 (0, 0))] ++ (G21), G0_2, G0_3] := St.reord S310 [2, 3, 1, 0, 4, 5] 6 rfl (by decide) rfl
      exact ⟨[(p2, .cells #[.slice A202 l204.length c203, .slice A207 l209.length c208, .slice A38 a2.all.length c39, .int .i64 a2.lists] 114 (0, 0))] ++ (G205 ++ (G210 ++ (G40))), [(p0_0, .cells #[.int .i64 a0_0.most, .slice A8 a0_0.pairs.length c9] 169 (0, 0))] ++ (G10), [(p0_1, .cells #[.int .i64 a0_1.Most, .slice A19 a0_1.L.length c20] 172 (0, 0))] ++ (G21), A0_2, c0_2, G0_2, A0_3, c0_3, G0_3, rfl, hO303, hO306, hO309, hO0_2, hO0_3, St.keep (As := [[(p2, .cells #[.slice A202 l204.length c203, .slice A207 l209.length c208, .slice A38 a2.all.length c39, .int .i64 a2.lists] 114 (0, 0))] ++ (G205 ++ (G210 ++ (G40))), [(p0, .cells #[.pointer (some ⟨p0_0, 0, none⟩), .pointer (some ⟨p0_1, 0, none⟩), .slice A0_2 a0_2.length c0_2, .slice A0_3 a0_3.length c0_3] 110 (0, 0))], [(p0_0, .cells #[.int .i64 a0_0.most, .slice A8 a0_0.pairs.length c9] 169 (0, 0))] ++ (G10), [(p0_1, .cells #[.int .i64 a0_1.Most, .slice A19 a0_1.L.length c20] 172 (0, 0))] ++ (G21), G0_2, G0_3]) S311⟩
    ·
     refine WCode.cond_f (kb (b := decide (a1.Kind = 4)) rfl (decide_eq_false h200)) ?_
     refine WCode.seq ?_
     refine WCode.region ?_
     refine WOps.p (G.eql rfl rfl rfl) rfl ?_
     refine WOps.p (G.assign rfl) rfl ?_
     refine WOps.nil ?_
     refine WEx.then_ ?_
     rcases ite_some hF with ⟨h312, hF⟩ | ⟨h312, hF⟩
     ·
      refine WCode.cond_t (kb (b := decide (a1.Kind = 5)) rfl (decide_eq_true h312)) ?_
      refine WCode.seq ?_
      refine WCode.region ?_
      refine WOps.p (G.move rfl) rfl ?_
      refine WOps.r (G.loada T.agg116_7 rfl (cs := [.int .i64 a1.Kind, .int .i64 a1.On, .string (bs a1.K.S), .int .i64 a1.K.N, .int .i64 a1.V, .int .i64 a1.N, .int .i64 a1.M]) (cellsAt.of_blk (S47.blk 0 rfl) rfl)) rfl ?_
      have S313 := (S47.front 8 rfl).front 8 rfl
      change St _ _ _ [[(p0_0, .cells #[.int .i64 a0_0.most, .slice A8 a0_0.pairs.length c9] 169 (0, 0))], G10, [(b44, .cells #[.int .i64 a1.Kind, .int .i64 a1.On, .string (bs a1.K.S), .int .i64 a1.K.N, .int .i64 a1.V, .int .i64 a1.N, .int .i64 a1.M] 116 (0, 0))], [(p2, .cells #[.slice A30 a2.free.length c31, .slice A34 a2.want.length c35, .slice A38 a2.all.length c39, .int .i64 a2.lists] 114 (0, 0))], G32, G36, G40, [(p0_1, .cells #[.int .i64 a0_1.Most, .slice A19 a0_1.L.length c20] 172 (0, 0))], G21, [(p0, .cells #[.pointer (some ⟨p0_0, 0, none⟩), .pointer (some ⟨p0_1, 0, none⟩), .slice A0_2 a0_2.length c0_2, .slice A0_3 a0_3.length c0_3] 110 (0, 0))], G0_2, G0_3] at S313
      have hO314 : ObjO 169 ShK.rp p0_0 a0_0 ([(p0_0, .cells #[.int .i64 a0_0.most, .slice A8 a0_0.pairs.length c9] 169 (0, 0))] ++ (G10)) := ⟨_, _, ⟨A8, c9, G10, rfl, hO11, rfl⟩, rfl⟩
      have S315 : St _ _ _ [[(p0_0, .cells #[.int .i64 a0_0.most, .slice A8 a0_0.pairs.length c9] 169 (0, 0))] ++ (G10), [(b44, .cells #[.int .i64 a1.Kind, .int .i64 a1.On, .string (bs a1.K.S), .int .i64 a1.K.N, .int .i64 a1.V, .int .i64 a1.N, .int .i64 a1.M] 116 (0, 0))], [(p2, .cells #[.slice A30 a2.free.length c31, .slice A34 a2.want.length c35, .slice A38 a2.all.length c39, .int .i64 a2.lists] 114 (0, 0))], G32, G36, G40, [(p0_1, .cells #[.int .i64 a0_1.Most, .slice A19 a0_1.L.length c20] 172 (0, 0))], G21, [(p0, .cells #[.pointer (some ⟨p0_0, 0, none⟩), .pointer (some ⟨p0_1, 0, none⟩), .slice A0_2 a0_2.length c0_2, .slice A0_3 a0_3.length c0_3] 110 (0, 0))], G0_2, G0_3] := S313.objs (by simp)
      have S316 := (S315.front 7 rfl).front 7 rfl
      change St _ _ _ [[(p0_1, .cells #[.int .i64 a0_1.Most, .slice A19 a0_1.L.length c20] 172 (0, 0))], G21, [(p0_0, .cells #[.int .i64 a0_0.most, .slice A8 a0_0.pairs.length c9] 169 (0, 0))] ++ (G10), [(b44, .cells #[.int .i64 a1.Kind, .int .i64 a1.On, .string (bs a1.K.S), .int .i64 a1.K.N, .int .i64 a1.V, .int .i64 a1.N, .int .i64 a1.M] 116 (0, 0))], [(p2, .cells #[.slice A30 a2.free.length c31, .slice A34 a2.want.length c35, .slice A38 a2.all.length c39, .int .i64 a2.lists] 114 (0, 0))], G32, G36, G40, [(p0, .cells #[.pointer (some ⟨p0_0, 0, none⟩), .pointer (some ⟨p0_1, 0, none⟩), .slice A0_2 a0_2.length c0_2, .slice A0_3 a0_3.length c0_3] 110 (0, 0))], G0_2, G0_3] at S316
      have hO317 : ObjO 172 ShR.rp p0_1 a0_1 ([(p0_1, .cells #[.int .i64 a0_1.Most, .slice A19 a0_1.L.length c20] 172 (0, 0))] ++ (G21)) := ⟨_, _, ⟨A19, c20, G21, rfl, hO22, rfl⟩, rfl⟩
      have S318 : St _ _ _ [[(p0_1, .cells #[.int .i64 a0_1.Most, .slice A19 a0_1.L.length c20] 172 (0, 0))] ++ (G21), [(p0_0, .cells #[.int .i64 a0_0.most, .slice A8 a0_0.pairs.length c9] 169 (0, 0))] ++ (G10), [(b44, .cells #[.int .i64 a1.Kind, .int .i64 a1.On, .string (bs a1.K.S), .int .i64 a1.K.N, .int .i64 a1.V, .int .i64 a1.N, .int .i64 a1.M] 116 (0, 0))], [(p2, .cells #[.slice A30 a2.free.length c31, .slice A34 a2.want.length c35, .slice A38 a2.all.length c39, .int .i64 a2.lists] 114 (0, 0))], G32, G36, G40, [(p0, .cells #[.pointer (some ⟨p0_0, 0, none⟩), .pointer (some ⟨p0_1, 0, none⟩), .slice A0_2 a0_2.length c0_2, .slice A0_3 a0_3.length c0_3] 110 (0, 0))], G0_2, G0_3] := S316.objs (by simp)
      obtain ⟨t319, hc320, hF⟩ := bind_some hF
      have S321 : St _ _ _ [[(p0, .cells #[.pointer (some ⟨p0_0, 0, none⟩), .pointer (some ⟨p0_1, 0, none⟩), .slice A0_2 a0_2.length c0_2, .slice A0_3 a0_3.length c0_3] 110 (0, 0))], [(p0_0, .cells #[.int .i64 a0_0.most, .slice A8 a0_0.pairs.length c9] 169 (0, 0))] ++ (G10), [(p0_1, .cells #[.int .i64 a0_1.Most, .slice A19 a0_1.L.length c20] 172 (0, 0))] ++ (G21), G0_2, G0_3, [(b44, .cells #[.int .i64 a1.Kind, .int .i64 a1.On, .string (bs a1.K.S), .int .i64 a1.K.N, .int .i64 a1.V, .int .i64 a1.N, .int .i64 a1.M] 116 (0, 0))], [(p2, .cells #[.slice A30 a2.free.length c31, .slice A34 a2.want.length c35, .slice A38 a2.all.length c39, .int .i64 a2.lists] 114 (0, 0))], G32, G36, G40] := St.reord S318 [7, 1, 0, 8, 9, 2, 3, 4, 5, 6] 10 rfl (by decide) rfl
      refine WOps.call T.call99 (evs_cons rfl (evs_cons rfl evs_nil)) rfl ?_
      refine (sd_prunes_calls k a0_0 a0_1 a0_2 a0_3 a1 hO314 hO317 hO0_2 hO0_3 hc320 (St.hpN (As := [[(p0, .cells #[.pointer (some ⟨p0_0, 0, none⟩), .pointer (some ⟨p0_1, 0, none⟩), .slice A0_2 a0_2.length c0_2, .slice A0_3 a0_3.length c0_3] 110 (0, 0))], [(p0_0, .cells #[.int .i64 a0_0.most, .slice A8 a0_0.pairs.length c9] 169 (0, 0))] ++ (G10), [(p0_1, .cells #[.int .i64 a0_1.Most, .slice A19 a0_1.L.length c20] 172 (0, 0))] ++ (G21), G0_2, G0_3]) S321)).mono ?_
      rintro _ w322 ⟨G325, G327, A329, c330, G331, A333, c334, G335, rfl, hO326, hO328, hO332, hO336, T323⟩
      have S324 := St.callN (As := [[(p0, .cells #[.pointer (some ⟨p0_0, 0, none⟩), .pointer (some ⟨p0_1, 0, none⟩), .slice A0_2 a0_2.length c0_2, .slice A0_3 a0_3.length c0_3] 110 (0, 0))], [(p0_0, .cells #[.int .i64 a0_0.most, .slice A8 a0_0.pairs.length c9] 169 (0, 0))] ++ (G10), [(p0_1, .cells #[.int .i64 a0_1.Most, .slice A19 a0_1.L.length c20] 172 (0, 0))] ++ (G21), G0_2, G0_3]) S321 T323
      change St _ _ _ [[(p0, .cells #[.pointer (some ⟨p0_0, 0, none⟩), .pointer (some ⟨p0_1, 0, none⟩), .slice A329 (t319.2.2.2.1).length c330, .slice A333 (t319.2.2.2.2).length c334] 110 (0, 0))], G325, G327, G331, G335, [(b44, .cells #[.int .i64 a1.Kind, .int .i64 a1.On, .string (bs a1.K.S), .int .i64 a1.K.N, .int .i64 a1.V, .int .i64 a1.N, .int .i64 a1.M] 116 (0, 0))], [(p2, .cells #[.slice A30 a2.free.length c31, .slice A34 a2.want.length c35, .slice A38 a2.all.length c39, .int .i64 a2.lists] 114 (0, 0))], G32, G36, G40] at S324
      refine ⟨_, rfl, ?_⟩
      have S337 := S324.front 1 rfl
      change St _ _ _ [G325, [(p0, .cells #[.pointer (some ⟨p0_0, 0, none⟩), .pointer (some ⟨p0_1, 0, none⟩), .slice A329 (t319.2.2.2.1).length c330, .slice A333 (t319.2.2.2.2).length c334] 110 (0, 0))], G327, G331, G335, [(b44, .cells #[.int .i64 a1.Kind, .int .i64 a1.On, .string (bs a1.K.S), .int .i64 a1.K.N, .int .i64 a1.V, .int .i64 a1.N, .int .i64 a1.M] 116 (0, 0))], [(p2, .cells #[.slice A30 a2.free.length c31, .slice A34 a2.want.length c35, .slice A38 a2.all.length c39, .int .i64 a2.lists] 114 (0, 0))], G32, G36, G40] at S337
      obtain ⟨cs338, G339, ho340, hg341⟩ := hO326
      obtain ⟨A342, c343, G344, rfl, hO345, hq346⟩ := ho340
      have S347 : St _ _ _ [[(p0_0, .cells #[.int .i64 t319.2.1.most, .slice A342 t319.2.1.pairs.length c343] 169 (0, 0))], G344, [(p0, .cells #[.pointer (some ⟨p0_0, 0, none⟩), .pointer (some ⟨p0_1, 0, none⟩), .slice A329 (t319.2.2.2.1).length c330, .slice A333 (t319.2.2.2.2).length c334] 110 (0, 0))], G327, G331, G335, [(b44, .cells #[.int .i64 a1.Kind, .int .i64 a1.On, .string (bs a1.K.S), .int .i64 a1.K.N, .int .i64 a1.V, .int .i64 a1.N, .int .i64 a1.M] 116 (0, 0))], [(p2, .cells #[.slice A30 a2.free.length c31, .slice A34 a2.want.length c35, .slice A38 a2.all.length c39, .int .i64 a2.lists] 114 (0, 0))], G32, G36, G40] := S337.objs (by rw [hg341, hq346]; simp)
      have S348 := S347.front 3 rfl
      change St _ _ _ [G327, [(p0_0, .cells #[.int .i64 t319.2.1.most, .slice A342 t319.2.1.pairs.length c343] 169 (0, 0))], G344, [(p0, .cells #[.pointer (some ⟨p0_0, 0, none⟩), .pointer (some ⟨p0_1, 0, none⟩), .slice A329 (t319.2.2.2.1).length c330, .slice A333 (t319.2.2.2.2).length c334] 110 (0, 0))], G331, G335, [(b44, .cells #[.int .i64 a1.Kind, .int .i64 a1.On, .string (bs a1.K.S), .int .i64 a1.K.N, .int .i64 a1.V, .int .i64 a1.N, .int .i64 a1.M] 116 (0, 0))], [(p2, .cells #[.slice A30 a2.free.length c31, .slice A34 a2.want.length c35, .slice A38 a2.all.length c39, .int .i64 a2.lists] 114 (0, 0))], G32, G36, G40] at S348
      obtain ⟨cs349, G350, ho351, hg352⟩ := hO328
      obtain ⟨A353, c354, G355, rfl, hO356, hq357⟩ := ho351
      have S358 : St _ _ _ [[(p0_1, .cells #[.int .i64 t319.2.2.1.Most, .slice A353 t319.2.2.1.L.length c354] 172 (0, 0))], G355, [(p0_0, .cells #[.int .i64 t319.2.1.most, .slice A342 t319.2.1.pairs.length c343] 169 (0, 0))], G344, [(p0, .cells #[.pointer (some ⟨p0_0, 0, none⟩), .pointer (some ⟨p0_1, 0, none⟩), .slice A329 (t319.2.2.2.1).length c330, .slice A333 (t319.2.2.2.2).length c334] 110 (0, 0))], G331, G335, [(b44, .cells #[.int .i64 a1.Kind, .int .i64 a1.On, .string (bs a1.K.S), .int .i64 a1.K.N, .int .i64 a1.V, .int .i64 a1.N, .int .i64 a1.M] 116 (0, 0))], [(p2, .cells #[.slice A30 a2.free.length c31, .slice A34 a2.want.length c35, .slice A38 a2.all.length c39, .int .i64 a2.lists] 114 (0, 0))], G32, G36, G40] := S348.objs (by rw [hg352, hq357]; simp)
      refine WOps.p (G.assign rfl) rfl ?_
      refine WOps.nil ?_
      refine WEx.then_ ?_
      refine WCode.forget (l' := [(6, .bool t319.1)]) ⟨rfl, trivial⟩ ?_
      refine WCode.ret ?_
      refine WEx.in_ret ?_
      refine WEx.then_ret ?_
      obtain rfl := some_eq hF
      refine WEx.ret1 rfl rfl ?_
      have S359 : St _ _ _ [[(p2, .cells #[.slice A30 a2.free.length c31, .slice A34 a2.want.length c35, .slice A38 a2.all.length c39, .int .i64 a2.lists] 114 (0, 0))], G32, G36, G40, [(p0_1, .cells #[.int .i64 t319.2.2.1.Most, .slice A353 t319.2.2.1.L.length c354] 172 (0, 0))], G355, [(p0_0, .cells #[.int .i64 t319.2.1.most, .slice A342 t319.2.1.pairs.length c343] 169 (0, 0))], G344, [(p0, .cells #[.pointer (some ⟨p0_0, 0, none⟩), .pointer (some ⟨p0_1, 0, none⟩), .slice A329 (t319.2.2.2.1).length c330, .slice A333 (t319.2.2.2.2).length c334] 110 (0, 0))], G331, G335, [(b44, .cells #[.int .i64 a1.Kind, .int .i64 a1.On, .string (bs a1.K.S), .int .i64 a1.K.N, .int .i64 a1.V, .int .i64 a1.N, .int .i64 a1.M] 116 (0, 0))]] := St.reord S358 [8, 9, 10, 11, 0, 1, 2, 3, 4, 5, 6, 7] 12 rfl (by decide) rfl
      have hO360 : ObjO 114 BookS.rp p2 a2 ([(p2, .cells #[.slice A30 a2.free.length c31, .slice A34 a2.want.length c35, .slice A38 a2.all.length c39, .int .i64 a2.lists] 114 (0, 0))] ++ (G32 ++ (G36 ++ (G40)))) := ⟨_, _, ⟨A30, c31, G32, A34, c35, G36, A38, c39, G40, rfl, hO33, hO37, hO41, rfl⟩, rfl⟩
      have S361 : St _ _ _ [[(p2, .cells #[.slice A30 a2.free.length c31, .slice A34 a2.want.length c35, .slice A38 a2.all.length c39, .int .i64 a2.lists] 114 (0, 0))] ++ (G32 ++ (G36 ++ (G40))), [(p0_1, .cells #[.int .i64 t319.2.2.1.Most, .slice A353 t319.2.2.1.L.length c354] 172 (0, 0))], G355, [(p0_0, .cells #[.int .i64 t319.2.1.most, .slice A342 t319.2.1.pairs.length c343] 169 (0, 0))], G344, [(p0, .cells #[.pointer (some ⟨p0_0, 0, none⟩), .pointer (some ⟨p0_1, 0, none⟩), .slice A329 (t319.2.2.2.1).length c330, .slice A333 (t319.2.2.2.2).length c334] 110 (0, 0))], G331, G335, [(b44, .cells #[.int .i64 a1.Kind, .int .i64 a1.On, .string (bs a1.K.S), .int .i64 a1.K.N, .int .i64 a1.V, .int .i64 a1.N, .int .i64 a1.M] 116 (0, 0))]] := S359.objs (by simp)
      have S362 := (S361.front 4 rfl).front 4 rfl
      change St _ _ _ [[(p0_0, .cells #[.int .i64 t319.2.1.most, .slice A342 t319.2.1.pairs.length c343] 169 (0, 0))], G344, [(p2, .cells #[.slice A30 a2.free.length c31, .slice A34 a2.want.length c35, .slice A38 a2.all.length c39, .int .i64 a2.lists] 114 (0, 0))] ++ (G32 ++ (G36 ++ (G40))), [(p0_1, .cells #[.int .i64 t319.2.2.1.Most, .slice A353 t319.2.2.1.L.length c354] 172 (0, 0))], G355, [(p0, .cells #[.pointer (some ⟨p0_0, 0, none⟩), .pointer (some ⟨p0_1, 0, none⟩), .slice A329 (t319.2.2.2.1).length c330, .slice A333 (t319.2.2.2.2).length c334] 110 (0, 0))], G331, G335, [(b44, .cells #[.int .i64 a1.Kind, .int .i64 a1.On, .string (bs a1.K.S), .int .i64 a1.K.N, .int .i64 a1.V, .int .i64 a1.N, .int .i64 a1.M] 116 (0, 0))]] at S362
      have hO363 : ObjO 169 ShK.rp p0_0 t319.2.1 ([(p0_0, .cells #[.int .i64 t319.2.1.most, .slice A342 t319.2.1.pairs.length c343] 169 (0, 0))] ++ (G344)) := ⟨_, _, ⟨A342, c343, G344, rfl, hO345, rfl⟩, rfl⟩
      have S364 : St _ _ _ [[(p0_0, .cells #[.int .i64 t319.2.1.most, .slice A342 t319.2.1.pairs.length c343] 169 (0, 0))] ++ (G344), [(p2, .cells #[.slice A30 a2.free.length c31, .slice A34 a2.want.length c35, .slice A38 a2.all.length c39, .int .i64 a2.lists] 114 (0, 0))] ++ (G32 ++ (G36 ++ (G40))), [(p0_1, .cells #[.int .i64 t319.2.2.1.Most, .slice A353 t319.2.2.1.L.length c354] 172 (0, 0))], G355, [(p0, .cells #[.pointer (some ⟨p0_0, 0, none⟩), .pointer (some ⟨p0_1, 0, none⟩), .slice A329 (t319.2.2.2.1).length c330, .slice A333 (t319.2.2.2.2).length c334] 110 (0, 0))], G331, G335, [(b44, .cells #[.int .i64 a1.Kind, .int .i64 a1.On, .string (bs a1.K.S), .int .i64 a1.K.N, .int .i64 a1.V, .int .i64 a1.N, .int .i64 a1.M] 116 (0, 0))]] := S362.objs (by simp)
      have S365 := (S364.front 3 rfl).front 3 rfl
      change St _ _ _ [[(p0_1, .cells #[.int .i64 t319.2.2.1.Most, .slice A353 t319.2.2.1.L.length c354] 172 (0, 0))], G355, [(p0_0, .cells #[.int .i64 t319.2.1.most, .slice A342 t319.2.1.pairs.length c343] 169 (0, 0))] ++ (G344), [(p2, .cells #[.slice A30 a2.free.length c31, .slice A34 a2.want.length c35, .slice A38 a2.all.length c39, .int .i64 a2.lists] 114 (0, 0))] ++ (G32 ++ (G36 ++ (G40))), [(p0, .cells #[.pointer (some ⟨p0_0, 0, none⟩), .pointer (some ⟨p0_1, 0, none⟩), .slice A329 (t319.2.2.2.1).length c330, .slice A333 (t319.2.2.2.2).length c334] 110 (0, 0))], G331, G335, [(b44, .cells #[.int .i64 a1.Kind, .int .i64 a1.On, .string (bs a1.K.S), .int .i64 a1.K.N, .int .i64 a1.V, .int .i64 a1.N, .int .i64 a1.M] 116 (0, 0))]] at S365
      have hO366 : ObjO 172 ShR.rp p0_1 t319.2.2.1 ([(p0_1, .cells #[.int .i64 t319.2.2.1.Most, .slice A353 t319.2.2.1.L.length c354] 172 (0, 0))] ++ (G355)) := ⟨_, _, ⟨A353, c354, G355, rfl, hO356, rfl⟩, rfl⟩
      have S367 : St _ _ _ [[(p0_1, .cells #[.int .i64 t319.2.2.1.Most, .slice A353 t319.2.2.1.L.length c354] 172 (0, 0))] ++ (G355), [(p0_0, .cells #[.int .i64 t319.2.1.most, .slice A342 t319.2.1.pairs.length c343] 169 (0, 0))] ++ (G344), [(p2, .cells #[.slice A30 a2.free.length c31, .slice A34 a2.want.length c35, .slice A38 a2.all.length c39, .int .i64 a2.lists] 114 (0, 0))] ++ (G32 ++ (G36 ++ (G40))), [(p0, .cells #[.pointer (some ⟨p0_0, 0, none⟩), .pointer (some ⟨p0_1, 0, none⟩), .slice A329 (t319.2.2.2.1).length c330, .slice A333 (t319.2.2.2.2).length c334] 110 (0, 0))], G331, G335, [(b44, .cells #[.int .i64 a1.Kind, .int .i64 a1.On, .string (bs a1.K.S), .int .i64 a1.K.N, .int .i64 a1.V, .int .i64 a1.N, .int .i64 a1.M] 116 (0, 0))]] := S365.objs (by simp)
      have S368 : St _ _ _ [[(p2, .cells #[.slice A30 a2.free.length c31, .slice A34 a2.want.length c35, .slice A38 a2.all.length c39, .int .i64 a2.lists] 114 (0, 0))] ++ (G32 ++ (G36 ++ (G40))), [(p0, .cells #[.pointer (some ⟨p0_0, 0, none⟩), .pointer (some ⟨p0_1, 0, none⟩), .slice A329 (t319.2.2.2.1).length c330, .slice A333 (t319.2.2.2.2).length c334] 110 (0, 0))], [(p0_0, .cells #[.int .i64 t319.2.1.most, .slice A342 t319.2.1.pairs.length c343] 169 (0, 0))] ++ (G344), [(p0_1, .cells #[.int .i64 t319.2.2.1.Most, .slice A353 t319.2.2.1.L.length c354] 172 (0, 0))] ++ (G355), G331, G335, [(b44, .cells #[.int .i64 a1.Kind, .int .i64 a1.On, .string (bs a1.K.S), .int .i64 a1.K.N, .int .i64 a1.V, .int .i64 a1.N, .int .i64 a1.M] 116 (0, 0))]] := St.reord S367 [2, 3, 1, 0, 4, 5, 6] 7 rfl (by decide) rfl
      exact ⟨[(p2, .cells #[.slice A30 a2.free.length c31, .slice A34 a2.want.length c35, .slice A38 a2.all.length c39, .int .i64 a2.lists] 114 (0, 0))] ++ (G32 ++ (G36 ++ (G40))), [(p0_0, .cells #[.int .i64 t319.2.1.most, .slice A342 t319.2.1.pairs.length c343] 169 (0, 0))] ++ (G344), [(p0_1, .cells #[.int .i64 t319.2.2.1.Most, .slice A353 t319.2.2.1.L.length c354] 172 (0, 0))] ++ (G355), A329, c330, G331, A333, c334, G335, rfl, hO360, hO363, hO366, hO332, hO336, St.keep (As := [[(p2, .cells #[.slice A30 a2.free.length c31, .slice A34 a2.want.length c35, .slice A38 a2.all.length c39, .int .i64 a2.lists] 114 (0, 0))] ++ (G32 ++ (G36 ++ (G40))), [(p0, .cells #[.pointer (some ⟨p0_0, 0, none⟩), .pointer (some ⟨p0_1, 0, none⟩), .slice A329 (t319.2.2.2.1).length c330, .slice A333 (t319.2.2.2.2).length c334] 110 (0, 0))], [(p0_0, .cells #[.int .i64 t319.2.1.most, .slice A342 t319.2.1.pairs.length c343] 169 (0, 0))] ++ (G344), [(p0_1, .cells #[.int .i64 t319.2.2.1.Most, .slice A353 t319.2.2.1.L.length c354] 172 (0, 0))] ++ (G355), G331, G335]) S368⟩
     ·
      refine WCode.cond_f (kb (b := decide (a1.Kind = 5)) rfl (decide_eq_false h312)) ?_
      refine WCode.skip ?_
      refine WEx.in_normal ?_
      refine WEx.then_ ?_
      refine WCode.seq ?_
      refine WCode.region ?_
      refine WOps.p (G.assign rfl) rfl ?_
      refine WOps.nil ?_
      refine WEx.then_ ?_
      refine WCode.ret ?_
      obtain rfl := some_eq hF
      refine WEx.ret1 rfl rfl ?_
      have S369 : St _ _ _ [[(p2, .cells #[.slice A30 a2.free.length c31, .slice A34 a2.want.length c35, .slice A38 a2.all.length c39, .int .i64 a2.lists] 114 (0, 0))], G32, G36, G40, [(b44, .cells #[.int .i64 a1.Kind, .int .i64 a1.On, .string (bs a1.K.S), .int .i64 a1.K.N, .int .i64 a1.V, .int .i64 a1.N, .int .i64 a1.M] 116 (0, 0))], [(p0_1, .cells #[.int .i64 a0_1.Most, .slice A19 a0_1.L.length c20] 172 (0, 0))], G21, [(p0_0, .cells #[.int .i64 a0_0.most, .slice A8 a0_0.pairs.length c9] 169 (0, 0))], G10, [(p0, .cells #[.pointer (some ⟨p0_0, 0, none⟩), .pointer (some ⟨p0_1, 0, none⟩), .slice A0_2 a0_2.length c0_2, .slice A0_3 a0_3.length c0_3] 110 (0, 0))], G0_2, G0_3] := St.reord S47 [1, 2, 3, 4, 0, 5, 6, 7, 8, 9, 10, 11] 12 rfl (by decide) rfl
      have hO370 : ObjO 114 BookS.rp p2 a2 ([(p2, .cells #[.slice A30 a2.free.length c31, .slice A34 a2.want.length c35, .slice A38 a2.all.length c39, .int .i64 a2.lists] 114 (0, 0))] ++ (G32 ++ (G36 ++ (G40)))) := ⟨_, _, ⟨A30, c31, G32, A34, c35, G36, A38, c39, G40, rfl, hO33, hO37, hO41, rfl⟩, rfl⟩
      have S371 : St _ _ _ [[(p2, .cells #[.slice A30 a2.free.length c31, .slice A34 a2.want.length c35, .slice A38 a2.all.length c39, .int .i64 a2.lists] 114 (0, 0))] ++ (G32 ++ (G36 ++ (G40))), [(b44, .cells #[.int .i64 a1.Kind, .int .i64 a1.On, .string (bs a1.K.S), .int .i64 a1.K.N, .int .i64 a1.V, .int .i64 a1.N, .int .i64 a1.M] 116 (0, 0))], [(p0_1, .cells #[.int .i64 a0_1.Most, .slice A19 a0_1.L.length c20] 172 (0, 0))], G21, [(p0_0, .cells #[.int .i64 a0_0.most, .slice A8 a0_0.pairs.length c9] 169 (0, 0))], G10, [(p0, .cells #[.pointer (some ⟨p0_0, 0, none⟩), .pointer (some ⟨p0_1, 0, none⟩), .slice A0_2 a0_2.length c0_2, .slice A0_3 a0_3.length c0_3] 110 (0, 0))], G0_2, G0_3] := S369.objs (by simp)
      have S372 := (S371.front 5 rfl).front 5 rfl
      change St _ _ _ [[(p0_0, .cells #[.int .i64 a0_0.most, .slice A8 a0_0.pairs.length c9] 169 (0, 0))], G10, [(p2, .cells #[.slice A30 a2.free.length c31, .slice A34 a2.want.length c35, .slice A38 a2.all.length c39, .int .i64 a2.lists] 114 (0, 0))] ++ (G32 ++ (G36 ++ (G40))), [(b44, .cells #[.int .i64 a1.Kind, .int .i64 a1.On, .string (bs a1.K.S), .int .i64 a1.K.N, .int .i64 a1.V, .int .i64 a1.N, .int .i64 a1.M] 116 (0, 0))], [(p0_1, .cells #[.int .i64 a0_1.Most, .slice A19 a0_1.L.length c20] 172 (0, 0))], G21, [(p0, .cells #[.pointer (some ⟨p0_0, 0, none⟩), .pointer (some ⟨p0_1, 0, none⟩), .slice A0_2 a0_2.length c0_2, .slice A0_3 a0_3.length c0_3] 110 (0, 0))], G0_2, G0_3] at S372
      have hO373 : ObjO 169 ShK.rp p0_0 a0_0 ([(p0_0, .cells #[.int .i64 a0_0.most, .slice A8 a0_0.pairs.length c9] 169 (0, 0))] ++ (G10)) := ⟨_, _, ⟨A8, c9, G10, rfl, hO11, rfl⟩, rfl⟩
      have S374 : St _ _ _ [[(p0_0, .cells #[.int .i64 a0_0.most, .slice A8 a0_0.pairs.length c9] 169 (0, 0))] ++ (G10), [(p2, .cells #[.slice A30 a2.free.length c31, .slice A34 a2.want.length c35, .slice A38 a2.all.length c39, .int .i64 a2.lists] 114 (0, 0))] ++ (G32 ++ (G36 ++ (G40))), [(b44, .cells #[.int .i64 a1.Kind, .int .i64 a1.On, .string (bs a1.K.S), .int .i64 a1.K.N, .int .i64 a1.V, .int .i64 a1.N, .int .i64 a1.M] 116 (0, 0))], [(p0_1, .cells #[.int .i64 a0_1.Most, .slice A19 a0_1.L.length c20] 172 (0, 0))], G21, [(p0, .cells #[.pointer (some ⟨p0_0, 0, none⟩), .pointer (some ⟨p0_1, 0, none⟩), .slice A0_2 a0_2.length c0_2, .slice A0_3 a0_3.length c0_3] 110 (0, 0))], G0_2, G0_3] := S372.objs (by simp)
      have S375 := (S374.front 4 rfl).front 4 rfl
      change St _ _ _ [[(p0_1, .cells #[.int .i64 a0_1.Most, .slice A19 a0_1.L.length c20] 172 (0, 0))], G21, [(p0_0, .cells #[.int .i64 a0_0.most, .slice A8 a0_0.pairs.length c9] 169 (0, 0))] ++ (G10), [(p2, .cells #[.slice A30 a2.free.length c31, .slice A34 a2.want.length c35, .slice A38 a2.all.length c39, .int .i64 a2.lists] 114 (0, 0))] ++ (G32 ++ (G36 ++ (G40))), [(b44, .cells #[.int .i64 a1.Kind, .int .i64 a1.On, .string (bs a1.K.S), .int .i64 a1.K.N, .int .i64 a1.V, .int .i64 a1.N, .int .i64 a1.M] 116 (0, 0))], [(p0, .cells #[.pointer (some ⟨p0_0, 0, none⟩), .pointer (some ⟨p0_1, 0, none⟩), .slice A0_2 a0_2.length c0_2, .slice A0_3 a0_3.length c0_3] 110 (0, 0))], G0_2, G0_3] at S375
      have hO376 : ObjO 172 ShR.rp p0_1 a0_1 ([(p0_1, .cells #[.int .i64 a0_1.Most, .slice A19 a0_1.L.length c20] 172 (0, 0))] ++ (G21)) := ⟨_, _, ⟨A19, c20, G21, rfl, hO22, rfl⟩, rfl⟩
      have S377 : St _ _ _ [[(p0_1, .cells #[.int .i64 a0_1.Most, .slice A19 a0_1.L.length c20] 172 (0, 0))] ++ (G21), [(p0_0, .cells #[.int .i64 a0_0.most, .slice A8 a0_0.pairs.length c9] 169 (0, 0))] ++ (G10), [(p2, .cells #[.slice A30 a2.free.length c31, .slice A34 a2.want.length c35, .slice A38 a2.all.length c39, .int .i64 a2.lists] 114 (0, 0))] ++ (G32 ++ (G36 ++ (G40))), [(b44, .cells #[.int .i64 a1.Kind, .int .i64 a1.On, .string (bs a1.K.S), .int .i64 a1.K.N, .int .i64 a1.V, .int .i64 a1.N, .int .i64 a1.M] 116 (0, 0))], [(p0, .cells #[.pointer (some ⟨p0_0, 0, none⟩), .pointer (some ⟨p0_1, 0, none⟩), .slice A0_2 a0_2.length c0_2, .slice A0_3 a0_3.length c0_3] 110 (0, 0))], G0_2, G0_3] := S375.objs (by simp)
      have S378 : St _ _ _ [[(p2, .cells #[.slice A30 a2.free.length c31, .slice A34 a2.want.length c35, .slice A38 a2.all.length c39, .int .i64 a2.lists] 114 (0, 0))] ++ (G32 ++ (G36 ++ (G40))), [(p0, .cells #[.pointer (some ⟨p0_0, 0, none⟩), .pointer (some ⟨p0_1, 0, none⟩), .slice A0_2 a0_2.length c0_2, .slice A0_3 a0_3.length c0_3] 110 (0, 0))], [(p0_0, .cells #[.int .i64 a0_0.most, .slice A8 a0_0.pairs.length c9] 169 (0, 0))] ++ (G10), [(p0_1, .cells #[.int .i64 a0_1.Most, .slice A19 a0_1.L.length c20] 172 (0, 0))] ++ (G21), G0_2, G0_3, [(b44, .cells #[.int .i64 a1.Kind, .int .i64 a1.On, .string (bs a1.K.S), .int .i64 a1.K.N, .int .i64 a1.V, .int .i64 a1.N, .int .i64 a1.M] 116 (0, 0))]] := St.reord S377 [2, 4, 1, 0, 5, 6, 3] 7 rfl (by decide) rfl
      exact ⟨[(p2, .cells #[.slice A30 a2.free.length c31, .slice A34 a2.want.length c35, .slice A38 a2.all.length c39, .int .i64 a2.lists] 114 (0, 0))] ++ (G32 ++ (G36 ++ (G40))), [(p0_0, .cells #[.int .i64 a0_0.most, .slice A8 a0_0.pairs.length c9] 169 (0, 0))] ++ (G10), [(p0_1, .cells #[.int .i64 a0_1.Most, .slice A19 a0_1.L.length c20] 172 (0, 0))] ++ (G21), A0_2, c0_2, G0_2, A0_3, c0_3, G0_3, rfl, hO370, hO373, hO376, hO0_2, hO0_3, St.keep (As := [[(p2, .cells #[.slice A30 a2.free.length c31, .slice A34 a2.want.length c35, .slice A38 a2.all.length c39, .int .i64 a2.lists] 114 (0, 0))] ++ (G32 ++ (G36 ++ (G40))), [(p0, .cells #[.pointer (some ⟨p0_0, 0, none⟩), .pointer (some ⟨p0_1, 0, none⟩), .slice A0_2 a0_2.length c0_2, .slice A0_3 a0_3.length c0_3] 110 (0, 0))], [(p0_0, .cells #[.int .i64 a0_0.most, .slice A8 a0_0.pairs.length c9] 169 (0, 0))] ++ (G10), [(p0_1, .cells #[.int .i64 a0_1.Most, .slice A19 a0_1.L.length c20] 172 (0, 0))] ++ (G21), G0_2, G0_3]) S378⟩

def sd_alike.l1 : Nat → Side → ShR → ShK → (List KeyS) → Int → Option (Bool × Side)
  | 0, _, _, _, _, _ => none
  | k122 + 1, a0, x22, x40, t57, x119 => (if x119 < ((t57).length : Int) then (Option.bind (idx (t57) x119) fun x128 => (Option.bind (sk_Get k122 x40 x128) fun t142 => (Option.bind (idx (t57) x119) fun x151 => (Option.bind (rk_Get k122 x22 x151) fun t165 => (if t142.1 = t165.1 then (if (t142.2 == t165.2) = true then (sd_alike.l1 k122 a0 x22 x40 t57 (w64 (x119 + 1))) else (some (false, (⟨(some x40), (some x22), a0.asked, a0.was⟩ : Side)))) else (some (false, (⟨(some x40), (some x22), a0.asked, a0.was⟩ : Side)))))))) else (some (true, (⟨(some x40), (some x22), a0.asked, a0.was⟩ : Side))))
def sd_alike.j1 (q86 : Nat) (a0 : Side) (x22 : ShR) (x40 : ShK) (t57 : (List KeyS)) (b83 : Bool) : Option (Bool × Side) := (if b83 = true then (some (false, (⟨(some x40), (some x22), a0.asked, a0.was⟩ : Side))) else (sd_alike.l1 q86 a0 x22 x40 t57 0))
def sd_alike (k : Nat) (a0 : Side) : Option (Bool × Side) := (if (a0.r).isSome = true then (Option.bind (a0.r) fun x22 => (if (a0.s).isSome = true then (Option.bind (a0.s) fun x40 => (Option.bind (sk_Keys k x40) fun t57 => (Option.bind (rk_Keys k x22) fun t67 => (Option.bind (sh_keys k (t57) (t67)) fun t78 => (if t78 = true then (Option.bind (sk_Len k x40) fun t91 => (Option.bind (rk_Len k x22) fun t98 => (sd_alike.j1 k a0 x22 x40 t57 (!(decide (t91 = t98)))))) else (sd_alike.j1 k a0 x22 x40 t57 true)))))) else none)) else (some (true, (⟨a0.s, none, a0.asked, a0.was⟩ : Side))))
set_option maxRecDepth 100000 in
set_option maxHeartbeats 1000000 in
theorem sd_alike_calls (k : Nat) (a0 : Side) {p0 : Nat} {G0 : Grp} {w : World} (hO0 : ObjO 110 Side.rp p0 a0 G0) {r_ : Bool × Side} (h_ : sd_alike k a0 = some r_) (hp_ : Hp w ([G0]).flatten) :
    Calls Try.prog 57 [.pointer (some ⟨p0, 0, none⟩)].toArray w fun e w' => ∃ Go0' : Grp, e = .returned (.bool r_.1) ∧ ObjO 110 Side.rp p0 (r_.2) Go0' ∧ St w (KS [G0]) w' [Go0'] := by
 have hF := h_
 clear h_
 unfold sd_alike at hF
 have S := St.initK [G0] hp_
 obtain ⟨cs1, G2, ho3, hg4⟩ := hO0
 obtain ⟨v5, G6, v8, G9, A11, c12, G13, A15, c16, G17, rfl, hO7, hO10, hO14, hO18, hq19⟩ := ho3
 have S20 : St _ _ _ [[(p0, .cells #[v5, v8, .slice A11 a0.asked.length c12, .slice A15 a0.was.length c16] 110 (0, 0))], G6, G9, G13, G17] := S.objs (by rw [hg4, hq19]; simp)
 refine enter 80 [(0, .pointer (some ⟨p0, 0, none⟩))] Try.func57 rfl rfl rfl rfl ?_
 refine WCode.seq ?_
 refine WCode.region ?_
 refine WOps.p (G.assign rfl) rfl ?_
 refine WOps.nil ?_
 refine WEx.then_ ?_
 refine WCode.seq ?_
 refine WCode.seq ?_
 refine WCode.region ?_
 refine WOps.p (G.move rfl) rfl ?_
 refine WOps.p (G.nilp rfl) rfl ?_
 refine WOps.p (G.field T.fld110_1 rfl (show 0 + 1 = 1 from rfl)) rfl ?_
 refine WOps.r (G.load1 T.one104 rfl (cell_blk (S20.blk 0 rfl) rfl)) rfl ?_
 rcases ite_some hF with ⟨h21, hF⟩ | ⟨h21, hF⟩
 ·
  obtain ⟨x22, hc23, hF⟩ := bind_some hF
  have ho24 := hO10
  rw [hc23] at ho24
  obtain ⟨p25, hv26, hO27⟩ := ho24
  subst hv26
  have S28 := S20.front 2 rfl
  change St _ _ _ [G9, [(p0, .cells #[v5, .pointer (some ⟨p25, 0, none⟩), .slice A11 a0.asked.length c12, .slice A15 a0.was.length c16] 110 (0, 0))], G6, G13, G17] at S28
  obtain ⟨cs29, G30, ho31, hg32⟩ := hO27
  obtain ⟨A33, c34, G35, rfl, hO36, hq37⟩ := ho31
  have S38 : St _ _ _ [[(p25, .cells #[.int .i64 x22.Most, .slice A33 x22.L.length c34] 172 (0, 0))], G35, [(p0, .cells #[v5, .pointer (some ⟨p25, 0, none⟩), .slice A11 a0.asked.length c12, .slice A15 a0.was.length c16] 110 (0, 0))], G6, G13, G17] := S28.objs (by rw [hg32, hq37]; simp)
  refine WOps.p (G.eqp_nil Try.underlying104 rfl rfl rfl) rfl ?_
  refine WOps.nil ?_
  refine WEx.then_ ?_
  refine WCode.cond_f rfl ?_
  refine WCode.skip ?_
  refine WEx.then_ ?_
  refine WCode.seq ?_
  refine WCode.region ?_
  refine WOps.p (G.move rfl) rfl ?_
  refine WOps.p (G.nilp rfl) rfl ?_
  refine WOps.p (G.field T.fld110_0 rfl (show 0 + 0 = 0 from rfl)) rfl ?_
  refine WOps.r (G.load1 T.one99 rfl (cell_blk (S38.blk 2 rfl) rfl)) rfl ?_
  rcases ite_some hF with ⟨h39, hF⟩ | ⟨h39, hF⟩
  ·
   obtain ⟨x40, hc41, hF⟩ := bind_some hF
   have ho42 := hO7
   rw [hc41] at ho42
   obtain ⟨p43, hv44, hO45⟩ := ho42
   subst hv44
   have S46 := S38.front 3 rfl
   change St _ _ _ [G6, [(p25, .cells #[.int .i64 x22.Most, .slice A33 x22.L.length c34] 172 (0, 0))], G35, [(p0, .cells #[.pointer (some ⟨p43, 0, none⟩), .pointer (some ⟨p25, 0, none⟩), .slice A11 a0.asked.length c12, .slice A15 a0.was.length c16] 110 (0, 0))], G13, G17] at S46
   obtain ⟨cs47, G48, ho49, hg50⟩ := hO45
   obtain ⟨A51, c52, G53, rfl, hO54, hq55⟩ := ho49
   have S56 : St _ _ _ [[(p43, .cells #[.int .i64 x40.most, .slice A51 x40.pairs.length c52] 169 (0, 0))], G53, [(p25, .cells #[.int .i64 x22.Most, .slice A33 x22.L.length c34] 172 (0, 0))], G35, [(p0, .cells #[.pointer (some ⟨p43, 0, none⟩), .pointer (some ⟨p25, 0, none⟩), .slice A11 a0.asked.length c12, .slice A15 a0.was.length c16] 110 (0, 0))], G13, G17] := S46.objs (by rw [hg50, hq55]; simp)
   obtain ⟨t57, hc58, hF⟩ := bind_some hF
   have hP59 : PtR 169 ShK.rp w (KS [[(p43, .cells #[.int .i64 x40.most, .slice A51 x40.pairs.length c52] 169 (0, 0))], G53]) p43 x40 := ⟨_, S56.blk 0 rfl, KS_at 0 rfl (by simp [keys]), ⟨A51, c52, rfl, ((hO54.rd (fun b o hb => S56.grp 1 rfl hb)).mono (fun b hb => KS_at 1 rfl hb))⟩⟩
   refine WOps.call T.call96 (evs_cons rfl evs_nil) rfl ?_
   refine (sk_Keys_calls k x40 hP59 (St.outN (Bs := []) (As := [[(p43, .cells #[.int .i64 x40.most, .slice A51 x40.pairs.length c52] 169 (0, 0))], G53]) S56) hc58).mono ?_
   rintro _ w60 ⟨A63, c64, G65, rfl, hO66, T61⟩
   have S62 := St.callN (As := []) S56 T61
   change St _ _ _ [G65, [(p43, .cells #[.int .i64 x40.most, .slice A51 x40.pairs.length c52] 169 (0, 0))], G53, [(p25, .cells #[.int .i64 x22.Most, .slice A33 x22.L.length c34] 172 (0, 0))], G35, [(p0, .cells #[.pointer (some ⟨p43, 0, none⟩), .pointer (some ⟨p25, 0, none⟩), .slice A11 a0.asked.length c12, .slice A15 a0.was.length c16] 110 (0, 0))], G13, G17] at S62
   refine ⟨_, rfl, ?_⟩
   refine WOps.p (G.assign rfl) rfl ?_
   refine WOps.nil ?_
   refine WEx.then_ ?_
   refine WCode.forget (l' := [(0, .pointer (some ⟨p0, 0, none⟩)), (3, .slice A63 (t57).length c64)]) ⟨rfl, rfl, trivial⟩ ?_
   refine WCode.seq ?_
   refine WCode.region ?_
   refine WOps.p (G.move rfl) rfl ?_
   refine WOps.p (G.move rfl) rfl ?_
   refine WOps.p (G.nilp rfl) rfl ?_
   refine WOps.p (G.field T.fld110_1 rfl (show 0 + 1 = 1 from rfl)) rfl ?_
   refine WOps.r (G.load1 T.one104 rfl (cell_blk (S62.blk 5 rfl) rfl)) rfl ?_
   obtain ⟨t67, hc68, hF⟩ := bind_some hF
   have S69 := (S62.front 4 rfl).front 4 rfl
   change St _ _ _ [[(p25, .cells #[.int .i64 x22.Most, .slice A33 x22.L.length c34] 172 (0, 0))], G35, G65, [(p43, .cells #[.int .i64 x40.most, .slice A51 x40.pairs.length c52] 169 (0, 0))], G53, [(p0, .cells #[.pointer (some ⟨p43, 0, none⟩), .pointer (some ⟨p25, 0, none⟩), .slice A11 a0.asked.length c12, .slice A15 a0.was.length c16] 110 (0, 0))], G13, G17] at S69
   have hP70 : PtR 172 ShR.rp w60 (KS [[(p25, .cells #[.int .i64 x22.Most, .slice A33 x22.L.length c34] 172 (0, 0))], G35]) p25 x22 := ⟨_, S69.blk 0 rfl, KS_at 0 rfl (by simp [keys]), ⟨A33, c34, rfl, ((hO36.rd (fun b o hb => S69.grp 1 rfl hb)).mono (fun b hb => KS_at 1 rfl hb))⟩⟩
   refine WOps.call T.call97 (evs_cons rfl evs_nil) rfl ?_
   refine (rk_Keys_calls k x22 hP70 (St.outN (Bs := []) (As := [[(p25, .cells #[.int .i64 x22.Most, .slice A33 x22.L.length c34] 172 (0, 0))], G35]) S69) hc68).mono ?_
   rintro _ w71 ⟨A74, c75, G76, rfl, hO77, T72⟩
   have S73 := St.callN (As := []) S69 T72
   change St _ _ _ [G76, [(p25, .cells #[.int .i64 x22.Most, .slice A33 x22.L.length c34] 172 (0, 0))], G35, G65, [(p43, .cells #[.int .i64 x40.most, .slice A51 x40.pairs.length c52] 169 (0, 0))], G53, [(p0, .cells #[.pointer (some ⟨p43, 0, none⟩), .pointer (some ⟨p25, 0, none⟩), .slice A11 a0.asked.length c12, .slice A15 a0.was.length c16] 110 (0, 0))], G13, G17] at S73
   refine ⟨_, rfl, ?_⟩
   obtain ⟨t78, hc79, hF⟩ := bind_some hF
   refine WOps.call T.call98 (evs_cons rfl (evs_cons rfl evs_nil)) rfl ?_
   refine (sh_keys_calls k (t57) (t67) (hO66.rd (fun b o hb => S73.grp 3 rfl hb)) (St.outG (Bs := []) S73 3 rfl) (hO77.rd (fun b o hb => S73.grp 0 rfl hb)) (St.outG (Bs := []) S73 0 rfl) hc79).mono ?_
   rintro _ w80 ⟨rfl, T81⟩
   have S82 := St.callN (As := []) S73 T81
   change St _ _ _ [G76, [(p25, .cells #[.int .i64 x22.Most, .slice A33 x22.L.length c34] 172 (0, 0))], G35, G65, [(p43, .cells #[.int .i64 x40.most, .slice A51 x40.pairs.length c52] 169 (0, 0))], G53, [(p0, .cells #[.pointer (some ⟨p43, 0, none⟩), .pointer (some ⟨p25, 0, none⟩), .slice A11 a0.asked.length c12, .slice A15 a0.was.length c16] 110 (0, 0))], G13, G17] at S82
   refine ⟨_, rfl, ?_⟩
   refine WOps.p (G.assign rfl) rfl ?_
   refine WOps.nil ?_
   refine WEx.then_ ?_
   refine WCode.seq ?_
   refine WCode.cutseq (fun l_ w_ => ∃ q86 : Nat, ∃ b83 : Bool, l_ = [(0, .pointer (some ⟨p0, 0, none⟩)), (3, .slice A63 (t57).length c64), (41, .bool b83)] ∧ sd_alike.j1 q86 a0 x22 x40 t57 b83 = some r_ ∧ St w (KS [G0]) w_ [[(p25, .cells #[.int .i64 x22.Most, .slice A33 x22.L.length c34] 172 (0, 0))], [(p43, .cells #[.int .i64 x40.most, .slice A51 x40.pairs.length c52] 169 (0, 0))], [(p0, .cells #[.pointer (some ⟨p43, 0, none⟩), .pointer (some ⟨p25, 0, none⟩), .slice A11 a0.asked.length c12, .slice A15 a0.was.length c16] 110 (0, 0))], G65, G35, G53, G13, G17]) ?_ ?_
   ·
    refine WCode.drawH (.one 0 0 (.one 1 0 (.one 2 0 (.one 3 0 (.one 4 0 (.one 5 0 (.one 8 0 (.one 9 0 (.one 10 0 (.one 6 1 (.one 11 1 (.one 7 2 (.one 12 2 (.one 13 0 (.one 14 0 .nil))))))))))))))) (fun W_ => cellsAt W_ p0 0 [.pointer (some ⟨p43, 0, none⟩), .pointer (some ⟨p25, 0, none⟩), .slice A11 a0.asked.length c12, .slice A15 a0.was.length c16] ∧ True) T.mixed (by kernel_rfl) (by intro _ _ d _ _ h; cases d <;> exact h) rfl rfl (by kernel_rfl) ?_ ?_
    all_goals have S88 := S82.drew
    all_goals generalize w80.drew = w89 at *
    · exact ⟨cellsAt.of_blk (S88.blk 6 rfl) rfl, trivial⟩
    refine WH.p rfl wants (G.move rfl) rfl ?_
    refine WH.p rfl wants (G.not rfl rfl) rfl ?_
    refine WH.p rfl wants (G.move rfl) rfl ?_
    rcases ite_some hF with ⟨h90, hF⟩ | ⟨h90, hF⟩
    ·
     refine WH.p rfl (wants_on rfl (kbl (b := !t78) rfl (show (!t78) = false from by rw [h90]; rfl))) (G.move rfl) rfl ?_
     refine WH.p rfl (wants_on rfl (kbl (b := !t78) rfl (show (!t78) = false from by rw [h90]; rfl))) (G.nilp rfl) rfl ?_
     refine WH.p rfl (wants_on rfl (kbl (b := !t78) rfl (show (!t78) = false from by rw [h90]; rfl))) (G.field T.fld110_0 rfl (show 0 + 0 = 0 from rfl)) rfl ?_
     refine WH.p rfl (wants_on rfl (kbl (b := !t78) rfl (show (!t78) = false from by rw [h90]; rfl))) (G.move rfl) rfl ?_
     refine WH.p rfl (wants_on rfl (kbl (b := !t78) rfl (show (!t78) = false from by rw [h90]; rfl))) (G.nilp rfl) rfl ?_
     refine WH.p rfl (wants_on rfl (kbl (b := !t78) rfl (show (!t78) = false from by rw [h90]; rfl))) (G.field T.fld110_1 rfl (show 0 + 1 = 1 from rfl)) rfl ?_
     refine WH.r rfl (wants_on rfl (kbl (b := !t78) rfl (show (!t78) = false from by rw [h90]; rfl))) (fun _ h_ => G.load1 T.one99 rfl (cellsAt.at h_.1 0 rfl)) rfl ?_
     refine WH.r rfl (wants_on rfl (kbl (b := !t78) rfl (show (!t78) = false from by rw [h90]; rfl))) (fun _ h_ => G.load1 T.one104 rfl (cellsAt.at h_.1 1 rfl)) rfl ?_
     obtain ⟨t91, hc92, hF⟩ := bind_some hF
     have S93 := (S88.front 5 rfl).front 5 rfl
     change St _ _ _ [[(p43, .cells #[.int .i64 x40.most, .slice A51 x40.pairs.length c52] 169 (0, 0))], G53, G76, [(p25, .cells #[.int .i64 x22.Most, .slice A33 x22.L.length c34] 172 (0, 0))], G35, G65, [(p0, .cells #[.pointer (some ⟨p43, 0, none⟩), .pointer (some ⟨p25, 0, none⟩), .slice A11 a0.asked.length c12, .slice A15 a0.was.length c16] 110 (0, 0))], G13, G17] at S93
     have hP94 : PtR 169 ShK.rp w89 (KS [[(p43, .cells #[.int .i64 x40.most, .slice A51 x40.pairs.length c52] 169 (0, 0))], G53]) p43 x40 := ⟨_, S93.blk 0 rfl, KS_at 0 rfl (by simp [keys]), ⟨A51, c52, rfl, ((hO54.rd (fun b o hb => S93.grp 1 rfl hb)).mono (fun b hb => KS_at 1 rfl hb))⟩⟩
     refine WH.call rfl (wants_on rfl (kbl (b := !t78) rfl (show (!t78) = false from by rw [h90]; rfl))) T.call101 (evs_cons rfl evs_nil) rfl ?_
     refine (sk_Len_calls k x40 hP94 (St.outN (Bs := []) (As := [[(p43, .cells #[.int .i64 x40.most, .slice A51 x40.pairs.length c52] 169 (0, 0))], G53]) S93) hc92).mono ?_
     rintro _ w95 ⟨rfl, T96⟩
     have S97 := St.callN (As := []) S93 T96
     change St _ _ _ [[(p43, .cells #[.int .i64 x40.most, .slice A51 x40.pairs.length c52] 169 (0, 0))], G53, G76, [(p25, .cells #[.int .i64 x22.Most, .slice A33 x22.L.length c34] 172 (0, 0))], G35, G65, [(p0, .cells #[.pointer (some ⟨p43, 0, none⟩), .pointer (some ⟨p25, 0, none⟩), .slice A11 a0.asked.length c12, .slice A15 a0.was.length c16] 110 (0, 0))], G13, G17] at S97
     refine ⟨_, rfl, ?_⟩
     refine ⟨⟨cellsAt.of_blk (S97.blk 6 rfl) rfl, trivial⟩, ?_⟩
     obtain ⟨t98, hc99, hF⟩ := bind_some hF
     have S100 := (S97.front 4 rfl).front 4 rfl
     change St _ _ _ [[(p25, .cells #[.int .i64 x22.Most, .slice A33 x22.L.length c34] 172 (0, 0))], G35, [(p43, .cells #[.int .i64 x40.most, .slice A51 x40.pairs.length c52] 169 (0, 0))], G53, G76, G65, [(p0, .cells #[.pointer (some ⟨p43, 0, none⟩), .pointer (some ⟨p25, 0, none⟩), .slice A11 a0.asked.length c12, .slice A15 a0.was.length c16] 110 (0, 0))], G13, G17] at S100
     have hP101 : PtR 172 ShR.rp w95 (KS [[(p25, .cells #[.int .i64 x22.Most, .slice A33 x22.L.length c34] 172 (0, 0))], G35]) p25 x22 := ⟨_, S100.blk 0 rfl, KS_at 0 rfl (by simp [keys]), ⟨A33, c34, rfl, ((hO36.rd (fun b o hb => S100.grp 1 rfl hb)).mono (fun b hb => KS_at 1 rfl hb))⟩⟩
     refine WH.call rfl (wants_on rfl (kbl (b := !t78) rfl (show (!t78) = false from by rw [h90]; rfl))) T.call102 (evs_cons rfl evs_nil) rfl ?_
     refine (rk_Len_calls k x22 hP101 (St.outN (Bs := []) (As := [[(p25, .cells #[.int .i64 x22.Most, .slice A33 x22.L.length c34] 172 (0, 0))], G35]) S100) hc99).mono ?_
     rintro _ w102 ⟨rfl, T103⟩
     have S104 := St.callN (As := []) S100 T103
     change St _ _ _ [[(p25, .cells #[.int .i64 x22.Most, .slice A33 x22.L.length c34] 172 (0, 0))], G35, [(p43, .cells #[.int .i64 x40.most, .slice A51 x40.pairs.length c52] 169 (0, 0))], G53, G76, G65, [(p0, .cells #[.pointer (some ⟨p43, 0, none⟩), .pointer (some ⟨p25, 0, none⟩), .slice A11 a0.asked.length c12, .slice A15 a0.was.length c16] 110 (0, 0))], G13, G17] at S104
     refine ⟨_, rfl, ?_⟩
     refine ⟨⟨cellsAt.of_blk (S104.blk 6 rfl) rfl, trivial⟩, ?_⟩
     refine WH.p rfl (wants_on rfl (kbl (b := !t78) rfl (show (!t78) = false from by rw [h90]; rfl))) (G.neq rfl rfl rfl) rfl ?_
     refine WH.p rfl wants (G.pick_f (kb (b := !t78) rfl (show (!t78) = false from by rw [h90]; rfl)) rfl) rfl ?_
     refine WH.nil ?_
     have S105 : St _ _ _ [[(p25, .cells #[.int .i64 x22.Most, .slice A33 x22.L.length c34] 172 (0, 0))], [(p43, .cells #[.int .i64 x40.most, .slice A51 x40.pairs.length c52] 169 (0, 0))], [(p0, .cells #[.pointer (some ⟨p43, 0, none⟩), .pointer (some ⟨p25, 0, none⟩), .slice A11 a0.asked.length c12, .slice A15 a0.was.length c16] 110 (0, 0))], G65, G35, G53, G13, G17, G76] := St.reord S104 [0, 2, 6, 5, 1, 3, 7, 8, 4] 9 rfl (by decide) rfl
     have S106 := St.keep (As := [[(p25, .cells #[.int .i64 x22.Most, .slice A33 x22.L.length c34] 172 (0, 0))], [(p43, .cells #[.int .i64 x40.most, .slice A51 x40.pairs.length c52] 169 (0, 0))], [(p0, .cells #[.pointer (some ⟨p43, 0, none⟩), .pointer (some ⟨p25, 0, none⟩), .slice A11 a0.asked.length c12, .slice A15 a0.was.length c16] 110 (0, 0))], G65, G35, G53, G13, G17]) S105
     refine WEx.cutend _ ?_ ⟨k, !(decide (t91 = t98)), rfl, hF, S106⟩
     exact ⟨rfl, rfl, rfl, trivial⟩
    ·
     refine WH.off rfl rfl (kbl (b := !t78) rfl (show (!t78) = true from by rw [(Bool.eq_false_iff.2 h90)]; rfl)) rfl rfl rfl ?_
     refine WH.off rfl rfl (kbl (b := !t78) rfl (show (!t78) = true from by rw [(Bool.eq_false_iff.2 h90)]; rfl)) rfl rfl rfl ?_
     refine WH.off rfl rfl (kbl (b := !t78) rfl (show (!t78) = true from by rw [(Bool.eq_false_iff.2 h90)]; rfl)) rfl rfl rfl ?_
     refine WH.off rfl rfl (kbl (b := !t78) rfl (show (!t78) = true from by rw [(Bool.eq_false_iff.2 h90)]; rfl)) rfl rfl rfl ?_
     refine WH.off rfl rfl (kbl (b := !t78) rfl (show (!t78) = true from by rw [(Bool.eq_false_iff.2 h90)]; rfl)) rfl rfl rfl ?_
     refine WH.off rfl rfl (kbl (b := !t78) rfl (show (!t78) = true from by rw [(Bool.eq_false_iff.2 h90)]; rfl)) rfl rfl rfl ?_
     refine WH.off rfl rfl (kbl (b := !t78) rfl (show (!t78) = true from by rw [(Bool.eq_false_iff.2 h90)]; rfl)) rfl rfl rfl ?_
     refine WH.off rfl rfl (kbl (b := !t78) rfl (show (!t78) = true from by rw [(Bool.eq_false_iff.2 h90)]; rfl)) rfl rfl rfl ?_
     refine WH.off2 rfl rfl (kbl (b := !t78) rfl (show (!t78) = true from by rw [(Bool.eq_false_iff.2 h90)]; rfl)) rfl rfl ⟨cellsAt.of_blk (S88.blk 6 rfl) rfl, trivial⟩ ?_
     refine WH.off2 rfl rfl (kbl (b := !t78) rfl (show (!t78) = true from by rw [(Bool.eq_false_iff.2 h90)]; rfl)) rfl rfl ⟨cellsAt.of_blk (S88.blk 6 rfl) rfl, trivial⟩ ?_
     refine WH.off rfl rfl (kbl (b := !t78) rfl (show (!t78) = true from by rw [(Bool.eq_false_iff.2 h90)]; rfl)) rfl rfl rfl ?_
     refine WH.p rfl wants (G.pick_t (kb (b := !t78) rfl (show (!t78) = true from by rw [(Bool.eq_false_iff.2 h90)]; rfl)) rfl) rfl ?_
     refine WH.nil ?_
     have S107 : St _ _ _ [[(p25, .cells #[.int .i64 x22.Most, .slice A33 x22.L.length c34] 172 (0, 0))], [(p43, .cells #[.int .i64 x40.most, .slice A51 x40.pairs.length c52] 169 (0, 0))], [(p0, .cells #[.pointer (some ⟨p43, 0, none⟩), .pointer (some ⟨p25, 0, none⟩), .slice A11 a0.asked.length c12, .slice A15 a0.was.length c16] 110 (0, 0))], G65, G35, G53, G13, G17, G76] := St.reord S88 [1, 4, 6, 3, 2, 5, 7, 8, 0] 9 rfl (by decide) rfl
     have S108 := St.keep (As := [[(p25, .cells #[.int .i64 x22.Most, .slice A33 x22.L.length c34] 172 (0, 0))], [(p43, .cells #[.int .i64 x40.most, .slice A51 x40.pairs.length c52] 169 (0, 0))], [(p0, .cells #[.pointer (some ⟨p43, 0, none⟩), .pointer (some ⟨p25, 0, none⟩), .slice A11 a0.asked.length c12, .slice A15 a0.was.length c16] 110 (0, 0))], G65, G35, G53, G13, G17]) S107
     refine WEx.cutend _ ?_ ⟨k, true, rfl, hF, S108⟩
     exact ⟨rfl, rfl, rfl, trivial⟩
   ·
    rintro _ w84 ⟨q86, b83, rfl, hF, S85⟩
    unfold sd_alike.j1 at hF
    rcases ite_some hF with ⟨h109, hF⟩ | ⟨h109, hF⟩
    ·
     refine WCode.cond_t (kb (b := b83) rfl h109) ?_
     refine WCode.seq ?_
     refine WCode.region ?_
     refine WOps.p (G.assign rfl) rfl ?_
     refine WOps.nil ?_
     refine WEx.then_ ?_
     refine WCode.ret ?_
     refine WEx.then_ret ?_
     obtain rfl := some_eq hF
     refine WEx.ret1 rfl rfl ?_
     have S110 := (S85.front 5 rfl).front 2 rfl
     change St _ _ _ [[(p43, .cells #[.int .i64 x40.most, .slice A51 x40.pairs.length c52] 169 (0, 0))], G53, [(p25, .cells #[.int .i64 x22.Most, .slice A33 x22.L.length c34] 172 (0, 0))], [(p0, .cells #[.pointer (some ⟨p43, 0, none⟩), .pointer (some ⟨p25, 0, none⟩), .slice A11 a0.asked.length c12, .slice A15 a0.was.length c16] 110 (0, 0))], G65, G35, G13, G17] at S110
     have hO111 : ObjO 169 ShK.rp p43 x40 ([(p43, .cells #[.int .i64 x40.most, .slice A51 x40.pairs.length c52] 169 (0, 0))] ++ (G53)) := ⟨_, _, ⟨A51, c52, G53, rfl, hO54, rfl⟩, rfl⟩
     have S112 : St _ _ _ [[(p43, .cells #[.int .i64 x40.most, .slice A51 x40.pairs.length c52] 169 (0, 0))] ++ (G53), [(p25, .cells #[.int .i64 x22.Most, .slice A33 x22.L.length c34] 172 (0, 0))], [(p0, .cells #[.pointer (some ⟨p43, 0, none⟩), .pointer (some ⟨p25, 0, none⟩), .slice A11 a0.asked.length c12, .slice A15 a0.was.length c16] 110 (0, 0))], G65, G35, G13, G17] := S110.objs (by simp)
     have S113 := (S112.front 4 rfl).front 2 rfl
     change St _ _ _ [[(p25, .cells #[.int .i64 x22.Most, .slice A33 x22.L.length c34] 172 (0, 0))], G35, [(p43, .cells #[.int .i64 x40.most, .slice A51 x40.pairs.length c52] 169 (0, 0))] ++ (G53), [(p0, .cells #[.pointer (some ⟨p43, 0, none⟩), .pointer (some ⟨p25, 0, none⟩), .slice A11 a0.asked.length c12, .slice A15 a0.was.length c16] 110 (0, 0))], G65, G13, G17] at S113
     have hO114 : ObjO 172 ShR.rp p25 x22 ([(p25, .cells #[.int .i64 x22.Most, .slice A33 x22.L.length c34] 172 (0, 0))] ++ (G35)) := ⟨_, _, ⟨A33, c34, G35, rfl, hO36, rfl⟩, rfl⟩
     have S115 : St _ _ _ [[(p25, .cells #[.int .i64 x22.Most, .slice A33 x22.L.length c34] 172 (0, 0))] ++ (G35), [(p43, .cells #[.int .i64 x40.most, .slice A51 x40.pairs.length c52] 169 (0, 0))] ++ (G53), [(p0, .cells #[.pointer (some ⟨p43, 0, none⟩), .pointer (some ⟨p25, 0, none⟩), .slice A11 a0.asked.length c12, .slice A15 a0.was.length c16] 110 (0, 0))], G65, G13, G17] := S113.objs (by simp)
     have S116 : St _ _ _ [[(p0, .cells #[.pointer (some ⟨p43, 0, none⟩), .pointer (some ⟨p25, 0, none⟩), .slice A11 a0.asked.length c12, .slice A15 a0.was.length c16] 110 (0, 0))], [(p43, .cells #[.int .i64 x40.most, .slice A51 x40.pairs.length c52] 169 (0, 0))] ++ (G53), [(p25, .cells #[.int .i64 x22.Most, .slice A33 x22.L.length c34] 172 (0, 0))] ++ (G35), G13, G17, G65] := St.reord S115 [2, 1, 0, 4, 5, 3] 6 rfl (by decide) rfl
     have hO117 : ObjO 110 Side.rp p0 (⟨(some x40), (some x22), a0.asked, a0.was⟩ : Side) ([(p0, .cells #[.pointer (some ⟨p43, 0, none⟩), .pointer (some ⟨p25, 0, none⟩), .slice A11 a0.asked.length c12, .slice A15 a0.was.length c16] 110 (0, 0))] ++ ([(p43, .cells #[.int .i64 x40.most, .slice A51 x40.pairs.length c52] 169 (0, 0))] ++ (G53) ++ ([(p25, .cells #[.int .i64 x22.Most, .slice A33 x22.L.length c34] 172 (0, 0))] ++ (G35) ++ (G13 ++ (G17))))) := ⟨_, _, ⟨(.pointer (some ⟨p43, 0, none⟩)), [(p43, .cells #[.int .i64 x40.most, .slice A51 x40.pairs.length c52] 169 (0, 0))] ++ (G53), (.pointer (some ⟨p25, 0, none⟩)), [(p25, .cells #[.int .i64 x22.Most, .slice A33 x22.L.length c34] 172 (0, 0))] ++ (G35), A11, c12, G13, A15, c16, G17, rfl, ⟨_, rfl, hO111⟩, ⟨_, rfl, hO114⟩, hO14, hO18, rfl⟩, rfl⟩
     have S118 : St _ _ _ [[(p0, .cells #[.pointer (some ⟨p43, 0, none⟩), .pointer (some ⟨p25, 0, none⟩), .slice A11 a0.asked.length c12, .slice A15 a0.was.length c16] 110 (0, 0))] ++ ([(p43, .cells #[.int .i64 x40.most, .slice A51 x40.pairs.length c52] 169 (0, 0))] ++ (G53) ++ ([(p25, .cells #[.int .i64 x22.Most, .slice A33 x22.L.length c34] 172 (0, 0))] ++ (G35) ++ (G13 ++ (G17)))), G65] := S116.objs (by simp)
     exact ⟨[(p0, .cells #[.pointer (some ⟨p43, 0, none⟩), .pointer (some ⟨p25, 0, none⟩), .slice A11 a0.asked.length c12, .slice A15 a0.was.length c16] 110 (0, 0))] ++ ([(p43, .cells #[.int .i64 x40.most, .slice A51 x40.pairs.length c52] 169 (0, 0))] ++ (G53) ++ ([(p25, .cells #[.int .i64 x22.Most, .slice A33 x22.L.length c34] 172 (0, 0))] ++ (G35) ++ (G13 ++ (G17)))), rfl, hO117, St.keep (As := [[(p0, .cells #[.pointer (some ⟨p43, 0, none⟩), .pointer (some ⟨p25, 0, none⟩), .slice A11 a0.asked.length c12, .slice A15 a0.was.length c16] 110 (0, 0))] ++ ([(p43, .cells #[.int .i64 x40.most, .slice A51 x40.pairs.length c52] 169 (0, 0))] ++ (G53) ++ ([(p25, .cells #[.int .i64 x22.Most, .slice A33 x22.L.length c34] 172 (0, 0))] ++ (G35) ++ (G13 ++ (G17))))]) S118⟩
    ·
     refine WCode.cond_f (kb (b := b83) rfl (Bool.eq_false_iff.2 h109)) ?_
     refine WCode.skip ?_
     refine WEx.then_ ?_
     refine WCode.seq ?_
     refine WCode.seq ?_
     refine WCode.region ?_
     refine WOps.p (G.assign rfl) rfl ?_
     refine WOps.nil ?_
     refine WEx.then_ ?_
     refine WCode.block ?_
     refine WCode.forget (l' := [(0, .pointer (some ⟨p0, 0, none⟩)), (3, .slice A63 (t57).length c64), (5, .int .i64 0)]) ⟨rfl, rfl, rfl, trivial⟩ ?_
     refine WCode.loop (fun n_ l_ w_ => ∃ x119 : Int, l_ = [(0, .pointer (some ⟨p0, 0, none⟩)), (3, .slice A63 (t57).length c64), (5, .int .i64 x119)] ∧ sd_alike.l1 n_ a0 x22 x40 t57 x119 = some r_ ∧ St w (KS [G0]) w_ [[(p25, .cells #[.int .i64 x22.Most, .slice A33 x22.L.length c34] 172 (0, 0))], [(p43, .cells #[.int .i64 x40.most, .slice A51 x40.pairs.length c52] 169 (0, 0))], [(p0, .cells #[.pointer (some ⟨p43, 0, none⟩), .pointer (some ⟨p25, 0, none⟩), .slice A11 a0.asked.length c12, .slice A15 a0.was.length c16] 110 (0, 0))], G65, G35, G53, G13, G17]) q86 ⟨0, rfl, hF, S85⟩ ?_
     rintro n123 _ w120 ⟨x119, rfl, hF, S121⟩
     obtain _ | k122 := n123
     · exact nomatch (show (none : Option (Bool × Side)) = some r_ from hF)
     rw [sd_alike.l1] at hF
     refine WCode.seq ?_
     refine WCode.seq ?_
     refine WCode.region ?_
     refine WOps.p (G.move rfl) rfl ?_
     refine WOps.p (G.move rfl) rfl ?_
     refine WOps.p (G.len T.el176 rfl) rfl ?_
     refine WOps.p (G.lss rfl rfl rfl) rfl ?_
     refine WOps.nil ?_
     refine WEx.then_ ?_
     rcases ite_some hF with ⟨h125, hF⟩ | ⟨h125, hF⟩
     ·
      refine WCode.cond_t (kb (b := decide (x119 < ((t57).length : Int))) rfl (decide_eq_true h125)) ?_
      refine WCode.skip ?_
      refine WEx.then_ ?_
      refine WCode.seq ?_
      refine WCode.block ?_
      refine WCode.seq ?_
      refine WCode.draw [⟨0, 0, []⟩, ⟨1, 0, []⟩, ⟨2, 0, []⟩, ⟨4, 0, []⟩, ⟨5, 0, []⟩, ⟨6, 0, []⟩, ⟨3, 1, [8, 9, 10, 11, 12, 13]⟩, ⟨7, 1, [8, 9, 10, 11, 12, 13]⟩, ⟨8, 2, []⟩, ⟨9, 0, []⟩, ⟨10, 0, []⟩, ⟨11, 0, []⟩, ⟨12, 0, []⟩, ⟨13, 0, []⟩] T.mixed (by kernel_rfl) (by intro _ _ d _ _ h; cases d <;> exact h) rfl (by kernel_rfl) ?_
      have S126 := S121.drew
      generalize w120.drew = w127 at *
      refine WD.p rfl (G.move rfl) rfl ?_
      refine WD.p rfl (G.nilp rfl) rfl ?_
      refine WD.p rfl (G.field T.fld110_0 rfl (show 0 + 0 = 0 from rfl)) rfl ?_
      refine WD.p rfl (G.move rfl) rfl ?_
      refine WD.p rfl (G.move rfl) rfl ?_
      obtain ⟨x128, hc129, hF⟩ := bind_some hF
      obtain ⟨j130, ej131, hj132, hl133⟩ := idx_spec hc129
      obtain ⟨b134, o135, cs136, eA137, hf138, hc139, hr140⟩ := SlR.at_ (hO66.rd (fun b o hb => S126.grp 3 rfl hb)) hj132
      have hq141 : cs136 = [.string (bs x128.S), .int .i64 x128.N] := hr140
      subst hq141
      change cellsAt _ _ (o135 + j130 * 2) [.string (bs x128.S), .int .i64 x128.N] at hc139
      refine WD.p rfl (G.idx T.el176 rfl eA137 rfl ej131 hl133) rfl ?_
      refine WD.r rfl (G.load1 T.one99 rfl (cell_blk (S126.blk 2 rfl) rfl)) rfl ?_
      refine WD.r rfl (G.loada T.agg103_2 rfl (cs := [.string (bs x128.S), .int .i64 x128.N]) hc139) rfl ?_
      obtain ⟨t142, hc143, hF⟩ := bind_some hF
      have S144 := (S126.front 5 rfl).front 2 rfl
      change St _ _ _ [[(p43, .cells #[.int .i64 x40.most, .slice A51 x40.pairs.length c52] 169 (0, 0))], G53, [(p25, .cells #[.int .i64 x22.Most, .slice A33 x22.L.length c34] 172 (0, 0))], [(p0, .cells #[.pointer (some ⟨p43, 0, none⟩), .pointer (some ⟨p25, 0, none⟩), .slice A11 a0.asked.length c12, .slice A15 a0.was.length c16] 110 (0, 0))], G65, G35, G13, G17] at S144
      have hP145 : PtR 169 ShK.rp w127 (KS [[(p43, .cells #[.int .i64 x40.most, .slice A51 x40.pairs.length c52] 169 (0, 0))], G53]) p43 x40 := ⟨_, S144.blk 0 rfl, KS_at 0 rfl (by simp [keys]), ⟨A51, c52, rfl, ((hO54.rd (fun b o hb => S144.grp 1 rfl hb)).mono (fun b hb => KS_at 1 rfl hb))⟩⟩
      refine WD.call rfl T.call92 (evs_cons rfl (evs_cons rfl evs_nil)) rfl ?_
      refine (sk_Get_calls k122 x40 x128 hP145 (St.outN (Bs := []) (As := [[(p43, .cells #[.int .i64 x40.most, .slice A51 x40.pairs.length c52] 169 (0, 0))], G53]) S144) hc143).mono ?_
      rintro _ w146 ⟨rfl, T147⟩
      have S148 := St.callN (As := []) S144 T147
      change St _ _ _ [[(p43, .cells #[.int .i64 x40.most, .slice A51 x40.pairs.length c52] 169 (0, 0))], G53, [(p25, .cells #[.int .i64 x22.Most, .slice A33 x22.L.length c34] 172 (0, 0))], [(p0, .cells #[.pointer (some ⟨p43, 0, none⟩), .pointer (some ⟨p25, 0, none⟩), .slice A11 a0.asked.length c12, .slice A15 a0.was.length c16] 110 (0, 0))], G65, G35, G13, G17] at S148
      refine ⟨_, rfl, ?_⟩
      refine WD.p rfl (G.move rfl) rfl ?_
      refine WD.p rfl (G.extract rfl rfl) rfl ?_
      refine WD.p rfl (G.extract rfl rfl) rfl ?_
      refine WD.p rfl (G.assign rfl) rfl ?_
      refine WD.p rfl (G.assign rfl) rfl ?_
      refine WD.nil ?_
      refine WEx.then_ ?_
      refine WCode.forget (l' := [(0, .pointer (some ⟨p0, 0, none⟩)), (3, .slice A63 (t57).length c64), (5, .int .i64 x119), (6, .int .i64 t142.1), (7, .bool t142.2)]) ⟨rfl, rfl, rfl, rfl, rfl, trivial⟩ ?_
      refine WCode.seq ?_
      refine WCode.draw [⟨0, 0, []⟩, ⟨1, 0, []⟩, ⟨2, 0, []⟩, ⟨4, 0, []⟩, ⟨5, 0, []⟩, ⟨6, 0, []⟩, ⟨3, 1, [8, 9, 10, 11, 12, 13]⟩, ⟨7, 1, [8, 9, 10, 11, 12, 13]⟩, ⟨8, 2, []⟩, ⟨9, 0, []⟩, ⟨10, 0, []⟩, ⟨11, 0, []⟩, ⟨12, 0, []⟩, ⟨13, 0, []⟩] T.mixed (by kernel_rfl) (by intro _ _ d _ _ h; cases d <;> exact h) rfl (by kernel_rfl) ?_
      have S149 := S148.drew
      generalize w146.drew = w150 at *
      refine WD.p rfl (G.move rfl) rfl ?_
      refine WD.p rfl (G.nilp rfl) rfl ?_
      refine WD.p rfl (G.field T.fld110_1 rfl (show 0 + 1 = 1 from rfl)) rfl ?_
      refine WD.p rfl (G.move rfl) rfl ?_
      refine WD.p rfl (G.move rfl) rfl ?_
      obtain ⟨x151, hc152, hF⟩ := bind_some hF
      obtain ⟨j153, ej154, hj155, hl156⟩ := idx_spec hc152
      obtain ⟨b157, o158, cs159, eA160, hf161, hc162, hr163⟩ := SlR.at_ (hO66.rd (fun b o hb => S149.grp 4 rfl hb)) hj155
      have hq164 : cs159 = [.string (bs x151.S), .int .i64 x151.N] := hr163
      subst hq164
      change cellsAt _ _ (o158 + j153 * 2) [.string (bs x151.S), .int .i64 x151.N] at hc162
      refine WD.p rfl (G.idx T.el176 rfl eA160 rfl ej154 hl156) rfl ?_
      refine WD.r rfl (G.load1 T.one104 rfl (cell_blk (S149.blk 3 rfl) rfl)) rfl ?_
      refine WD.r rfl (G.loada T.agg103_2 rfl (cs := [.string (bs x151.S), .int .i64 x151.N]) hc162) rfl ?_
      obtain ⟨t165, hc166, hF⟩ := bind_some hF
      have S167 := (S149.front 5 rfl).front 3 rfl
      change St _ _ _ [[(p25, .cells #[.int .i64 x22.Most, .slice A33 x22.L.length c34] 172 (0, 0))], G35, [(p43, .cells #[.int .i64 x40.most, .slice A51 x40.pairs.length c52] 169 (0, 0))], G53, [(p0, .cells #[.pointer (some ⟨p43, 0, none⟩), .pointer (some ⟨p25, 0, none⟩), .slice A11 a0.asked.length c12, .slice A15 a0.was.length c16] 110 (0, 0))], G65, G13, G17] at S167
      have hP168 : PtR 172 ShR.rp w150 (KS [[(p25, .cells #[.int .i64 x22.Most, .slice A33 x22.L.length c34] 172 (0, 0))], G35]) p25 x22 := ⟨_, S167.blk 0 rfl, KS_at 0 rfl (by simp [keys]), ⟨A33, c34, rfl, ((hO36.rd (fun b o hb => S167.grp 1 rfl hb)).mono (fun b hb => KS_at 1 rfl hb))⟩⟩
      refine WD.call rfl T.call93 (evs_cons rfl (evs_cons rfl evs_nil)) rfl ?_
      refine (rk_Get_calls k122 x22 x151 hP168 (St.outN (Bs := []) (As := [[(p25, .cells #[.int .i64 x22.Most, .slice A33 x22.L.length c34] 172 (0, 0))], G35]) S167) hc166).mono ?_
      rintro _ w169 ⟨rfl, T170⟩
      have S171 := St.callN (As := []) S167 T170
      change St _ _ _ [[(p25, .cells #[.int .i64 x22.Most, .slice A33 x22.L.length c34] 172 (0, 0))], G35, [(p43, .cells #[.int .i64 x40.most, .slice A51 x40.pairs.length c52] 169 (0, 0))], G53, [(p0, .cells #[.pointer (some ⟨p43, 0, none⟩), .pointer (some ⟨p25, 0, none⟩), .slice A11 a0.asked.length c12, .slice A15 a0.was.length c16] 110 (0, 0))], G65, G13, G17] at S171
      refine ⟨_, rfl, ?_⟩
      refine WD.p rfl (G.move rfl) rfl ?_
      refine WD.p rfl (G.extract rfl rfl) rfl ?_
      refine WD.p rfl (G.extract rfl rfl) rfl ?_
      refine WD.p rfl (G.assign rfl) rfl ?_
      refine WD.p rfl (G.assign rfl) rfl ?_
      refine WD.nil ?_
      refine WEx.then_ ?_
      refine WCode.forget (l' := [(0, .pointer (some ⟨p0, 0, none⟩)), (3, .slice A63 (t57).length c64), (5, .int .i64 x119), (6, .int .i64 t142.1), (7, .bool t142.2), (8, .int .i64 t165.1), (9, .bool t165.2)]) ⟨rfl, rfl, rfl, rfl, rfl, rfl, rfl, trivial⟩ ?_
      refine WCode.seq ?_
      refine WCode.region ?_
      refine WOps.p (G.move rfl) rfl ?_
      refine WOps.p (G.move rfl) rfl ?_
      refine WOps.p (G.neq rfl rfl rfl) rfl ?_
      refine WOps.p (G.move rfl) rfl ?_
      rcases ite_some hF with ⟨h172, hF⟩ | ⟨h172, hF⟩
      ·
       refine WOps.on rfl (kbl (b := !(decide (t142.1 = t165.1))) rfl (show (!(decide (t142.1 = t165.1))) = false from by rw [(decide_eq_true h172)]; rfl)) ?_
       refine WOps.p (G.move rfl) rfl ?_
       refine WOps.on rfl (kbl (b := !(decide (t142.1 = t165.1))) rfl (show (!(decide (t142.1 = t165.1))) = false from by rw [(decide_eq_true h172)]; rfl)) ?_
       refine WOps.p (G.move rfl) rfl ?_
       refine WOps.on rfl (kbl (b := !(decide (t142.1 = t165.1))) rfl (show (!(decide (t142.1 = t165.1))) = false from by rw [(decide_eq_true h172)]; rfl)) ?_
       refine WOps.p (G.neqb Try.underlying4 rfl rfl rfl) rfl ?_
       refine WOps.p (G.pick_f (kb (b := !(decide (t142.1 = t165.1))) rfl (show (!(decide (t142.1 = t165.1))) = false from by rw [(decide_eq_true h172)]; rfl)) rfl) rfl ?_
       refine WOps.nil ?_
       refine WEx.then_ ?_
       rcases ite_some hF with ⟨h173, hF⟩ | ⟨h173, hF⟩
       ·
        refine WCode.cond_f (kb (b := !(t142.2 == t165.2)) rfl (show (!(t142.2 == t165.2)) = false from by rw [h173]; rfl)) ?_
        refine WCode.skip ?_
        refine WEx.in_normal ?_
        refine WEx.then_ ?_
        refine WCode.region ?_
        refine WOps.p (G.move rfl) rfl ?_
        refine WOps.p (G.add rfl rfl (r := (w64 (x119 + 1))) rfl) rfl ?_
        refine WOps.p (G.assign rfl) rfl ?_
        refine WOps.nil ?_
        have S174 : St _ _ _ [[(p25, .cells #[.int .i64 x22.Most, .slice A33 x22.L.length c34] 172 (0, 0))], [(p43, .cells #[.int .i64 x40.most, .slice A51 x40.pairs.length c52] 169 (0, 0))], [(p0, .cells #[.pointer (some ⟨p43, 0, none⟩), .pointer (some ⟨p25, 0, none⟩), .slice A11 a0.asked.length c12, .slice A15 a0.was.length c16] 110 (0, 0))], G65, G35, G53, G13, G17] := St.reord S171 [0, 2, 4, 5, 1, 3, 6, 7] 8 rfl (by decide) rfl
        refine WEx.again _ _ (by omega) ?_ ⟨w64 (x119 + 1), rfl, hF, S174⟩
        exact ⟨rfl, rfl, rfl, trivial⟩
       ·
        refine WCode.cond_t (kb (b := !(t142.2 == t165.2)) rfl (show (!(t142.2 == t165.2)) = true from by rw [(Bool.eq_false_iff.2 h173)]; rfl)) ?_
        refine WCode.seq ?_
        refine WCode.region ?_
        refine WOps.p (G.assign rfl) rfl ?_
        refine WOps.nil ?_
        refine WEx.then_ ?_
        refine WCode.forget (l' := [(2, .bool false)]) ⟨rfl, trivial⟩ ?_
        refine WCode.ret ?_
        refine WEx.in_ret ?_
        refine WEx.then_ret ?_
        refine WEx.then_ret ?_
        refine WEx.in_ret ?_
        refine WEx.then_ret ?_
        obtain rfl := some_eq hF
        refine WEx.ret1 rfl rfl ?_
        have S175 := (S171.front 3 rfl).front 3 rfl
        change St _ _ _ [[(p43, .cells #[.int .i64 x40.most, .slice A51 x40.pairs.length c52] 169 (0, 0))], G53, [(p25, .cells #[.int .i64 x22.Most, .slice A33 x22.L.length c34] 172 (0, 0))], G35, [(p0, .cells #[.pointer (some ⟨p43, 0, none⟩), .pointer (some ⟨p25, 0, none⟩), .slice A11 a0.asked.length c12, .slice A15 a0.was.length c16] 110 (0, 0))], G65, G13, G17] at S175
        have hO176 : ObjO 169 ShK.rp p43 x40 ([(p43, .cells #[.int .i64 x40.most, .slice A51 x40.pairs.length c52] 169 (0, 0))] ++ (G53)) := ⟨_, _, ⟨A51, c52, G53, rfl, hO54, rfl⟩, rfl⟩
        have S177 : St _ _ _ [[(p43, .cells #[.int .i64 x40.most, .slice A51 x40.pairs.length c52] 169 (0, 0))] ++ (G53), [(p25, .cells #[.int .i64 x22.Most, .slice A33 x22.L.length c34] 172 (0, 0))], G35, [(p0, .cells #[.pointer (some ⟨p43, 0, none⟩), .pointer (some ⟨p25, 0, none⟩), .slice A11 a0.asked.length c12, .slice A15 a0.was.length c16] 110 (0, 0))], G65, G13, G17] := S175.objs (by simp)
        have S178 := (S177.front 2 rfl).front 2 rfl
        change St _ _ _ [[(p25, .cells #[.int .i64 x22.Most, .slice A33 x22.L.length c34] 172 (0, 0))], G35, [(p43, .cells #[.int .i64 x40.most, .slice A51 x40.pairs.length c52] 169 (0, 0))] ++ (G53), [(p0, .cells #[.pointer (some ⟨p43, 0, none⟩), .pointer (some ⟨p25, 0, none⟩), .slice A11 a0.asked.length c12, .slice A15 a0.was.length c16] 110 (0, 0))], G65, G13, G17] at S178
        have hO179 : ObjO 172 ShR.rp p25 x22 ([(p25, .cells #[.int .i64 x22.Most, .slice A33 x22.L.length c34] 172 (0, 0))] ++ (G35)) := ⟨_, _, ⟨A33, c34, G35, rfl, hO36, rfl⟩, rfl⟩
        have S180 : St _ _ _ [[(p25, .cells #[.int .i64 x22.Most, .slice A33 x22.L.length c34] 172 (0, 0))] ++ (G35), [(p43, .cells #[.int .i64 x40.most, .slice A51 x40.pairs.length c52] 169 (0, 0))] ++ (G53), [(p0, .cells #[.pointer (some ⟨p43, 0, none⟩), .pointer (some ⟨p25, 0, none⟩), .slice A11 a0.asked.length c12, .slice A15 a0.was.length c16] 110 (0, 0))], G65, G13, G17] := S178.objs (by simp)
        have S181 : St _ _ _ [[(p0, .cells #[.pointer (some ⟨p43, 0, none⟩), .pointer (some ⟨p25, 0, none⟩), .slice A11 a0.asked.length c12, .slice A15 a0.was.length c16] 110 (0, 0))], [(p43, .cells #[.int .i64 x40.most, .slice A51 x40.pairs.length c52] 169 (0, 0))] ++ (G53), [(p25, .cells #[.int .i64 x22.Most, .slice A33 x22.L.length c34] 172 (0, 0))] ++ (G35), G13, G17, G65] := St.reord S180 [2, 1, 0, 4, 5, 3] 6 rfl (by decide) rfl
        have hO182 : ObjO 110 Side.rp p0 (⟨(some x40), (some x22), a0.asked, a0.was⟩ : Side) ([(p0, .cells #[.pointer (some ⟨p43, 0, none⟩), .pointer (some ⟨p25, 0, none⟩), .slice A11 a0.asked.length c12, .slice A15 a0.was.length c16] 110 (0, 0))] ++ ([(p43, .cells #[.int .i64 x40.most, .slice A51 x40.pairs.length c52] 169 (0, 0))] ++ (G53) ++ ([(p25, .cells #[.int .i64 x22.Most, .slice A33 x22.L.length c34] 172 (0, 0))] ++ (G35) ++ (G13 ++ (G17))))) := ⟨_, _, ⟨(.pointer (some ⟨p43, 0, none⟩)), [(p43, .cells #[.int .i64 x40.most, .slice A51 x40.pairs.length c52] 169 (0, 0))] ++ (G53), (.pointer (some ⟨p25, 0, none⟩)), [(p25, .cells #[.int .i64 x22.Most, .slice A33 x22.L.length c34] 172 (0, 0))] ++ (G35), A11, c12, G13, A15, c16, G17, rfl, ⟨_, rfl, hO176⟩, ⟨_, rfl, hO179⟩, hO14, hO18, rfl⟩, rfl⟩
        have S183 : St _ _ _ [[(p0, .cells #[.pointer (some ⟨p43, 0, none⟩), .pointer (some ⟨p25, 0, none⟩), .slice A11 a0.asked.length c12, .slice A15 a0.was.length c16] 110 (0, 0))] ++ ([(p43, .cells #[.int .i64 x40.most, .slice A51 x40.pairs.length c52] 169 (0, 0))] ++ (G53) ++ ([(p25, .cells #[.int .i64 x22.Most, .slice A33 x22.L.length c34] 172 (0, 0))] ++ (G35) ++ (G13 ++ (G17)))), G65] := S181.objs (by simp)
        exact ⟨[(p0, .cells #[.pointer (some ⟨p43, 0, none⟩), .pointer (some ⟨p25, 0, none⟩), .slice A11 a0.asked.length c12, .slice A15 a0.was.length c16] 110 (0, 0))] ++ ([(p43, .cells #[.int .i64 x40.most, .slice A51 x40.pairs.length c52] 169 (0, 0))] ++ (G53) ++ ([(p25, .cells #[.int .i64 x22.Most, .slice A33 x22.L.length c34] 172 (0, 0))] ++ (G35) ++ (G13 ++ (G17)))), rfl, hO182, St.keep (As := [[(p0, .cells #[.pointer (some ⟨p43, 0, none⟩), .pointer (some ⟨p25, 0, none⟩), .slice A11 a0.asked.length c12, .slice A15 a0.was.length c16] 110 (0, 0))] ++ ([(p43, .cells #[.int .i64 x40.most, .slice A51 x40.pairs.length c52] 169 (0, 0))] ++ (G53) ++ ([(p25, .cells #[.int .i64 x22.Most, .slice A33 x22.L.length c34] 172 (0, 0))] ++ (G35) ++ (G13 ++ (G17))))]) S183⟩
      ·
       refine WOps.off rfl (kbl (b := !(decide (t142.1 = t165.1))) rfl (show (!(decide (t142.1 = t165.1))) = true from by rw [(decide_eq_false h172)]; rfl)) rfl rfl ?_
       refine WOps.off rfl (kbl (b := !(decide (t142.1 = t165.1))) rfl (show (!(decide (t142.1 = t165.1))) = true from by rw [(decide_eq_false h172)]; rfl)) rfl rfl ?_
       refine WOps.off rfl (kbl (b := !(decide (t142.1 = t165.1))) rfl (show (!(decide (t142.1 = t165.1))) = true from by rw [(decide_eq_false h172)]; rfl)) rfl rfl ?_
       refine WOps.p (G.pick_t (kb (b := !(decide (t142.1 = t165.1))) rfl (show (!(decide (t142.1 = t165.1))) = true from by rw [(decide_eq_false h172)]; rfl)) rfl) rfl ?_
       refine WOps.nil ?_
       refine WEx.then_ ?_
       refine WCode.cond_t rfl ?_
       refine WCode.seq ?_
       refine WCode.region ?_
       refine WOps.p (G.assign rfl) rfl ?_
       refine WOps.nil ?_
       refine WEx.then_ ?_
       refine WCode.forget (l' := [(2, .bool false)]) ⟨rfl, trivial⟩ ?_
       refine WCode.ret ?_
       refine WEx.in_ret ?_
       refine WEx.then_ret ?_
       refine WEx.then_ret ?_
       refine WEx.in_ret ?_
       refine WEx.then_ret ?_
       obtain rfl := some_eq hF
       refine WEx.ret1 rfl rfl ?_
       have S184 := (S171.front 3 rfl).front 3 rfl
       change St _ _ _ [[(p43, .cells #[.int .i64 x40.most, .slice A51 x40.pairs.length c52] 169 (0, 0))], G53, [(p25, .cells #[.int .i64 x22.Most, .slice A33 x22.L.length c34] 172 (0, 0))], G35, [(p0, .cells #[.pointer (some ⟨p43, 0, none⟩), .pointer (some ⟨p25, 0, none⟩), .slice A11 a0.asked.length c12, .slice A15 a0.was.length c16] 110 (0, 0))], G65, G13, G17] at S184
       have hO185 : ObjO 169 ShK.rp p43 x40 ([(p43, .cells #[.int .i64 x40.most, .slice A51 x40.pairs.length c52] 169 (0, 0))] ++ (G53)) := ⟨_, _, ⟨A51, c52, G53, rfl, hO54, rfl⟩, rfl⟩
       have S186 : St _ _ _ [[(p43, .cells #[.int .i64 x40.most, .slice A51 x40.pairs.length c52] 169 (0, 0))] ++ (G53), [(p25, .cells #[.int .i64 x22.Most, .slice A33 x22.L.length c34] 172 (0, 0))], G35, [(p0, .cells #[.pointer (some ⟨p43, 0, none⟩), .pointer (some ⟨p25, 0, none⟩), .slice A11 a0.asked.length c12, .slice A15 a0.was.length c16] 110 (0, 0))], G65, G13, G17] := S184.objs (by simp)
       have S187 := (S186.front 2 rfl).front 2 rfl
       change St _ _ _ [[(p25, .cells #[.int .i64 x22.Most, .slice A33 x22.L.length c34] 172 (0, 0))], G35, [(p43, .cells #[.int .i64 x40.most, .slice A51 x40.pairs.length c52] 169 (0, 0))] ++ (G53), [(p0, .cells #[.pointer (some ⟨p43, 0, none⟩), .pointer (some ⟨p25, 0, none⟩), .slice A11 a0.asked.length c12, .slice A15 a0.was.length c16] 110 (0, 0))], G65, G13, G17] at S187
       have hO188 : ObjO 172 ShR.rp p25 x22 ([(p25, .cells #[.int .i64 x22.Most, .slice A33 x22.L.length c34] 172 (0, 0))] ++ (G35)) := ⟨_, _, ⟨A33, c34, G35, rfl, hO36, rfl⟩, rfl⟩
       have S189 : St _ _ _ [[(p25, .cells #[.int .i64 x22.Most, .slice A33 x22.L.length c34] 172 (0, 0))] ++ (G35), [(p43, .cells #[.int .i64 x40.most, .slice A51 x40.pairs.length c52] 169 (0, 0))] ++ (G53), [(p0, .cells #[.pointer (some ⟨p43, 0, none⟩), .pointer (some ⟨p25, 0, none⟩), .slice A11 a0.asked.length c12, .slice A15 a0.was.length c16] 110 (0, 0))], G65, G13, G17] := S187.objs (by simp)
       have S190 : St _ _ _ [[(p0, .cells #[.pointer (some ⟨p43, 0, none⟩), .pointer (some ⟨p25, 0, none⟩), .slice A11 a0.asked.length c12, .slice A15 a0.was.length c16] 110 (0, 0))], [(p43, .cells #[.int .i64 x40.most, .slice A51 x40.pairs.length c52] 169 (0, 0))] ++ (G53), [(p25, .cells #[.int .i64 x22.Most, .slice A33 x22.L.length c34] 172 (0, 0))] ++ (G35), G13, G17, G65] := St.reord S189 [2, 1, 0, 4, 5, 3] 6 rfl (by decide) rfl
       have hO191 : ObjO 110 Side.rp p0 (⟨(some x40), (some x22), a0.asked, a0.was⟩ : Side) ([(p0, .cells #[.pointer (some ⟨p43, 0, none⟩), .pointer (some ⟨p25, 0, none⟩), .slice A11 a0.asked.length c12, .slice A15 a0.was.length c16] 110 (0, 0))] ++ ([(p43, .cells #[.int .i64 x40.most, .slice A51 x40.pairs.length c52] 169 (0, 0))] ++ (G53) ++ ([(p25, .cells #[.int .i64 x22.Most, .slice A33 x22.L.length c34] 172 (0, 0))] ++ (G35) ++ (G13 ++ (G17))))) := ⟨_, _, ⟨(.pointer (some ⟨p43, 0, none⟩)), [(p43, .cells #[.int .i64 x40.most, .slice A51 x40.pairs.length c52] 169 (0, 0))] ++ (G53), (.pointer (some ⟨p25, 0, none⟩)), [(p25, .cells #[.int .i64 x22.Most, .slice A33 x22.L.length c34] 172 (0, 0))] ++ (G35), A11, c12, G13, A15, c16, G17, rfl, ⟨_, rfl, hO185⟩, ⟨_, rfl, hO188⟩, hO14, hO18, rfl⟩, rfl⟩
       have S192 : St _ _ _ [[(p0, .cells #[.pointer (some ⟨p43, 0, none⟩), .pointer (some ⟨p25, 0, none⟩), .slice A11 a0.asked.length c12, .slice A15 a0.was.length c16] 110 (0, 0))] ++ ([(p43, .cells #[.int .i64 x40.most, .slice A51 x40.pairs.length c52] 169 (0, 0))] ++ (G53) ++ ([(p25, .cells #[.int .i64 x22.Most, .slice A33 x22.L.length c34] 172 (0, 0))] ++ (G35) ++ (G13 ++ (G17)))), G65] := S190.objs (by simp)
       exact ⟨[(p0, .cells #[.pointer (some ⟨p43, 0, none⟩), .pointer (some ⟨p25, 0, none⟩), .slice A11 a0.asked.length c12, .slice A15 a0.was.length c16] 110 (0, 0))] ++ ([(p43, .cells #[.int .i64 x40.most, .slice A51 x40.pairs.length c52] 169 (0, 0))] ++ (G53) ++ ([(p25, .cells #[.int .i64 x22.Most, .slice A33 x22.L.length c34] 172 (0, 0))] ++ (G35) ++ (G13 ++ (G17)))), rfl, hO191, St.keep (As := [[(p0, .cells #[.pointer (some ⟨p43, 0, none⟩), .pointer (some ⟨p25, 0, none⟩), .slice A11 a0.asked.length c12, .slice A15 a0.was.length c16] 110 (0, 0))] ++ ([(p43, .cells #[.int .i64 x40.most, .slice A51 x40.pairs.length c52] 169 (0, 0))] ++ (G53) ++ ([(p25, .cells #[.int .i64 x22.Most, .slice A33 x22.L.length c34] 172 (0, 0))] ++ (G35) ++ (G13 ++ (G17))))]) S192⟩
     ·
      refine WCode.cond_f (kb (b := decide (x119 < ((t57).length : Int))) rfl (decide_eq_false h125)) ?_
      refine WCode.exit ?_
      refine WEx.then_exit ?_
      refine WEx.then_exit ?_
      refine WEx.in_exit ?_
      refine WEx.then_ ?_
      refine WCode.seq ?_
      refine WCode.region ?_
      refine WOps.p (G.assign rfl) rfl ?_
      refine WOps.nil ?_
      refine WEx.then_ ?_
      refine WCode.ret ?_
      obtain rfl := some_eq hF
      refine WEx.ret1 rfl rfl ?_
      have S193 := (S121.front 5 rfl).front 2 rfl
      change St _ _ _ [[(p43, .cells #[.int .i64 x40.most, .slice A51 x40.pairs.length c52] 169 (0, 0))], G53, [(p25, .cells #[.int .i64 x22.Most, .slice A33 x22.L.length c34] 172 (0, 0))], [(p0, .cells #[.pointer (some ⟨p43, 0, none⟩), .pointer (some ⟨p25, 0, none⟩), .slice A11 a0.asked.length c12, .slice A15 a0.was.length c16] 110 (0, 0))], G65, G35, G13, G17] at S193
      have hO194 : ObjO 169 ShK.rp p43 x40 ([(p43, .cells #[.int .i64 x40.most, .slice A51 x40.pairs.length c52] 169 (0, 0))] ++ (G53)) := ⟨_, _, ⟨A51, c52, G53, rfl, hO54, rfl⟩, rfl⟩
      have S195 : St _ _ _ [[(p43, .cells #[.int .i64 x40.most, .slice A51 x40.pairs.length c52] 169 (0, 0))] ++ (G53), [(p25, .cells #[.int .i64 x22.Most, .slice A33 x22.L.length c34] 172 (0, 0))], [(p0, .cells #[.pointer (some ⟨p43, 0, none⟩), .pointer (some ⟨p25, 0, none⟩), .slice A11 a0.asked.length c12, .slice A15 a0.was.length c16] 110 (0, 0))], G65, G35, G13, G17] := S193.objs (by simp)
      have S196 := (S195.front 4 rfl).front 2 rfl
      change St _ _ _ [[(p25, .cells #[.int .i64 x22.Most, .slice A33 x22.L.length c34] 172 (0, 0))], G35, [(p43, .cells #[.int .i64 x40.most, .slice A51 x40.pairs.length c52] 169 (0, 0))] ++ (G53), [(p0, .cells #[.pointer (some ⟨p43, 0, none⟩), .pointer (some ⟨p25, 0, none⟩), .slice A11 a0.asked.length c12, .slice A15 a0.was.length c16] 110 (0, 0))], G65, G13, G17] at S196
      have hO197 : ObjO 172 ShR.rp p25 x22 ([(p25, .cells #[.int .i64 x22.Most, .slice A33 x22.L.length c34] 172 (0, 0))] ++ (G35)) := ⟨_, _, ⟨A33, c34, G35, rfl, hO36, rfl⟩, rfl⟩
      have S198 : St _ _ _ [[(p25, .cells #[.int .i64 x22.Most, .slice A33 x22.L.length c34] 172 (0, 0))] ++ (G35), [(p43, .cells #[.int .i64 x40.most, .slice A51 x40.pairs.length c52] 169 (0, 0))] ++ (G53), [(p0, .cells #[.pointer (some ⟨p43, 0, none⟩), .pointer (some ⟨p25, 0, none⟩), .slice A11 a0.asked.length c12, .slice A15 a0.was.length c16] 110 (0, 0))], G65, G13, G17] := S196.objs (by simp)
      have S199 : St _ _ _ [[(p0, .cells #[.pointer (some ⟨p43, 0, none⟩), .pointer (some ⟨p25, 0, none⟩), .slice A11 a0.asked.length c12, .slice A15 a0.was.length c16] 110 (0, 0))], [(p43, .cells #[.int .i64 x40.most, .slice A51 x40.pairs.length c52] 169 (0, 0))] ++ (G53), [(p25, .cells #[.int .i64 x22.Most, .slice A33 x22.L.length c34] 172 (0, 0))] ++ (G35), G13, G17, G65] := St.reord S198 [2, 1, 0, 4, 5, 3] 6 rfl (by decide) rfl
      have hO200 : ObjO 110 Side.rp p0 (⟨(some x40), (some x22), a0.asked, a0.was⟩ : Side) ([(p0, .cells #[.pointer (some ⟨p43, 0, none⟩), .pointer (some ⟨p25, 0, none⟩), .slice A11 a0.asked.length c12, .slice A15 a0.was.length c16] 110 (0, 0))] ++ ([(p43, .cells #[.int .i64 x40.most, .slice A51 x40.pairs.length c52] 169 (0, 0))] ++ (G53) ++ ([(p25, .cells #[.int .i64 x22.Most, .slice A33 x22.L.length c34] 172 (0, 0))] ++ (G35) ++ (G13 ++ (G17))))) := ⟨_, _, ⟨(.pointer (some ⟨p43, 0, none⟩)), [(p43, .cells #[.int .i64 x40.most, .slice A51 x40.pairs.length c52] 169 (0, 0))] ++ (G53), (.pointer (some ⟨p25, 0, none⟩)), [(p25, .cells #[.int .i64 x22.Most, .slice A33 x22.L.length c34] 172 (0, 0))] ++ (G35), A11, c12, G13, A15, c16, G17, rfl, ⟨_, rfl, hO194⟩, ⟨_, rfl, hO197⟩, hO14, hO18, rfl⟩, rfl⟩
      have S201 : St _ _ _ [[(p0, .cells #[.pointer (some ⟨p43, 0, none⟩), .pointer (some ⟨p25, 0, none⟩), .slice A11 a0.asked.length c12, .slice A15 a0.was.length c16] 110 (0, 0))] ++ ([(p43, .cells #[.int .i64 x40.most, .slice A51 x40.pairs.length c52] 169 (0, 0))] ++ (G53) ++ ([(p25, .cells #[.int .i64 x22.Most, .slice A33 x22.L.length c34] 172 (0, 0))] ++ (G35) ++ (G13 ++ (G17)))), G65] := S199.objs (by simp)
      exact ⟨[(p0, .cells #[.pointer (some ⟨p43, 0, none⟩), .pointer (some ⟨p25, 0, none⟩), .slice A11 a0.asked.length c12, .slice A15 a0.was.length c16] 110 (0, 0))] ++ ([(p43, .cells #[.int .i64 x40.most, .slice A51 x40.pairs.length c52] 169 (0, 0))] ++ (G53) ++ ([(p25, .cells #[.int .i64 x22.Most, .slice A33 x22.L.length c34] 172 (0, 0))] ++ (G35) ++ (G13 ++ (G17)))), rfl, hO200, St.keep (As := [[(p0, .cells #[.pointer (some ⟨p43, 0, none⟩), .pointer (some ⟨p25, 0, none⟩), .slice A11 a0.asked.length c12, .slice A15 a0.was.length c16] 110 (0, 0))] ++ ([(p43, .cells #[.int .i64 x40.most, .slice A51 x40.pairs.length c52] 169 (0, 0))] ++ (G53) ++ ([(p25, .cells #[.int .i64 x22.Most, .slice A33 x22.L.length c34] 172 (0, 0))] ++ (G35) ++ (G13 ++ (G17))))]) S201⟩
  ·
   exact nomatch (show (none : Option (Bool × Side)) = some r_ from hF)
 ·
  have hn203 := Option.not_isSome_iff_eq_none.1 h21
  have ho202 := hO10
  rw [hn203] at ho202
  obtain ⟨hv204, hg205⟩ := ho202
  subst hv204
  have S207 := S20.front 2 rfl
  change St _ _ _ [G9, [(p0, .cells #[v5, .pointer none, .slice A11 a0.asked.length c12, .slice A15 a0.was.length c16] 110 (0, 0))], G6, G13, G17] at S207
  have S206 : St _ _ _ [[(p0, .cells #[v5, .pointer none, .slice A11 a0.asked.length c12, .slice A15 a0.was.length c16] 110 (0, 0))], G6, G13, G17] := S207.objs (by rw [hg205]; simp)
  refine WOps.p (G.eqp_nil Try.underlying104 rfl rfl rfl) rfl ?_
  refine WOps.nil ?_
  refine WEx.then_ ?_
  refine WCode.cond_t rfl ?_
  refine WCode.seq ?_
  refine WCode.region ?_
  refine WOps.p (G.assign rfl) rfl ?_
  refine WOps.nil ?_
  refine WEx.then_ ?_
  refine WCode.ret ?_
  refine WEx.then_ret ?_
  obtain rfl := some_eq hF
  refine WEx.ret1 rfl rfl ?_
  have S208 := S206.emp
  have S209 : St _ _ _ [[(p0, .cells #[v5, .pointer none, .slice A11 a0.asked.length c12, .slice A15 a0.was.length c16] 110 (0, 0))], G6, ([] : Grp), G13, G17] := St.reord S208 [1, 2, 0, 3, 4] 5 rfl (by decide) rfl
  have hO210 : ObjO 110 Side.rp p0 (⟨a0.s, none, a0.asked, a0.was⟩ : Side) ([(p0, .cells #[v5, .pointer none, .slice A11 a0.asked.length c12, .slice A15 a0.was.length c16] 110 (0, 0))] ++ (G6 ++ (([] : Grp) ++ (G13 ++ (G17))))) := ⟨_, _, ⟨v5, G6, (.pointer none), ([] : Grp), A11, c12, G13, A15, c16, G17, rfl, hO7, ⟨rfl, rfl⟩, hO14, hO18, rfl⟩, rfl⟩
  have S211 : St _ _ _ [[(p0, .cells #[v5, .pointer none, .slice A11 a0.asked.length c12, .slice A15 a0.was.length c16] 110 (0, 0))] ++ (G6 ++ (([] : Grp) ++ (G13 ++ (G17))))] := S209.objs (by simp)
  exact ⟨[(p0, .cells #[v5, .pointer none, .slice A11 a0.asked.length c12, .slice A15 a0.was.length c16] 110 (0, 0))] ++ (G6 ++ (([] : Grp) ++ (G13 ++ (G17)))), rfl, hO210, St.keep (As := [[(p0, .cells #[v5, .pointer none, .slice A11 a0.asked.length c12, .slice A15 a0.was.length c16] 110 (0, 0))] ++ (G6 ++ (([] : Grp) ++ (G13 ++ (G17))))]) S211⟩

end Go.Proofs.Ytoahkjehjmbojaa
