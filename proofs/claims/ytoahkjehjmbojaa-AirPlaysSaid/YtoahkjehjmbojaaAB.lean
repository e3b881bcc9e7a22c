/- Functions and their walks (printed by auto.py over the engine). -/
import Derived.Test.YtoahkjehjmbojaaProg
import Derived.Test.YtoahkjehjmbojaaAA
namespace Go.Proofs.Ytoahkjehjmbojaa
open Go Go.Eng
set_option linter.unusedSimpArgs false
set_option linter.unusedVariables false

theorem T.call75 : Callable Try.prog 75 := Callable.mk Try.func75 (by kernel_rfl) (by kernel_rfl)
theorem T.el32 : slEl Try.prog 32 = some 1 := by kernel_rfl
theorem T.el33 : slEl Try.prog 33 = some 1 := by kernel_rfl
theorem T.elt32 : Elt Try.prog 32 43 1 24 := elt_mk (z := .slice none 0 0) Try.underlying32 (by kernel_rfl) rfl
theorem T.elt33 : Elt Try.prog 33 3 1 8 := elt_mk (z := .int .i64 0) Try.underlying33 (by kernel_rfl) rfl
theorem T.fld35_0 : fldOff Try.prog 35 0 = some 0 := by kernel_rfl
theorem T.fld35_1 : fldOff Try.prog 35 1 = some 1 := by kernel_rfl
theorem T.fld35_2 : fldOff Try.prog 35 2 = some 2 := by kernel_rfl
theorem T.fld35_3 : fldOff Try.prog 35 3 = some 3 := by kernel_rfl
theorem T.fld35_4 : fldOff Try.prog 35 4 = some 4 := by kernel_rfl
theorem T.one32 : isOneT Try.prog 32 = true := by kernel_rfl
theorem T.one33 : isOneT Try.prog 33 = true := by kernel_rfl
theorem T.size32_1 : sizeT Try.prog 32 = some 1 := by kernel_rfl
theorem T.size33_1 : sizeT Try.prog 33 = some 1 := by kernel_rfl
structure BookA where
  free : List (List Packet)
  was : List (List Packet)
  lists : List (List Packet)
  grown : List (List Packet)
  whose : List Int
  deriving DecidableEq
def BookA.rp : Rp BookA where
  sz := 5
  rd := fun w F x cs => ∃ A1 : Option Addr, ∃ c1 : Nat, ∃ A2 : Option Addr, ∃ c2 : Nat, ∃ A3 : Option Addr, ∃ c3 : Nat, ∃ A4 : Option Addr, ∃ c4 : Nat, ∃ A5 : Option Addr, ∃ c5 : Nat, cs = [.slice A1 (x.free).length c1, .slice A2 (x.was).length c2, .slice A3 (x.lists).length c3, .slice A4 (x.grown).length c4, .slice A5 (x.whose).length c5] ∧ SlR (Rp.slice 37 Packet.rp) w F A1 c1 (x.free) ∧ SlR (Rp.slice 37 Packet.rp) w F A2 c2 (x.was) ∧ SlR (Rp.slice 37 Packet.rp) w F A3 c3 (x.lists) ∧ SlR (Rp.slice 37 Packet.rp) w F A4 c4 (x.grown) ∧ SlR (Rp.int .i64) w F A5 c5 (x.whose)
  own := fun x cs G => ∃ A1 : Option Addr, ∃ c1 : Nat, ∃ G1 : Grp, ∃ A2 : Option Addr, ∃ c2 : Nat, ∃ G2 : Grp, ∃ A3 : Option Addr, ∃ c3 : Nat, ∃ G3 : Grp, ∃ A4 : Option Addr, ∃ c4 : Nat, ∃ G4 : Grp, ∃ A5 : Option Addr, ∃ c5 : Nat, ∃ G5 : Grp, cs = [.slice A1 (x.free).length c1, .slice A2 (x.was).length c2, .slice A3 (x.lists).length c3, .slice A4 (x.grown).length c4, .slice A5 (x.whose).length c5] ∧ SlO 43 (Rp.slice 37 Packet.rp) (.slice A1 (x.free).length c1) (x.free) G1 ∧ PoolO 43 37 Packet.rp A2 c2 (x.was) G2 ∧ PoolO 43 37 Packet.rp A3 c3 (x.lists) G3 ∧ PoolO 43 37 Packet.rp A4 c4 (x.grown) G4 ∧ SlO 3 (Rp.int .i64) (.slice A5 (x.whose).length c5) (x.whose) G5 ∧ G = G1 ++ (G2 ++ (G3 ++ (G4 ++ (G5))))
  len := by rintro _ _ _ _ ⟨_, _, _, _, _, _, _, _, _, _, rfl, _⟩; rfl
  one := by rintro _ _ _ _ ⟨_, _, _, _, _, _, _, _, _, _, rfl, _⟩; exact one_of_all rfl
  lenO := by rintro _ _ _ ⟨_, _, _, _, _, _, _, _, _, _, _, _, _, _, _, rfl, _⟩; rfl
  oneO := by rintro _ _ _ ⟨_, _, _, _, _, _, _, _, _, _, _, _, _, _, _, rfl, _⟩; exact one_of_all rfl
  ext := by rintro _ _ _ _ _ ⟨A1, c1, A2, c2, A3, c3, A4, c4, A5, c5, rfl, h1, h2, h3, h4, h5⟩ hE; exact ⟨A1, c1, A2, c2, A3, c3, A4, c4, A5, c5, rfl, h1.ext hE, h2.ext hE, h3.ext hE, h4.ext hE, h5.ext hE⟩
  mono := by rintro _ _ _ _ _ ⟨A1, c1, A2, c2, A3, c3, A4, c4, A5, c5, rfl, h1, h2, h3, h4, h5⟩ hF; exact ⟨A1, c1, A2, c2, A3, c3, A4, c4, A5, c5, rfl, h1.mono hF, h2.mono hF, h3.mono hF, h4.mono hF, h5.mono hF⟩
  low := by
    rintro w x cs G ⟨A1, c1, G1, A2, c2, G2, A3, c3, G3, A4, c4, G4, A5, c5, G5, rfl, h1, h2, h3, h4, h5, hGe⟩ hG
    exact ⟨A1, c1, A2, c2, A3, c3, A4, c4, A5, c5, rfl, (h1.rd (fun b o hb => hG b o (by rw [hGe]; simp [hb]))).mono (fun b (hb : b ∈ keys G1) => show b ∈ keys G by rw [hGe]; simp [keys_append, hb]), (h2.rd (fun b o hb => hG b o (by rw [hGe]; simp [hb]))).mono (fun b (hb : b ∈ keys G2) => show b ∈ keys G by rw [hGe]; simp [keys_append, hb]), (h3.rd (fun b o hb => hG b o (by rw [hGe]; simp [hb]))).mono (fun b (hb : b ∈ keys G3) => show b ∈ keys G by rw [hGe]; simp [keys_append, hb]), (h4.rd (fun b o hb => hG b o (by rw [hGe]; simp [hb]))).mono (fun b (hb : b ∈ keys G4) => show b ∈ keys G by rw [hGe]; simp [keys_append, hb]), (h5.rd (fun b o hb => hG b o (by rw [hGe]; simp [hb]))).mono (fun b (hb : b ∈ keys G5) => show b ∈ keys G by rw [hGe]; simp [keys_append, hb])⟩


def y_still.l7 : Nat → List (List Packet) → List (List Packet) → List Int → Int → Option Bool
  | 0, _, _, _, _ => none
  | k395 + 1, l210, l216, l221, x392 => (if x392 < (l216.length : Int) then (Option.bind (idx l216 x392) fun x401 => (Option.bind (idx l221 x392) fun x418 => (Option.bind (yreads k395 x401 x418) fun t432 => (if t432 = true then (y_still.l7 k395 l210 l216 l221 (w64 (x392 + 1))) else (some false))))) else (some true))
def y_still.j4 (q360 : Nat) (l210 : List (List Packet)) (l216 : List (List Packet)) (l221 : List Int) : Option Bool := (y_still.l7 q360 l210 l216 l221 0)
def y_still.l6 : Nat → List (List Packet) → List (List Packet) → List Int → Int → Option Bool
  | 0, _, _, _, _ => none
  | k365 + 1, l210, l216, l221, x362 => (if x362 < (l210.length : Int) then (Option.bind (idx l210 x362) fun x369 => (Option.bind (yreads k365 x369 x362) fun t386 => (if t386 = true then (y_still.l6 k365 l210 l216 l221 (w64 (x362 + 1))) else (some false)))) else (y_still.j4 k365 l210 l216 l221))
def y_still.j3 (q226 : Nat) (l210 : List (List Packet)) (l216 : List (List Packet)) (l221 : List Int) : Option Bool := (y_still.l6 q226 l210 l216 l221 0)
mutual
def y_still.l5 : Nat → List (List Packet) → Int → List Packet → Int → List (List Packet) → List Int → Option Bool
  | 0, _, _, _, _, _, _ => none
  | k293 + 1, l109, x234, l277, x278, l282, l288 => (if x278 < 5 then (Option.bind (cat l277 ([(⟨w64 ((-1) - x234), 0, ([] : List UInt8)⟩ : Packet)] : List Packet)) fun l304 => (Option.bind (cat l282 ([l304] : List (List Packet))) fun l320 => (Option.bind (cat l288 ([x234] : List Int)) fun l339 => (y_still.l5 k293 l109 x234 l304 (w64 (x278 + 1)) l320 l339)))) else (y_still.l4 k293 l109 (w64 (x234 + 1)) l282 l288))
def y_still.l4 : Nat → List (List Packet) → Int → List (List Packet) → List Int → Option Bool
  | 0, _, _, _, _ => none
  | k249 + 1, l109, x234, l238, l244 => (if x234 < (l109.length : Int) then (Option.bind (idx l109 x234) fun x254 => (y_still.l5 k249 l109 x234 x254 0 l238 l244)) else (y_still.j3 k249 l109 l238 l244))
end
def y_still.j2 (q114 : Nat) (l109 : List (List Packet)) : Option Bool := (y_still.l4 q114 l109 (([] : List (List Packet)).length : Int) ([] : List (List Packet)) ([] : List Int))
mutual
def y_still.l3 : Nat → Int → Int → List (List Packet) → Option Bool
  | 0, _, _, _ => none
  | k138 + 1, x116, x130, l133 => (Option.bind (idx l133 x116) fun x141 => (if x130 < (x141.length : Int) then (Option.bind (idx l133 x116) fun x161 => (Option.bind (idx x161 x130) fun x180 => (Option.bind (upd x161 x130 (⟨w64 ((-1) - x116), 0, ([] : List UInt8)⟩ : Packet)) fun x194 => (Option.bind (upd l133 x116 x194) fun l196 => (y_still.l3 k138 x116 (w64 (x130 + 1)) l196))))) else (y_still.l2 k138 (w64 (x116 + 1)) l133)))
def y_still.l2 : Nat → Int → List (List Packet) → Option Bool
  | 0, _, _ => none
  | k124 + 1, x116, l119 => (if x116 < (l119.length : Int) then (y_still.l3 k124 x116 0 l119) else (y_still.j2 k124 l119))
end
def y_still.j1 (q29 : Nat) (a0_0 : List (List Packet)) (a0_1 : List (List Packet)) : Option Bool := (Option.bind (catN 68719476736 ([] : List (List Packet)) a0_0) fun l88 => (y_still.l2 q29 (([] : List (List Packet)).length : Int) l88))
def y_still.l1 : Nat → List (List Packet) → List (List Packet) → Int → Option Bool
  | 0, _, _, _ => none
  | k34 + 1, a0_0, a0_1, x31 => (if x31 < (a0_0.length : Int) then (Option.bind (idx a0_0 x31) fun x40 => (Option.bind (idx a0_1 x31) fun x59 => (Option.bind (ysame k34 x40 x59) fun t76 => (if t76 = true then (y_still.l1 k34 a0_0 a0_1 (w64 (x31 + 1))) else (some false))))) else (y_still.j1 k34 a0_0 a0_1))
def y_still (k : Nat) (a0_0 : List (List Packet)) (a0_1 : List (List Packet)) : Option Bool := (y_still.l1 k a0_0 a0_1 0)
set_option maxRecDepth 100000 in
set_option maxHeartbeats 1000000 in
theorem y_still_calls (k : Nat) (a0_0 : List (List Packet)) (a0_1 : List (List Packet)) {p0 : Nat} {G0 : Grp} {w : World} (hO0 : ObjO 35 BookA.rp p0 (⟨a0_0, a0_1, ([] : List (List Packet)), ([] : List (List Packet)), ([] : List Int)⟩ : BookA) G0) {r_ : Bool} (h_ : y_still k a0_0 a0_1 = some r_) (hp_ : Hp w ([G0]).flatten) :
    Calls Try.prog 18 [.pointer (some ⟨p0, 0, none⟩)].toArray w fun e w' => e = .returned (.bool r_) ∧ St w (KS [G0]) w' [] := by
 have hF := h_
 clear h_
 unfold y_still at hF
 have S := St.initK [G0] hp_
 obtain ⟨cs1, G2, ho3, hg4⟩ := hO0
 obtain ⟨A5, c6, G7, A9, c10, G11, A13, c14, G15, A17, c18, G19, A21, c22, G23, rfl, hO8, hO12, hO16, hO20, hO24, hq25⟩ := ho3
 have S26 : St _ _ _ [[(p0, .cells #[.slice A5 a0_0.length c6, .slice A9 a0_1.length c10, .slice A13 ([] : List (List Packet)).length c14, .slice A17 ([] : List (List Packet)).length c18, .slice A21 ([] : List Int).length c22] 35 (0, 0))], G7, G11, G15, G19, G23] := S.objs (by rw [hg4, hq25]; simp)
 refine enter 191 [(0, .pointer (some ⟨p0, 0, none⟩))] Try.func18 rfl rfl rfl rfl ?_
 refine WCode.seq ?_
 refine WCode.region ?_
 refine WOps.p (G.assign rfl) rfl ?_
 refine WOps.nil ?_
 refine WEx.then_ ?_
 refine WCode.cutseq (fun l_ w_ => ∃ q29 : Nat, l_ = [(0, .pointer (some ⟨p0, 0, none⟩))] ∧ y_still.j1 q29 a0_0 a0_1 = some r_ ∧ St w (KS [G0]) w_ [[(p0, .cells #[.slice A5 a0_0.length c6, .slice A9 a0_1.length c10, .slice A13 ([] : List (List Packet)).length c14, .slice A17 ([] : List (List Packet)).length c18, .slice A21 ([] : List Int).length c22] 35 (0, 0))], G7, G11, G15, G19, G23]) ?_ ?_
 ·
  refine WCode.seq ?_
  refine WCode.region ?_
  refine WOps.p (G.assign rfl) rfl ?_
  refine WOps.nil ?_
  refine WEx.then_ ?_
  refine WCode.block ?_
  refine WCode.forget (l' := [(0, .pointer (some ⟨p0, 0, none⟩)), (3, .int .i64 0)]) ⟨rfl, rfl, trivial⟩ ?_
  refine WCode.loop (fun n_ l_ w_ => ∃ x31 : Int, l_ = [(0, .pointer (some ⟨p0, 0, none⟩)), (3, .int .i64 x31)] ∧ y_still.l1 n_ a0_0 a0_1 x31 = some r_ ∧ St w (KS [G0]) w_ [[(p0, .cells #[.slice A5 a0_0.length c6, .slice A9 a0_1.length c10, .slice A13 ([] : List (List Packet)).length c14, .slice A17 ([] : List (List Packet)).length c18, .slice A21 ([] : List Int).length c22] 35 (0, 0))], G7, G11, G15, G19, G23]) k ⟨0, rfl, hF, S26⟩ ?_
  rintro n35 _ w32 ⟨x31, rfl, hF, S33⟩
  obtain _ | k34 := n35
  · exact nomatch (show (none : Option Bool) = some r_ from hF)
  rw [y_still.l1] at hF
  refine WCode.seq ?_
  refine WCode.seq ?_
  refine WCode.region ?_
  refine WOps.p (G.move rfl) rfl ?_
  refine WOps.p (G.move rfl) rfl ?_
  refine WOps.p (G.nilp rfl) rfl ?_
  refine WOps.p (G.field T.fld35_0 rfl (show 0 + 0 = 0 from rfl)) rfl ?_
  refine WOps.r (G.load1 T.one32 rfl (cell_blk (S33.blk 0 rfl) rfl)) rfl ?_
  refine WOps.p (G.len T.el32 rfl) rfl ?_
  refine WOps.p (G.lss rfl rfl rfl) rfl ?_
  refine WOps.nil ?_
  refine WEx.then_ ?_
  rcases ite_some hF with ⟨h37, hF⟩ | ⟨h37, hF⟩
  ·
   refine WCode.cond_t (kb (b := decide (x31 < (a0_0.length : Int))) rfl (decide_eq_true h37)) ?_
   refine WCode.skip ?_
   refine WEx.then_ ?_
   refine WCode.seq ?_
   refine WCode.block ?_
   refine WCode.seq ?_
   refine WCode.draw [⟨0, 0, []⟩, ⟨1, 0, []⟩, ⟨2, 0, []⟩, ⟨4, 0, []⟩, ⟨7, 0, []⟩, ⟨8, 0, []⟩, ⟨9, 0, []⟩, ⟨11, 0, []⟩, ⟨3, 1, [5, 6, 14, 15]⟩, ⟨5, 0, []⟩, ⟨6, 1, [14, 15]⟩, ⟨10, 1, [12, 13, 14, 15]⟩, ⟨12, 0, []⟩, ⟨13, 1, [14, 15]⟩, ⟨14, 2, []⟩, ⟨15, 0, []⟩] T.mixed (by kernel_rfl) (by intro _ _ d _ _ h; cases d <;> exact h) rfl (by kernel_rfl) ?_
   have S38 := S33.drew
   generalize w32.drew = w39 at *
   refine WD.p rfl (G.move rfl) rfl ?_
   refine WD.p rfl (G.nilp rfl) rfl ?_
   refine WD.p rfl (G.field T.fld35_0 rfl (show 0 + 0 = 0 from rfl)) rfl ?_
   refine WD.p rfl (G.move rfl) rfl ?_
   refine WD.p rfl (G.move rfl) rfl ?_
   refine WD.p rfl (G.nilp rfl) rfl ?_
   refine WD.p rfl (G.field T.fld35_1 rfl (show 0 + 1 = 1 from rfl)) rfl ?_
   refine WD.p rfl (G.move rfl) rfl ?_
   refine WD.r rfl (G.load1 T.one32 rfl (cell_blk (S38.blk 0 rfl) rfl)) rfl ?_
   obtain ⟨x40, hc41, hF⟩ := bind_some hF
   obtain ⟨j42, ej43, hj44, hl45⟩ := idx_spec hc41
   obtain ⟨A53, c54, hG55, hH58, hS56, hcl57⟩ := SlO.subH hO8 hj44
   obtain ⟨b46, o47, eA49, hf50, hc51⟩ := hcl57 _ (fun b o hb => S38.grp 1 rfl hb)
   refine WD.p rfl (G.idx T.el32 rfl eA49 rfl ej43 hl45) rfl ?_
   refine WD.r rfl (G.load1 T.one43 rfl (cellsAt.at0 hc51)) rfl ?_
   refine WD.r rfl (G.load1 T.one32 rfl (cell_blk (S38.blk 0 rfl) rfl)) rfl ?_
   obtain ⟨x59, hc60, hF⟩ := bind_some hF
   obtain ⟨j61, ej62, hj63, hl64⟩ := idx_spec hc60
   obtain ⟨A72, c73, hG74, hcl75⟩ := PoolO.at_ hO12 hj63
   obtain ⟨b65, o66, eA68, hf69, hc70⟩ := hcl75 _ (fun b o hb => S38.grp 2 rfl hb)
   refine WD.p rfl (G.idx T.el32 rfl eA68 rfl ej62 hl64) rfl ?_
   refine WD.r rfl (G.load1 T.one43 rfl (cellsAt.at0 hc70)) rfl ?_
   obtain ⟨t76, hc77, hF⟩ := bind_some hF
   refine WD.call rfl T.call23 (evs_cons rfl (evs_cons rfl evs_nil)) rfl ?_
   refine (ysame_calls k34 x40 x59 ((SlG.toV (u := w) hG55 (S38.nd 1 rfl)).ext (S38.vw 1 rfl)) (St.outG (Bs := []) S38 1 rfl) ((SlG.toV (u := w) hG74 (S38.nd 2 rfl)).ext (S38.vw 2 rfl)) (St.outG (Bs := []) S38 2 rfl) hc77).mono ?_
   rintro _ w78 ⟨rfl, T79⟩
   have S80 := St.callN (As := []) S38 T79
   change St _ _ _ [[(p0, .cells #[.slice A5 a0_0.length c6, .slice A9 a0_1.length c10, .slice A13 ([] : List (List Packet)).length c14, .slice A17 ([] : List (List Packet)).length c18, .slice A21 ([] : List Int).length c22] 35 (0, 0))], G7, G11, G15, G19, G23] at S80
   refine ⟨_, rfl, ?_⟩
   refine WD.p rfl (G.assign rfl) rfl ?_
   refine WD.nil ?_
   refine WEx.then_ ?_
   refine WCode.forget (l' := [(0, .pointer (some ⟨p0, 0, none⟩)), (3, .int .i64 x31), (4, .bool t76)]) ⟨rfl, rfl, rfl, trivial⟩ ?_
   refine WCode.seq ?_
   refine WCode.region ?_
   refine WOps.p (G.move rfl) rfl ?_
   refine WOps.p (G.not rfl rfl) rfl ?_
   refine WOps.nil ?_
   refine WEx.then_ ?_
   rcases ite_some hF with ⟨h81, hF⟩ | ⟨h81, hF⟩
   ·
    refine WCode.cond_f (kb (b := !t76) rfl (show (!t76) = false from by rw [h81]; rfl)) ?_
    refine WCode.skip ?_
    refine WEx.in_normal ?_
    refine WEx.then_ ?_
    refine WCode.region ?_
    refine WOps.p (G.move rfl) rfl ?_
    refine WOps.p (G.add rfl rfl (r := (w64 (x31 + 1))) rfl) rfl ?_
    refine WOps.p (G.assign rfl) rfl ?_
    refine WOps.nil ?_
    refine WEx.again _ _ (by omega) ?_ ⟨w64 (x31 + 1), rfl, hF, S80⟩
    exact ⟨rfl, rfl, trivial⟩
   ·
    refine WCode.cond_t (kb (b := !t76) rfl (show (!t76) = true from by rw [(Bool.eq_false_iff.2 h81)]; rfl)) ?_
    refine WCode.seq ?_
    refine WCode.region ?_
    refine WOps.p (G.assign rfl) rfl ?_
    refine WOps.nil ?_
    refine WEx.then_ ?_
    refine WCode.ret ?_
    refine WEx.in_ret ?_
    refine WEx.then_ret ?_
    refine WEx.then_ret ?_
    refine WEx.in_ret ?_
    refine WEx.then_ret ?_
    obtain rfl := some_eq hF
    refine WEx.ret1 rfl rfl ?_
    exact ⟨rfl, St.keep (As := []) S80⟩
  ·
   refine WCode.cond_f (kb (b := decide (x31 < (a0_0.length : Int))) rfl (decide_eq_false h37)) ?_
   refine WCode.exit ?_
   refine WEx.then_exit ?_
   refine WEx.then_exit ?_
   refine WEx.in_exit ?_
   refine WEx.cutend _ ?_ ⟨k34, rfl, hF, S33⟩
   exact ⟨rfl, trivial⟩
 ·
  rintro _ w27 ⟨q29, rfl, hF, S28⟩
  unfold y_still.j1 at hF
  refine WCode.seq ?_
  refine WCode.region ?_
  refine WOps.p (G.move rfl) rfl ?_
  refine WOps.p (G.nilp rfl) rfl ?_
  refine WOps.p (G.field T.fld35_2 rfl (show 0 + 2 = 2 from rfl)) rfl ?_
  refine WOps.r (G.load1 T.one32 rfl (cell_blk (S28.blk 0 rfl) rfl)) rfl ?_
  refine WOps.p (G.len T.el32 rfl) rfl ?_
  refine WOps.p (G.assign rfl) rfl ?_
  refine WOps.nil ?_
  refine WEx.then_ ?_
  refine WCode.seq ?_
  refine WCode.draw [⟨0, 0, []⟩, ⟨1, 0, []⟩, ⟨2, 0, []⟩, ⟨3, 0, []⟩, ⟨5, 0, []⟩, ⟨6, 0, []⟩, ⟨7, 0, []⟩, ⟨4, 1, [9, 10, 11, 12]⟩, ⟨8, 1, [9, 10, 11, 12]⟩, ⟨9, 2, []⟩, ⟨10, 0, []⟩, ⟨11, 0, []⟩, ⟨12, 2, []⟩] T.mixed (by kernel_rfl) (by intro _ _ d _ _ h; cases d <;> exact h) rfl (by kernel_rfl) ?_
  have S82 := S28.drew
  generalize w27.drew = w83 at *
  refine WD.p rfl (G.move rfl) rfl ?_
  refine WD.p rfl (G.move rfl) rfl ?_
  refine WD.p rfl (G.nilp rfl) rfl ?_
  refine WD.p rfl (G.field T.fld35_2 rfl (show 0 + 2 = 2 from rfl)) rfl ?_
  refine WD.p rfl (G.move rfl) rfl ?_
  refine WD.p rfl (G.nilp rfl) rfl ?_
  refine WD.p rfl (G.field T.fld35_0 rfl (show 0 + 0 = 0 from rfl)) rfl ?_
  refine WD.r rfl (G.load1 T.one32 rfl (cell_blk (S82.blk 0 rfl) rfl)) rfl ?_
  refine WD.r rfl (G.load1 T.one32 rfl (cell_blk (S82.blk 0 rfl) rfl)) rfl ?_
  have S84 := S82.front 3 rfl
  change St _ _ _ [G15, [(p0, .cells #[.slice A5 a0_0.length c6, .slice A9 a0_1.length c10, .slice A13 ([] : List (List Packet)).length c14, .slice A17 ([] : List (List Packet)).length c18, .slice A21 ([] : List Int).length c22] 35 (0, 0))], G7, G11, G19, G23] at S84
  obtain ⟨G85, hO86, S87⟩ := St.poolEmp S84 hO16
  obtain ⟨l88, hc89, hF⟩ := bind_some hF
  have S90 := (S87.front 2 rfl).front 1 rfl
  change St _ _ _ [G85, G7, [(p0, .cells #[.slice A5 a0_0.length c6, .slice A9 a0_1.length c10, .slice A13 ([] : List (List Packet)).length c14, .slice A17 ([] : List (List Packet)).length c18, .slice A21 ([] : List Int).length c22] 35 (0, 0))], G11, G19, G23] at S90
  obtain ⟨A91, c92, G93, w94, E95, hO96, S97⟩ := St.appO (P := Try.prog) (r := (Rp.slice 37 Packet.rp)) (n := 68719476736) S90 T.elt32 rfl hO86 hO8 hc89
  change St _ _ _ [G93, [(p0, .cells #[.slice A5 a0_0.length c6, .slice A9 a0_1.length c10, .slice A13 ([] : List (List Packet)).length c14, .slice A17 ([] : List (List Packet)).length c18, .slice A21 ([] : List Int).length c22] 35 (0, 0))], G11, G19, G23] at S97
  refine WD.e rfl (E95 rfl rfl) rfl ?_
  refine WD.p rfl (G.nilp rfl) rfl ?_
  refine WD.p rfl (G.field T.fld35_2 rfl (show 0 + 2 = 2 from rfl)) rfl ?_
  obtain ⟨w98, E99, S100⟩ := St.store (P := Try.prog) S97 1 32 (.slice A91 l88.length c92) (off := 2) (cur' := #[.slice A5 a0_0.length c6, .slice A9 a0_1.length c10, .slice A91 l88.length c92, .slice A17 ([] : List (List Packet)).length c18, .slice A21 ([] : List Int).length c22]) rfl T.size32_1 rfl rfl rfl
  change St _ _ _ [G93, [(p0, .cells #[.slice A5 a0_0.length c6, .slice A9 a0_1.length c10, .slice A91 l88.length c92, .slice A17 ([] : List (List Packet)).length c18, .slice A21 ([] : List Int).length c22] 35 (0, 0))], G11, G19, G23] at S100
  refine WD.u rfl (E99 rfl rfl) ?_
  refine WD.nil ?_
  refine WEx.then_ ?_
  refine WCode.forget (l' := [(0, .pointer (some ⟨p0, 0, none⟩)), (5, .int .i64 (([] : List (List Packet)).length : Int))]) ⟨rfl, rfl, trivial⟩ ?_
  refine WCode.seq ?_
  refine WCode.region ?_
  refine WOps.p (G.move rfl) rfl ?_
  refine WOps.p (G.nilp rfl) rfl ?_
  refine WOps.p (G.field T.fld35_0 rfl (show 0 + 0 = 0 from rfl)) rfl ?_
  obtain ⟨w101, E102, S103⟩ := St.store (P := Try.prog) S100 1 32 (.slice none 0 0) (off := 0) (cur' := #[.slice none 0 0, .slice A9 a0_1.length c10, .slice A91 l88.length c92, .slice A17 ([] : List (List Packet)).length c18, .slice A21 ([] : List Int).length c22]) rfl T.size32_1 rfl rfl rfl
  change St _ _ _ [G93, [(p0, .cells #[.slice none 0 0, .slice A9 a0_1.length c10, .slice A91 l88.length c92, .slice A17 ([] : List (List Packet)).length c18, .slice A21 ([] : List Int).length c22] 35 (0, 0))], G11, G19, G23] at S103
  refine WOps.u (E102 rfl rfl) ?_
  refine WOps.nil ?_
  refine WEx.then_ ?_
  refine WCode.seq ?_
  refine WCode.region ?_
  refine WOps.p (G.move rfl) rfl ?_
  refine WOps.p (G.nilp rfl) rfl ?_
  refine WOps.p (G.field T.fld35_1 rfl (show 0 + 1 = 1 from rfl)) rfl ?_
  obtain ⟨w104, E105, S106⟩ := St.store (P := Try.prog) S103 1 32 (.slice none 0 0) (off := 1) (cur' := #[.slice none 0 0, .slice none 0 0, .slice A91 l88.length c92, .slice A17 ([] : List (List Packet)).length c18, .slice A21 ([] : List Int).length c22]) rfl T.size32_1 rfl rfl rfl
  change St _ _ _ [G93, [(p0, .cells #[.slice none 0 0, .slice none 0 0, .slice A91 l88.length c92, .slice A17 ([] : List (List Packet)).length c18, .slice A21 ([] : List Int).length c22] 35 (0, 0))], G11, G19, G23] at S106
  refine WOps.u (E105 rfl rfl) ?_
  refine WOps.nil ?_
  refine WEx.then_ ?_
  refine WCode.cutseq (fun l_ w_ => ∃ q114 : Nat, ∃ A107 : Option Addr, ∃ c108 : Nat, ∃ l109 : List (List Packet), ∃ G110 : Grp, l_ = [(0, .pointer (some ⟨p0, 0, none⟩)), (5, .int .i64 (([] : List (List Packet)).length : Int))] ∧ y_still.j2 q114 l109 = some r_ ∧ (SlO 43 (Rp.slice 37 Packet.rp) (.slice A107 l109.length c108) l109 G110) ∧ St w (KS [G0]) w_ [[(p0, .cells #[.slice none 0 0, .slice none 0 0, .slice A107 l109.length c108, .slice A17 ([] : List (List Packet)).length c18, .slice A21 ([] : List Int).length c22] 35 (0, 0))], G19, G23, G110]) ?_ ?_
  ·
   refine WCode.seq ?_
   refine WCode.region ?_
   refine WOps.p (G.move rfl) rfl ?_
   refine WOps.p (G.assign rfl) rfl ?_
   refine WOps.nil ?_
   refine WEx.then_ ?_
   refine WCode.block ?_
   have S126 := ((S106.front 4 rfl).front 4 rfl).front 3 rfl
   change St _ _ _ [[(p0, .cells #[.slice none 0 0, .slice none 0 0, .slice A91 l88.length c92, .slice A17 ([] : List (List Packet)).length c18, .slice A21 ([] : List Int).length c22] 35 (0, 0))], G19, G23, G93, G11] at S126
   have S127 := St.keep (As := [[(p0, .cells #[.slice none 0 0, .slice none 0 0, .slice A91 l88.length c92, .slice A17 ([] : List (List Packet)).length c18, .slice A21 ([] : List Int).length c22] 35 (0, 0))], G19, G23, G93]) S126
   refine WCode.forget (l' := [(0, .pointer (some ⟨p0, 0, none⟩)), (5, .int .i64 (([] : List (List Packet)).length : Int)), (6, .int .i64 (([] : List (List Packet)).length : Int))]) ⟨rfl, rfl, rfl, trivial⟩ ?_
   refine WCode.loop (fun n_ l_ w_ => ∃ x116 : Int, ∃ A117 : Option Addr, ∃ c118 : Nat, ∃ l119 : List (List Packet), ∃ G120 : Grp, l_ = [(0, .pointer (some ⟨p0, 0, none⟩)), (5, .int .i64 (([] : List (List Packet)).length : Int)), (6, .int .i64 x116)] ∧ y_still.l2 n_ x116 l119 = some r_ ∧ (SlO 43 (Rp.slice 37 Packet.rp) (.slice A117 l119.length c118) l119 G120) ∧ St w (KS [G0]) w_ [[(p0, .cells #[.slice none 0 0, .slice none 0 0, .slice A117 l119.length c118, .slice A17 ([] : List (List Packet)).length c18, .slice A21 ([] : List Int).length c22] 35 (0, 0))], G19, G23, G120]) q29 ⟨(([] : List (List Packet)).length : Int), A91, c92, l88, G93, rfl, hF, hO96, S127⟩ ?_
   rintro n125 _ w122 ⟨x116, A117, c118, l119, G120, rfl, hF, hO121, S123⟩
   obtain _ | k124 := n125
   · exact nomatch (show (none : Option Bool) = some r_ from hF)
   rw [y_still.l2] at hF
   refine WCode.seq ?_
   refine WCode.seq ?_
   refine WCode.region ?_
   refine WOps.p (G.move rfl) rfl ?_
   refine WOps.p (G.move rfl) rfl ?_
   refine WOps.p (G.nilp rfl) rfl ?_
   refine WOps.p (G.field T.fld35_2 rfl (show 0 + 2 = 2 from rfl)) rfl ?_
   refine WOps.r (G.load1 T.one32 rfl (cell_blk (S123.blk 0 rfl) rfl)) rfl ?_
   refine WOps.p (G.len T.el32 rfl) rfl ?_
   refine WOps.p (G.lss rfl rfl rfl) rfl ?_
   refine WOps.nil ?_
   refine WEx.then_ ?_
   rcases ite_some hF with ⟨h129, hF⟩ | ⟨h129, hF⟩
   ·
    refine WCode.cond_t (kb (b := decide (x116 < (l119.length : Int))) rfl (decide_eq_true h129)) ?_
    refine WCode.skip ?_
    refine WEx.then_ ?_
    refine WCode.seq ?_
    refine WCode.block ?_
    refine WCode.seq ?_
    refine WCode.region ?_
    refine WOps.p (G.assign rfl) rfl ?_
    refine WOps.nil ?_
    refine WEx.then_ ?_
    refine WCode.block ?_
    refine WCode.forget (l' := [(0, .pointer (some ⟨p0, 0, none⟩)), (5, .int .i64 (([] : List (List Packet)).length : Int)), (6, .int .i64 x116), (7, .int .i64 0)]) ⟨rfl, rfl, rfl, rfl, trivial⟩ ?_
    refine WCode.loop (fun n_ l_ w_ => ∃ x130 : Int, ∃ A131 : Option Addr, ∃ c132 : Nat, ∃ l133 : List (List Packet), ∃ G134 : Grp, l_ = [(0, .pointer (some ⟨p0, 0, none⟩)), (5, .int .i64 (([] : List (List Packet)).length : Int)), (6, .int .i64 x116), (7, .int .i64 x130)] ∧ y_still.l3 n_ x116 x130 l133 = some r_ ∧ n_ ≤ k124 ∧ (SlO 43 (Rp.slice 37 Packet.rp) (.slice A131 l133.length c132) l133 G134) ∧ St w (KS [G0]) w_ [[(p0, .cells #[.slice none 0 0, .slice none 0 0, .slice A131 l133.length c132, .slice A17 ([] : List (List Packet)).length c18, .slice A21 ([] : List Int).length c22] 35 (0, 0))], G19, G23, G134]) k124 ⟨0, A117, c118, l119, G120, rfl, hF, Nat.le_refl _, hO121, S123⟩ ?_
    rintro n139 _ w136 ⟨x130, A131, c132, l133, G134, rfl, hF, hle140, hO135, S137⟩
    obtain _ | k138 := n139
    · exact nomatch (show (none : Option Bool) = some r_ from hF)
    rw [y_still.l3] at hF
    refine WCode.seq ?_
    refine WCode.seq ?_
    refine WCode.region ?_
    refine WOps.p (G.move rfl) rfl ?_
    refine WOps.p (G.move rfl) rfl ?_
    refine WOps.p (G.nilp rfl) rfl ?_
    refine WOps.p (G.field T.fld35_2 rfl (show 0 + 2 = 2 from rfl)) rfl ?_
    refine WOps.r (G.load1 T.one32 rfl (cell_blk (S137.blk 0 rfl) rfl)) rfl ?_
    refine WOps.p (G.move rfl) rfl ?_
    obtain ⟨x141, hc142, hF⟩ := bind_some hF
    obtain ⟨j143, ej144, hj145, hl146⟩ := idx_spec hc142
    obtain ⟨A154, c155, hG156, hH159, hS157, hcl158⟩ := SlO.subH hO135 hj145
    obtain ⟨b147, o148, eA150, hf151, hc152⟩ := hcl158 _ (fun b o hb => S137.grp 3 rfl hb)
    refine WOps.p (G.idx T.el32 rfl eA150 rfl ej144 hl146) rfl ?_
    refine WOps.r (G.load1 T.one43 rfl (cellsAt.at0 hc152)) rfl ?_
    refine WOps.p (G.len T.el43 rfl) rfl ?_
    refine WOps.p (G.lss rfl rfl rfl) rfl ?_
    refine WOps.nil ?_
    refine WEx.then_ ?_
    rcases ite_some hF with ⟨h160, hF⟩ | ⟨h160, hF⟩
    ·
     refine WCode.cond_t (kb (b := decide (x130 < (x141.length : Int))) rfl (decide_eq_true h160)) ?_
     refine WCode.skip ?_
     refine WEx.then_ ?_
     refine WCode.forget (l' := [(0, .pointer (some ⟨p0, 0, none⟩)), (5, .int .i64 (([] : List (List Packet)).length : Int)), (6, .int .i64 x116), (7, .int .i64 x130)]) ⟨rfl, rfl, rfl, rfl, trivial⟩ ?_
     refine WCode.seq ?_
     refine WCode.block ?_
     refine WCode.region ?_
     refine WOps.p (G.move rfl) rfl ?_
     refine WOps.p (G.nilp rfl) rfl ?_
     refine WOps.p (G.field T.fld35_2 rfl (show 0 + 2 = 2 from rfl)) rfl ?_
     refine WOps.r (G.load1 T.one32 rfl (cell_blk (S137.blk 0 rfl) rfl)) rfl ?_
     refine WOps.p (G.move rfl) rfl ?_
     obtain ⟨x161, hc162, hF⟩ := bind_some hF
     obtain ⟨j163, ej164, hj165, hl166⟩ := idx_spec hc162
     obtain ⟨A174, c175, hG176, hH179, hS177, hcl178⟩ := SlO.subH hO135 hj165
     obtain ⟨b167, o168, eA170, hf171, hc172⟩ := hcl178 _ (fun b o hb => S137.grp 3 rfl hb)
     refine WOps.p (G.idx T.el32 rfl eA170 rfl ej164 hl166) rfl ?_
     refine WOps.r (G.load1 T.one43 rfl (cellsAt.at0 hc172)) rfl ?_
     refine WOps.p (G.move rfl) rfl ?_
     refine WOps.p (G.move rfl) rfl ?_
     refine WOps.p (G.sub rfl rfl (r := (w64 ((-1) - x116))) rfl) rfl ?_
     refine WOps.p (G.build (cells := #[.int .i64 (w64 ((-1) - x116)), .int .i64 0, .string (bs ([] : List UInt8))]) (evp_spec (evp_cons rfl evp_nil)) (by kernel_rfl)) rfl ?_
     obtain ⟨x180, hc181, hF⟩ := bind_some hF
     obtain ⟨j182, ej183, hj184, hl185⟩ := idx_spec hc181
     obtain ⟨b186, o187, cs188, eA189, hf190, hc191, hr192⟩ := SlR.at_ ((SlG.toV (u := w) hG176 (S137.nd 3 rfl)).ext (S137.vw 3 rfl)) hj184
     have hq193 : cs188 = [.int .i64 x180.From, .int .i64 x180.To, .string (bs x180.Data)] := hr192
     subst hq193
     change cellsAt _ _ (o187 + j182 * 3) [.int .i64 x180.From, .int .i64 x180.To, .string (bs x180.Data)] at hc191
     refine WOps.p (G.idx T.el43 rfl eA189 rfl ej183 hl185) rfl ?_
     obtain ⟨x194, hc195, hF⟩ := bind_some hF
     obtain ⟨l196, hc197, hF⟩ := bind_some hF
     have e198 := upd_spec' hc195 ej183
     have e199 := upd_spec' hc197 ej164
     have S200 := S137.front 3 rfl
     change St _ _ _ [G134, [(p0, .cells #[.slice none 0 0, .slice none 0 0, .slice A131 l133.length c132, .slice A17 ([] : List (List Packet)).length c18, .slice A21 ([] : List Int).length c22] 35 (0, 0))], G19, G23] at S200
     obtain ⟨w201, G202, E203, hO204, S205⟩ := St.store2 (P := Try.prog) (T := 37) S200 hS177 T.size37_3 hl185 eA189 (⟨w64 ((-1) - x116), 0, ([] : List UInt8)⟩ : Packet) (v := .agg #[.int .i64 (w64 ((-1) - x116)), .int .i64 0, .string (bs ([] : List UInt8))]) rfl
     rw [← e198, ← e199] at hO204
     have hl206 : (l133).length = l196.length := by rw [e199, List.length_set]
     try rw [hl206] at S205
     try rw [hl206]
     refine WOps.u (E203 rfl rfl) ?_
     refine WOps.nil ?_
     refine WEx.in_normal ?_
     refine WEx.then_ ?_
     refine WCode.forget (l' := [(0, .pointer (some ⟨p0, 0, none⟩)), (5, .int .i64 (([] : List (List Packet)).length : Int)), (6, .int .i64 x116), (7, .int .i64 x130)]) ⟨rfl, rfl, rfl, rfl, trivial⟩ ?_
     refine WCode.region ?_
     refine WOps.p (G.move rfl) rfl ?_
     refine WOps.p (G.add rfl rfl (r := (w64 (x130 + 1))) rfl) rfl ?_
     refine WOps.p (G.assign rfl) rfl ?_
     refine WOps.nil ?_
     have S207 := ((S205.front 3 rfl).front 3 rfl).front 3 rfl
     change St _ _ _ [[(p0, .cells #[.slice none 0 0, .slice none 0 0, .slice A131 l196.length c132, .slice A17 ([] : List (List Packet)).length c18, .slice A21 ([] : List Int).length c22] 35 (0, 0))], G19, G23, G202] at S207
     refine WEx.again _ _ (by omega) ?_ ⟨w64 (x130 + 1), A131, c132, l196, G202, rfl, hF, (by omega), hO204, S207⟩
     exact ⟨rfl, rfl, rfl, rfl, trivial⟩
    ·
     refine WCode.cond_f (kb (b := decide (x130 < (x141.length : Int))) rfl (decide_eq_false h160)) ?_
     refine WCode.exit ?_
     refine WEx.then_exit ?_
     refine WEx.then_exit ?_
     refine WEx.in_exit ?_
     refine WEx.in_normal ?_
     refine WEx.then_ ?_
     refine WCode.forget (l' := [(0, .pointer (some ⟨p0, 0, none⟩)), (5, .int .i64 (([] : List (List Packet)).length : Int)), (6, .int .i64 x116)]) ⟨rfl, rfl, rfl, trivial⟩ ?_
     refine WCode.region ?_
     refine WOps.p (G.move rfl) rfl ?_
     refine WOps.p (G.add rfl rfl (r := (w64 (x116 + 1))) rfl) rfl ?_
     refine WOps.p (G.assign rfl) rfl ?_
     refine WOps.nil ?_
     refine WEx.again _ _ (by omega) ?_ ⟨w64 (x116 + 1), A131, c132, l133, G134, rfl, hF, hO135, S137⟩
     exact ⟨rfl, rfl, rfl, trivial⟩
   ·
    refine WCode.cond_f (kb (b := decide (x116 < (l119.length : Int))) rfl (decide_eq_false h129)) ?_
    refine WCode.exit ?_
    refine WEx.then_exit ?_
    refine WEx.then_exit ?_
    refine WEx.in_exit ?_
    refine WEx.cutend _ ?_ ⟨k124, A117, c118, l119, G120, rfl, hF, hO121, S123⟩
    exact ⟨rfl, rfl, trivial⟩
  ·
   rintro _ w112 ⟨q114, A107, c108, l109, G110, rfl, hF, hO111, S113⟩
   unfold y_still.j2 at hF
   refine WCode.cutseq (fun l_ w_ => ∃ q226 : Nat, ∃ A208 : Option Addr, ∃ c209 : Nat, ∃ l210 : List (List Packet), ∃ G211 : Grp, ∃ M212 : Grp, ∃ A214 : Option Addr, ∃ c215 : Nat, ∃ l216 : List (List Packet), ∃ G217 : Grp, ∃ A219 : Option Addr, ∃ c220 : Nat, ∃ l221 : List Int, ∃ G222 : Grp, l_ = [(0, .pointer (some ⟨p0, 0, none⟩))] ∧ y_still.j3 q226 l210 l216 l221 = some r_ ∧ (PoolP 43 37 Packet.rp A208 c209 l210 G211 M212 none) ∧ (PoolP 43 37 Packet.rp A214 c215 l216 G217 M212 none) ∧ (SlO 3 (Rp.int .i64) (.slice A219 l221.length c220) l221 G222) ∧ St w (KS [G0]) w_ [[(p0, .cells #[.slice none 0 0, .slice none 0 0, .slice A208 l210.length c209, .slice A214 l216.length c215, .slice A219 l221.length c220] 35 (0, 0))], G211, M212, G217, G222]) ?_ ?_
   ·
    refine WCode.seq ?_
    refine WCode.region ?_
    refine WOps.p (G.move rfl) rfl ?_
    refine WOps.p (G.assign rfl) rfl ?_
    refine WOps.nil ?_
    refine WEx.then_ ?_
    refine WCode.block ?_
    have S228 := S113.front 1 rfl
    change St _ _ _ [G19, [(p0, .cells #[.slice none 0 0, .slice none 0 0, .slice A107 l109.length c108, .slice A17 ([] : List (List Packet)).length c18, .slice A21 ([] : List Int).length c22] 35 (0, 0))], G23, G110] at S228
    obtain ⟨G229, M230, hP231, S233⟩ := St.unpool S228 hO20
    have hJ232 := PoolJ.start hP231 hO111
    have S251 : St _ _ _ [[(p0, .cells #[.slice none 0 0, .slice none 0 0, .slice A107 l109.length c108, .slice A17 ([] : List (List Packet)).length c18, .slice A21 ([] : List Int).length c22] 35 (0, 0))], G110, G229, M230, G23] := St.reord S233 [2, 4, 0, 1, 3] 5 rfl (by decide) rfl
    refine WCode.forget (l' := [(0, .pointer (some ⟨p0, 0, none⟩)), (8, .int .i64 (([] : List (List Packet)).length : Int))]) ⟨rfl, rfl, trivial⟩ ?_
    refine WCode.loop (fun n_ l_ w_ => ∃ x234 : Int, ∃ G235 : Grp, ∃ A236 : Option Addr, ∃ c237 : Nat, ∃ l238 : List (List Packet), ∃ G239 : Grp, ∃ M240 : Grp, ∃ A242 : Option Addr, ∃ c243 : Nat, ∃ l244 : List Int, ∃ G245 : Grp, l_ = [(0, .pointer (some ⟨p0, 0, none⟩)), (8, .int .i64 x234)] ∧ y_still.l4 n_ l109 x234 l238 l244 = some r_ ∧ (PoolJ 43 37 Packet.rp A236 c237 l238 G239 M240 none A107 c108 l109 (x234.toNat) G235) ∧ (SlO 3 (Rp.int .i64) (.slice A242 l244.length c243) l244 G245) ∧ St w (KS [G0]) w_ [[(p0, .cells #[.slice none 0 0, .slice none 0 0, .slice A107 l109.length c108, .slice A236 l238.length c237, .slice A242 l244.length c243] 35 (0, 0))], G235, G239, M240, G245]) q114 ⟨(([] : List (List Packet)).length : Int), G110, A17, c18, ([] : List (List Packet)), G229, M230, A21, c22, ([] : List Int), G23, rfl, hF, (PoolJ.untip hJ232), hO24, S251⟩ ?_
    rintro n250 _ w247 ⟨x234, G235, A236, c237, l238, G239, M240, A242, c243, l244, G245, rfl, hF, hP241, hO246, S248⟩
    obtain _ | k249 := n250
    · exact nomatch (show (none : Option Bool) = some r_ from hF)
    rw [y_still.l4] at hF
    refine WCode.seq ?_
    refine WCode.seq ?_
    refine WCode.region ?_
    refine WOps.p (G.move rfl) rfl ?_
    refine WOps.p (G.move rfl) rfl ?_
    refine WOps.p (G.nilp rfl) rfl ?_
    refine WOps.p (G.field T.fld35_2 rfl (show 0 + 2 = 2 from rfl)) rfl ?_
    refine WOps.r (G.load1 T.one32 rfl (cell_blk (S248.blk 0 rfl) rfl)) rfl ?_
    refine WOps.p (G.len T.el32 rfl) rfl ?_
    refine WOps.p (G.lss rfl rfl rfl) rfl ?_
    refine WOps.nil ?_
    refine WEx.then_ ?_
    rcases ite_some hF with ⟨h253, hF⟩ | ⟨h253, hF⟩
    ·
     refine WCode.cond_t (kb (b := decide (x234 < (l109.length : Int))) rfl (decide_eq_true h253)) ?_
     refine WCode.skip ?_
     refine WEx.then_ ?_
     refine WCode.seq ?_
     refine WCode.block ?_
     refine WCode.seq ?_
     refine WCode.region ?_
     refine WOps.p (G.move rfl) rfl ?_
     refine WOps.p (G.nilp rfl) rfl ?_
     refine WOps.p (G.field T.fld35_2 rfl (show 0 + 2 = 2 from rfl)) rfl ?_
     refine WOps.r (G.load1 T.one32 rfl (cell_blk (S248.blk 0 rfl) rfl)) rfl ?_
     refine WOps.p (G.move rfl) rfl ?_
     obtain ⟨x254, hc255, hF⟩ := bind_some hF
     obtain ⟨j256, ej257, hj258, hl259⟩ := idx_spec hc255
     have S269 := (S248.front 3 rfl).front 2 rfl
     change St _ _ _ [G235, M240, [(p0, .cells #[.slice none 0 0, .slice none 0 0, .slice A107 l109.length c108, .slice A236 l238.length c237, .slice A242 l244.length c243] 35 (0, 0))], G239, G245] at S269
     obtain ⟨A267, c268, G270, M271, ⟨b260, o261, eA263, hc265⟩, hJ272, S274⟩ := PoolJ.next S269 (PoolJ.cast hP241 (show j256 = x234.toNat by omega)) (fun h => h.2) hj258
     change St _ _ _ [G270, M271, [(p0, .cells #[.slice none 0 0, .slice none 0 0, .slice A107 l109.length c108, .slice A236 l238.length c237, .slice A242 l244.length c243] 35 (0, 0))], G239, G245] at S274
     have hJ273 := PoolJ.cast hJ272 (show x234.toNat + 1 = j256 + 1 by omega)
     refine WOps.p (G.idx T.el32 rfl eA263 rfl ej257 hl259) rfl ?_
     refine WOps.r (G.load1 T.one43 rfl (cellsAt.at0 hc265)) rfl ?_
     refine WOps.p (G.assign rfl) rfl ?_
     refine WOps.nil ?_
     refine WEx.then_ ?_
     refine WCode.forget (l' := [(0, .pointer (some ⟨p0, 0, none⟩)), (8, .int .i64 x234), (9, .slice A267 x254.length c268)]) ⟨rfl, rfl, rfl, trivial⟩ ?_
     refine WCode.seq ?_
     refine WCode.region ?_
     refine WOps.p (G.assign rfl) rfl ?_
     refine WOps.nil ?_
     refine WEx.then_ ?_
     refine WCode.block ?_
     have S295 : St _ _ _ [[(p0, .cells #[.slice none 0 0, .slice none 0 0, .slice A107 l109.length c108, .slice A236 l238.length c237, .slice A242 l244.length c243] 35 (0, 0))], G270, G239, M271, G245] := St.reord S274 [2, 0, 3, 1, 4] 5 rfl (by decide) rfl
     refine WCode.forget (l' := [(0, .pointer (some ⟨p0, 0, none⟩)), (8, .int .i64 x234), (9, .slice A267 x254.length c268), (10, .int .i64 0)]) ⟨rfl, rfl, rfl, rfl, trivial⟩ ?_
     refine WCode.loop (fun n_ l_ w_ => ∃ A275 : Option Addr, ∃ c276 : Nat, ∃ l277 : List Packet, ∃ x278 : Int, ∃ G279 : Grp, ∃ A280 : Option Addr, ∃ c281 : Nat, ∃ l282 : List (List Packet), ∃ G283 : Grp, ∃ M284 : Grp, ∃ A286 : Option Addr, ∃ c287 : Nat, ∃ l288 : List Int, ∃ G289 : Grp, l_ = [(0, .pointer (some ⟨p0, 0, none⟩)), (8, .int .i64 x234), (9, .slice A275 l277.length c276), (10, .int .i64 x278)] ∧ y_still.l5 n_ l109 x234 l277 x278 l282 l288 = some r_ ∧ n_ ≤ k249 ∧ (PoolJ 43 37 Packet.rp A280 c281 l282 G283 M284 (some ⟨A275, c276, l277⟩) A107 c108 l109 (x234.toNat + 1) G279) ∧ (SlO 3 (Rp.int .i64) (.slice A286 l288.length c287) l288 G289) ∧ St w (KS [G0]) w_ [[(p0, .cells #[.slice none 0 0, .slice none 0 0, .slice A107 l109.length c108, .slice A280 l282.length c281, .slice A286 l288.length c287] 35 (0, 0))], G279, G283, M284, G289]) k249 ⟨A267, c268, x254, 0, G270, A236, c237, l238, G239, M271, A242, c243, l244, G245, rfl, hF, Nat.le_refl _, hJ273, hO246, S295⟩ ?_
     rintro n294 _ w291 ⟨A275, c276, l277, x278, G279, A280, c281, l282, G283, M284, A286, c287, l288, G289, rfl, hF, hle296, hP285, hO290, S292⟩
     obtain _ | k293 := n294
     · exact nomatch (show (none : Option Bool) = some r_ from hF)
     rw [y_still.l5] at hF
     refine WCode.seq ?_
     refine WCode.seq ?_
     refine WCode.region ?_
     refine WOps.p (G.move rfl) rfl ?_
     refine WOps.p (G.lss rfl rfl rfl) rfl ?_
     refine WOps.nil ?_
     refine WEx.then_ ?_
     rcases ite_some hF with ⟨h297, hF⟩ | ⟨h297, hF⟩
     ·
      refine WCode.cond_t (kb (b := decide (x278 < 5)) rfl (decide_eq_true h297)) ?_
      refine WCode.skip ?_
      refine WEx.then_ ?_
      refine WCode.seq ?_
      refine WCode.block ?_
      refine WCode.seq ?_
      refine WCode.region ?_
      refine WOps.p (G.move rfl) rfl ?_
      refine WOps.p (G.move rfl) rfl ?_
      refine WOps.p (G.sub rfl rfl (r := (w64 ((-1) - x234))) rfl) rfl ?_
      refine WOps.p (G.build (cells := #[.int .i64 (w64 ((-1) - x234)), .int .i64 0, .string (bs ([] : List UInt8))]) (evp_spec (evp_cons rfl evp_nil)) (by kernel_rfl)) rfl ?_
      obtain ⟨b298, w299, E300, S301, X302, L303⟩ := St.lit S292 (P := Try.prog) (t := 43) (e := 37) (n := 1) (vs := [(0, .agg #[.int .i64 (w64 ((-1) - x234)), .int .i64 0, .string (bs ([] : List UInt8))])]) (cs := #[.int .i64 (w64 ((-1) - x234)), .int .i64 0, .string (bs ([] : List UInt8))]) (by kernel_rfl)
      change St _ _ _ [[(b298, .cells #[.int .i64 (w64 ((-1) - x234)), .int .i64 0, .string (bs ([] : List UInt8))] 37 (0, 0))], [(p0, .cells #[.slice none 0 0, .slice none 0 0, .slice A107 l109.length c108, .slice A280 l282.length c281, .slice A286 l288.length c287] 35 (0, 0))], G279, G283, M284, G289] at S301
      refine WOps.e (E300 (evp_cons rfl evp_nil)) rfl ?_
      obtain ⟨l304, hc305, hF⟩ := bind_some hF
      have S306 := S301.front 4 rfl
      change St _ _ _ [M284, [(b298, .cells #[.int .i64 (w64 ((-1) - x234)), .int .i64 0, .string (bs ([] : List UInt8))] 37 (0, 0))], [(p0, .cells #[.slice none 0 0, .slice none 0 0, .slice A107 l109.length c108, .slice A280 l282.length c281, .slice A286 l288.length c287] 35 (0, 0))], G279, G283, G289] at S306
      obtain ⟨A307, c308, M309, w310, E311, hP312, S313⟩ := PoolJ.grow (P := Try.prog) (Y := ([(⟨w64 ((-1) - x234), 0, ([] : List UInt8)⟩ : Packet)] : List Packet)) S306 T.elt43 rfl hP285 (Rd.of_blk (S306.blk 1 rfl) (n := 1) (sz := 3) rfl) ⟨_, _, [], [], rfl, rfl, ⟨rfl, rfl⟩, ⟨rfl, rfl⟩⟩ rfl hc305
      change St _ _ _ [M309, [(b298, .cells #[.int .i64 (w64 ((-1) - x234)), .int .i64 0, .string (bs ([] : List UInt8))] 37 (0, 0))], [(p0, .cells #[.slice none 0 0, .slice none 0 0, .slice A107 l109.length c108, .slice A280 l282.length c281, .slice A286 l288.length c287] 35 (0, 0))], G279, G283, G289] at S313
      refine WOps.e (E311 rfl rfl) rfl ?_
      refine WOps.p (G.assign rfl) rfl ?_
      refine WOps.nil ?_
      refine WEx.then_ ?_
      refine WCode.seq ?_
      refine WCode.region ?_
      refine WOps.p (G.move rfl) rfl ?_
      refine WOps.p (G.move rfl) rfl ?_
      refine WOps.p (G.nilp rfl) rfl ?_
      refine WOps.p (G.field T.fld35_3 rfl (show 0 + 3 = 3 from rfl)) rfl ?_
      refine WOps.r (G.load1 T.one32 rfl (cell_blk (S313.blk 2 rfl) rfl)) rfl ?_
      refine WOps.p (G.move rfl) rfl ?_
      obtain ⟨b314, w315, E316, S317, X318, L319⟩ := St.lit S313 (P := Try.prog) (t := 32) (e := 43) (n := 1) (vs := [(0, .slice A307 l304.length c308)]) (cs := #[.slice A307 l304.length c308]) (by kernel_rfl)
      change St _ _ _ [[(b314, .cells #[.slice A307 l304.length c308] 43 (0, 0))], M309, [(b298, .cells #[.int .i64 (w64 ((-1) - x234)), .int .i64 0, .string (bs ([] : List UInt8))] 37 (0, 0))], [(p0, .cells #[.slice none 0 0, .slice none 0 0, .slice A107 l109.length c108, .slice A280 l282.length c281, .slice A286 l288.length c287] 35 (0, 0))], G279, G283, G289] at S317
      refine WOps.e (E316 (evp_cons rfl evp_nil)) rfl ?_
      obtain ⟨l320, hc321, hF⟩ := bind_some hF
      have S322 := S317.front 5 rfl
      change St _ _ _ [G283, [(b314, .cells #[.slice A307 l304.length c308] 43 (0, 0))], M309, [(b298, .cells #[.int .i64 (w64 ((-1) - x234)), .int .i64 0, .string (bs ([] : List UInt8))] 37 (0, 0))], [(p0, .cells #[.slice none 0 0, .slice none 0 0, .slice A107 l109.length c108, .slice A280 l282.length c281, .slice A286 l288.length c287] 35 (0, 0))], G279, G289] at S322
      obtain ⟨A323, c324, G325, w326, E327, hP328, S329⟩ := PoolJ.put (P := Try.prog) S322 T.elt32 rfl hP312 (Rd.of_blk (S322.blk 1 rfl) (n := 1) (sz := 1) rfl) hc321
      change St _ _ _ [G325, [(b314, .cells #[.slice A307 l304.length c308] 43 (0, 0))], M309, [(b298, .cells #[.int .i64 (w64 ((-1) - x234)), .int .i64 0, .string (bs ([] : List UInt8))] 37 (0, 0))], [(p0, .cells #[.slice none 0 0, .slice none 0 0, .slice A107 l109.length c108, .slice A280 l282.length c281, .slice A286 l288.length c287] 35 (0, 0))], G279, G289] at S329
      refine WOps.e (E327 rfl rfl) rfl ?_
      refine WOps.p (G.nilp rfl) rfl ?_
      refine WOps.p (G.field T.fld35_3 rfl (show 0 + 3 = 3 from rfl)) rfl ?_
      obtain ⟨w330, E331, S332⟩ := St.store (P := Try.prog) S329 4 32 (.slice A323 l320.length c324) (off := 3) (cur' := #[.slice none 0 0, .slice none 0 0, .slice A107 l109.length c108, .slice A323 l320.length c324, .slice A286 l288.length c287]) rfl T.size32_1 rfl rfl rfl
      change St _ _ _ [G325, [(b314, .cells #[.slice A307 l304.length c308] 43 (0, 0))], M309, [(b298, .cells #[.int .i64 (w64 ((-1) - x234)), .int .i64 0, .string (bs ([] : List UInt8))] 37 (0, 0))], [(p0, .cells #[.slice none 0 0, .slice none 0 0, .slice A107 l109.length c108, .slice A323 l320.length c324, .slice A286 l288.length c287] 35 (0, 0))], G279, G289] at S332
      refine WOps.u (E331 rfl rfl) ?_
      refine WOps.nil ?_
      refine WEx.then_ ?_
      refine WCode.forget (l' := [(0, .pointer (some ⟨p0, 0, none⟩)), (8, .int .i64 x234), (9, .slice A307 l304.length c308), (10, .int .i64 x278)]) ⟨rfl, rfl, rfl, rfl, trivial⟩ ?_
      refine WCode.region ?_
      refine WOps.p (G.move rfl) rfl ?_
      refine WOps.p (G.move rfl) rfl ?_
      refine WOps.p (G.nilp rfl) rfl ?_
      refine WOps.p (G.field T.fld35_4 rfl (show 0 + 4 = 4 from rfl)) rfl ?_
      refine WOps.r (G.load1 T.one33 rfl (cell_blk (S332.blk 4 rfl) rfl)) rfl ?_
      refine WOps.p (G.move rfl) rfl ?_
      obtain ⟨b333, w334, E335, S336, X337, L338⟩ := St.lit S332 (P := Try.prog) (t := 33) (e := 3) (n := 1) (vs := [(0, .int .i64 x234)]) (cs := #[.int .i64 x234]) (by kernel_rfl)
      change St _ _ _ [[(b333, .cells #[.int .i64 x234] 3 (0, 0))], G325, [(b314, .cells #[.slice A307 l304.length c308] 43 (0, 0))], M309, [(b298, .cells #[.int .i64 (w64 ((-1) - x234)), .int .i64 0, .string (bs ([] : List UInt8))] 37 (0, 0))], [(p0, .cells #[.slice none 0 0, .slice none 0 0, .slice A107 l109.length c108, .slice A323 l320.length c324, .slice A286 l288.length c287] 35 (0, 0))], G279, G289] at S336
      refine WOps.e (E335 (evp_cons rfl evp_nil)) rfl ?_
      obtain ⟨l339, hc340, hF⟩ := bind_some hF
      have S341 := S336.front 7 rfl
      change St _ _ _ [G289, [(b333, .cells #[.int .i64 x234] 3 (0, 0))], G325, [(b314, .cells #[.slice A307 l304.length c308] 43 (0, 0))], M309, [(b298, .cells #[.int .i64 (w64 ((-1) - x234)), .int .i64 0, .string (bs ([] : List UInt8))] 37 (0, 0))], [(p0, .cells #[.slice none 0 0, .slice none 0 0, .slice A107 l109.length c108, .slice A323 l320.length c324, .slice A286 l288.length c287] 35 (0, 0))], G279] at S341
      obtain ⟨A342, c343, G344, w345, E346, hO347, S348, hk349⟩ := St.appP (P := Try.prog) (r := (Rp.int .i64)) (M := ([x234] : List Int)) S341 T.elt33 rfl hO290 (Rd.of_blk (S341.blk 1 rfl) (n := 1) (sz := 1) rfl) ⟨_, _, [], [], rfl, rfl, ⟨rfl, rfl⟩, ⟨rfl, rfl⟩⟩ rfl hc340
      change St _ _ _ [G344, [(b333, .cells #[.int .i64 x234] 3 (0, 0))], G325, [(b314, .cells #[.slice A307 l304.length c308] 43 (0, 0))], M309, [(b298, .cells #[.int .i64 (w64 ((-1) - x234)), .int .i64 0, .string (bs ([] : List UInt8))] 37 (0, 0))], [(p0, .cells #[.slice none 0 0, .slice none 0 0, .slice A107 l109.length c108, .slice A323 l320.length c324, .slice A286 l288.length c287] 35 (0, 0))], G279] at S348
      refine WOps.e (E346 rfl rfl) rfl ?_
      refine WOps.p (G.nilp rfl) rfl ?_
      refine WOps.p (G.field T.fld35_4 rfl (show 0 + 4 = 4 from rfl)) rfl ?_
      obtain ⟨w350, E351, S352⟩ := St.store (P := Try.prog) S348 6 33 (.slice A342 l339.length c343) (off := 4) (cur' := #[.slice none 0 0, .slice none 0 0, .slice A107 l109.length c108, .slice A323 l320.length c324, .slice A342 l339.length c343]) rfl T.size33_1 rfl rfl rfl
      change St _ _ _ [G344, [(b333, .cells #[.int .i64 x234] 3 (0, 0))], G325, [(b314, .cells #[.slice A307 l304.length c308] 43 (0, 0))], M309, [(b298, .cells #[.int .i64 (w64 ((-1) - x234)), .int .i64 0, .string (bs ([] : List UInt8))] 37 (0, 0))], [(p0, .cells #[.slice none 0 0, .slice none 0 0, .slice A107 l109.length c108, .slice A323 l320.length c324, .slice A342 l339.length c343] 35 (0, 0))], G279] at S352
      refine WOps.u (E351 rfl rfl) ?_
      refine WOps.nil ?_
      refine WEx.in_normal ?_
      refine WEx.then_ ?_
      refine WCode.forget (l' := [(0, .pointer (some ⟨p0, 0, none⟩)), (8, .int .i64 x234), (9, .slice A307 l304.length c308), (10, .int .i64 x278)]) ⟨rfl, rfl, rfl, rfl, trivial⟩ ?_
      refine WCode.region ?_
      refine WOps.p (G.move rfl) rfl ?_
      refine WOps.p (G.add rfl rfl (r := (w64 (x278 + 1))) rfl) rfl ?_
      refine WOps.p (G.assign rfl) rfl ?_
      refine WOps.nil ?_
      have S353 : St _ _ _ [[(p0, .cells #[.slice none 0 0, .slice none 0 0, .slice A107 l109.length c108, .slice A323 l320.length c324, .slice A342 l339.length c343] 35 (0, 0))], G279, G325, M309, G344, [(b333, .cells #[.int .i64 x234] 3 (0, 0))], [(b314, .cells #[.slice A307 l304.length c308] 43 (0, 0))], [(b298, .cells #[.int .i64 (w64 ((-1) - x234)), .int .i64 0, .string (bs ([] : List UInt8))] 37 (0, 0))]] := St.reord S352 [6, 7, 2, 4, 0, 1, 3, 5] 8 rfl (by decide) rfl
      have S354 := St.keep (As := [[(p0, .cells #[.slice none 0 0, .slice none 0 0, .slice A107 l109.length c108, .slice A323 l320.length c324, .slice A342 l339.length c343] 35 (0, 0))], G279, G325, M309, G344]) S353
      refine WEx.again _ _ (by omega) ?_ ⟨A307, c308, l304, w64 (x278 + 1), G279, A323, c324, l320, G325, M309, A342, c343, l339, G344, rfl, hF, (by omega), hP328, hO347, S354⟩
      exact ⟨rfl, rfl, rfl, rfl, trivial⟩
     ·
      refine WCode.cond_f (kb (b := decide (x278 < 5)) rfl (decide_eq_false h297)) ?_
      refine WCode.exit ?_
      refine WEx.then_exit ?_
      refine WEx.then_exit ?_
      refine WEx.in_exit ?_
      refine WEx.in_normal ?_
      refine WEx.then_ ?_
      refine WCode.region ?_
      refine WOps.p (G.move rfl) rfl ?_
      refine WOps.p (G.add rfl rfl (r := (w64 (x234 + 1))) rfl) rfl ?_
      refine WOps.p (G.assign rfl) rfl ?_
      refine WOps.nil ?_
      refine WEx.again _ _ (by omega) ?_ ⟨w64 (x234 + 1), G279, A280, c281, l282, G283, M284, A286, c287, l288, G289, rfl, hF, (PoolJ.untip (PoolJ.cast hP285 (PoolJ.toNat_succ hP285 hc255))), hO290, S292⟩
      exact ⟨rfl, rfl, trivial⟩
    ·
     refine WCode.cond_f (kb (b := decide (x234 < (l109.length : Int))) rfl (decide_eq_false h253)) ?_
     refine WCode.exit ?_
     refine WEx.then_exit ?_
     refine WEx.then_exit ?_
     refine WEx.in_exit ?_
     obtain ⟨hP355, hP356⟩ := PoolJ.done hP241 (by omega)
     have S357 : St _ _ _ [[(p0, .cells #[.slice none 0 0, .slice none 0 0, .slice A107 l109.length c108, .slice A236 l238.length c237, .slice A242 l244.length c243] 35 (0, 0))], G235, M240, G239, G245] := St.reord S248 [0, 1, 3, 2, 4] 5 rfl (by decide) rfl
     refine WEx.cutend _ ?_ ⟨k249, A107, c108, l109, G235, M240, A236, c237, l238, G239, A242, c243, l244, G245, rfl, hF, (hP356.untip), (hP355.untip), hO246, S357⟩
     exact ⟨rfl, trivial⟩
   ·
    rintro _ w224 ⟨q226, A208, c209, l210, G211, M212, A214, c215, l216, G217, A219, c220, l221, G222, rfl, hF, hP213, hP218, hO223, S225⟩
    unfold y_still.j3 at hF
    refine WCode.cutseq (fun l_ w_ => ∃ q360 : Nat, l_ = [(0, .pointer (some ⟨p0, 0, none⟩))] ∧ y_still.j4 q360 l210 l216 l221 = some r_ ∧ St w (KS [G0]) w_ [[(p0, .cells #[.slice none 0 0, .slice none 0 0, .slice A208 l210.length c209, .slice A214 l216.length c215, .slice A219 l221.length c220] 35 (0, 0))], G211, M212, G217, G222]) ?_ ?_
    ·
     refine WCode.seq ?_
     refine WCode.region ?_
     refine WOps.p (G.assign rfl) rfl ?_
     refine WOps.nil ?_
     refine WEx.then_ ?_
     refine WCode.block ?_
     refine WCode.forget (l' := [(0, .pointer (some ⟨p0, 0, none⟩)), (11, .int .i64 0)]) ⟨rfl, rfl, trivial⟩ ?_
     refine WCode.loop (fun n_ l_ w_ => ∃ x362 : Int, l_ = [(0, .pointer (some ⟨p0, 0, none⟩)), (11, .int .i64 x362)] ∧ y_still.l6 n_ l210 l216 l221 x362 = some r_ ∧ St w (KS [G0]) w_ [[(p0, .cells #[.slice none 0 0, .slice none 0 0, .slice A208 l210.length c209, .slice A214 l216.length c215, .slice A219 l221.length c220] 35 (0, 0))], G211, M212, G217, G222]) q226 ⟨0, rfl, hF, S225⟩ ?_
     rintro n366 _ w363 ⟨x362, rfl, hF, S364⟩
     obtain _ | k365 := n366
     · exact nomatch (show (none : Option Bool) = some r_ from hF)
     rw [y_still.l6] at hF
     refine WCode.seq ?_
     refine WCode.seq ?_
     refine WCode.region ?_
     refine WOps.p (G.move rfl) rfl ?_
     refine WOps.p (G.move rfl) rfl ?_
     refine WOps.p (G.nilp rfl) rfl ?_
     refine WOps.p (G.field T.fld35_2 rfl (show 0 + 2 = 2 from rfl)) rfl ?_
     refine WOps.r (G.load1 T.one32 rfl (cell_blk (S364.blk 0 rfl) rfl)) rfl ?_
     refine WOps.p (G.len T.el32 rfl) rfl ?_
     refine WOps.p (G.lss rfl rfl rfl) rfl ?_
     refine WOps.nil ?_
     refine WEx.then_ ?_
     rcases ite_some hF with ⟨h368, hF⟩ | ⟨h368, hF⟩
     ·
      refine WCode.cond_t (kb (b := decide (x362 < (l210.length : Int))) rfl (decide_eq_true h368)) ?_
      refine WCode.skip ?_
      refine WEx.then_ ?_
      refine WCode.seq ?_
      refine WCode.block ?_
      refine WCode.seq ?_
      refine WCode.region ?_
      refine WOps.p (G.move rfl) rfl ?_
      refine WOps.p (G.nilp rfl) rfl ?_
      refine WOps.p (G.field T.fld35_2 rfl (show 0 + 2 = 2 from rfl)) rfl ?_
      refine WOps.r (G.load1 T.one32 rfl (cell_blk (S364.blk 0 rfl) rfl)) rfl ?_
      refine WOps.p (G.move rfl) rfl ?_
      obtain ⟨x369, hc370, hF⟩ := bind_some hF
      obtain ⟨j371, ej372, hj373, hl374⟩ := idx_spec hc370
      obtain ⟨A382, c383, hG384, hcl385⟩ := PoolP.at_ hP213 hj373
      obtain ⟨b375, o376, eA378, hc380⟩ := hcl385 _ (fun b o hb => S364.grp 1 rfl hb)
      refine WOps.p (G.idx T.el32 rfl eA378 rfl ej372 hl374) rfl ?_
      refine WOps.r (G.load1 T.one43 rfl (cellsAt.at0 hc380)) rfl ?_
      refine WOps.p (G.move rfl) rfl ?_
      obtain ⟨t386, hc387, hF⟩ := bind_some hF
      refine WOps.call T.call75 (evs_cons rfl (evs_cons rfl evs_nil)) rfl ?_
      refine (yreads_calls k365 x369 x362 ((SlG.toV (u := w) hG384 (S364.nd 2 rfl)).ext (S364.vw 2 rfl)) (St.outG (Bs := []) S364 2 rfl) hc387).mono ?_
      rintro _ w388 ⟨rfl, T389⟩
      have S390 := St.callN (As := []) S364 T389
      change St _ _ _ [[(p0, .cells #[.slice none 0 0, .slice none 0 0, .slice A208 l210.length c209, .slice A214 l216.length c215, .slice A219 l221.length c220] 35 (0, 0))], G211, M212, G217, G222] at S390
      refine ⟨_, rfl, ?_⟩
      refine WOps.p (G.assign rfl) rfl ?_
      refine WOps.nil ?_
      refine WEx.then_ ?_
      refine WCode.forget (l' := [(0, .pointer (some ⟨p0, 0, none⟩)), (11, .int .i64 x362), (12, .bool t386)]) ⟨rfl, rfl, rfl, trivial⟩ ?_
      refine WCode.seq ?_
      refine WCode.region ?_
      refine WOps.p (G.move rfl) rfl ?_
      refine WOps.p (G.not rfl rfl) rfl ?_
      refine WOps.nil ?_
      refine WEx.then_ ?_
      rcases ite_some hF with ⟨h391, hF⟩ | ⟨h391, hF⟩
      ·
       refine WCode.cond_f (kb (b := !t386) rfl (show (!t386) = false from by rw [h391]; rfl)) ?_
       refine WCode.skip ?_
       refine WEx.in_normal ?_
       refine WEx.then_ ?_
       refine WCode.region ?_
       refine WOps.p (G.move rfl) rfl ?_
       refine WOps.p (G.add rfl rfl (r := (w64 (x362 + 1))) rfl) rfl ?_
       refine WOps.p (G.assign rfl) rfl ?_
       refine WOps.nil ?_
       refine WEx.again _ _ (by omega) ?_ ⟨w64 (x362 + 1), rfl, hF, S390⟩
       exact ⟨rfl, rfl, trivial⟩
      ·
       refine WCode.cond_t (kb (b := !t386) rfl (show (!t386) = true from by rw [(Bool.eq_false_iff.2 h391)]; rfl)) ?_
       refine WCode.seq ?_
       refine WCode.region ?_
       refine WOps.p (G.assign rfl) rfl ?_
       refine WOps.nil ?_
       refine WEx.then_ ?_
       refine WCode.ret ?_
       refine WEx.in_ret ?_
       refine WEx.then_ret ?_
       refine WEx.then_ret ?_
       refine WEx.in_ret ?_
       refine WEx.then_ret ?_
       obtain rfl := some_eq hF
       refine WEx.ret1 rfl rfl ?_
       exact ⟨rfl, St.keep (As := []) S390⟩
     ·
      refine WCode.cond_f (kb (b := decide (x362 < (l210.length : Int))) rfl (decide_eq_false h368)) ?_
      refine WCode.exit ?_
      refine WEx.then_exit ?_
      refine WEx.then_exit ?_
      refine WEx.in_exit ?_
      refine WEx.cutend _ ?_ ⟨k365, rfl, hF, S364⟩
      exact ⟨rfl, trivial⟩
    ·
     rintro _ w358 ⟨q360, rfl, hF, S359⟩
     unfold y_still.j4 at hF
     refine WCode.seq ?_
     refine WCode.seq ?_
     refine WCode.region ?_
     refine WOps.p (G.assign rfl) rfl ?_
     refine WOps.nil ?_
     refine WEx.then_ ?_
     refine WCode.block ?_
     refine WCode.forget (l' := [(0, .pointer (some ⟨p0, 0, none⟩)), (13, .int .i64 0)]) ⟨rfl, rfl, trivial⟩ ?_
     refine WCode.loop (fun n_ l_ w_ => ∃ x392 : Int, l_ = [(0, .pointer (some ⟨p0, 0, none⟩)), (13, .int .i64 x392)] ∧ y_still.l7 n_ l210 l216 l221 x392 = some r_ ∧ St w (KS [G0]) w_ [[(p0, .cells #[.slice none 0 0, .slice none 0 0, .slice A208 l210.length c209, .slice A214 l216.length c215, .slice A219 l221.length c220] 35 (0, 0))], G211, M212, G217, G222]) q360 ⟨0, rfl, hF, S359⟩ ?_
     rintro n396 _ w393 ⟨x392, rfl, hF, S394⟩
     obtain _ | k395 := n396
     · exact nomatch (show (none : Option Bool) = some r_ from hF)
     rw [y_still.l7] at hF
     refine WCode.seq ?_
     refine WCode.seq ?_
     refine WCode.region ?_
     refine WOps.p (G.move rfl) rfl ?_
     refine WOps.p (G.move rfl) rfl ?_
     refine WOps.p (G.nilp rfl) rfl ?_
     refine WOps.p (G.field T.fld35_3 rfl (show 0 + 3 = 3 from rfl)) rfl ?_
     refine WOps.r (G.load1 T.one32 rfl (cell_blk (S394.blk 0 rfl) rfl)) rfl ?_
     refine WOps.p (G.len T.el32 rfl) rfl ?_
     refine WOps.p (G.lss rfl rfl rfl) rfl ?_
     refine WOps.nil ?_
     refine WEx.then_ ?_
     rcases ite_some hF with ⟨h398, hF⟩ | ⟨h398, hF⟩
     ·
      refine WCode.cond_t (kb (b := decide (x392 < (l216.length : Int))) rfl (decide_eq_true h398)) ?_
      refine WCode.skip ?_
      refine WEx.then_ ?_
      refine WCode.seq ?_
      refine WCode.block ?_
      refine WCode.seq ?_
      refine WCode.draw [⟨0, 0, []⟩, ⟨1, 0, []⟩, ⟨2, 0, []⟩, ⟨4, 0, []⟩, ⟨7, 0, []⟩, ⟨8, 0, []⟩, ⟨9, 0, []⟩, ⟨11, 0, []⟩, ⟨3, 1, [5, 6, 14, 15]⟩, ⟨5, 0, []⟩, ⟨6, 1, [14, 15]⟩, ⟨10, 1, [12, 13, 14, 15]⟩, ⟨12, 0, []⟩, ⟨13, 1, [14, 15]⟩, ⟨14, 2, []⟩, ⟨15, 0, []⟩] T.mixed (by kernel_rfl) (by intro _ _ d _ _ h; cases d <;> exact h) rfl (by kernel_rfl) ?_
      have S399 := S394.drew
      generalize w393.drew = w400 at *
      refine WD.p rfl (G.move rfl) rfl ?_
      refine WD.p rfl (G.nilp rfl) rfl ?_
      refine WD.p rfl (G.field T.fld35_3 rfl (show 0 + 3 = 3 from rfl)) rfl ?_
      refine WD.p rfl (G.move rfl) rfl ?_
      refine WD.p rfl (G.move rfl) rfl ?_
      refine WD.p rfl (G.nilp rfl) rfl ?_
      refine WD.p rfl (G.field T.fld35_4 rfl (show 0 + 4 = 4 from rfl)) rfl ?_
      refine WD.p rfl (G.move rfl) rfl ?_
      refine WD.r rfl (G.load1 T.one32 rfl (cell_blk (S399.blk 0 rfl) rfl)) rfl ?_
      obtain ⟨x401, hc402, hF⟩ := bind_some hF
      obtain ⟨j403, ej404, hj405, hl406⟩ := idx_spec hc402
      obtain ⟨A414, c415, hG416, hcl417⟩ := PoolP.at_ hP218 hj405
      obtain ⟨b407, o408, eA410, hc412⟩ := hcl417 _ (fun b o hb => S399.grp 3 rfl hb)
      refine WD.p rfl (G.idx T.el32 rfl eA410 rfl ej404 hl406) rfl ?_
      refine WD.r rfl (G.load1 T.one43 rfl (cellsAt.at0 hc412)) rfl ?_
      refine WD.r rfl (G.load1 T.one33 rfl (cell_blk (S399.blk 0 rfl) rfl)) rfl ?_
      obtain ⟨x418, hc419, hF⟩ := bind_some hF
      obtain ⟨j420, ej421, hj422, hl423⟩ := idx_spec hc419
      obtain ⟨b424, o425, cs426, eA427, hf428, hc429, hr430⟩ := SlR.at_ (hO223.rd (fun b o hb => S399.grp 4 rfl hb)) hj422
      have hq431 : cs426 = [.int .i64 x418] := hr430
      subst hq431
      change cellsAt _ _ (o425 + j420 * 1) [.int .i64 x418] at hc429
      refine WD.p rfl (G.idx T.el33 rfl eA427 rfl ej421 hl423) rfl ?_
      refine WD.r rfl (G.load1 T.one3 rfl (cellsAt.at0 hc429)) rfl ?_
      obtain ⟨t432, hc433, hF⟩ := bind_some hF
      refine WD.call rfl T.call75 (evs_cons rfl (evs_cons rfl evs_nil)) rfl ?_
      refine (yreads_calls k395 x401 x418 ((SlG.toV (u := w) hG416 (S399.nd 2 rfl)).ext (S399.vw 2 rfl)) (St.outG (Bs := []) S399 2 rfl) hc433).mono ?_
      rintro _ w434 ⟨rfl, T435⟩
      have S436 := St.callN (As := []) S399 T435
      change St _ _ _ [[(p0, .cells #[.slice none 0 0, .slice none 0 0, .slice A208 l210.length c209, .slice A214 l216.length c215, .slice A219 l221.length c220] 35 (0, 0))], G211, M212, G217, G222] at S436
      refine ⟨_, rfl, ?_⟩
      refine WD.p rfl (G.assign rfl) rfl ?_
      refine WD.nil ?_
      refine WEx.then_ ?_
      refine WCode.forget (l' := [(0, .pointer (some ⟨p0, 0, none⟩)), (13, .int .i64 x392), (14, .bool t432)]) ⟨rfl, rfl, rfl, trivial⟩ ?_
      refine WCode.seq ?_
      refine WCode.region ?_
      refine WOps.p (G.move rfl) rfl ?_
      refine WOps.p (G.not rfl rfl) rfl ?_
      refine WOps.nil ?_
      refine WEx.then_ ?_
      rcases ite_some hF with ⟨h437, hF⟩ | ⟨h437, hF⟩
      ·
       refine WCode.cond_f (kb (b := !t432) rfl (show (!t432) = false from by rw [h437]; rfl)) ?_
       refine WCode.skip ?_
       refine WEx.in_normal ?_
       refine WEx.then_ ?_
       refine WCode.region ?_
       refine WOps.p (G.move rfl) rfl ?_
       refine WOps.p (G.add rfl rfl (r := (w64 (x392 + 1))) rfl) rfl ?_
       refine WOps.p (G.assign rfl) rfl ?_
       refine WOps.nil ?_
       refine WEx.again _ _ (by omega) ?_ ⟨w64 (x392 + 1), rfl, hF, S436⟩
       exact ⟨rfl, rfl, trivial⟩
      ·
       refine WCode.cond_t (kb (b := !t432) rfl (show (!t432) = true from by rw [(Bool.eq_false_iff.2 h437)]; rfl)) ?_
       refine WCode.seq ?_
       refine WCode.region ?_
       refine WOps.p (G.assign rfl) rfl ?_
       refine WOps.nil ?_
       refine WEx.then_ ?_
       refine WCode.ret ?_
       refine WEx.in_ret ?_
       refine WEx.then_ret ?_
       refine WEx.then_ret ?_
       refine WEx.in_ret ?_
       refine WEx.then_ret ?_
       obtain rfl := some_eq hF
       refine WEx.ret1 rfl rfl ?_
       exact ⟨rfl, St.keep (As := []) S436⟩
     ·
      refine WCode.cond_f (kb (b := decide (x392 < (l216.length : Int))) rfl (decide_eq_false h398)) ?_
      refine WCode.exit ?_
      refine WEx.then_exit ?_
      refine WEx.then_exit ?_
      refine WEx.in_exit ?_
      refine WEx.then_ ?_
      refine WCode.seq ?_
      refine WCode.region ?_
      refine WOps.p (G.assign rfl) rfl ?_
      refine WOps.nil ?_
      refine WEx.then_ ?_
      refine WCode.ret ?_
      obtain rfl := some_eq hF
      refine WEx.ret1 rfl rfl ?_
      exact ⟨rfl, St.keep (As := []) S394⟩

end Go.Proofs.Ytoahkjehjmbojaa
