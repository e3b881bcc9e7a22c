/- Functions and their walks (printed by auto.py over the engine). -/
import Derived.Test.YtoahkjehjmbojaaProg
import Derived.Test.YtoahkjehjmbojaaPG
namespace Go.Proofs.Ytoahkjehjmbojaa
open Go Go.Eng
set_option linter.unusedSimpArgs false
set_option linter.unusedVariables false

theorem T.call100 : Callable Try.prog 100 := Callable.mk Try.func100 (by kernel_rfl) (by kernel_rfl)
theorem T.el112 : slEl Try.prog 112 = some 1 := by kernel_rfl
theorem T.fld114_2 : fldOff Try.prog 114 2 = some 2 := by kernel_rfl
theorem T.fld114_3 : fldOff Try.prog 114 3 = some 3 := by kernel_rfl
theorem T.one176 : isOneT Try.prog 176 = true := by kernel_rfl



mutual
def bs_still.l7 : Nat → BookS → List (List KeyS) → List (List KeyS) → Int → Int → Option (Bool × BookS)
  | 0, _, _, _, _, _ => none
  | k338 + 1, a0, l197, l203, x326, x335 => (Option.bind (idx l203 x326) fun x341 => (if x335 < (x341.length : Int) then (Option.bind (idx l203 x326) fun x361 => (Option.bind (idx x361 x335) fun x378 => (Option.bind (sh_mark k338 (w64 (Int.tdiv x326 6))) fun t392 => (if x378 = t392 then (bs_still.l7 k338 a0 l197 l203 x326 (w64 (x335 + 1))) else (some (false, (⟨[], [], l203, w64 (a0.lists + (l197.length : Int))⟩ : BookS))))))) else (bs_still.l6 k338 a0 l197 l203 (w64 (x326 + 1)))))
def bs_still.l6 : Nat → BookS → List (List KeyS) → List (List KeyS) → Int → Option (Bool × BookS)
  | 0, _, _, _, _ => none
  | k329 + 1, a0, l197, l203, x326 => (if x326 < (l203.length : Int) then (bs_still.l7 k329 a0 l197 l203 x326 0) else (some (true, (⟨[], [], l203, w64 (a0.lists + (l197.length : Int))⟩ : BookS))))
end
def bs_still.j3 (q208 : Nat) (a0 : BookS) (l197 : List (List KeyS)) (l203 : List (List KeyS)) : Option (Bool × BookS) := (bs_still.l6 q208 a0 l197 l203 0)
mutual
def bs_still.l5 : Nat → BookS → List (List KeyS) → Int → List KeyS → Int → List (List KeyS) → Option (Bool × BookS)
  | 0, _, _, _, _, _, _ => none
  | k265 + 1, a0, l80, x216, l254, x255, l259 => (if x255 < 6 then (Option.bind (cat l259 ([l254] : List (List KeyS))) fun l276 => (Option.bind (sh_mark k265 (w64 (a0.lists + x216))) fun t289 => (Option.bind (cat l254 ([t289] : List KeyS)) fun l300 => (bs_still.l5 k265 a0 l80 x216 l300 (w64 (x255 + 1)) l276)))) else (bs_still.l4 k265 a0 l80 (w64 (x216 + 1)) l259))
def bs_still.l4 : Nat → BookS → List (List KeyS) → Int → List (List KeyS) → Option (Bool × BookS)
  | 0, _, _, _, _ => none
  | k226 + 1, a0, l80, x216, l220 => (if x216 < (l80.length : Int) then (Option.bind (idx l80 x216) fun x231 => (bs_still.l5 k226 a0 l80 x216 x231 0 l220)) else (bs_still.j3 k226 a0 l80 l220))
end
def bs_still.j2 (q85 : Nat) (a0 : BookS) (l80 : List (List KeyS)) : Option (Bool × BookS) := (bs_still.l4 q85 a0 l80 0 a0.all)
mutual
def bs_still.l3 : Nat → BookS → Int → Int → List (List KeyS) → Option (Bool × BookS)
  | 0, _, _, _, _ => none
  | k108 + 1, a0, x87, x100, l103 => (Option.bind (idx l103 x87) fun x111 => (if x100 < (x111.length : Int) then (Option.bind (idx l103 x87) fun x131 => (Option.bind (sh_mark k108 (w64 (a0.lists + x87))) fun t158 => (Option.bind (idx x131 x100) fun x163 => (Option.bind (upd x131 x100 t158) fun l177 => (Option.bind (upd l103 x87 l177) fun l186 => (bs_still.l3 k108 a0 x87 (w64 (x100 + 1)) l186)))))) else (bs_still.l2 k108 a0 (w64 (x87 + 1)) l103)))
def bs_still.l2 : Nat → BookS → Int → List (List KeyS) → Option (Bool × BookS)
  | 0, _, _, _ => none
  | k95 + 1, a0, x87, l90 => (if x87 < (l90.length : Int) then (bs_still.l3 k95 a0 x87 0 l90) else (bs_still.j2 k95 a0 l90))
end
def bs_still.j1 (q21 : Nat) (a0 : BookS) : Option (Bool × BookS) := (bs_still.l2 q21 a0 0 a0.free)
def bs_still.l1 : Nat → BookS → Int → Option (Bool × BookS)
  | 0, _, _ => none
  | k26 + 1, a0, x23 => (if x23 < (a0.free.length : Int) then (Option.bind (idx a0.free x23) fun x32 => (Option.bind (idx a0.want x23) fun x51 => (Option.bind (sh_keys k26 x32 x51) fun t70 => (if t70 = true then (bs_still.l1 k26 a0 (w64 (x23 + 1))) else (some (false, a0)))))) else (bs_still.j1 k26 a0))
def bs_still (k : Nat) (a0 : BookS) : Option (Bool × BookS) := (bs_still.l1 k a0 0)
set_option maxRecDepth 100000 in
set_option maxHeartbeats 1000000 in
theorem bs_still_calls (k : Nat) (a0 : BookS) {p0 : Nat} {G0 : Grp} {w : World} (hO0 : ObjO 114 BookS.rp p0 a0 G0) {r_ : Bool × BookS} (h_ : bs_still k a0 = some r_) (hp_ : Hp w ([G0]).flatten) :
    Calls Try.prog 56 [.pointer (some ⟨p0, 0, none⟩)].toArray w fun e w' => ∃ Go0' : Grp, e = .returned (.bool r_.1) ∧ ObjO 114 BookS.rp p0 (r_.2) Go0' ∧ St w (KS [G0]) w' [Go0'] := by
 have hF := h_
 clear h_
 unfold bs_still at hF
 have S := St.initK [G0] hp_
 obtain ⟨cs1, G2, ho3, hg4⟩ := hO0
 obtain ⟨A5, c6, G7, A9, c10, G11, A13, c14, G15, rfl, hO8, hO12, hO16, hq17⟩ := ho3
 have S18 : St _ _ _ [[(p0, .cells #[.slice A5 a0.free.length c6, .slice A9 a0.want.length c10, .slice A13 a0.all.length c14, .int .i64 a0.lists] 114 (0, 0))], G7, G11, G15] := S.objs (by rw [hg4, hq17]; simp)
 refine enter 169 [(0, .pointer (some ⟨p0, 0, none⟩))] Try.func56 rfl rfl rfl rfl ?_
 refine WCode.seq ?_
 refine WCode.region ?_
 refine WOps.p (G.assign rfl) rfl ?_
 refine WOps.nil ?_
 refine WEx.then_ ?_
 refine WCode.cutseq (fun l_ w_ => ∃ q21 : Nat, l_ = [(0, .pointer (some ⟨p0, 0, none⟩))] ∧ bs_still.j1 q21 a0 = some r_ ∧ St w (KS [G0]) w_ [[(p0, .cells #[.slice A5 a0.free.length c6, .slice A9 a0.want.length c10, .slice A13 a0.all.length c14, .int .i64 a0.lists] 114 (0, 0))], G7, G11, G15]) ?_ ?_
 ·
  refine WCode.seq ?_
  refine WCode.region ?_
  refine WOps.p (G.assign rfl) rfl ?_
  refine WOps.nil ?_
  refine WEx.then_ ?_
  refine WCode.block ?_
  refine WCode.forget (l' := [(0, .pointer (some ⟨p0, 0, none⟩)), (3, .int .i64 0)]) ⟨rfl, rfl, trivial⟩ ?_
  refine WCode.loop (fun n_ l_ w_ => ∃ x23 : Int, l_ = [(0, .pointer (some ⟨p0, 0, none⟩)), (3, .int .i64 x23)] ∧ bs_still.l1 n_ a0 x23 = some r_ ∧ St w (KS [G0]) w_ [[(p0, .cells #[.slice A5 a0.free.length c6, .slice A9 a0.want.length c10, .slice A13 a0.all.length c14, .int .i64 a0.lists] 114 (0, 0))], G7, G11, G15]) k ⟨0, rfl, hF, S18⟩ ?_
  rintro n27 _ w24 ⟨x23, rfl, hF, S25⟩
  obtain _ | k26 := n27
  · exact nomatch (show (none : Option (Bool × BookS)) = some r_ from hF)
  rw [bs_still.l1] at hF
  refine WCode.seq ?_
  refine WCode.seq ?_
  refine WCode.region ?_
  refine WOps.p (G.move rfl) rfl ?_
  refine WOps.p (G.move rfl) rfl ?_
  refine WOps.p (G.nilp rfl) rfl ?_
  refine WOps.p (G.field T.fld114_0 rfl (show 0 + 0 = 0 from rfl)) rfl ?_
  refine WOps.r (G.load1 T.one112 rfl (cell_blk (S25.blk 0 rfl) rfl)) rfl ?_
  refine WOps.p (G.len T.el112 rfl) rfl ?_
  refine WOps.p (G.lss rfl rfl rfl) rfl ?_
  refine WOps.nil ?_
  refine WEx.then_ ?_
  rcases ite_some hF with ⟨h29, hF⟩ | ⟨h29, hF⟩
  ·
   refine WCode.cond_t (kb (b := decide (x23 < (a0.free.length : Int))) rfl (decide_eq_true h29)) ?_
   refine WCode.skip ?_
   refine WEx.then_ ?_
   refine WCode.seq ?_
   refine WCode.block ?_
   refine WCode.seq ?_
   refine WCode.draw [⟨0, 0, []⟩, ⟨1, 0, []⟩, ⟨2, 0, []⟩, ⟨4, 0, []⟩, ⟨7, 0, []⟩, ⟨8, 0, []⟩, ⟨9, 0, []⟩, ⟨11, 0, []⟩, ⟨3, 1, [5, 6, 14, 15]⟩, ⟨5, 0, []⟩, ⟨6, 1, [14, 15]⟩, ⟨10, 1, [12, 13, 14, 15]⟩, ⟨12, 0, []⟩, ⟨13, 1, [14, 15]⟩, ⟨14, 2, []⟩, ⟨15, 0, []⟩] T.mixed (by kernel_rfl) (by intro _ _ d _ _ h; cases d <;> exact h) rfl (by kernel_rfl) ?_
   have S30 := S25.drew
   generalize w24.drew = w31 at *
   refine WD.p rfl (G.move rfl) rfl ?_
   refine WD.p rfl (G.nilp rfl) rfl ?_
   refine WD.p rfl (G.field T.fld114_0 rfl (show 0 + 0 = 0 from rfl)) rfl ?_
   refine WD.p rfl (G.move rfl) rfl ?_
   refine WD.p rfl (G.move rfl) rfl ?_
   refine WD.p rfl (G.nilp rfl) rfl ?_
   refine WD.p rfl (G.field T.fld114_1 rfl (show 0 + 1 = 1 from rfl)) rfl ?_
   refine WD.p rfl (G.move rfl) rfl ?_
   refine WD.r rfl (G.load1 T.one112 rfl (cell_blk (S30.blk 0 rfl) rfl)) rfl ?_
   obtain ⟨x32, hc33, hF⟩ := bind_some hF
   obtain ⟨j34, ej35, hj36, hl37⟩ := idx_spec hc33
   obtain ⟨A45, c46, hG47, hH50, hS48, hcl49⟩ := SlO.subH hO8 hj36
   obtain ⟨b38, o39, eA41, hf42, hc43⟩ := hcl49 _ (fun b o hb => S30.grp 1 rfl hb)
   refine WD.p rfl (G.idx T.el112 rfl eA41 rfl ej35 hl37) rfl ?_
   refine WD.r rfl (G.load1 T.one176 rfl (cellsAt.at0 hc43)) rfl ?_
   refine WD.r rfl (G.load1 T.one112 rfl (cell_blk (S30.blk 0 rfl) rfl)) rfl ?_
   obtain ⟨x51, hc52, hF⟩ := bind_some hF
   obtain ⟨j53, ej54, hj55, hl56⟩ := idx_spec hc52
   obtain ⟨A64, c65, hG66, hH69, hS67, hcl68⟩ := SlO.subH hO12 hj55
   obtain ⟨b57, o58, eA60, hf61, hc62⟩ := hcl68 _ (fun b o hb => S30.grp 2 rfl hb)
   refine WD.p rfl (G.idx T.el112 rfl eA60 rfl ej54 hl56) rfl ?_
   refine WD.r rfl (G.load1 T.one176 rfl (cellsAt.at0 hc62)) rfl ?_
   obtain ⟨t70, hc71, hF⟩ := bind_some hF
   refine WD.call rfl T.call98 (evs_cons rfl (evs_cons rfl evs_nil)) rfl ?_
   refine (sh_keys_calls k26 x32 x51 ((SlG.toV (u := w) hG47 (S30.nd 1 rfl)).ext (S30.vw 1 rfl)) (St.outG (Bs := []) S30 1 rfl) ((SlG.toV (u := w) hG66 (S30.nd 2 rfl)).ext (S30.vw 2 rfl)) (St.outG (Bs := []) S30 2 rfl) hc71).mono ?_
   rintro _ w72 ⟨rfl, T73⟩
   have S74 := St.callN (As := []) S30 T73
   change St _ _ _ [[(p0, .cells #[.slice A5 a0.free.length c6, .slice A9 a0.want.length c10, .slice A13 a0.all.length c14, .int .i64 a0.lists] 114 (0, 0))], G7, G11, G15] at S74
   refine ⟨_, rfl, ?_⟩
   refine WD.p rfl (G.assign rfl) rfl ?_
   refine WD.nil ?_
   refine WEx.then_ ?_
   refine WCode.forget (l' := [(0, .pointer (some ⟨p0, 0, none⟩)), (3, .int .i64 x23), (4, .bool t70)]) ⟨rfl, rfl, rfl, trivial⟩ ?_
   refine WCode.seq ?_
   refine WCode.region ?_
   refine WOps.p (G.move rfl) rfl ?_
   refine WOps.p (G.not rfl rfl) rfl ?_
   refine WOps.nil ?_
   refine WEx.then_ ?_
   rcases ite_some hF with ⟨h75, hF⟩ | ⟨h75, hF⟩
   ·
    refine WCode.cond_f (kb (b := !t70) rfl (show (!t70) = false from by rw [h75]; rfl)) ?_
    refine WCode.skip ?_
    refine WEx.in_normal ?_
    refine WEx.then_ ?_
    refine WCode.region ?_
    refine WOps.p (G.move rfl) rfl ?_
    refine WOps.p (G.add rfl rfl (r := (w64 (x23 + 1))) rfl) rfl ?_
    refine WOps.p (G.assign rfl) rfl ?_
    refine WOps.nil ?_
    refine WEx.again _ _ (by omega) ?_ ⟨w64 (x23 + 1), rfl, hF, S74⟩
    exact ⟨rfl, rfl, trivial⟩
   ·
    refine WCode.cond_t (kb (b := !t70) rfl (show (!t70) = true from by rw [(Bool.eq_false_iff.2 h75)]; rfl)) ?_
    refine WCode.seq ?_
    refine WCode.region ?_
    refine WOps.p (G.assign rfl) rfl ?_
    refine WOps.nil ?_
    refine WEx.then_ ?_
    refine WCode.ret ?_
    refine WEx.in_ret ?_
    refine WEx.then_ret ?_
    refine WEx.then_ret ?_
    refine WEx.in_ret ?_
    refine WEx.then_ret ?_
    obtain rfl := some_eq hF
    refine WEx.ret1 rfl rfl ?_
    have hO76 : ObjO 114 BookS.rp p0 a0 ([(p0, .cells #[.slice A5 a0.free.length c6, .slice A9 a0.want.length c10, .slice A13 a0.all.length c14, .int .i64 a0.lists] 114 (0, 0))] ++ (G7 ++ (G11 ++ (G15)))) := ⟨_, _, ⟨A5, c6, G7, A9, c10, G11, A13, c14, G15, rfl, hO8, hO12, hO16, rfl⟩, rfl⟩
    have S77 : St _ _ _ [[(p0, .cells #[.slice A5 a0.free.length c6, .slice A9 a0.want.length c10, .slice A13 a0.all.length c14, .int .i64 a0.lists] 114 (0, 0))] ++ (G7 ++ (G11 ++ (G15)))] := S74.objs (by simp)
    exact ⟨[(p0, .cells #[.slice A5 a0.free.length c6, .slice A9 a0.want.length c10, .slice A13 a0.all.length c14, .int .i64 a0.lists] 114 (0, 0))] ++ (G7 ++ (G11 ++ (G15))), rfl, hO76, St.keep (As := [[(p0, .cells #[.slice A5 a0.free.length c6, .slice A9 a0.want.length c10, .slice A13 a0.all.length c14, .int .i64 a0.lists] 114 (0, 0))] ++ (G7 ++ (G11 ++ (G15)))]) S77⟩
  ·
   refine WCode.cond_f (kb (b := decide (x23 < (a0.free.length : Int))) rfl (decide_eq_false h29)) ?_
   refine WCode.exit ?_
   refine WEx.then_exit ?_
   refine WEx.then_exit ?_
   refine WEx.in_exit ?_
   refine WEx.cutend _ ?_ ⟨k26, rfl, hF, S25⟩
   exact ⟨rfl, trivial⟩
 ·
  rintro _ w19 ⟨q21, rfl, hF, S20⟩
  unfold bs_still.j1 at hF
  refine WCode.cutseq (fun l_ w_ => ∃ q85 : Nat, ∃ A78 : Option Addr, ∃ c79 : Nat, ∃ l80 : List (List KeyS), ∃ G81 : Grp, l_ = [(0, .pointer (some ⟨p0, 0, none⟩))] ∧ bs_still.j2 q85 a0 l80 = some r_ ∧ (SlO 176 (Rp.slice 103 KeyS.rp) (.slice A78 l80.length c79) l80 G81) ∧ St w (KS [G0]) w_ [[(p0, .cells #[.slice A78 l80.length c79, .slice A9 a0.want.length c10, .slice A13 a0.all.length c14, .int .i64 a0.lists] 114 (0, 0))], G11, G15, G81]) ?_ ?_
  ·
   refine WCode.seq ?_
   refine WCode.region ?_
   refine WOps.p (G.assign rfl) rfl ?_
   refine WOps.nil ?_
   refine WEx.then_ ?_
   refine WCode.block ?_
   have S97 : St _ _ _ [[(p0, .cells #[.slice A5 a0.free.length c6, .slice A9 a0.want.length c10, .slice A13 a0.all.length c14, .int .i64 a0.lists] 114 (0, 0))], G11, G15, G7] := St.reord S20 [0, 2, 3, 1] 4 rfl (by decide) rfl
   refine WCode.forget (l' := [(0, .pointer (some ⟨p0, 0, none⟩)), (5, .int .i64 0)]) ⟨rfl, rfl, trivial⟩ ?_
   refine WCode.loop (fun n_ l_ w_ => ∃ x87 : Int, ∃ A88 : Option Addr, ∃ c89 : Nat, ∃ l90 : List (List KeyS), ∃ G91 : Grp, l_ = [(0, .pointer (some ⟨p0, 0, none⟩)), (5, .int .i64 x87)] ∧ bs_still.l2 n_ a0 x87 l90 = some r_ ∧ (SlO 176 (Rp.slice 103 KeyS.rp) (.slice A88 l90.length c89) l90 G91) ∧ St w (KS [G0]) w_ [[(p0, .cells #[.slice A88 l90.length c89, .slice A9 a0.want.length c10, .slice A13 a0.all.length c14, .int .i64 a0.lists] 114 (0, 0))], G11, G15, G91]) q21 ⟨0, A5, c6, a0.free, G7, rfl, hF, hO8, S97⟩ ?_
   rintro n96 _ w93 ⟨x87, A88, c89, l90, G91, rfl, hF, hO92, S94⟩
   obtain _ | k95 := n96
   · exact nomatch (show (none : Option (Bool × BookS)) = some r_ from hF)
   rw [bs_still.l2] at hF
   refine WCode.seq ?_
   refine WCode.seq ?_
   refine WCode.region ?_
   refine WOps.p (G.move rfl) rfl ?_
   refine WOps.p (G.move rfl) rfl ?_
   refine WOps.p (G.nilp rfl) rfl ?_
   refine WOps.p (G.field T.fld114_0 rfl (show 0 + 0 = 0 from rfl)) rfl ?_
   refine WOps.r (G.load1 T.one112 rfl (cell_blk (S94.blk 0 rfl) rfl)) rfl ?_
   refine WOps.p (G.len T.el112 rfl) rfl ?_
   refine WOps.p (G.lss rfl rfl rfl) rfl ?_
   refine WOps.nil ?_
   refine WEx.then_ ?_
   rcases ite_some hF with ⟨h99, hF⟩ | ⟨h99, hF⟩
   ·
    refine WCode.cond_t (kb (b := decide (x87 < (l90.length : Int))) rfl (decide_eq_true h99)) ?_
    refine WCode.skip ?_
    refine WEx.then_ ?_
    refine WCode.seq ?_
    refine WCode.block ?_
    refine WCode.seq ?_
    refine WCode.region ?_
    refine WOps.p (G.assign rfl) rfl ?_
    refine WOps.nil ?_
    refine WEx.then_ ?_
    refine WCode.block ?_
    refine WCode.forget (l' := [(0, .pointer (some ⟨p0, 0, none⟩)), (5, .int .i64 x87), (6, .int .i64 0)]) ⟨rfl, rfl, rfl, trivial⟩ ?_
    refine WCode.loop (fun n_ l_ w_ => ∃ x100 : Int, ∃ A101 : Option Addr, ∃ c102 : Nat, ∃ l103 : List (List KeyS), ∃ G104 : Grp, l_ = [(0, .pointer (some ⟨p0, 0, none⟩)), (5, .int .i64 x87), (6, .int .i64 x100)] ∧ bs_still.l3 n_ a0 x87 x100 l103 = some r_ ∧ n_ ≤ k95 ∧ (SlO 176 (Rp.slice 103 KeyS.rp) (.slice A101 l103.length c102) l103 G104) ∧ St w (KS [G0]) w_ [[(p0, .cells #[.slice A101 l103.length c102, .slice A9 a0.want.length c10, .slice A13 a0.all.length c14, .int .i64 a0.lists] 114 (0, 0))], G11, G15, G104]) k95 ⟨0, A88, c89, l90, G91, rfl, hF, Nat.le_refl _, hO92, S94⟩ ?_
    rintro n109 _ w106 ⟨x100, A101, c102, l103, G104, rfl, hF, hle110, hO105, S107⟩
    obtain _ | k108 := n109
    · exact nomatch (show (none : Option (Bool × BookS)) = some r_ from hF)
    rw [bs_still.l3] at hF
    refine WCode.seq ?_
    refine WCode.seq ?_
    refine WCode.region ?_
    refine WOps.p (G.move rfl) rfl ?_
    refine WOps.p (G.move rfl) rfl ?_
    refine WOps.p (G.nilp rfl) rfl ?_
    refine WOps.p (G.field T.fld114_0 rfl (show 0 + 0 = 0 from rfl)) rfl ?_
    refine WOps.r (G.load1 T.one112 rfl (cell_blk (S107.blk 0 rfl) rfl)) rfl ?_
    refine WOps.p (G.move rfl) rfl ?_
    obtain ⟨x111, hc112, hF⟩ := bind_some hF
    obtain ⟨j113, ej114, hj115, hl116⟩ := idx_spec hc112
    obtain ⟨A124, c125, hG126, hH129, hS127, hcl128⟩ := SlO.subH hO105 hj115
    obtain ⟨b117, o118, eA120, hf121, hc122⟩ := hcl128 _ (fun b o hb => S107.grp 3 rfl hb)
    refine WOps.p (G.idx T.el112 rfl eA120 rfl ej114 hl116) rfl ?_
    refine WOps.r (G.load1 T.one176 rfl (cellsAt.at0 hc122)) rfl ?_
    refine WOps.p (G.len T.el176 rfl) rfl ?_
    refine WOps.p (G.lss rfl rfl rfl) rfl ?_
    refine WOps.nil ?_
    refine WEx.then_ ?_
    rcases ite_some hF with ⟨h130, hF⟩ | ⟨h130, hF⟩
    ·
     refine WCode.cond_t (kb (b := decide (x100 < (x111.length : Int))) rfl (decide_eq_true h130)) ?_
     refine WCode.skip ?_
     refine WEx.then_ ?_
     refine WCode.forget (l' := [(0, .pointer (some ⟨p0, 0, none⟩)), (5, .int .i64 x87), (6, .int .i64 x100)]) ⟨rfl, rfl, rfl, trivial⟩ ?_
     refine WCode.seq ?_
     refine WCode.block ?_
     obtain ⟨x131, hc132, hF⟩ := bind_some hF
     have S133 := S107.front 3 rfl
     change St _ _ _ [G104, [(p0, .cells #[.slice A101 l103.length c102, .slice A9 a0.want.length c10, .slice A13 a0.all.length c14, .int .i64 a0.lists] 114 (0, 0))], G11, G15] at S133
     obtain ⟨j134, ej135, hj136, hl137⟩ := idx_spec hc132
     obtain ⟨A138, c139, hG140, hH141, hS142, hcl143⟩ := SlO.subH hO105 hj136
     obtain ⟨b144, o145, eA146, hf147, hc148⟩ := hcl143 _ (fun b o hb => S133.grp 0 rfl hb)
     obtain ⟨G149, G150, hO151, hH152, S153⟩ := St.focusS S133 hH141
     change St _ _ _ [G149, G150, [(p0, .cells #[.slice A101 l103.length c102, .slice A9 a0.want.length c10, .slice A13 a0.all.length c14, .int .i64 a0.lists] 114 (0, 0))], G11, G15] at S153
     refine WCode.drawH (.one 0 0 (.one 1 0 (.one 2 0 (.one 4 0 (.one 7 0 (.one 8 0 (.one 9 0 (.one 10 0 (.one 12 0 (.one 3 1 (.one 5 0 (.one 6 1 (.one 11 1 (.one 13 0 (.one 14 2 (.one 15 0 (.one 16 2 .nil))))))))))))))))) (fun W_ => cellsAt W_ p0 0 [.slice A101 l103.length c102, .slice A9 a0.want.length c10, .slice A13 a0.all.length c14, .int .i64 a0.lists] ∧ (∀ b_, b_ ∈ keys G150 → W_.heap[b_]? = (wOf w G150).heap[b_]?) ∧ True) T.mixed (by kernel_rfl) (by intro _ _ d _ _ h; cases d <;> exact h) rfl rfl (by kernel_rfl) ?_ ?_
     all_goals have S154 := S153.drew
     all_goals generalize w106.drew = w155 at *
     · exact ⟨cellsAt.of_blk (S154.blk 2 rfl) rfl, (S154.vw 1 rfl), trivial⟩
     refine WH.p rfl wants (G.move rfl) rfl ?_
     refine WH.p rfl wants (G.nilp rfl) rfl ?_
     refine WH.p rfl wants (G.field T.fld114_0 rfl (show 0 + 0 = 0 from rfl)) rfl ?_
     refine WH.p rfl wants (G.move rfl) rfl ?_
     refine WH.p rfl wants (G.move rfl) rfl ?_
     refine WH.p rfl wants (G.move rfl) rfl ?_
     refine WH.p rfl wants (G.nilp rfl) rfl ?_
     refine WH.p rfl wants (G.field T.fld114_3 rfl (show 0 + 3 = 3 from rfl)) rfl ?_
     refine WH.p rfl wants (G.move rfl) rfl ?_
     refine WH.r rfl wants (fun _ h_ => G.load1 T.one112 rfl (cellsAt.at h_.1 0 rfl)) rfl ?_
     have hc156 := SlH.cells hH152 (wOf_at (u := w) (S154.nd 1 rfl)) eA146
     have hf157 := SlH.key hH152 eA146
     refine WH.p rfl wants (G.idx T.el112 rfl eA146 rfl ej135 hl137) rfl ?_
     refine WH.r rfl wants (fun _ h_ => G.load1 T.one176 rfl (cellsAt.at0 (cellsAt.move hc156 (h_.2.1 _ hf157)))) rfl ?_
     refine WH.r rfl wants (fun _ h_ => G.load1 T.one3 rfl (cellsAt.at h_.1 3 rfl)) rfl ?_
     refine WH.p rfl wants (G.add rfl rfl (r := (w64 (a0.lists + x87))) rfl) rfl ?_
     obtain ⟨t158, hc159, hF⟩ := bind_some hF
     refine WH.call rfl wants T.call100 (evs_cons rfl evs_nil) rfl ?_
     refine (sh_mark_calls k108 (w64 (a0.lists + x87)) hc159).mono ?_
     rintro _ w160 ⟨rfl, T161⟩
     have S162 := St.callN (As := []) S154 T161
     change St _ _ _ [G149, G150, [(p0, .cells #[.slice A101 l103.length c102, .slice A9 a0.want.length c10, .slice A13 a0.all.length c14, .int .i64 a0.lists] 114 (0, 0))], G11, G15] at S162
     refine ⟨_, rfl, ?_⟩
     refine ⟨⟨cellsAt.of_blk (S162.blk 2 rfl) rfl, (S162.vw 1 rfl), trivial⟩, ?_⟩
     obtain ⟨x163, hc164, hF⟩ := bind_some hF
     obtain ⟨j165, ej166, hj167, hl168⟩ := idx_spec hc164
     obtain ⟨b169, o170, cs171, eA172, hf173, hc174, hr175⟩ := SlR.at_ (hO151.rd (fun b o hb => S162.grp 0 rfl hb)) hj167
     have hq176 : cs171 = [.string (bs x163.S), .int .i64 x163.N] := hr175
     subst hq176
     change cellsAt _ _ (o170 + j165 * 2) [.string (bs x163.S), .int .i64 x163.N] at hc174
     refine WH.p rfl wants (G.idx T.el176 rfl eA172 rfl ej166 hl168) rfl ?_
     obtain ⟨l177, hc178, hF⟩ := bind_some hF
     have e179 := upd_spec' hc178 ej166
     obtain ⟨w180, G181, E182, hO183, S184⟩ := St.storeF (P := Try.prog) (T := 103) S162 hO151 T.size103_2 hj167 eA172 t158 (v := .agg #[.string (bs t158.S), .int .i64 t158.N]) [] [.string (bs x163.S), .int .i64 x163.N] [] rfl rfl rfl
     rw [← e179] at hO183
     have hl185 : (x131).length = l177.length := by rw [e179, List.length_set]
     try rw [hl185] at S184
     try rw [hl185]
     change St _ _ _ [G181, G150, [(p0, .cells #[.slice A101 l103.length c102, .slice A9 a0.want.length c10, .slice A13 a0.all.length c14, .int .i64 a0.lists] 114 (0, 0))], G11, G15] at S184
     refine WH.u rfl wants (E182 rfl rfl) ⟨cellsAt.of_blk (S184.blk 2 rfl) rfl, (S184.vw 1 rfl), trivial⟩ ?_
     refine WH.nil ?_
     obtain ⟨l186, hc187, hF⟩ := bind_some hF
     have e188 := upd_spec' hc187 ej135
     have hA193 : (x131).length = (l177).length := hl185
     obtain ⟨G189, hO190, S191⟩ := St.shutL S184 hH152 ⟨_, by rw [hA193], hO183⟩
     rw [← e188] at hO190
     have hl192 : (l103).length = l186.length := by rw [e188, List.length_set]
     try rw [hl192] at S191
     try rw [hl192]
     change St _ _ _ [G189, [(p0, .cells #[.slice A101 l186.length c102, .slice A9 a0.want.length c10, .slice A13 a0.all.length c14, .int .i64 a0.lists] 114 (0, 0))], G11, G15] at S191
     refine WEx.in_normal ?_
     refine WEx.then_ ?_
     refine WCode.forget (l' := [(0, .pointer (some ⟨p0, 0, none⟩)), (5, .int .i64 x87), (6, .int .i64 x100)]) ⟨rfl, rfl, rfl, trivial⟩ ?_
     refine WCode.region ?_
     refine WOps.p (G.move rfl) rfl ?_
     refine WOps.p (G.add rfl rfl (r := (w64 (x100 + 1))) rfl) rfl ?_
     refine WOps.p (G.assign rfl) rfl ?_
     refine WOps.nil ?_
     have S194 := ((S191.front 3 rfl).front 3 rfl).front 3 rfl
     change St _ _ _ [[(p0, .cells #[.slice A101 l186.length c102, .slice A9 a0.want.length c10, .slice A13 a0.all.length c14, .int .i64 a0.lists] 114 (0, 0))], G11, G15, G189] at S194
     refine WEx.again _ _ (by omega) ?_ ⟨w64 (x100 + 1), A101, c102, l186, G189, rfl, hF, (by omega), hO190, S194⟩
     exact ⟨rfl, rfl, rfl, trivial⟩
    ·
     refine WCode.cond_f (kb (b := decide (x100 < (x111.length : Int))) rfl (decide_eq_false h130)) ?_
     refine WCode.exit ?_
     refine WEx.then_exit ?_
     refine WEx.then_exit ?_
     refine WEx.in_exit ?_
     refine WEx.in_normal ?_
     refine WEx.then_ ?_
     refine WCode.forget (l' := [(0, .pointer (some ⟨p0, 0, none⟩)), (5, .int .i64 x87)]) ⟨rfl, rfl, trivial⟩ ?_
     refine WCode.region ?_
     refine WOps.p (G.move rfl) rfl ?_
     refine WOps.p (G.add rfl rfl (r := (w64 (x87 + 1))) rfl) rfl ?_
     refine WOps.p (G.assign rfl) rfl ?_
     refine WOps.nil ?_
     refine WEx.again _ _ (by omega) ?_ ⟨w64 (x87 + 1), A101, c102, l103, G104, rfl, hF, hO105, S107⟩
     exact ⟨rfl, rfl, trivial⟩
   ·
    refine WCode.cond_f (kb (b := decide (x87 < (l90.length : Int))) rfl (decide_eq_false h99)) ?_
    refine WCode.exit ?_
    refine WEx.then_exit ?_
    refine WEx.then_exit ?_
    refine WEx.in_exit ?_
    refine WEx.cutend _ ?_ ⟨k95, A88, c89, l90, G91, rfl, hF, hO92, S94⟩
    exact ⟨rfl, trivial⟩
  ·
   rintro _ w83 ⟨q85, A78, c79, l80, G81, rfl, hF, hO82, S84⟩
   unfold bs_still.j2 at hF
   refine WCode.cutseq (fun l_ w_ => ∃ q208 : Nat, ∃ A195 : Option Addr, ∃ c196 : Nat, ∃ l197 : List (List KeyS), ∃ G198 : Grp, ∃ M199 : Grp, ∃ A201 : Option Addr, ∃ c202 : Nat, ∃ l203 : List (List KeyS), ∃ G204 : Grp, l_ = [(0, .pointer (some ⟨p0, 0, none⟩))] ∧ bs_still.j3 q208 a0 l197 l203 = some r_ ∧ (PoolP 176 103 KeyS.rp A195 c196 l197 G198 M199 none) ∧ (PoolP 176 103 KeyS.rp A201 c202 l203 G204 M199 none) ∧ St w (KS [G0]) w_ [[(p0, .cells #[.slice A195 l197.length c196, .slice A9 a0.want.length c10, .slice A201 l203.length c202, .int .i64 a0.lists] 114 (0, 0))], G11, G198, M199, G204]) ?_ ?_
   ·
    refine WCode.seq ?_
    refine WCode.region ?_
    refine WOps.p (G.assign rfl) rfl ?_
    refine WOps.nil ?_
    refine WEx.then_ ?_
    refine WCode.block ?_
    have S210 := S84.front 2 rfl
    change St _ _ _ [G15, [(p0, .cells #[.slice A78 l80.length c79, .slice A9 a0.want.length c10, .slice A13 a0.all.length c14, .int .i64 a0.lists] 114 (0, 0))], G11, G81] at S210
    obtain ⟨G211, M212, hP213, S215⟩ := St.unpool S210 hO16
    have hJ214 := PoolJ.start hP213 hO82
    have S228 : St _ _ _ [[(p0, .cells #[.slice A78 l80.length c79, .slice A9 a0.want.length c10, .slice A13 a0.all.length c14, .int .i64 a0.lists] 114 (0, 0))], G11, G81, G211, M212] := St.reord S215 [2, 3, 4, 0, 1] 5 rfl (by decide) rfl
    refine WCode.forget (l' := [(0, .pointer (some ⟨p0, 0, none⟩)), (7, .int .i64 0)]) ⟨rfl, rfl, trivial⟩ ?_
    refine WCode.loop (fun n_ l_ w_ => ∃ x216 : Int, ∃ G217 : Grp, ∃ A218 : Option Addr, ∃ c219 : Nat, ∃ l220 : List (List KeyS), ∃ G221 : Grp, ∃ M222 : Grp, l_ = [(0, .pointer (some ⟨p0, 0, none⟩)), (7, .int .i64 x216)] ∧ bs_still.l4 n_ a0 l80 x216 l220 = some r_ ∧ (PoolJ 176 103 KeyS.rp A218 c219 l220 G221 M222 none A78 c79 l80 (x216.toNat) G217) ∧ St w (KS [G0]) w_ [[(p0, .cells #[.slice A78 l80.length c79, .slice A9 a0.want.length c10, .slice A218 l220.length c219, .int .i64 a0.lists] 114 (0, 0))], G11, G217, G221, M222]) q85 ⟨0, G81, A13, c14, a0.all, G211, M212, rfl, hF, (PoolJ.untip hJ214), S228⟩ ?_
    rintro n227 _ w224 ⟨x216, G217, A218, c219, l220, G221, M222, rfl, hF, hP223, S225⟩
    obtain _ | k226 := n227
    · exact nomatch (show (none : Option (Bool × BookS)) = some r_ from hF)
    rw [bs_still.l4] at hF
    refine WCode.seq ?_
    refine WCode.seq ?_
    refine WCode.region ?_
    refine WOps.p (G.move rfl) rfl ?_
    refine WOps.p (G.move rfl) rfl ?_
    refine WOps.p (G.nilp rfl) rfl ?_
    refine WOps.p (G.field T.fld114_0 rfl (show 0 + 0 = 0 from rfl)) rfl ?_
    refine WOps.r (G.load1 T.one112 rfl (cell_blk (S225.blk 0 rfl) rfl)) rfl ?_
    refine WOps.p (G.len T.el112 rfl) rfl ?_
    refine WOps.p (G.lss rfl rfl rfl) rfl ?_
    refine WOps.nil ?_
    refine WEx.then_ ?_
    rcases ite_some hF with ⟨h230, hF⟩ | ⟨h230, hF⟩
    ·
     refine WCode.cond_t (kb (b := decide (x216 < (l80.length : Int))) rfl (decide_eq_true h230)) ?_
     refine WCode.skip ?_
     refine WEx.then_ ?_
     refine WCode.seq ?_
     refine WCode.block ?_
     refine WCode.seq ?_
     refine WCode.region ?_
     refine WOps.p (G.move rfl) rfl ?_
     refine WOps.p (G.nilp rfl) rfl ?_
     refine WOps.p (G.field T.fld114_0 rfl (show 0 + 0 = 0 from rfl)) rfl ?_
     refine WOps.r (G.load1 T.one112 rfl (cell_blk (S225.blk 0 rfl) rfl)) rfl ?_
     refine WOps.p (G.move rfl) rfl ?_
     obtain ⟨x231, hc232, hF⟩ := bind_some hF
     obtain ⟨j233, ej234, hj235, hl236⟩ := idx_spec hc232
     have S246 := (S225.front 4 rfl).front 3 rfl
     change St _ _ _ [G217, M222, [(p0, .cells #[.slice A78 l80.length c79, .slice A9 a0.want.length c10, .slice A218 l220.length c219, .int .i64 a0.lists] 114 (0, 0))], G11, G221] at S246
     obtain ⟨A244, c245, G247, M248, ⟨b237, o238, eA240, hc242⟩, hJ249, S251⟩ := PoolJ.next S246 (PoolJ.cast hP223 (show j233 = x216.toNat by omega)) (fun h => h.2) hj235
     change St _ _ _ [G247, M248, [(p0, .cells #[.slice A78 l80.length c79, .slice A9 a0.want.length c10, .slice A218 l220.length c219, .int .i64 a0.lists] 114 (0, 0))], G11, G221] at S251
     have hJ250 := PoolJ.cast hJ249 (show x216.toNat + 1 = j233 + 1 by omega)
     refine WOps.p (G.idx T.el112 rfl eA240 rfl ej234 hl236) rfl ?_
     refine WOps.r (G.load1 T.one176 rfl (cellsAt.at0 hc242)) rfl ?_
     refine WOps.p (G.assign rfl) rfl ?_
     refine WOps.nil ?_
     refine WEx.then_ ?_
     refine WCode.forget (l' := [(0, .pointer (some ⟨p0, 0, none⟩)), (7, .int .i64 x216), (8, .slice A244 x231.length c245)]) ⟨rfl, rfl, rfl, trivial⟩ ?_
     refine WCode.seq ?_
     refine WCode.region ?_
     refine WOps.p (G.assign rfl) rfl ?_
     refine WOps.nil ?_
     refine WEx.then_ ?_
     refine WCode.block ?_
     have S267 : St _ _ _ [[(p0, .cells #[.slice A78 l80.length c79, .slice A9 a0.want.length c10, .slice A218 l220.length c219, .int .i64 a0.lists] 114 (0, 0))], G11, G247, G221, M248] := St.reord S251 [2, 3, 0, 4, 1] 5 rfl (by decide) rfl
     refine WCode.forget (l' := [(0, .pointer (some ⟨p0, 0, none⟩)), (7, .int .i64 x216), (8, .slice A244 x231.length c245), (9, .int .i64 0)]) ⟨rfl, rfl, rfl, rfl, trivial⟩ ?_
     refine WCode.loop (fun n_ l_ w_ => ∃ A252 : Option Addr, ∃ c253 : Nat, ∃ l254 : List KeyS, ∃ x255 : Int, ∃ G256 : Grp, ∃ A257 : Option Addr, ∃ c258 : Nat, ∃ l259 : List (List KeyS), ∃ G260 : Grp, ∃ M261 : Grp, l_ = [(0, .pointer (some ⟨p0, 0, none⟩)), (7, .int .i64 x216), (8, .slice A252 l254.length c253), (9, .int .i64 x255)] ∧ bs_still.l5 n_ a0 l80 x216 l254 x255 l259 = some r_ ∧ n_ ≤ k226 ∧ (PoolJ 176 103 KeyS.rp A257 c258 l259 G260 M261 (some ⟨A252, c253, l254⟩) A78 c79 l80 (x216.toNat + 1) G256) ∧ St w (KS [G0]) w_ [[(p0, .cells #[.slice A78 l80.length c79, .slice A9 a0.want.length c10, .slice A257 l259.length c258, .int .i64 a0.lists] 114 (0, 0))], G11, G256, G260, M261]) k226 ⟨A244, c245, x231, 0, G247, A218, c219, l220, G221, M248, rfl, hF, Nat.le_refl _, hJ250, S267⟩ ?_
     rintro n266 _ w263 ⟨A252, c253, l254, x255, G256, A257, c258, l259, G260, M261, rfl, hF, hle268, hP262, S264⟩
     obtain _ | k265 := n266
     · exact nomatch (show (none : Option (Bool × BookS)) = some r_ from hF)
     rw [bs_still.l5] at hF
     refine WCode.seq ?_
     refine WCode.seq ?_
     refine WCode.region ?_
     refine WOps.p (G.move rfl) rfl ?_
     refine WOps.p (G.lss rfl rfl rfl) rfl ?_
     refine WOps.nil ?_
     refine WEx.then_ ?_
     rcases ite_some hF with ⟨h269, hF⟩ | ⟨h269, hF⟩
     ·
      refine WCode.cond_t (kb (b := decide (x255 < 6)) rfl (decide_eq_true h269)) ?_
      refine WCode.skip ?_
      refine WEx.then_ ?_
      refine WCode.seq ?_
      refine WCode.block ?_
      refine WCode.seq ?_
      refine WCode.region ?_
      refine WOps.p (G.move rfl) rfl ?_
      refine WOps.p (G.move rfl) rfl ?_
      refine WOps.p (G.nilp rfl) rfl ?_
      refine WOps.p (G.field T.fld114_2 rfl (show 0 + 2 = 2 from rfl)) rfl ?_
      refine WOps.r (G.load1 T.one112 rfl (cell_blk (S264.blk 0 rfl) rfl)) rfl ?_
      refine WOps.p (G.move rfl) rfl ?_
      obtain ⟨b270, w271, E272, S273, X274, L275⟩ := St.lit S264 (P := Try.prog) (t := 112) (e := 176) (n := 1) (vs := [(0, .slice A252 l254.length c253)]) (cs := #[.slice A252 l254.length c253]) (by kernel_rfl)
      change St _ _ _ [[(b270, .cells #[.slice A252 l254.length c253] 176 (0, 0))], [(p0, .cells #[.slice A78 l80.length c79, .slice A9 a0.want.length c10, .slice A257 l259.length c258, .int .i64 a0.lists] 114 (0, 0))], G11, G256, G260, M261] at S273
      refine WOps.e (E272 (evp_cons rfl evp_nil)) rfl ?_
      obtain ⟨l276, hc277, hF⟩ := bind_some hF
      have S278 := S273.front 4 rfl
      change St _ _ _ [G260, [(b270, .cells #[.slice A252 l254.length c253] 176 (0, 0))], [(p0, .cells #[.slice A78 l80.length c79, .slice A9 a0.want.length c10, .slice A257 l259.length c258, .int .i64 a0.lists] 114 (0, 0))], G11, G256, M261] at S278
      obtain ⟨A279, c280, G281, w282, E283, hP284, S285⟩ := PoolJ.put (P := Try.prog) S278 T.elt112 rfl hP262 (Rd.of_blk (S278.blk 1 rfl) (n := 1) (sz := 1) rfl) hc277
      change St _ _ _ [G281, [(b270, .cells #[.slice A252 l254.length c253] 176 (0, 0))], [(p0, .cells #[.slice A78 l80.length c79, .slice A9 a0.want.length c10, .slice A257 l259.length c258, .int .i64 a0.lists] 114 (0, 0))], G11, G256, M261] at S285
      refine WOps.e (E283 rfl rfl) rfl ?_
      refine WOps.p (G.nilp rfl) rfl ?_
      refine WOps.p (G.field T.fld114_2 rfl (show 0 + 2 = 2 from rfl)) rfl ?_
      obtain ⟨w286, E287, S288⟩ := St.store (P := Try.prog) S285 2 112 (.slice A279 l276.length c280) (off := 2) (cur' := #[.slice A78 l80.length c79, .slice A9 a0.want.length c10, .slice A279 l276.length c280, .int .i64 a0.lists]) rfl T.size112_1 rfl rfl rfl
      change St _ _ _ [G281, [(b270, .cells #[.slice A252 l254.length c253] 176 (0, 0))], [(p0, .cells #[.slice A78 l80.length c79, .slice A9 a0.want.length c10, .slice A279 l276.length c280, .int .i64 a0.lists] 114 (0, 0))], G11, G256, M261] at S288
      refine WOps.u (E287 rfl rfl) ?_
      refine WOps.nil ?_
      refine WEx.then_ ?_
      refine WCode.forget (l' := [(0, .pointer (some ⟨p0, 0, none⟩)), (7, .int .i64 x216), (8, .slice A252 l254.length c253), (9, .int .i64 x255)]) ⟨rfl, rfl, rfl, rfl, trivial⟩ ?_
      refine WCode.region ?_
      refine WOps.p (G.move rfl) rfl ?_
      refine WOps.p (G.move rfl) rfl ?_
      refine WOps.p (G.nilp rfl) rfl ?_
      refine WOps.p (G.field T.fld114_3 rfl (show 0 + 3 = 3 from rfl)) rfl ?_
      refine WOps.r (G.load1 T.one3 rfl (cell_blk (S288.blk 2 rfl) rfl)) rfl ?_
      refine WOps.p (G.move rfl) rfl ?_
      refine WOps.p (G.add rfl rfl (r := (w64 (a0.lists + x216))) rfl) rfl ?_
      obtain ⟨t289, hc290, hF⟩ := bind_some hF
      refine WOps.call T.call100 (evs_cons rfl evs_nil) rfl ?_
      refine (sh_mark_calls k265 (w64 (a0.lists + x216)) hc290).mono ?_
      rintro _ w291 ⟨rfl, T292⟩
      have S293 := St.callN (As := []) S288 T292
      change St _ _ _ [G281, [(b270, .cells #[.slice A252 l254.length c253] 176 (0, 0))], [(p0, .cells #[.slice A78 l80.length c79, .slice A9 a0.want.length c10, .slice A279 l276.length c280, .int .i64 a0.lists] 114 (0, 0))], G11, G256, M261] at S293
      refine ⟨_, rfl, ?_⟩
      obtain ⟨b294, w295, E296, S297, X298, L299⟩ := St.lit S293 (P := Try.prog) (t := 176) (e := 103) (n := 1) (vs := [(0, .agg #[.string (bs t289.S), .int .i64 t289.N])]) (cs := #[.string (bs t289.S), .int .i64 t289.N]) (by kernel_rfl)
      change St _ _ _ [[(b294, .cells #[.string (bs t289.S), .int .i64 t289.N] 103 (0, 0))], G281, [(b270, .cells #[.slice A252 l254.length c253] 176 (0, 0))], [(p0, .cells #[.slice A78 l80.length c79, .slice A9 a0.want.length c10, .slice A279 l276.length c280, .int .i64 a0.lists] 114 (0, 0))], G11, G256, M261] at S297
      refine WOps.e (E296 (evp_cons rfl evp_nil)) rfl ?_
      obtain ⟨l300, hc301, hF⟩ := bind_some hF
      have S302 := S297.front 6 rfl
      change St _ _ _ [M261, [(b294, .cells #[.string (bs t289.S), .int .i64 t289.N] 103 (0, 0))], G281, [(b270, .cells #[.slice A252 l254.length c253] 176 (0, 0))], [(p0, .cells #[.slice A78 l80.length c79, .slice A9 a0.want.length c10, .slice A279 l276.length c280, .int .i64 a0.lists] 114 (0, 0))], G11, G256] at S302
      obtain ⟨A303, c304, M305, w306, E307, hP308, S309⟩ := PoolJ.grow (P := Try.prog) (Y := ([t289] : List KeyS)) S302 T.elt176 rfl hP284 (Rd.of_blk (S302.blk 1 rfl) (n := 1) (sz := 2) rfl) ⟨_, _, [], [], rfl, rfl, ⟨rfl, rfl⟩, ⟨rfl, rfl⟩⟩ rfl hc301
      change St _ _ _ [M305, [(b294, .cells #[.string (bs t289.S), .int .i64 t289.N] 103 (0, 0))], G281, [(b270, .cells #[.slice A252 l254.length c253] 176 (0, 0))], [(p0, .cells #[.slice A78 l80.length c79, .slice A9 a0.want.length c10, .slice A279 l276.length c280, .int .i64 a0.lists] 114 (0, 0))], G11, G256] at S309
      refine WOps.e (E307 rfl rfl) rfl ?_
      refine WOps.p (G.assign rfl) rfl ?_
      refine WOps.nil ?_
      refine WEx.in_normal ?_
      refine WEx.then_ ?_
      refine WCode.forget (l' := [(0, .pointer (some ⟨p0, 0, none⟩)), (7, .int .i64 x216), (8, .slice A303 l300.length c304), (9, .int .i64 x255)]) ⟨rfl, rfl, rfl, rfl, trivial⟩ ?_
      refine WCode.region ?_
      refine WOps.p (G.move rfl) rfl ?_
      refine WOps.p (G.add rfl rfl (r := (w64 (x255 + 1))) rfl) rfl ?_
      refine WOps.p (G.assign rfl) rfl ?_
      refine WOps.nil ?_
      have S310 : St _ _ _ [[(p0, .cells #[.slice A78 l80.length c79, .slice A9 a0.want.length c10, .slice A279 l276.length c280, .int .i64 a0.lists] 114 (0, 0))], G11, G256, G281, M305, [(b294, .cells #[.string (bs t289.S), .int .i64 t289.N] 103 (0, 0))], [(b270, .cells #[.slice A252 l254.length c253] 176 (0, 0))]] := St.reord S309 [4, 5, 6, 2, 0, 1, 3] 7 rfl (by decide) rfl
      have S311 := St.keep (As := [[(p0, .cells #[.slice A78 l80.length c79, .slice A9 a0.want.length c10, .slice A279 l276.length c280, .int .i64 a0.lists] 114 (0, 0))], G11, G256, G281, M305]) S310
      refine WEx.again _ _ (by omega) ?_ ⟨A303, c304, l300, w64 (x255 + 1), G256, A279, c280, l276, G281, M305, rfl, hF, (by omega), hP308, S311⟩
      exact ⟨rfl, rfl, rfl, rfl, trivial⟩
     ·
      refine WCode.cond_f (kb (b := decide (x255 < 6)) rfl (decide_eq_false h269)) ?_
      refine WCode.exit ?_
      refine WEx.then_exit ?_
      refine WEx.then_exit ?_
      refine WEx.in_exit ?_
      refine WEx.in_normal ?_
      refine WEx.then_ ?_
      refine WCode.region ?_
      refine WOps.p (G.move rfl) rfl ?_
      refine WOps.p (G.add rfl rfl (r := (w64 (x216 + 1))) rfl) rfl ?_
      refine WOps.p (G.assign rfl) rfl ?_
      refine WOps.nil ?_
      refine WEx.again _ _ (by omega) ?_ ⟨w64 (x216 + 1), G256, A257, c258, l259, G260, M261, rfl, hF, (PoolJ.untip (PoolJ.cast hP262 (PoolJ.toNat_succ hP262 hc232))), S264⟩
      exact ⟨rfl, rfl, trivial⟩
    ·
     refine WCode.cond_f (kb (b := decide (x216 < (l80.length : Int))) rfl (decide_eq_false h230)) ?_
     refine WCode.exit ?_
     refine WEx.then_exit ?_
     refine WEx.then_exit ?_
     refine WEx.in_exit ?_
     obtain ⟨hP312, hP313⟩ := PoolJ.done hP223 (by omega)
     have S314 : St _ _ _ [[(p0, .cells #[.slice A78 l80.length c79, .slice A9 a0.want.length c10, .slice A218 l220.length c219, .int .i64 a0.lists] 114 (0, 0))], G11, G217, M222, G221] := St.reord S225 [0, 1, 2, 4, 3] 5 rfl (by decide) rfl
     refine WEx.cutend _ ?_ ⟨k226, A78, c79, l80, G217, M222, A218, c219, l220, G221, rfl, hF, (hP313.untip), (hP312.untip), S314⟩
     exact ⟨rfl, trivial⟩
   ·
    rintro _ w206 ⟨q208, A195, c196, l197, G198, M199, A201, c202, l203, G204, rfl, hF, hP200, hP205, S207⟩
    unfold bs_still.j3 at hF
    refine WCode.seq ?_
    refine WCode.draw [⟨0, 0, []⟩, ⟨1, 0, []⟩, ⟨2, 0, []⟩, ⟨3, 0, []⟩, ⟨5, 0, []⟩, ⟨6, 0, []⟩, ⟨7, 0, []⟩, ⟨4, 1, [10, 11, 12, 13]⟩, ⟨8, 1, [9, 10, 11, 12, 13]⟩, ⟨9, 0, []⟩, ⟨10, 0, []⟩, ⟨11, 0, []⟩, ⟨12, 0, []⟩, ⟨13, 2, []⟩] T.mixed (by kernel_rfl) (by intro _ _ d _ _ h; cases d <;> exact h) rfl (by kernel_rfl) ?_
    have S315 := S207.drew
    generalize w206.drew = w316 at *
    refine WD.p rfl (G.move rfl) rfl ?_
    refine WD.p rfl (G.move rfl) rfl ?_
    refine WD.p rfl (G.nilp rfl) rfl ?_
    refine WD.p rfl (G.field T.fld114_3 rfl (show 0 + 3 = 3 from rfl)) rfl ?_
    refine WD.p rfl (G.move rfl) rfl ?_
    refine WD.p rfl (G.nilp rfl) rfl ?_
    refine WD.p rfl (G.field T.fld114_0 rfl (show 0 + 0 = 0 from rfl)) rfl ?_
    refine WD.r rfl (G.load1 T.one3 rfl (cell_blk (S315.blk 0 rfl) rfl)) rfl ?_
    refine WD.r rfl (G.load1 T.one112 rfl (cell_blk (S315.blk 0 rfl) rfl)) rfl ?_
    refine WD.p rfl (G.len T.el112 rfl) rfl ?_
    refine WD.p rfl (G.add rfl rfl (r := (w64 (a0.lists + (l197.length : Int)))) rfl) rfl ?_
    refine WD.p rfl (G.nilp rfl) rfl ?_
    refine WD.p rfl (G.field T.fld114_3 rfl (show 0 + 3 = 3 from rfl)) rfl ?_
    obtain ⟨w317, E318, S319⟩ := St.store (P := Try.prog) S315 0 3 (.int .i64 (w64 (a0.lists + (l197.length : Int)))) (off := 3) (cur' := #[.slice A195 l197.length c196, .slice A9 a0.want.length c10, .slice A201 l203.length c202, .int .i64 (w64 (a0.lists + (l197.length : Int)))]) rfl T.size3_1 rfl rfl rfl
    change St _ _ _ [[(p0, .cells #[.slice A195 l197.length c196, .slice A9 a0.want.length c10, .slice A201 l203.length c202, .int .i64 (w64 (a0.lists + (l197.length : Int)))] 114 (0, 0))], G11, G198, M199, G204] at S319
    refine WD.u rfl (E318 rfl rfl) ?_
    refine WD.nil ?_
    refine WEx.then_ ?_
    refine WCode.forget (l' := [(0, .pointer (some ⟨p0, 0, none⟩))]) ⟨rfl, trivial⟩ ?_
    refine WCode.seq ?_
    refine WCode.region ?_
    refine WOps.p (G.move rfl) rfl ?_
    refine WOps.p (G.nilp rfl) rfl ?_
    refine WOps.p (G.field T.fld114_0 rfl (show 0 + 0 = 0 from rfl)) rfl ?_
    obtain ⟨w320, E321, S322⟩ := St.store (P := Try.prog) S319 0 112 (.slice none 0 0) (off := 0) (cur' := #[.slice none 0 0, .slice A9 a0.want.length c10, .slice A201 l203.length c202, .int .i64 (w64 (a0.lists + (l197.length : Int)))]) rfl T.size112_1 rfl rfl rfl
    change St _ _ _ [[(p0, .cells #[.slice none 0 0, .slice A9 a0.want.length c10, .slice A201 l203.length c202, .int .i64 (w64 (a0.lists + (l197.length : Int)))] 114 (0, 0))], G11, G198, M199, G204] at S322
    refine WOps.u (E321 rfl rfl) ?_
    refine WOps.nil ?_
    refine WEx.then_ ?_
    refine WCode.seq ?_
    refine WCode.region ?_
    refine WOps.p (G.move rfl) rfl ?_
    refine WOps.p (G.nilp rfl) rfl ?_
    refine WOps.p (G.field T.fld114_1 rfl (show 0 + 1 = 1 from rfl)) rfl ?_
    obtain ⟨w323, E324, S325⟩ := St.store (P := Try.prog) S322 0 112 (.slice none 0 0) (off := 1) (cur' := #[.slice none 0 0, .slice none 0 0, .slice A201 l203.length c202, .int .i64 (w64 (a0.lists + (l197.length : Int)))]) rfl T.size112_1 rfl rfl rfl
    change St _ _ _ [[(p0, .cells #[.slice none 0 0, .slice none 0 0, .slice A201 l203.length c202, .int .i64 (w64 (a0.lists + (l197.length : Int)))] 114 (0, 0))], G11, G198, M199, G204] at S325
    refine WOps.u (E324 rfl rfl) ?_
    refine WOps.nil ?_
    refine WEx.then_ ?_
    refine WCode.seq ?_
    refine WCode.seq ?_
    refine WCode.region ?_
    refine WOps.p (G.assign rfl) rfl ?_
    refine WOps.nil ?_
    refine WEx.then_ ?_
    refine WCode.block ?_
    have S331 := ((S325.front 3 rfl).front 4 rfl).front 2 rfl
    change St _ _ _ [[(p0, .cells #[.slice none 0 0, .slice none 0 0, .slice A201 l203.length c202, .int .i64 (w64 (a0.lists + (l197.length : Int)))] 114 (0, 0))], G204, M199, G11, G198] at S331
    have S332 := St.keep (As := [[(p0, .cells #[.slice none 0 0, .slice none 0 0, .slice A201 l203.length c202, .int .i64 (w64 (a0.lists + (l197.length : Int)))] 114 (0, 0))], G204, M199]) S331
    refine WCode.forget (l' := [(0, .pointer (some ⟨p0, 0, none⟩)), (10, .int .i64 0)]) ⟨rfl, rfl, trivial⟩ ?_
    refine WCode.loop (fun n_ l_ w_ => ∃ x326 : Int, l_ = [(0, .pointer (some ⟨p0, 0, none⟩)), (10, .int .i64 x326)] ∧ bs_still.l6 n_ a0 l197 l203 x326 = some r_ ∧ St w (KS [G0]) w_ [[(p0, .cells #[.slice none 0 0, .slice none 0 0, .slice A201 l203.length c202, .int .i64 (w64 (a0.lists + (l197.length : Int)))] 114 (0, 0))], G204, M199]) q208 ⟨0, rfl, hF, S332⟩ ?_
    rintro n330 _ w327 ⟨x326, rfl, hF, S328⟩
    obtain _ | k329 := n330
    · exact nomatch (show (none : Option (Bool × BookS)) = some r_ from hF)
    rw [bs_still.l6] at hF
    refine WCode.seq ?_
    refine WCode.seq ?_
    refine WCode.region ?_
    refine WOps.p (G.move rfl) rfl ?_
    refine WOps.p (G.move rfl) rfl ?_
    refine WOps.p (G.nilp rfl) rfl ?_
    refine WOps.p (G.field T.fld114_2 rfl (show 0 + 2 = 2 from rfl)) rfl ?_
    refine WOps.r (G.load1 T.one112 rfl (cell_blk (S328.blk 0 rfl) rfl)) rfl ?_
    refine WOps.p (G.len T.el112 rfl) rfl ?_
    refine WOps.p (G.lss rfl rfl rfl) rfl ?_
    refine WOps.nil ?_
    refine WEx.then_ ?_
    rcases ite_some hF with ⟨h334, hF⟩ | ⟨h334, hF⟩
    ·
     refine WCode.cond_t (kb (b := decide (x326 < (l203.length : Int))) rfl (decide_eq_true h334)) ?_
     refine WCode.skip ?_
     refine WEx.then_ ?_
     refine WCode.seq ?_
     refine WCode.block ?_
     refine WCode.seq ?_
     refine WCode.region ?_
     refine WOps.p (G.assign rfl) rfl ?_
     refine WOps.nil ?_
     refine WEx.then_ ?_
     refine WCode.block ?_
     refine WCode.forget (l' := [(0, .pointer (some ⟨p0, 0, none⟩)), (10, .int .i64 x326), (11, .int .i64 0)]) ⟨rfl, rfl, rfl, trivial⟩ ?_
     refine WCode.loop (fun n_ l_ w_ => ∃ x335 : Int, l_ = [(0, .pointer (some ⟨p0, 0, none⟩)), (10, .int .i64 x326), (11, .int .i64 x335)] ∧ bs_still.l7 n_ a0 l197 l203 x326 x335 = some r_ ∧ n_ ≤ k329 ∧ St w (KS [G0]) w_ [[(p0, .cells #[.slice none 0 0, .slice none 0 0, .slice A201 l203.length c202, .int .i64 (w64 (a0.lists + (l197.length : Int)))] 114 (0, 0))], G204, M199]) k329 ⟨0, rfl, hF, Nat.le_refl _, S328⟩ ?_
     rintro n339 _ w336 ⟨x335, rfl, hF, hle340, S337⟩
     obtain _ | k338 := n339
     · exact nomatch (show (none : Option (Bool × BookS)) = some r_ from hF)
     rw [bs_still.l7] at hF
     refine WCode.seq ?_
     refine WCode.seq ?_
     refine WCode.region ?_
     refine WOps.p (G.move rfl) rfl ?_
     refine WOps.p (G.move rfl) rfl ?_
     refine WOps.p (G.nilp rfl) rfl ?_
     refine WOps.p (G.field T.fld114_2 rfl (show 0 + 2 = 2 from rfl)) rfl ?_
     refine WOps.r (G.load1 T.one112 rfl (cell_blk (S337.blk 0 rfl) rfl)) rfl ?_
     refine WOps.p (G.move rfl) rfl ?_
     obtain ⟨x341, hc342, hF⟩ := bind_some hF
     obtain ⟨j343, ej344, hj345, hl346⟩ := idx_spec hc342
     obtain ⟨A354, c355, hG356, hcl357⟩ := PoolP.at_ hP205 hj345
     obtain ⟨b347, o348, eA350, hc352⟩ := hcl357 _ (fun b o hb => S337.grp 1 rfl hb)
     refine WOps.p (G.idx T.el112 rfl eA350 rfl ej344 hl346) rfl ?_
     refine WOps.r (G.load1 T.one176 rfl (cellsAt.at0 hc352)) rfl ?_
     refine WOps.p (G.len T.el176 rfl) rfl ?_
     refine WOps.p (G.lss rfl rfl rfl) rfl ?_
     refine WOps.nil ?_
     refine WEx.then_ ?_
     rcases ite_some hF with ⟨h358, hF⟩ | ⟨h358, hF⟩
     ·
      refine WCode.cond_t (kb (b := decide (x335 < (x341.length : Int))) rfl (decide_eq_true h358)) ?_
      refine WCode.skip ?_
      refine WEx.then_ ?_
      refine WCode.forget (l' := [(0, .pointer (some ⟨p0, 0, none⟩)), (10, .int .i64 x326), (11, .int .i64 x335)]) ⟨rfl, rfl, rfl, trivial⟩ ?_
      refine WCode.seq ?_
      refine WCode.block ?_
      refine WCode.seq ?_
      refine WCode.drawH (.one 0 0 (.one 1 0 (.one 2 0 (.one 4 0 (.one 7 0 (.one 10 0 (.one 11 0 (.one 3 1 (.one 5 0 (.one 6 1 (.one 8 0 (.one 9 1 (.one 12 2 (.one 13 0 .nil)))))))))))))) (fun W_ => cellsAt W_ p0 0 [.slice none 0 0, .slice none 0 0, .slice A201 l203.length c202, .int .i64 (w64 (a0.lists + (l197.length : Int)))] ∧ (∀ b_, b_ ∈ keys G204 → W_.heap[b_]? = (wOf w G204).heap[b_]?) ∧ (∀ b_, b_ ∈ keys M199 → W_.heap[b_]? = (wOf w M199).heap[b_]?) ∧ True) T.mixed (by kernel_rfl) (by intro _ _ d _ _ h; cases d <;> exact h) rfl rfl (by kernel_rfl) ?_ ?_
      all_goals have S359 := S337.drew
      all_goals generalize w336.drew = w360 at *
      · exact ⟨cellsAt.of_blk (S359.blk 0 rfl) rfl, (S359.vw 1 rfl), (S359.vw 2 rfl), trivial⟩
      refine WH.p rfl wants (G.move rfl) rfl ?_
      refine WH.p rfl wants (G.nilp rfl) rfl ?_
      refine WH.p rfl wants (G.field T.fld114_2 rfl (show 0 + 2 = 2 from rfl)) rfl ?_
      refine WH.p rfl wants (G.move rfl) rfl ?_
      refine WH.p rfl wants (G.move rfl) rfl ?_
      refine WH.p rfl wants (G.move rfl) rfl ?_
      refine WH.p rfl wants (G.quok rfl rfl (by decide)) rfl ?_
      refine WH.r rfl wants (fun _ h_ => G.load1 T.one112 rfl (cellsAt.at h_.1 2 rfl)) rfl ?_
      obtain ⟨x361, hc362, hF⟩ := bind_some hF
      obtain ⟨j363, ej364, hj365, hl366⟩ := idx_spec hc362
      obtain ⟨A374, c375, hG376, hcl377⟩ := PoolP.atK hP205 hj365
      obtain ⟨b367, o368, eA370, hf371, hc372⟩ := hcl377 (wOf w G204) (wOf_at (S359.nd 1 rfl))
      refine WH.p rfl wants (G.idx T.el112 rfl eA370 rfl ej364 hl366) rfl ?_
      refine WH.r rfl wants (fun _ h_ => G.load1 T.one176 rfl (cellsAt.at0 (cellsAt.move hc372 (h_.2.1 _ hf371)))) rfl ?_
      obtain ⟨x378, hc379, hF⟩ := bind_some hF
      obtain ⟨j380, ej381, hj382, hl383⟩ := idx_spec hc379
      obtain ⟨b384, o385, cs386, eA387, hf388, hc389, hr390⟩ := SlR.at_ (SlG.toV (u := w) hG376 (S359.nd 2 rfl)) hj382
      have hq391 : cs386 = [.string (bs x378.S), .int .i64 x378.N] := hr390
      subst hq391
      change cellsAt _ _ (o385 + j380 * 2) [.string (bs x378.S), .int .i64 x378.N] at hc389
      refine WH.p rfl wants (G.idx T.el176 rfl eA387 rfl ej381 hl383) rfl ?_
      refine WH.r rfl wants (fun _ h_ => G.loada T.agg103_2 rfl (cs := [.string (bs x378.S), .int .i64 x378.N]) (cellsAt.part (cellsAt.move hc389 (h_.2.2.1 _ hf388)) 0 rfl)) rfl ?_
      obtain ⟨t392, hc393, hF⟩ := bind_some hF
      refine WH.call rfl wants T.call100 (evs_cons rfl evs_nil) rfl ?_
      refine (sh_mark_calls k338 (w64 (Int.tdiv x326 6)) hc393).mono ?_
      rintro _ w394 ⟨rfl, T395⟩
      have S396 := St.callN (As := []) S359 T395
      change St _ _ _ [[(p0, .cells #[.slice none 0 0, .slice none 0 0, .slice A201 l203.length c202, .int .i64 (w64 (a0.lists + (l197.length : Int)))] 114 (0, 0))], G204, M199] at S396
      refine ⟨_, rfl, ?_⟩
      refine ⟨⟨cellsAt.of_blk (S396.blk 0 rfl) rfl, (S396.vw 1 rfl), (S396.vw 2 rfl), trivial⟩, ?_⟩
      refine WH.p rfl wants (G.neqa rfl rfl (by kernel_rfl) (KeyS.eqIn103 x378 t392) rfl) rfl ?_
      refine WH.nil ?_
      refine WEx.then_ ?_
      refine WCode.forget (l' := [(0, .pointer (some ⟨p0, 0, none⟩)), (10, .int .i64 x326), (11, .int .i64 x335), (168, .bool (!(decide (x378 = t392))))]) ⟨rfl, rfl, rfl, rfl, trivial⟩ ?_
      rcases ite_some hF with ⟨h397, hF⟩ | ⟨h397, hF⟩
      ·
       refine WCode.cond_f (kb (b := !(decide (x378 = t392))) rfl (show (!(decide (x378 = t392))) = false from by rw [(decide_eq_true h397)]; rfl)) ?_
       refine WCode.skip ?_
       refine WEx.in_normal ?_
       refine WEx.then_ ?_
       refine WCode.region ?_
       refine WOps.p (G.move rfl) rfl ?_
       refine WOps.p (G.add rfl rfl (r := (w64 (x335 + 1))) rfl) rfl ?_
       refine WOps.p (G.assign rfl) rfl ?_
       refine WOps.nil ?_
       refine WEx.again _ _ (by omega) ?_ ⟨w64 (x335 + 1), rfl, hF, (by omega), S396⟩
       exact ⟨rfl, rfl, rfl, trivial⟩
      ·
       refine WCode.cond_t (kb (b := !(decide (x378 = t392))) rfl (show (!(decide (x378 = t392))) = true from by rw [(decide_eq_false h397)]; rfl)) ?_
       refine WCode.seq ?_
       refine WCode.region ?_
       refine WOps.p (G.assign rfl) rfl ?_
       refine WOps.nil ?_
       refine WEx.then_ ?_
       refine WCode.ret ?_
       refine WEx.in_ret ?_
       refine WEx.then_ret ?_
       refine WEx.then_ret ?_
       refine WEx.in_ret ?_
       refine WEx.in_ret ?_
       refine WEx.then_ret ?_
       refine WEx.then_ret ?_
       refine WEx.in_ret ?_
       refine WEx.then_ret ?_
       obtain rfl := some_eq hF
       refine WEx.ret1 rfl rfl ?_
       have S398 := S396.emp
       have S400 := S398.emp
       have S402 := (S400.front 4 rfl).front 4 rfl
       change St _ _ _ [G204, M199, ([] : Grp), ([] : Grp), [(p0, .cells #[.slice none 0 0, .slice none 0 0, .slice A201 l203.length c202, .int .i64 (w64 (a0.lists + (l197.length : Int)))] 114 (0, 0))]] at S402
       obtain ⟨G403, hO404, S405⟩ := St.repool S402 hP205
       have S406 := ((S405.front 1 rfl).front 2 rfl).front 3 rfl
       change St _ _ _ [[(p0, .cells #[.slice none 0 0, .slice none 0 0, .slice A201 l203.length c202, .int .i64 (w64 (a0.lists + (l197.length : Int)))] 114 (0, 0))], ([] : Grp), ([] : Grp), G403] at S406
       have hO407 : ObjO 114 BookS.rp p0 (⟨[], [], l203, w64 (a0.lists + (l197.length : Int))⟩ : BookS) ([(p0, .cells #[.slice none 0 0, .slice none 0 0, .slice A201 l203.length c202, .int .i64 (w64 (a0.lists + (l197.length : Int)))] 114 (0, 0))] ++ (([] : Grp) ++ (([] : Grp) ++ (G403)))) := ⟨_, _, ⟨none, 0, ([] : Grp), none, 0, ([] : Grp), A201, c202, G403, rfl, (SlO.nil 176 (Rp.slice 103 KeyS.rp)), (SlO.nil 176 (Rp.slice 103 KeyS.rp)), hO404, rfl⟩, rfl⟩
       have S408 : St _ _ _ [[(p0, .cells #[.slice none 0 0, .slice none 0 0, .slice A201 l203.length c202, .int .i64 (w64 (a0.lists + (l197.length : Int)))] 114 (0, 0))] ++ (([] : Grp) ++ (([] : Grp) ++ (G403)))] := S406.objs (by simp)
       exact ⟨[(p0, .cells #[.slice none 0 0, .slice none 0 0, .slice A201 l203.length c202, .int .i64 (w64 (a0.lists + (l197.length : Int)))] 114 (0, 0))] ++ (([] : Grp) ++ (([] : Grp) ++ (G403))), rfl, hO407, St.keep (As := [[(p0, .cells #[.slice none 0 0, .slice none 0 0, .slice A201 l203.length c202, .int .i64 (w64 (a0.lists + (l197.length : Int)))] 114 (0, 0))] ++ (([] : Grp) ++ (([] : Grp) ++ (G403)))]) S408⟩
     ·
      refine WCode.cond_f (kb (b := decide (x335 < (x341.length : Int))) rfl (decide_eq_false h358)) ?_
      refine WCode.exit ?_
      refine WEx.then_exit ?_
      refine WEx.then_exit ?_
      refine WEx.in_exit ?_
      refine WEx.in_normal ?_
      refine WEx.then_ ?_
      refine WCode.forget (l' := [(0, .pointer (some ⟨p0, 0, none⟩)), (10, .int .i64 x326)]) ⟨rfl, rfl, trivial⟩ ?_
      refine WCode.region ?_
      refine WOps.p (G.move rfl) rfl ?_
      refine WOps.p (G.add rfl rfl (r := (w64 (x326 + 1))) rfl) rfl ?_
      refine WOps.p (G.assign rfl) rfl ?_
      refine WOps.nil ?_
      refine WEx.again _ _ (by omega) ?_ ⟨w64 (x326 + 1), rfl, hF, S337⟩
      exact ⟨rfl, rfl, trivial⟩
    ·
     refine WCode.cond_f (kb (b := decide (x326 < (l203.length : Int))) rfl (decide_eq_false h334)) ?_
     refine WCode.exit ?_
     refine WEx.then_exit ?_
     refine WEx.then_exit ?_
     refine WEx.in_exit ?_
     refine WEx.then_ ?_
     refine WCode.seq ?_
     refine WCode.region ?_
     refine WOps.p (G.assign rfl) rfl ?_
     refine WOps.nil ?_
     refine WEx.then_ ?_
     refine WCode.ret ?_
     obtain rfl := some_eq hF
     refine WEx.ret1 rfl rfl ?_
     have S409 := S328.emp
     have S411 := S409.emp
     have S413 := (S411.front 4 rfl).front 4 rfl
     change St _ _ _ [G204, M199, ([] : Grp), ([] : Grp), [(p0, .cells #[.slice none 0 0, .slice none 0 0, .slice A201 l203.length c202, .int .i64 (w64 (a0.lists + (l197.length : Int)))] 114 (0, 0))]] at S413
     obtain ⟨G414, hO415, S416⟩ := St.repool S413 hP205
     have S417 := ((S416.front 1 rfl).front 2 rfl).front 3 rfl
     change St _ _ _ [[(p0, .cells #[.slice none 0 0, .slice none 0 0, .slice A201 l203.length c202, .int .i64 (w64 (a0.lists + (l197.length : Int)))] 114 (0, 0))], ([] : Grp), ([] : Grp), G414] at S417
     have hO418 : ObjO 114 BookS.rp p0 (⟨[], [], l203, w64 (a0.lists + (l197.length : Int))⟩ : BookS) ([(p0, .cells #[.slice none 0 0, .slice none 0 0, .slice A201 l203.length c202, .int .i64 (w64 (a0.lists + (l197.length : Int)))] 114 (0, 0))] ++ (([] : Grp) ++ (([] : Grp) ++ (G414)))) := ⟨_, _, ⟨none, 0, ([] : Grp), none, 0, ([] : Grp), A201, c202, G414, rfl, (SlO.nil 176 (Rp.slice 103 KeyS.rp)), (SlO.nil 176 (Rp.slice 103 KeyS.rp)), hO415, rfl⟩, rfl⟩
     have S419 : St _ _ _ [[(p0, .cells #[.slice none 0 0, .slice none 0 0, .slice A201 l203.length c202, .int .i64 (w64 (a0.lists + (l197.length : Int)))] 114 (0, 0))] ++ (([] : Grp) ++ (([] : Grp) ++ (G414)))] := S417.objs (by simp)
     exact ⟨[(p0, .cells #[.slice none 0 0, .slice none 0 0, .slice A201 l203.length c202, .int .i64 (w64 (a0.lists + (l197.length : Int)))] 114 (0, 0))] ++ (([] : Grp) ++ (([] : Grp) ++ (G414))), rfl, hO418, St.keep (As := [[(p0, .cells #[.slice none 0 0, .slice none 0 0, .slice A201 l203.length c202, .int .i64 (w64 (a0.lists + (l197.length : Int)))] 114 (0, 0))] ++ (([] : Grp) ++ (([] : Grp) ++ (G414)))]) S419⟩

end Go.Proofs.Ytoahkjehjmbojaa
