/- Functions and their walks (printed by auto.py over the engine). -/
import Derived.Test.YtpdpfiaediadgaaProg
import Derived.Test.YtpdpfiaediadgaaSD
namespace Go.Proofs.Ytpdpfiaediadgaa
open Go Go.Eng
set_option linter.unusedSimpArgs false
set_option linter.unusedVariables false

theorem T.call47 : Callable Try.prog 47 := Callable.mk Try.func47 (by kernel_rfl) (by kernel_rfl)
theorem T.fld74_2 : fldOff Try.prog 74 2 = some 2 := by kernel_rfl
theorem T.one4 : isOneT Try.prog 4 = true := by kernel_rfl
theorem T.size83_1 : sizeT Try.prog 83 = some 1 := by kernel_rfl
theorem T.zero3 : zeroOf Try.prog 3 = some (.int .i64 0) := by kernel_rfl


mutual
def sv_offer.j2 : Nat → Op → Int × Registry → Int × Registry71 → List Int → Bool → Int → Int → Option (Bool × Registry × Registry71)
  | 0, _, _, _, _, _, _, _ => none
  | k174 + 1, a2, t84, t105, l124, b127, x128, x142 => (if b127 = true then (Option.bind (idx l124 x128) fun x176 => (Option.bind (idx l124 x128) fun x190 => (Option.bind (upd l124 x128 (w64 (1 + x128))) fun l204 => (sv_offer.l1 k174 a2 t84 t105 l204 (decide (x176 = x142)) (w64 (x128 + 1)))))) else (Option.bind (idx l124 x128) fun x219 => (Option.bind (upd l124 x128 (w64 (1 + x128))) fun l233 => (sv_offer.l1 k174 a2 t84 t105 l233 false (w64 (x128 + 1))))))
def sv_offer.l1 : Nat → Op → Int × Registry → Int × Registry71 → List Int → Bool → Int → Option (Bool × Registry × Registry71)
  | 0, _, _, _, _, _, _ => none
  | k131 + 1, a2, t84, t105, l124, b127, x128 => (if x128 < (l124.length : Int) then (if x128 < (a2.Procs.length : Int) then (Option.bind (idx a2.Procs x128) fun x148 => (sv_offer.j2 k131 a2 t84 t105 l124 b127 x128 x148)) else (sv_offer.j2 k131 a2 t84 t105 l124 b127 x128 0)) else (some (b127, t84.2, t105.2)))
end
def sv_offer.j1 (q60 : Nat) (a0 : Registry) (a1 : Registry71) (a2 : Op) (m45 : List Int) (b57 : Bool) : Option (Bool × Registry × Registry71) := (Option.bind (sv_Offer q60 a0 (⟨a2.Prog, a2.Vers, m45, b57⟩ : Service)) fun t84 => (Option.bind (rv_Offer q60 a1 (⟨a2.Prog, a2.Vers, a2.Procs⟩ : Service111) (!a2.None)) fun t105 => (sv_offer.l1 q60 a2 t84 t105 (cpy (List.replicate (w64 ((a2.Procs.length : Int) + 4)).toNat (0 : Int)) a2.Procs) (decide (t84.1 = t105.1)) 0)))
def sv_offer (k : Nat) (a0 : Registry) (a1 : Registry71) (a2 : Op) : Option (Bool × Registry × Registry71) := (if 0 ≤ (w64 ((a2.Procs.length : Int) + 4)) then (if (w64 ((a2.Procs.length : Int) + 4)) ≤ 17592186044416 then (Option.bind (cut (cpy (List.replicate (w64 ((a2.Procs.length : Int) + 4)).toNat (0 : Int)) a2.Procs) 0 (a2.Procs.length : Int)) fun m45 => (if a2.None = true then (sv_offer.j1 k a0 a1 a2 m45 false) else (sv_offer.j1 k a0 a1 a2 m45 true))) else none) else none)
set_option maxRecDepth 100000 in
set_option maxHeartbeats 1000000 in
theorem sv_offer_calls (k : Nat) (a0 : Registry) {p0 : Nat} {G0 : Grp} (a1 : Registry71) {p1 : Nat} {G1 : Grp} (a2 : Op) {A2_1 : Option Addr} {c2_1 : Nat} {F2_1 : Nat → Prop} {w : World} (hO0 : ObjO 108 Registry.rp p0 a0 G0) (hO1 : ObjO 71 Registry71.rp p1 a1 G1) (hR2_1 : SlR (Rp.int .i64) w F2_1 A2_1 c2_1 a2.Procs) (hF2_1 : ∀ b, F2_1 b → NK w [G0, G1] b) {r_ : Bool × Registry × Registry71} (h_ : sv_offer k a0 a1 a2 = some r_) (hp_ : Hp w ([G0, G1]).flatten) :
    Calls Try.prog 28 [.pointer (some ⟨p0, 0, none⟩), .pointer (some ⟨p1, 0, none⟩), .agg #[.bool a2.Other, .bool a2.Near, .bool a2.None, .int .i64 a2.What, .int .i64 a2.Prog, .int .i64 a2.Vers, .int .i64 a2.Proc, .slice A2_1 a2.Procs.length c2_1, .string (bs a2.Args)]].toArray w fun e w' => ∃ Go0' : Grp, ∃ Go1' : Grp, e = .returned (.bool r_.1) ∧ ObjO 108 Registry.rp p0 (r_.2.1) Go0' ∧ ObjO 71 Registry71.rp p1 (r_.2.2) Go1' ∧ St w (KS [G0, G1]) w' [Go0', Go1'] := by
  have hF := h_
  clear h_
  unfold sv_offer at hF
  have S := St.initK [G0, G1] hp_
  obtain ⟨cs1, G2, ho3, hg4⟩ := hO0
  obtain ⟨A5, c6, G7, rfl, hO8, hq9⟩ := ho3
  have S10 : St _ _ _ [[(p0, .cells #[.slice A5 a0.l.length c6] 108 (0, 0))], G7, G1] := S.objs (by rw [hg4, hq9]; simp)
  have S11 := S10.front 2 rfl
  change St _ _ _ [G1, [(p0, .cells #[.slice A5 a0.l.length c6] 108 (0, 0))], G7] at S11
  obtain ⟨cs12, G13, ho14, hg15⟩ := hO1
  obtain ⟨A16, c17, G18, rfl, hO19, hq20⟩ := ho14
  have S21 : St _ _ _ [[(p1, .cells #[.slice A16 a1.L.length c17] 71 (0, 0))], G18, [(p0, .cells #[.slice A5 a0.l.length c6] 108 (0, 0))], G7] := S11.objs (by rw [hg15, hq20]; simp)
  refine enter 85 [(0, .pointer (some ⟨p0, 0, none⟩)), (1, .pointer (some ⟨p1, 0, none⟩)), (2, .agg #[.bool a2.Other, .bool a2.Near, .bool a2.None, .int .i64 a2.What, .int .i64 a2.Prog, .int .i64 a2.Vers, .int .i64 a2.Proc, .slice A2_1 a2.Procs.length c2_1, .string (bs a2.Args)])] Try.func28 rfl rfl rfl rfl ?_
  refine WCode.seq ?_
  refine WCode.region ?_
  obtain ⟨b22, w23, E24, S25, X26, L27⟩ := St.box S21 Try.prog 74 (.agg #[.bool a2.Other, .bool a2.Near, .bool a2.None, .int .i64 a2.What, .int .i64 a2.Prog, .int .i64 a2.Vers, .int .i64 a2.Proc, .slice A2_1 a2.Procs.length c2_1, .string (bs a2.Args)])
  change St _ _ _ [[(b22, .cells #[.bool a2.Other, .bool a2.Near, .bool a2.None, .int .i64 a2.What, .int .i64 a2.Prog, .int .i64 a2.Vers, .int .i64 a2.Proc, .slice A2_1 a2.Procs.length c2_1, .string (bs a2.Args)] 74 (0, 0))], [(p1, .cells #[.slice A16 a1.L.length c17] 71 (0, 0))], G18, [(p0, .cells #[.slice A5 a0.l.length c6] 108 (0, 0))], G7] at S25
  refine WOps.e (E24 rfl) rfl ?_
  refine WOps.p (G.assign rfl) rfl ?_
  refine WOps.nil ?_
  refine WEx.then_ ?_
  refine WCode.seq ?_
  refine WCode.region ?_
  refine WOps.p (G.field T.fld74_7 rfl (show 0 + 7 = 7 from rfl)) rfl ?_
  refine WOps.r (G.load1 T.one49 rfl (cell_blk (S25.blk 0 rfl) rfl)) rfl ?_
  refine WOps.p (G.len T.el49 rfl) rfl ?_
  refine WOps.p (G.add rfl rfl (r := (w64 ((a2.Procs.length : Int) + 4))) rfl) rfl ?_
  obtain ⟨h28, hF⟩ := guard_some hF
  obtain ⟨h29, hF⟩ := guard_some hF
  obtain ⟨A30, G31, w32, E33, hO34, S35, X36⟩ := St.makeN (P := Try.prog) (r := (Rp.int .i64)) (x0 := 0) S25 T.elt49 rfl T.zero3 ⟨rfl, rfl⟩ (by decide) h28 h29
  refine WOps.e (E33 rfl rfl) rfl ?_
  refine WOps.p (G.assign rfl) rfl ?_
  refine WOps.nil ?_
  refine WEx.then_ ?_
  refine WCode.seq ?_
  refine WCode.region ?_
  refine WOps.p (G.move rfl) rfl ?_
  refine WOps.p (G.field T.fld74_7 rfl (show 0 + 7 = 7 from rfl)) rfl ?_
  refine WOps.r (G.load1 T.one49 rfl (cell_blk (S35.blk 1 rfl) rfl)) rfl ?_
  obtain ⟨G37, w38, E39, hO40, S41⟩ := St.copyF (P := Try.prog) S35 T.elt49 hO34 (hR2_1.ext (S35.keepF hF2_1))
  change St _ _ _ [G37, [(b22, .cells #[.bool a2.Other, .bool a2.Near, .bool a2.None, .int .i64 a2.What, .int .i64 a2.Prog, .int .i64 a2.Vers, .int .i64 a2.Proc, .slice A2_1 a2.Procs.length c2_1, .string (bs a2.Args)] 74 (0, 0))], [(p1, .cells #[.slice A16 a1.L.length c17] 71 (0, 0))], G18, [(p0, .cells #[.slice A5 a0.l.length c6] 108 (0, 0))], G7] at S41
  have hl42 : (List.replicate (w64 ((a2.Procs.length : Int) + 4)).toNat (0 : Int)).length = (cpy (List.replicate (w64 ((a2.Procs.length : Int) + 4)).toNat (0 : Int)) a2.Procs).length := (cpy_length _ _).symm
  refine WOps.e (E39 rfl rfl) rfl ?_
  rw [hl42]
  refine WOps.nil ?_
  refine WEx.then_ ?_
  refine WCode.forget (l' := [(0, .pointer (some ⟨p0, 0, none⟩)), (1, .pointer (some ⟨p1, 0, none⟩)), (5, .pointer (some ⟨b22, 0, none⟩)), (7, .slice A30 (cpy (List.replicate (w64 ((a2.Procs.length : Int) + 4)).toNat (0 : Int)) a2.Procs).length ((w64 ((a2.Procs.length : Int) + 4)).toNat))]) ⟨rfl, rfl, rfl, rfl, trivial⟩ ?_
  refine WCode.seq ?_
  refine WCode.draw [⟨0, 0, []⟩, ⟨2, 0, []⟩, ⟨4, 0, []⟩, ⟨5, 0, []⟩, ⟨1, 1, [9, 11]⟩, ⟨3, 1, [9, 11]⟩, ⟨6, 1, [7, 8, 9, 11]⟩, ⟨7, 0, []⟩, ⟨8, 0, []⟩, ⟨9, 0, []⟩, ⟨10, 2, []⟩, ⟨11, 2, []⟩] T.mixed (by kernel_rfl) (by intro _ _ d _ _ h; cases d <;> exact h) rfl (by kernel_rfl) ?_
  have S43 := S41.drew
  generalize w38.drew = w44 at *
  refine WD.p rfl (G.field T.fld74_4 rfl (show 0 + 4 = 4 from rfl)) rfl ?_
  refine WD.p rfl (G.field T.fld74_5 rfl (show 0 + 5 = 5 from rfl)) rfl ?_
  refine WD.p rfl (G.move rfl) rfl ?_
  refine WD.p rfl (G.field T.fld74_7 rfl (show 0 + 7 = 7 from rfl)) rfl ?_
  refine WD.r rfl (G.load1 T.one3 rfl (cell_blk (S43.blk 1 rfl) rfl)) rfl ?_
  refine WD.r rfl (G.load1 T.one3 rfl (cell_blk (S43.blk 1 rfl) rfl)) rfl ?_
  refine WD.r rfl (G.load1 T.one49 rfl (cell_blk (S43.blk 1 rfl) rfl)) rfl ?_
  refine WD.p rfl (G.len T.el49 rfl) rfl ?_
  obtain ⟨m45, hc46, hF⟩ := bind_some hF
  have hv47 := (SlO.toV (u := w) hO40 (S43.nd 0 rfl)).cut_h hc46
  refine WD.p rfl (G.cut_h T.el49 rfl rfl hc46 (hO40.rd (fun b o hb => S43.grp 0 rfl hb)).cap) rfl ?_
  refine WD.p rfl (G.build (cells := #[.int .i64 a2.Prog, .int .i64 a2.Vers, .slice A30 m45.length ((w64 ((a2.Procs.length : Int) + 4)).toNat), .func (.func 35) #[] #[]]) (evp_spec (evp_cons rfl (evp_cons rfl (evp_cons rfl (evp_cons rfl evp_nil))))) (by kernel_rfl)) rfl ?_
  obtain ⟨b48, w49, E50, S51, X52, L53⟩ := St.var S43 (z := .agg #[.int .i64 0, .int .i64 0, .slice none 0 0, .nilFunc]) T.zero85
  change St _ _ _ [[(b48, .cells #[.int .i64 0, .int .i64 0, .slice none 0 0, .nilFunc] 85 (0, 0))], G37, [(b22, .cells #[.bool a2.Other, .bool a2.Near, .bool a2.None, .int .i64 a2.What, .int .i64 a2.Prog, .int .i64 a2.Vers, .int .i64 a2.Proc, .slice A2_1 a2.Procs.length c2_1, .string (bs a2.Args)] 74 (0, 0))], [(p1, .cells #[.slice A16 a1.L.length c17] 71 (0, 0))], G18, [(p0, .cells #[.slice A5 a0.l.length c6] 108 (0, 0))], G7] at S51
  refine WD.e rfl E50 rfl ?_
  obtain ⟨w54, E55, S56⟩ := St.store (P := Try.prog) S51 0 85 (.agg #[.int .i64 a2.Prog, .int .i64 a2.Vers, .slice A30 m45.length ((w64 ((a2.Procs.length : Int) + 4)).toNat), .func (.func 35) #[] #[]]) (off := 0) (cur' := #[.int .i64 a2.Prog, .int .i64 a2.Vers, .slice A30 m45.length ((w64 ((a2.Procs.length : Int) + 4)).toNat), .func (.func 35) #[] #[]]) rfl T.size85_4 rfl rfl rfl
  change St _ _ _ [[(b48, .cells #[.int .i64 a2.Prog, .int .i64 a2.Vers, .slice A30 m45.length ((w64 ((a2.Procs.length : Int) + 4)).toNat), .func (.func 35) #[] #[]] 85 (0, 0))], G37, [(b22, .cells #[.bool a2.Other, .bool a2.Near, .bool a2.None, .int .i64 a2.What, .int .i64 a2.Prog, .int .i64 a2.Vers, .int .i64 a2.Proc, .slice A2_1 a2.Procs.length c2_1, .string (bs a2.Args)] 74 (0, 0))], [(p1, .cells #[.slice A16 a1.L.length c17] 71 (0, 0))], G18, [(p0, .cells #[.slice A5 a0.l.length c6] 108 (0, 0))], G7] at S56
  refine WD.u rfl (E55 rfl rfl) ?_
  refine WD.nil ?_
  refine WEx.then_ ?_
  refine WCode.forget (l' := [(0, .pointer (some ⟨p0, 0, none⟩)), (1, .pointer (some ⟨p1, 0, none⟩)), (5, .pointer (some ⟨b22, 0, none⟩)), (7, .slice A30 (cpy (List.replicate (w64 ((a2.Procs.length : Int) + 4)).toNat (0 : Int)) a2.Procs).length ((w64 ((a2.Procs.length : Int) + 4)).toNat)), (8, .pointer (some ⟨b48, 0, none⟩))]) ⟨rfl, rfl, rfl, rfl, rfl, trivial⟩ ?_
  refine WCode.cutseq (fun l_ w_ => ∃ q60 : Nat, ∃ b57 : Bool, l_ = [(0, .pointer (some ⟨p0, 0, none⟩)), (1, .pointer (some ⟨p1, 0, none⟩)), (5, .pointer (some ⟨b22, 0, none⟩)), (7, .slice A30 (cpy (List.replicate (w64 ((a2.Procs.length : Int) + 4)).toNat (0 : Int)) a2.Procs).length ((w64 ((a2.Procs.length : Int) + 4)).toNat)), (8, .pointer (some ⟨b48, 0, none⟩))] ∧ sv_offer.j1 q60 a0 a1 a2 m45 b57 = some r_ ∧ St w (KS [G0, G1]) w_ [[(b48, .cells #[.int .i64 a2.Prog, .int .i64 a2.Vers, .slice A30 m45.length ((w64 ((a2.Procs.length : Int) + 4)).toNat), fnv 35 b57] 85 (0, 0))], [(b22, .cells #[.bool a2.Other, .bool a2.Near, .bool a2.None, .int .i64 a2.What, .int .i64 a2.Prog, .int .i64 a2.Vers, .int .i64 a2.Proc, .slice A2_1 a2.Procs.length c2_1, .string (bs a2.Args)] 74 (0, 0))], [(p1, .cells #[.slice A16 a1.L.length c17] 71 (0, 0))], [(p0, .cells #[.slice A5 a0.l.length c6] 108 (0, 0))], G37, G18, G7]) ?_ ?_
  ·
    refine WCode.seq ?_
    refine WCode.region ?_
    refine WOps.p (G.field T.fld74_2 rfl (show 0 + 2 = 2 from rfl)) rfl ?_
    refine WOps.r (G.load1 T.one4 rfl (cell_blk (S56.blk 2 rfl) rfl)) rfl ?_
    refine WOps.nil ?_
    refine WEx.then_ ?_
    rcases ite_some hF with ⟨h62, hF⟩ | ⟨h62, hF⟩
    ·
      refine WCode.cond_t (kb (b := a2.None) rfl h62) ?_
      refine WCode.region ?_
      refine WOps.p (G.field T.fld85_3 rfl (show 0 + 3 = 3 from rfl)) rfl ?_
      obtain ⟨w63, E64, S65⟩ := St.store (P := Try.prog) S56 0 83 (.nilFunc) (off := 3) (cur' := #[.int .i64 a2.Prog, .int .i64 a2.Vers, .slice A30 m45.length ((w64 ((a2.Procs.length : Int) + 4)).toNat), .nilFunc]) rfl T.size83_1 rfl rfl rfl
      change St _ _ _ [[(b48, .cells #[.int .i64 a2.Prog, .int .i64 a2.Vers, .slice A30 m45.length ((w64 ((a2.Procs.length : Int) + 4)).toNat), .nilFunc] 85 (0, 0))], G37, [(b22, .cells #[.bool a2.Other, .bool a2.Near, .bool a2.None, .int .i64 a2.What, .int .i64 a2.Prog, .int .i64 a2.Vers, .int .i64 a2.Proc, .slice A2_1 a2.Procs.length c2_1, .string (bs a2.Args)] 74 (0, 0))], [(p1, .cells #[.slice A16 a1.L.length c17] 71 (0, 0))], G18, [(p0, .cells #[.slice A5 a0.l.length c6] 108 (0, 0))], G7] at S65
      refine WOps.u (E64 rfl rfl) ?_
      refine WOps.nil ?_
      have S66 := S65.front 6 rfl
      change St _ _ _ [G7, [(b48, .cells #[.int .i64 a2.Prog, .int .i64 a2.Vers, .slice A30 m45.length ((w64 ((a2.Procs.length : Int) + 4)).toNat), .nilFunc] 85 (0, 0))], G37, [(b22, .cells #[.bool a2.Other, .bool a2.Near, .bool a2.None, .int .i64 a2.What, .int .i64 a2.Prog, .int .i64 a2.Vers, .int .i64 a2.Proc, .slice A2_1 a2.Procs.length c2_1, .string (bs a2.Args)] 74 (0, 0))], [(p1, .cells #[.slice A16 a1.L.length c17] 71 (0, 0))], G18, [(p0, .cells #[.slice A5 a0.l.length c6] 108 (0, 0))]] at S66
      have S67 := S66.front 5 rfl
      change St _ _ _ [G18, G7, [(b48, .cells #[.int .i64 a2.Prog, .int .i64 a2.Vers, .slice A30 m45.length ((w64 ((a2.Procs.length : Int) + 4)).toNat), .nilFunc] 85 (0, 0))], G37, [(b22, .cells #[.bool a2.Other, .bool a2.Near, .bool a2.None, .int .i64 a2.What, .int .i64 a2.Prog, .int .i64 a2.Vers, .int .i64 a2.Proc, .slice A2_1 a2.Procs.length c2_1, .string (bs a2.Args)] 74 (0, 0))], [(p1, .cells #[.slice A16 a1.L.length c17] 71 (0, 0))], [(p0, .cells #[.slice A5 a0.l.length c6] 108 (0, 0))]] at S67
      have S68 := S67.front 3 rfl
      change St _ _ _ [G37, G18, G7, [(b48, .cells #[.int .i64 a2.Prog, .int .i64 a2.Vers, .slice A30 m45.length ((w64 ((a2.Procs.length : Int) + 4)).toNat), .nilFunc] 85 (0, 0))], [(b22, .cells #[.bool a2.Other, .bool a2.Near, .bool a2.None, .int .i64 a2.What, .int .i64 a2.Prog, .int .i64 a2.Vers, .int .i64 a2.Proc, .slice A2_1 a2.Procs.length c2_1, .string (bs a2.Args)] 74 (0, 0))], [(p1, .cells #[.slice A16 a1.L.length c17] 71 (0, 0))], [(p0, .cells #[.slice A5 a0.l.length c6] 108 (0, 0))]] at S68
      have S69 := S68.front 6 rfl
      change St _ _ _ [[(p0, .cells #[.slice A5 a0.l.length c6] 108 (0, 0))], G37, G18, G7, [(b48, .cells #[.int .i64 a2.Prog, .int .i64 a2.Vers, .slice A30 m45.length ((w64 ((a2.Procs.length : Int) + 4)).toNat), .nilFunc] 85 (0, 0))], [(b22, .cells #[.bool a2.Other, .bool a2.Near, .bool a2.None, .int .i64 a2.What, .int .i64 a2.Prog, .int .i64 a2.Vers, .int .i64 a2.Proc, .slice A2_1 a2.Procs.length c2_1, .string (bs a2.Args)] 74 (0, 0))], [(p1, .cells #[.slice A16 a1.L.length c17] 71 (0, 0))]] at S69
      have S70 := S69.front 6 rfl
      change St _ _ _ [[(p1, .cells #[.slice A16 a1.L.length c17] 71 (0, 0))], [(p0, .cells #[.slice A5 a0.l.length c6] 108 (0, 0))], G37, G18, G7, [(b48, .cells #[.int .i64 a2.Prog, .int .i64 a2.Vers, .slice A30 m45.length ((w64 ((a2.Procs.length : Int) + 4)).toNat), .nilFunc] 85 (0, 0))], [(b22, .cells #[.bool a2.Other, .bool a2.Near, .bool a2.None, .int .i64 a2.What, .int .i64 a2.Prog, .int .i64 a2.Vers, .int .i64 a2.Proc, .slice A2_1 a2.Procs.length c2_1, .string (bs a2.Args)] 74 (0, 0))]] at S70
      have S71 := S70.front 6 rfl
      change St _ _ _ [[(b22, .cells #[.bool a2.Other, .bool a2.Near, .bool a2.None, .int .i64 a2.What, .int .i64 a2.Prog, .int .i64 a2.Vers, .int .i64 a2.Proc, .slice A2_1 a2.Procs.length c2_1, .string (bs a2.Args)] 74 (0, 0))], [(p1, .cells #[.slice A16 a1.L.length c17] 71 (0, 0))], [(p0, .cells #[.slice A5 a0.l.length c6] 108 (0, 0))], G37, G18, G7, [(b48, .cells #[.int .i64 a2.Prog, .int .i64 a2.Vers, .slice A30 m45.length ((w64 ((a2.Procs.length : Int) + 4)).toNat), .nilFunc] 85 (0, 0))]] at S71
      have S72 := S71.front 6 rfl
      change St _ _ _ [[(b48, .cells #[.int .i64 a2.Prog, .int .i64 a2.Vers, .slice A30 m45.length ((w64 ((a2.Procs.length : Int) + 4)).toNat), .nilFunc] 85 (0, 0))], [(b22, .cells #[.bool a2.Other, .bool a2.Near, .bool a2.None, .int .i64 a2.What, .int .i64 a2.Prog, .int .i64 a2.Vers, .int .i64 a2.Proc, .slice A2_1 a2.Procs.length c2_1, .string (bs a2.Args)] 74 (0, 0))], [(p1, .cells #[.slice A16 a1.L.length c17] 71 (0, 0))], [(p0, .cells #[.slice A5 a0.l.length c6] 108 (0, 0))], G37, G18, G7] at S72
      refine WEx.cutend _ ?_ ⟨k, false, rfl, hF, S72⟩
      exact ⟨rfl, rfl, rfl, rfl, rfl, trivial⟩
    ·
      refine WCode.cond_f (kb (b := a2.None) rfl (Bool.eq_false_iff.2 h62)) ?_
      refine WCode.skip ?_
      have S73 := S56.front 6 rfl
      change St _ _ _ [G7, [(b48, .cells #[.int .i64 a2.Prog, .int .i64 a2.Vers, .slice A30 m45.length ((w64 ((a2.Procs.length : Int) + 4)).toNat), .func (.func 35) #[] #[]] 85 (0, 0))], G37, [(b22, .cells #[.bool a2.Other, .bool a2.Near, .bool a2.None, .int .i64 a2.What, .int .i64 a2.Prog, .int .i64 a2.Vers, .int .i64 a2.Proc, .slice A2_1 a2.Procs.length c2_1, .string (bs a2.Args)] 74 (0, 0))], [(p1, .cells #[.slice A16 a1.L.length c17] 71 (0, 0))], G18, [(p0, .cells #[.slice A5 a0.l.length c6] 108 (0, 0))]] at S73
      have S74 := S73.front 5 rfl
      change St _ _ _ [G18, G7, [(b48, .cells #[.int .i64 a2.Prog, .int .i64 a2.Vers, .slice A30 m45.length ((w64 ((a2.Procs.length : Int) + 4)).toNat), .func (.func 35) #[] #[]] 85 (0, 0))], G37, [(b22, .cells #[.bool a2.Other, .bool a2.Near, .bool a2.None, .int .i64 a2.What, .int .i64 a2.Prog, .int .i64 a2.Vers, .int .i64 a2.Proc, .slice A2_1 a2.Procs.length c2_1, .string (bs a2.Args)] 74 (0, 0))], [(p1, .cells #[.slice A16 a1.L.length c17] 71 (0, 0))], [(p0, .cells #[.slice A5 a0.l.length c6] 108 (0, 0))]] at S74
      have S75 := S74.front 3 rfl
      change St _ _ _ [G37, G18, G7, [(b48, .cells #[.int .i64 a2.Prog, .int .i64 a2.Vers, .slice A30 m45.length ((w64 ((a2.Procs.length : Int) + 4)).toNat), .func (.func 35) #[] #[]] 85 (0, 0))], [(b22, .cells #[.bool a2.Other, .bool a2.Near, .bool a2.None, .int .i64 a2.What, .int .i64 a2.Prog, .int .i64 a2.Vers, .int .i64 a2.Proc, .slice A2_1 a2.Procs.length c2_1, .string (bs a2.Args)] 74 (0, 0))], [(p1, .cells #[.slice A16 a1.L.length c17] 71 (0, 0))], [(p0, .cells #[.slice A5 a0.l.length c6] 108 (0, 0))]] at S75
      have S76 := S75.front 6 rfl
      change St _ _ _ [[(p0, .cells #[.slice A5 a0.l.length c6] 108 (0, 0))], G37, G18, G7, [(b48, .cells #[.int .i64 a2.Prog, .int .i64 a2.Vers, .slice A30 m45.length ((w64 ((a2.Procs.length : Int) + 4)).toNat), .func (.func 35) #[] #[]] 85 (0, 0))], [(b22, .cells #[.bool a2.Other, .bool a2.Near, .bool a2.None, .int .i64 a2.What, .int .i64 a2.Prog, .int .i64 a2.Vers, .int .i64 a2.Proc, .slice A2_1 a2.Procs.length c2_1, .string (bs a2.Args)] 74 (0, 0))], [(p1, .cells #[.slice A16 a1.L.length c17] 71 (0, 0))]] at S76
      have S77 := S76.front 6 rfl
      change St _ _ _ [[(p1, .cells #[.slice A16 a1.L.length c17] 71 (0, 0))], [(p0, .cells #[.slice A5 a0.l.length c6] 108 (0, 0))], G37, G18, G7, [(b48, .cells #[.int .i64 a2.Prog, .int .i64 a2.Vers, .slice A30 m45.length ((w64 ((a2.Procs.length : Int) + 4)).toNat), .func (.func 35) #[] #[]] 85 (0, 0))], [(b22, .cells #[.bool a2.Other, .bool a2.Near, .bool a2.None, .int .i64 a2.What, .int .i64 a2.Prog, .int .i64 a2.Vers, .int .i64 a2.Proc, .slice A2_1 a2.Procs.length c2_1, .string (bs a2.Args)] 74 (0, 0))]] at S77
      have S78 := S77.front 6 rfl
      change St _ _ _ [[(b22, .cells #[.bool a2.Other, .bool a2.Near, .bool a2.None, .int .i64 a2.What, .int .i64 a2.Prog, .int .i64 a2.Vers, .int .i64 a2.Proc, .slice A2_1 a2.Procs.length c2_1, .string (bs a2.Args)] 74 (0, 0))], [(p1, .cells #[.slice A16 a1.L.length c17] 71 (0, 0))], [(p0, .cells #[.slice A5 a0.l.length c6] 108 (0, 0))], G37, G18, G7, [(b48, .cells #[.int .i64 a2.Prog, .int .i64 a2.Vers, .slice A30 m45.length ((w64 ((a2.Procs.length : Int) + 4)).toNat), .func (.func 35) #[] #[]] 85 (0, 0))]] at S78
      have S79 := S78.front 6 rfl
      change St _ _ _ [[(b48, .cells #[.int .i64 a2.Prog, .int .i64 a2.Vers, .slice A30 m45.length ((w64 ((a2.Procs.length : Int) + 4)).toNat), .func (.func 35) #[] #[]] 85 (0, 0))], [(b22, .cells #[.bool a2.Other, .bool a2.Near, .bool a2.None, .int .i64 a2.What, .int .i64 a2.Prog, .int .i64 a2.Vers, .int .i64 a2.Proc, .slice A2_1 a2.Procs.length c2_1, .string (bs a2.Args)] 74 (0, 0))], [(p1, .cells #[.slice A16 a1.L.length c17] 71 (0, 0))], [(p0, .cells #[.slice A5 a0.l.length c6] 108 (0, 0))], G37, G18, G7] at S79
      refine WEx.cutend _ ?_ ⟨k, true, rfl, hF, S79⟩
      exact ⟨rfl, rfl, rfl, rfl, rfl, trivial⟩
  ·
    rintro _ w58 ⟨q60, b57, rfl, hF, S59⟩
    unfold sv_offer.j1 at hF
    refine WCode.seq ?_
    refine WCode.region ?_
    refine WOps.p (G.move rfl) rfl ?_
    refine WOps.r (G.loada T.agg85_4 rfl (cs := [.int .i64 a2.Prog, .int .i64 a2.Vers, .slice A30 m45.length ((w64 ((a2.Procs.length : Int) + 4)).toNat), fnv 35 b57]) (cellsAt.of_blk (S59.blk 0 rfl) rfl)) rfl ?_
    have S80 := S59.front 6 rfl
    change St _ _ _ [G7, [(b48, .cells #[.int .i64 a2.Prog, .int .i64 a2.Vers, .slice A30 m45.length ((w64 ((a2.Procs.length : Int) + 4)).toNat), fnv 35 b57] 85 (0, 0))], [(b22, .cells #[.bool a2.Other, .bool a2.Near, .bool a2.None, .int .i64 a2.What, .int .i64 a2.Prog, .int .i64 a2.Vers, .int .i64 a2.Proc, .slice A2_1 a2.Procs.length c2_1, .string (bs a2.Args)] 74 (0, 0))], [(p1, .cells #[.slice A16 a1.L.length c17] 71 (0, 0))], [(p0, .cells #[.slice A5 a0.l.length c6] 108 (0, 0))], G37, G18] at S80
    have S81 := S80.front 4 rfl
    change St _ _ _ [[(p0, .cells #[.slice A5 a0.l.length c6] 108 (0, 0))], G7, [(b48, .cells #[.int .i64 a2.Prog, .int .i64 a2.Vers, .slice A30 m45.length ((w64 ((a2.Procs.length : Int) + 4)).toNat), fnv 35 b57] 85 (0, 0))], [(b22, .cells #[.bool a2.Other, .bool a2.Near, .bool a2.None, .int .i64 a2.What, .int .i64 a2.Prog, .int .i64 a2.Vers, .int .i64 a2.Proc, .slice A2_1 a2.Procs.length c2_1, .string (bs a2.Args)] 74 (0, 0))], [(p1, .cells #[.slice A16 a1.L.length c17] 71 (0, 0))], G37, G18] at S81
    have hO82 : ObjO 108 Registry.rp p0 a0 ([(p0, .cells #[.slice A5 a0.l.length c6] 108 (0, 0))] ++ (G7)) := ⟨_, _, ⟨A5, c6, G7, rfl, hO8, rfl⟩, rfl⟩
    have S83 : St _ _ _ [[(p0, .cells #[.slice A5 a0.l.length c6] 108 (0, 0))] ++ (G7), [(b48, .cells #[.int .i64 a2.Prog, .int .i64 a2.Vers, .slice A30 m45.length ((w64 ((a2.Procs.length : Int) + 4)).toNat), fnv 35 b57] 85 (0, 0))], [(b22, .cells #[.bool a2.Other, .bool a2.Near, .bool a2.None, .int .i64 a2.What, .int .i64 a2.Prog, .int .i64 a2.Vers, .int .i64 a2.Proc, .slice A2_1 a2.Procs.length c2_1, .string (bs a2.Args)] 74 (0, 0))], [(p1, .cells #[.slice A16 a1.L.length c17] 71 (0, 0))], G37, G18] := S81.objs (by simp)
    obtain ⟨t84, hc85, hF⟩ := bind_some hF
    refine WOps.call T.call34 (evs_cons rfl (evs_cons rfl evs_nil)) rfl ?_
    refine (sv_Offer_calls q60 a0 (⟨a2.Prog, a2.Vers, m45, b57⟩ : Service) hO82 (hv47.ext (S83.vw 4 rfl)) (St.outG (Bs := [[(p0, .cells #[.slice A5 a0.l.length c6] 108 (0, 0))] ++ (G7)]) S83 3 rfl) hc85 (St.hpN (As := [[(p0, .cells #[.slice A5 a0.l.length c6] 108 (0, 0))] ++ (G7)]) S83)).mono ?_
    rintro _ w86 ⟨G89, rfl, hO90, T87⟩
    have S88 := St.callN (As := [[(p0, .cells #[.slice A5 a0.l.length c6] 108 (0, 0))] ++ (G7)]) S83 T87
    change St _ _ _ [G89, [(b48, .cells #[.int .i64 a2.Prog, .int .i64 a2.Vers, .slice A30 m45.length ((w64 ((a2.Procs.length : Int) + 4)).toNat), fnv 35 b57] 85 (0, 0))], [(b22, .cells #[.bool a2.Other, .bool a2.Near, .bool a2.None, .int .i64 a2.What, .int .i64 a2.Prog, .int .i64 a2.Vers, .int .i64 a2.Proc, .slice A2_1 a2.Procs.length c2_1, .string (bs a2.Args)] 74 (0, 0))], [(p1, .cells #[.slice A16 a1.L.length c17] 71 (0, 0))], G37, G18] at S88
    refine ⟨_, rfl, ?_⟩
    obtain ⟨cs91, G92, ho93, hg94⟩ := hO90
    obtain ⟨A95, c96, G97, rfl, hO98, hq99⟩ := ho93
    have S100 : St _ _ _ [[(p0, .cells #[.slice A95 t84.2.l.length c96] 108 (0, 0))], G97, [(b48, .cells #[.int .i64 a2.Prog, .int .i64 a2.Vers, .slice A30 m45.length ((w64 ((a2.Procs.length : Int) + 4)).toNat), fnv 35 b57] 85 (0, 0))], [(b22, .cells #[.bool a2.Other, .bool a2.Near, .bool a2.None, .int .i64 a2.What, .int .i64 a2.Prog, .int .i64 a2.Vers, .int .i64 a2.Proc, .slice A2_1 a2.Procs.length c2_1, .string (bs a2.Args)] 74 (0, 0))], [(p1, .cells #[.slice A16 a1.L.length c17] 71 (0, 0))], G37, G18] := S88.objs (by rw [hg94, hq99]; simp)
    refine WOps.p (G.assign rfl) rfl ?_
    refine WOps.nil ?_
    refine WEx.then_ ?_
    refine WCode.seq ?_
    refine WCode.region ?_
    refine WOps.p (G.move rfl) rfl ?_
    refine WOps.p (G.field T.fld74_4 rfl (show 0 + 4 = 4 from rfl)) rfl ?_
    refine WOps.r (G.load1 T.one3 rfl (cell_blk (S100.blk 3 rfl) rfl)) rfl ?_
    refine WOps.p (G.field T.fld74_5 rfl (show 0 + 5 = 5 from rfl)) rfl ?_
    refine WOps.r (G.load1 T.one3 rfl (cell_blk (S100.blk 3 rfl) rfl)) rfl ?_
    refine WOps.p (G.field T.fld74_7 rfl (show 0 + 7 = 7 from rfl)) rfl ?_
    refine WOps.r (G.load1 T.one49 rfl (cell_blk (S100.blk 3 rfl) rfl)) rfl ?_
    refine WOps.p (G.build (cells := #[.int .i64 a2.Prog, .int .i64 a2.Vers, .slice A2_1 a2.Procs.length c2_1]) (evp_spec (evp_cons rfl (evp_cons rfl (evp_cons rfl evp_nil)))) (by kernel_rfl)) rfl ?_
    refine WOps.p (G.field T.fld74_2 rfl (show 0 + 2 = 2 from rfl)) rfl ?_
    refine WOps.r (G.load1 T.one4 rfl (cell_blk (S100.blk 3 rfl) rfl)) rfl ?_
    refine WOps.p (G.not rfl rfl) rfl ?_
    have S101 := S100.front 6 rfl
    change St _ _ _ [G18, [(p0, .cells #[.slice A95 t84.2.l.length c96] 108 (0, 0))], G97, [(b48, .cells #[.int .i64 a2.Prog, .int .i64 a2.Vers, .slice A30 m45.length ((w64 ((a2.Procs.length : Int) + 4)).toNat), fnv 35 b57] 85 (0, 0))], [(b22, .cells #[.bool a2.Other, .bool a2.Near, .bool a2.None, .int .i64 a2.What, .int .i64 a2.Prog, .int .i64 a2.Vers, .int .i64 a2.Proc, .slice A2_1 a2.Procs.length c2_1, .string (bs a2.Args)] 74 (0, 0))], [(p1, .cells #[.slice A16 a1.L.length c17] 71 (0, 0))], G37] at S101
    have S102 := S101.front 5 rfl
    change St _ _ _ [[(p1, .cells #[.slice A16 a1.L.length c17] 71 (0, 0))], G18, [(p0, .cells #[.slice A95 t84.2.l.length c96] 108 (0, 0))], G97, [(b48, .cells #[.int .i64 a2.Prog, .int .i64 a2.Vers, .slice A30 m45.length ((w64 ((a2.Procs.length : Int) + 4)).toNat), fnv 35 b57] 85 (0, 0))], [(b22, .cells #[.bool a2.Other, .bool a2.Near, .bool a2.None, .int .i64 a2.What, .int .i64 a2.Prog, .int .i64 a2.Vers, .int .i64 a2.Proc, .slice A2_1 a2.Procs.length c2_1, .string (bs a2.Args)] 74 (0, 0))], G37] at S102
    have hO103 : ObjO 71 Registry71.rp p1 a1 ([(p1, .cells #[.slice A16 a1.L.length c17] 71 (0, 0))] ++ (G18)) := ⟨_, _, ⟨A16, c17, G18, rfl, hO19, rfl⟩, rfl⟩
    have S104 : St _ _ _ [[(p1, .cells #[.slice A16 a1.L.length c17] 71 (0, 0))] ++ (G18), [(p0, .cells #[.slice A95 t84.2.l.length c96] 108 (0, 0))], G97, [(b48, .cells #[.int .i64 a2.Prog, .int .i64 a2.Vers, .slice A30 m45.length ((w64 ((a2.Procs.length : Int) + 4)).toNat), fnv 35 b57] 85 (0, 0))], [(b22, .cells #[.bool a2.Other, .bool a2.Near, .bool a2.None, .int .i64 a2.What, .int .i64 a2.Prog, .int .i64 a2.Vers, .int .i64 a2.Proc, .slice A2_1 a2.Procs.length c2_1, .string (bs a2.Args)] 74 (0, 0))], G37] := S102.objs (by simp)
    obtain ⟨t105, hc106, hF⟩ := bind_some hF
    refine WOps.call T.call47 (evs_cons rfl (evs_cons rfl (evs_cons rfl evs_nil))) rfl ?_
    refine (rv_Offer_calls q60 a1 (⟨a2.Prog, a2.Vers, a2.Procs⟩ : Service111) (!a2.None) hO103 (hR2_1.ext (S104.keepF hF2_1)) (St.outF (Bs := [[(p1, .cells #[.slice A16 a1.L.length c17] 71 (0, 0))] ++ (G18)]) S104 hF2_1) hc106 (St.hpN (As := [[(p1, .cells #[.slice A16 a1.L.length c17] 71 (0, 0))] ++ (G18)]) S104)).mono ?_
    rintro _ w107 ⟨G110, rfl, hO111, T108⟩
    have S109 := St.callN (As := [[(p1, .cells #[.slice A16 a1.L.length c17] 71 (0, 0))] ++ (G18)]) S104 T108
    change St _ _ _ [G110, [(p0, .cells #[.slice A95 t84.2.l.length c96] 108 (0, 0))], G97, [(b48, .cells #[.int .i64 a2.Prog, .int .i64 a2.Vers, .slice A30 m45.length ((w64 ((a2.Procs.length : Int) + 4)).toNat), fnv 35 b57] 85 (0, 0))], [(b22, .cells #[.bool a2.Other, .bool a2.Near, .bool a2.None, .int .i64 a2.What, .int .i64 a2.Prog, .int .i64 a2.Vers, .int .i64 a2.Proc, .slice A2_1 a2.Procs.length c2_1, .string (bs a2.Args)] 74 (0, 0))], G37] at S109
    refine ⟨_, rfl, ?_⟩
    obtain ⟨cs112, G113, ho114, hg115⟩ := hO111
    obtain ⟨A116, c117, G118, rfl, hO119, hq120⟩ := ho114
    have S121 : St _ _ _ [[(p1, .cells #[.slice A116 t105.2.L.length c117] 71 (0, 0))], G118, [(p0, .cells #[.slice A95 t84.2.l.length c96] 108 (0, 0))], G97, [(b48, .cells #[.int .i64 a2.Prog, .int .i64 a2.Vers, .slice A30 m45.length ((w64 ((a2.Procs.length : Int) + 4)).toNat), fnv 35 b57] 85 (0, 0))], [(b22, .cells #[.bool a2.Other, .bool a2.Near, .bool a2.None, .int .i64 a2.What, .int .i64 a2.Prog, .int .i64 a2.Vers, .int .i64 a2.Proc, .slice A2_1 a2.Procs.length c2_1, .string (bs a2.Args)] 74 (0, 0))], G37] := S109.objs (by rw [hg115, hq120]; simp)
    refine WOps.p (G.assign rfl) rfl ?_
    refine WOps.nil ?_
    refine WEx.then_ ?_
    refine WCode.forget (l' := [(5, .pointer (some ⟨b22, 0, none⟩)), (7, .slice A30 (cpy (List.replicate (w64 ((a2.Procs.length : Int) + 4)).toNat (0 : Int)) a2.Procs).length ((w64 ((a2.Procs.length : Int) + 4)).toNat)), (9, .int .i64 t84.1), (10, .int .i64 t105.1)]) ⟨rfl, rfl, rfl, rfl, trivial⟩ ?_
    refine WCode.seq ?_
    refine WCode.region ?_
    refine WOps.p (G.move rfl) rfl ?_
    refine WOps.p (G.move rfl) rfl ?_
    refine WOps.p (G.eql rfl rfl rfl) rfl ?_
    refine WOps.p (G.assign rfl) rfl ?_
    refine WOps.nil ?_
    refine WEx.then_ ?_
    refine WCode.seq ?_
    refine WCode.seq ?_
    refine WCode.region ?_
    refine WOps.p (G.assign rfl) rfl ?_
    refine WOps.nil ?_
    refine WEx.then_ ?_
    refine WCode.block ?_
    have S133 := S121.front 6 rfl
    change St _ _ _ [G37, [(p1, .cells #[.slice A116 t105.2.L.length c117] 71 (0, 0))], G118, [(p0, .cells #[.slice A95 t84.2.l.length c96] 108 (0, 0))], G97, [(b48, .cells #[.int .i64 a2.Prog, .int .i64 a2.Vers, .slice A30 m45.length ((w64 ((a2.Procs.length : Int) + 4)).toNat), fnv 35 b57] 85 (0, 0))], [(b22, .cells #[.bool a2.Other, .bool a2.Near, .bool a2.None, .int .i64 a2.What, .int .i64 a2.Prog, .int .i64 a2.Vers, .int .i64 a2.Proc, .slice A2_1 a2.Procs.length c2_1, .string (bs a2.Args)] 74 (0, 0))]] at S133
    have S134 := S133.front 4 rfl
    change St _ _ _ [G97, G37, [(p1, .cells #[.slice A116 t105.2.L.length c117] 71 (0, 0))], G118, [(p0, .cells #[.slice A95 t84.2.l.length c96] 108 (0, 0))], [(b48, .cells #[.int .i64 a2.Prog, .int .i64 a2.Vers, .slice A30 m45.length ((w64 ((a2.Procs.length : Int) + 4)).toNat), fnv 35 b57] 85 (0, 0))], [(b22, .cells #[.bool a2.Other, .bool a2.Near, .bool a2.None, .int .i64 a2.What, .int .i64 a2.Prog, .int .i64 a2.Vers, .int .i64 a2.Proc, .slice A2_1 a2.Procs.length c2_1, .string (bs a2.Args)] 74 (0, 0))]] at S134
    have S135 := S134.front 3 rfl
    change St _ _ _ [G118, G97, G37, [(p1, .cells #[.slice A116 t105.2.L.length c117] 71 (0, 0))], [(p0, .cells #[.slice A95 t84.2.l.length c96] 108 (0, 0))], [(b48, .cells #[.int .i64 a2.Prog, .int .i64 a2.Vers, .slice A30 m45.length ((w64 ((a2.Procs.length : Int) + 4)).toNat), fnv 35 b57] 85 (0, 0))], [(b22, .cells #[.bool a2.Other, .bool a2.Near, .bool a2.None, .int .i64 a2.What, .int .i64 a2.Prog, .int .i64 a2.Vers, .int .i64 a2.Proc, .slice A2_1 a2.Procs.length c2_1, .string (bs a2.Args)] 74 (0, 0))]] at S135
    have S136 := S135.front 6 rfl
    change St _ _ _ [[(b22, .cells #[.bool a2.Other, .bool a2.Near, .bool a2.None, .int .i64 a2.What, .int .i64 a2.Prog, .int .i64 a2.Vers, .int .i64 a2.Proc, .slice A2_1 a2.Procs.length c2_1, .string (bs a2.Args)] 74 (0, 0))], G118, G97, G37, [(p1, .cells #[.slice A116 t105.2.L.length c117] 71 (0, 0))], [(p0, .cells #[.slice A95 t84.2.l.length c96] 108 (0, 0))], [(b48, .cells #[.int .i64 a2.Prog, .int .i64 a2.Vers, .slice A30 m45.length ((w64 ((a2.Procs.length : Int) + 4)).toNat), fnv 35 b57] 85 (0, 0))]] at S136
    have S137 := S136.front 5 rfl
    change St _ _ _ [[(p0, .cells #[.slice A95 t84.2.l.length c96] 108 (0, 0))], [(b22, .cells #[.bool a2.Other, .bool a2.Near, .bool a2.None, .int .i64 a2.What, .int .i64 a2.Prog, .int .i64 a2.Vers, .int .i64 a2.Proc, .slice A2_1 a2.Procs.length c2_1, .string (bs a2.Args)] 74 (0, 0))], G118, G97, G37, [(p1, .cells #[.slice A116 t105.2.L.length c117] 71 (0, 0))], [(b48, .cells #[.int .i64 a2.Prog, .int .i64 a2.Vers, .slice A30 m45.length ((w64 ((a2.Procs.length : Int) + 4)).toNat), fnv 35 b57] 85 (0, 0))]] at S137
    have S138 := S137.front 5 rfl
    change St _ _ _ [[(p1, .cells #[.slice A116 t105.2.L.length c117] 71 (0, 0))], [(p0, .cells #[.slice A95 t84.2.l.length c96] 108 (0, 0))], [(b22, .cells #[.bool a2.Other, .bool a2.Near, .bool a2.None, .int .i64 a2.What, .int .i64 a2.Prog, .int .i64 a2.Vers, .int .i64 a2.Proc, .slice A2_1 a2.Procs.length c2_1, .string (bs a2.Args)] 74 (0, 0))], G118, G97, G37, [(b48, .cells #[.int .i64 a2.Prog, .int .i64 a2.Vers, .slice A30 m45.length ((w64 ((a2.Procs.length : Int) + 4)).toNat), fnv 35 b57] 85 (0, 0))]] at S138
    have S139 := St.keep (As := [[(p1, .cells #[.slice A116 t105.2.L.length c117] 71 (0, 0))], [(p0, .cells #[.slice A95 t84.2.l.length c96] 108 (0, 0))], [(b22, .cells #[.bool a2.Other, .bool a2.Near, .bool a2.None, .int .i64 a2.What, .int .i64 a2.Prog, .int .i64 a2.Vers, .int .i64 a2.Proc, .slice A2_1 a2.Procs.length c2_1, .string (bs a2.Args)] 74 (0, 0))], G118, G97, G37]) S138
    refine WCode.forget (l' := [(5, .pointer (some ⟨b22, 0, none⟩)), (7, .slice A30 (cpy (List.replicate (w64 ((a2.Procs.length : Int) + 4)).toNat (0 : Int)) a2.Procs).length ((w64 ((a2.Procs.length : Int) + 4)).toNat)), (11, .bool (decide (t84.1 = t105.1))), (12, .int .i64 0)]) ⟨rfl, rfl, rfl, rfl, trivial⟩ ?_
    refine WCode.loop (fun n_ l_ w_ => ∃ A122 : Option Addr, ∃ c123 : Nat, ∃ l124 : List Int, ∃ G125 : Grp, ∃ b127 : Bool, ∃ x128 : Int, l_ = [(5, .pointer (some ⟨b22, 0, none⟩)), (7, .slice A122 l124.length c123), (11, .bool b127), (12, .int .i64 x128)] ∧ sv_offer.l1 n_ a2 t84 t105 l124 b127 x128 = some r_ ∧ (SlO 3 (Rp.int .i64) (.slice A122 l124.length c123) l124 G125) ∧ St w (KS [G0, G1]) w_ [[(p1, .cells #[.slice A116 t105.2.L.length c117] 71 (0, 0))], [(p0, .cells #[.slice A95 t84.2.l.length c96] 108 (0, 0))], [(b22, .cells #[.bool a2.Other, .bool a2.Near, .bool a2.None, .int .i64 a2.What, .int .i64 a2.Prog, .int .i64 a2.Vers, .int .i64 a2.Proc, .slice A2_1 a2.Procs.length c2_1, .string (bs a2.Args)] 74 (0, 0))], G118, G97, G125]) q60 ⟨A30, (w64 ((a2.Procs.length : Int) + 4)).toNat, (cpy (List.replicate (w64 ((a2.Procs.length : Int) + 4)).toNat (0 : Int)) a2.Procs), G37, decide (t84.1 = t105.1), 0, rfl, hF, hO40, S139⟩ ?_
    rintro n132 _ w129 ⟨A122, c123, l124, G125, b127, x128, rfl, hF, hO126, S130⟩
    obtain _ | k131 := n132
    · exact nomatch (show (none : Option (Bool × Registry × Registry71)) = some r_ from hF)
    rw [sv_offer.l1] at hF
    refine WCode.seq ?_
    refine WCode.seq ?_
    refine WCode.region ?_
    refine WOps.p (G.move rfl) rfl ?_
    refine WOps.p (G.move rfl) rfl ?_
    refine WOps.p (G.len T.el49 rfl) rfl ?_
    refine WOps.p (G.lss rfl rfl rfl) rfl ?_
    refine WOps.nil ?_
    refine WEx.then_ ?_
    rcases ite_some hF with ⟨h141, hF⟩ | ⟨h141, hF⟩
    ·
      refine WCode.cond_t (kb (b := decide (x128 < (l124.length : Int))) rfl (decide_eq_true h141)) ?_
      refine WCode.skip ?_
      refine WEx.then_ ?_
      refine WCode.seq ?_
      refine WCode.block ?_
      refine WCode.seq ?_
      refine WCode.region ?_
      refine WOps.p (G.assign rfl) rfl ?_
      refine WOps.nil ?_
      refine WEx.then_ ?_
      refine WCode.cutseq (fun l_ w_ => ∃ q145 : Nat, ∃ x142 : Int, l_ = [(5, .pointer (some ⟨b22, 0, none⟩)), (7, .slice A122 l124.length c123), (11, .bool b127), (12, .int .i64 x128), (13, .int .i64 x142)] ∧ sv_offer.j2 q145 a2 t84 t105 l124 b127 x128 x142 = some r_ ∧ q145 ≤ k131 ∧ St w (KS [G0, G1]) w_ [[(p1, .cells #[.slice A116 t105.2.L.length c117] 71 (0, 0))], [(p0, .cells #[.slice A95 t84.2.l.length c96] 108 (0, 0))], [(b22, .cells #[.bool a2.Other, .bool a2.Near, .bool a2.None, .int .i64 a2.What, .int .i64 a2.Prog, .int .i64 a2.Vers, .int .i64 a2.Proc, .slice A2_1 a2.Procs.length c2_1, .string (bs a2.Args)] 74 (0, 0))], G125, G118, G97]) ?_ ?_
      ·
        refine WCode.seq ?_
        refine WCode.region ?_
        refine WOps.p (G.move rfl) rfl ?_
        refine WOps.p (G.field T.fld74_7 rfl (show 0 + 7 = 7 from rfl)) rfl ?_
        refine WOps.r (G.load1 T.one49 rfl (cell_blk (S130.blk 2 rfl) rfl)) rfl ?_
        refine WOps.p (G.len T.el49 rfl) rfl ?_
        refine WOps.p (G.lss rfl rfl rfl) rfl ?_
        refine WOps.nil ?_
        refine WEx.then_ ?_
        rcases ite_some hF with ⟨h147, hF⟩ | ⟨h147, hF⟩
        ·
          refine WCode.cond_t (kb (b := decide (x128 < (a2.Procs.length : Int))) rfl (decide_eq_true h147)) ?_
          refine WCode.region ?_
          refine WOps.p (G.field T.fld74_7 rfl (show 0 + 7 = 7 from rfl)) rfl ?_
          refine WOps.r (G.load1 T.one49 rfl (cell_blk (S130.blk 2 rfl) rfl)) rfl ?_
          refine WOps.p (G.move rfl) rfl ?_
          obtain ⟨x148, hc149, hF⟩ := bind_some hF
          obtain ⟨j150, ej151, hj152, hl153⟩ := idx_spec hc149
          obtain ⟨b154, o155, cs156, eA157, hf158, hc159, hr160⟩ := SlR.at_ (hR2_1.ext (S130.keepF hF2_1)) hj152
          have hq161 : cs156 = [.int .i64 x148] := hr160
          subst hq161
          change cellsAt _ _ (o155 + j150 * 1) [.int .i64 x148] at hc159
          refine WOps.p (G.idx T.el49 rfl eA157 rfl ej151 hl153) rfl ?_
          refine WOps.r (G.load1 T.one3 rfl (cellsAt.at0 hc159)) rfl ?_
          refine WOps.p (G.assign rfl) rfl ?_
          refine WOps.nil ?_
          have S162 := S130.front 4 rfl
          change St _ _ _ [G97, [(p1, .cells #[.slice A116 t105.2.L.length c117] 71 (0, 0))], [(p0, .cells #[.slice A95 t84.2.l.length c96] 108 (0, 0))], [(b22, .cells #[.bool a2.Other, .bool a2.Near, .bool a2.None, .int .i64 a2.What, .int .i64 a2.Prog, .int .i64 a2.Vers, .int .i64 a2.Proc, .slice A2_1 a2.Procs.length c2_1, .string (bs a2.Args)] 74 (0, 0))], G118, G125] at S162
          have S163 := S162.front 4 rfl
          change St _ _ _ [G118, G97, [(p1, .cells #[.slice A116 t105.2.L.length c117] 71 (0, 0))], [(p0, .cells #[.slice A95 t84.2.l.length c96] 108 (0, 0))], [(b22, .cells #[.bool a2.Other, .bool a2.Near, .bool a2.None, .int .i64 a2.What, .int .i64 a2.Prog, .int .i64 a2.Vers, .int .i64 a2.Proc, .slice A2_1 a2.Procs.length c2_1, .string (bs a2.Args)] 74 (0, 0))], G125] at S163
          have S164 := S163.front 5 rfl
          change St _ _ _ [G125, G118, G97, [(p1, .cells #[.slice A116 t105.2.L.length c117] 71 (0, 0))], [(p0, .cells #[.slice A95 t84.2.l.length c96] 108 (0, 0))], [(b22, .cells #[.bool a2.Other, .bool a2.Near, .bool a2.None, .int .i64 a2.What, .int .i64 a2.Prog, .int .i64 a2.Vers, .int .i64 a2.Proc, .slice A2_1 a2.Procs.length c2_1, .string (bs a2.Args)] 74 (0, 0))]] at S164
          have S165 := S164.front 5 rfl
          change St _ _ _ [[(b22, .cells #[.bool a2.Other, .bool a2.Near, .bool a2.None, .int .i64 a2.What, .int .i64 a2.Prog, .int .i64 a2.Vers, .int .i64 a2.Proc, .slice A2_1 a2.Procs.length c2_1, .string (bs a2.Args)] 74 (0, 0))], G125, G118, G97, [(p1, .cells #[.slice A116 t105.2.L.length c117] 71 (0, 0))], [(p0, .cells #[.slice A95 t84.2.l.length c96] 108 (0, 0))]] at S165
          have S166 := S165.front 5 rfl
          change St _ _ _ [[(p0, .cells #[.slice A95 t84.2.l.length c96] 108 (0, 0))], [(b22, .cells #[.bool a2.Other, .bool a2.Near, .bool a2.None, .int .i64 a2.What, .int .i64 a2.Prog, .int .i64 a2.Vers, .int .i64 a2.Proc, .slice A2_1 a2.Procs.length c2_1, .string (bs a2.Args)] 74 (0, 0))], G125, G118, G97, [(p1, .cells #[.slice A116 t105.2.L.length c117] 71 (0, 0))]] at S166
          have S167 := S166.front 5 rfl
          change St _ _ _ [[(p1, .cells #[.slice A116 t105.2.L.length c117] 71 (0, 0))], [(p0, .cells #[.slice A95 t84.2.l.length c96] 108 (0, 0))], [(b22, .cells #[.bool a2.Other, .bool a2.Near, .bool a2.None, .int .i64 a2.What, .int .i64 a2.Prog, .int .i64 a2.Vers, .int .i64 a2.Proc, .slice A2_1 a2.Procs.length c2_1, .string (bs a2.Args)] 74 (0, 0))], G125, G118, G97] at S167
          refine WEx.cutend _ ?_ ⟨k131, x148, rfl, hF, (by omega), S167⟩
          exact ⟨rfl, rfl, rfl, rfl, rfl, trivial⟩
        ·
          refine WCode.cond_f (kb (b := decide (x128 < (a2.Procs.length : Int))) rfl (decide_eq_false h147)) ?_
          refine WCode.skip ?_
          have S168 := S130.front 4 rfl
          change St _ _ _ [G97, [(p1, .cells #[.slice A116 t105.2.L.length c117] 71 (0, 0))], [(p0, .cells #[.slice A95 t84.2.l.length c96] 108 (0, 0))], [(b22, .cells #[.bool a2.Other, .bool a2.Near, .bool a2.None, .int .i64 a2.What, .int .i64 a2.Prog, .int .i64 a2.Vers, .int .i64 a2.Proc, .slice A2_1 a2.Procs.length c2_1, .string (bs a2.Args)] 74 (0, 0))], G118, G125] at S168
          have S169 := S168.front 4 rfl
          change St _ _ _ [G118, G97, [(p1, .cells #[.slice A116 t105.2.L.length c117] 71 (0, 0))], [(p0, .cells #[.slice A95 t84.2.l.length c96] 108 (0, 0))], [(b22, .cells #[.bool a2.Other, .bool a2.Near, .bool a2.None, .int .i64 a2.What, .int .i64 a2.Prog, .int .i64 a2.Vers, .int .i64 a2.Proc, .slice A2_1 a2.Procs.length c2_1, .string (bs a2.Args)] 74 (0, 0))], G125] at S169
          have S170 := S169.front 5 rfl
          change St _ _ _ [G125, G118, G97, [(p1, .cells #[.slice A116 t105.2.L.length c117] 71 (0, 0))], [(p0, .cells #[.slice A95 t84.2.l.length c96] 108 (0, 0))], [(b22, .cells #[.bool a2.Other, .bool a2.Near, .bool a2.None, .int .i64 a2.What, .int .i64 a2.Prog, .int .i64 a2.Vers, .int .i64 a2.Proc, .slice A2_1 a2.Procs.length c2_1, .string (bs a2.Args)] 74 (0, 0))]] at S170
          have S171 := S170.front 5 rfl
          change St _ _ _ [[(b22, .cells #[.bool a2.Other, .bool a2.Near, .bool a2.None, .int .i64 a2.What, .int .i64 a2.Prog, .int .i64 a2.Vers, .int .i64 a2.Proc, .slice A2_1 a2.Procs.length c2_1, .string (bs a2.Args)] 74 (0, 0))], G125, G118, G97, [(p1, .cells #[.slice A116 t105.2.L.length c117] 71 (0, 0))], [(p0, .cells #[.slice A95 t84.2.l.length c96] 108 (0, 0))]] at S171
          have S172 := S171.front 5 rfl
          change St _ _ _ [[(p0, .cells #[.slice A95 t84.2.l.length c96] 108 (0, 0))], [(b22, .cells #[.bool a2.Other, .bool a2.Near, .bool a2.None, .int .i64 a2.What, .int .i64 a2.Prog, .int .i64 a2.Vers, .int .i64 a2.Proc, .slice A2_1 a2.Procs.length c2_1, .string (bs a2.Args)] 74 (0, 0))], G125, G118, G97, [(p1, .cells #[.slice A116 t105.2.L.length c117] 71 (0, 0))]] at S172
          have S173 := S172.front 5 rfl
          change St _ _ _ [[(p1, .cells #[.slice A116 t105.2.L.length c117] 71 (0, 0))], [(p0, .cells #[.slice A95 t84.2.l.length c96] 108 (0, 0))], [(b22, .cells #[.bool a2.Other, .bool a2.Near, .bool a2.None, .int .i64 a2.What, .int .i64 a2.Prog, .int .i64 a2.Vers, .int .i64 a2.Proc, .slice A2_1 a2.Procs.length c2_1, .string (bs a2.Args)] 74 (0, 0))], G125, G118, G97] at S173
          refine WEx.cutend _ ?_ ⟨k131, 0, rfl, hF, (by omega), S173⟩
          exact ⟨rfl, rfl, rfl, rfl, rfl, trivial⟩
      ·
        rintro _ w143 ⟨q145, x142, rfl, hF, hq146, S144⟩
        obtain _ | k174 := q145
        · exact nomatch (show (none : Option (Bool × Registry × Registry71)) = some r_ from hF)
        rw [sv_offer.j2] at hF
        refine WCode.seq ?_
        refine WCode.region ?_
        refine WOps.p (G.move rfl) rfl ?_
        refine WOps.p (G.move rfl) rfl ?_
        rcases ite_some hF with ⟨h175, hF⟩ | ⟨h175, hF⟩
        ·
          refine WOps.on rfl (kbl (b := b127) rfl h175) ?_
          refine WOps.p (G.move rfl) rfl ?_
          refine WOps.on rfl (kbl (b := b127) rfl h175) ?_
          refine WOps.p (G.move rfl) rfl ?_
          refine WOps.on rfl (kbl (b := b127) rfl h175) ?_
          obtain ⟨x176, hc177, hF⟩ := bind_some hF
          obtain ⟨j178, ej179, hj180, hl181⟩ := idx_spec hc177
          obtain ⟨b182, o183, cs184, eA185, hf186, hc187, hr188⟩ := SlR.at_ (hO126.rd (fun b o hb => S144.grp 3 rfl hb)) hj180
          have hq189 : cs184 = [.int .i64 x176] := hr188
          subst hq189
          change cellsAt _ _ (o183 + j178 * 1) [.int .i64 x176] at hc187
          refine WOps.p (G.idx T.el49 rfl eA185 rfl ej179 hl181) rfl ?_
          refine WOps.on rfl (kbl (b := b127) rfl h175) ?_
          refine WOps.r (G.load1 T.one3 rfl (cellsAt.at0 hc187)) rfl ?_
          refine WOps.on rfl (kbl (b := b127) rfl h175) ?_
          refine WOps.p (G.move rfl) rfl ?_
          refine WOps.on rfl (kbl (b := b127) rfl h175) ?_
          refine WOps.p (G.eql rfl rfl rfl) rfl ?_
          refine WOps.p (G.pick_t (kb (b := b127) rfl h175) rfl) rfl ?_
          refine WOps.p (G.assign rfl) rfl ?_
          refine WOps.nil ?_
          refine WEx.then_ ?_
          refine WCode.region ?_
          refine WOps.p (G.move rfl) rfl ?_
          refine WOps.p (G.move rfl) rfl ?_
          refine WOps.p (G.move rfl) rfl ?_
          refine WOps.p (G.add rfl rfl (r := (w64 (1 + x128))) rfl) rfl ?_
          obtain ⟨x190, hc191, hF⟩ := bind_some hF
          obtain ⟨j192, ej193, hj194, hl195⟩ := idx_spec hc191
          obtain ⟨b196, o197, cs198, eA199, hf200, hc201, hr202⟩ := SlR.at_ (hO126.rd (fun b o hb => S144.grp 3 rfl hb)) hj194
          have hq203 : cs198 = [.int .i64 x190] := hr202
          subst hq203
          change cellsAt _ _ (o197 + j192 * 1) [.int .i64 x190] at hc201
          refine WOps.p (G.idx T.el49 rfl eA199 rfl ej193 hl195) rfl ?_
          obtain ⟨l204, hc205, hF⟩ := bind_some hF
          have e206 := upd_spec' hc205 ej193
          have S207 := S144.front 3 rfl
          change St _ _ _ [G125, [(p1, .cells #[.slice A116 t105.2.L.length c117] 71 (0, 0))], [(p0, .cells #[.slice A95 t84.2.l.length c96] 108 (0, 0))], [(b22, .cells #[.bool a2.Other, .bool a2.Near, .bool a2.None, .int .i64 a2.What, .int .i64 a2.Prog, .int .i64 a2.Vers, .int .i64 a2.Proc, .slice A2_1 a2.Procs.length c2_1, .string (bs a2.Args)] 74 (0, 0))], G118, G97] at S207
          obtain ⟨w208, G209, E210, hO211, S212⟩ := St.storeF (P := Try.prog) (T := 3) S207 hO126 T.size3_1 hj194 eA199 (w64 (1 + x128)) (v := .int .i64 (w64 (1 + x128))) [] [.int .i64 x190] [] rfl rfl rfl
          rw [← e206] at hO211
          have hl213 : (l124).length = l204.length := by rw [e206, List.length_set]
          try rw [hl213] at S212
          try rw [hl213]
          change St _ _ _ [G209, [(p1, .cells #[.slice A116 t105.2.L.length c117] 71 (0, 0))], [(p0, .cells #[.slice A95 t84.2.l.length c96] 108 (0, 0))], [(b22, .cells #[.bool a2.Other, .bool a2.Near, .bool a2.None, .int .i64 a2.What, .int .i64 a2.Prog, .int .i64 a2.Vers, .int .i64 a2.Proc, .slice A2_1 a2.Procs.length c2_1, .string (bs a2.Args)] 74 (0, 0))], G118, G97] at S212
          refine WOps.u (E210 rfl rfl) ?_
          refine WOps.nil ?_
          refine WEx.in_normal ?_
          refine WEx.then_ ?_
          refine WCode.region ?_
          refine WOps.p (G.move rfl) rfl ?_
          refine WOps.p (G.add rfl rfl (r := (w64 (x128 + 1))) rfl) rfl ?_
          refine WOps.p (G.assign rfl) rfl ?_
          refine WOps.nil ?_
          have S214 := S212.front 5 rfl
          change St _ _ _ [G97, G209, [(p1, .cells #[.slice A116 t105.2.L.length c117] 71 (0, 0))], [(p0, .cells #[.slice A95 t84.2.l.length c96] 108 (0, 0))], [(b22, .cells #[.bool a2.Other, .bool a2.Near, .bool a2.None, .int .i64 a2.What, .int .i64 a2.Prog, .int .i64 a2.Vers, .int .i64 a2.Proc, .slice A2_1 a2.Procs.length c2_1, .string (bs a2.Args)] 74 (0, 0))], G118] at S214
          have S215 := S214.front 5 rfl
          change St _ _ _ [G118, G97, G209, [(p1, .cells #[.slice A116 t105.2.L.length c117] 71 (0, 0))], [(p0, .cells #[.slice A95 t84.2.l.length c96] 108 (0, 0))], [(b22, .cells #[.bool a2.Other, .bool a2.Near, .bool a2.None, .int .i64 a2.What, .int .i64 a2.Prog, .int .i64 a2.Vers, .int .i64 a2.Proc, .slice A2_1 a2.Procs.length c2_1, .string (bs a2.Args)] 74 (0, 0))]] at S215
          have S216 := S215.front 5 rfl
          change St _ _ _ [[(b22, .cells #[.bool a2.Other, .bool a2.Near, .bool a2.None, .int .i64 a2.What, .int .i64 a2.Prog, .int .i64 a2.Vers, .int .i64 a2.Proc, .slice A2_1 a2.Procs.length c2_1, .string (bs a2.Args)] 74 (0, 0))], G118, G97, G209, [(p1, .cells #[.slice A116 t105.2.L.length c117] 71 (0, 0))], [(p0, .cells #[.slice A95 t84.2.l.length c96] 108 (0, 0))]] at S216
          have S217 := S216.front 5 rfl
          change St _ _ _ [[(p0, .cells #[.slice A95 t84.2.l.length c96] 108 (0, 0))], [(b22, .cells #[.bool a2.Other, .bool a2.Near, .bool a2.None, .int .i64 a2.What, .int .i64 a2.Prog, .int .i64 a2.Vers, .int .i64 a2.Proc, .slice A2_1 a2.Procs.length c2_1, .string (bs a2.Args)] 74 (0, 0))], G118, G97, G209, [(p1, .cells #[.slice A116 t105.2.L.length c117] 71 (0, 0))]] at S217
          have S218 := S217.front 5 rfl
          change St _ _ _ [[(p1, .cells #[.slice A116 t105.2.L.length c117] 71 (0, 0))], [(p0, .cells #[.slice A95 t84.2.l.length c96] 108 (0, 0))], [(b22, .cells #[.bool a2.Other, .bool a2.Near, .bool a2.None, .int .i64 a2.What, .int .i64 a2.Prog, .int .i64 a2.Vers, .int .i64 a2.Proc, .slice A2_1 a2.Procs.length c2_1, .string (bs a2.Args)] 74 (0, 0))], G118, G97, G209] at S218
          refine WEx.again _ _ (by omega) ?_ ⟨A122, c123, l204, G209, decide (x176 = x142), w64 (x128 + 1), rfl, hF, hO211, S218⟩
          exact ⟨rfl, rfl, rfl, rfl, trivial⟩
        ·
          refine WOps.off rfl (kbl (b := b127) rfl (Bool.eq_false_iff.2 h175)) rfl rfl ?_
          refine WOps.off rfl (kbl (b := b127) rfl (Bool.eq_false_iff.2 h175)) rfl rfl ?_
          refine WOps.off rfl (kbl (b := b127) rfl (Bool.eq_false_iff.2 h175)) rfl rfl ?_
          refine WOps.off rfl (kbl (b := b127) rfl (Bool.eq_false_iff.2 h175)) rfl rfl ?_
          refine WOps.off rfl (kbl (b := b127) rfl (Bool.eq_false_iff.2 h175)) rfl rfl ?_
          refine WOps.off rfl (kbl (b := b127) rfl (Bool.eq_false_iff.2 h175)) rfl rfl ?_
          refine WOps.p (G.pick_f (kb (b := b127) rfl (Bool.eq_false_iff.2 h175)) rfl) rfl ?_
          refine WOps.p (G.assign rfl) rfl ?_
          refine WOps.nil ?_
          refine WEx.then_ ?_
          refine WCode.region ?_
          refine WOps.p (G.move rfl) rfl ?_
          refine WOps.p (G.move rfl) rfl ?_
          refine WOps.p (G.move rfl) rfl ?_
          refine WOps.p (G.add rfl rfl (r := (w64 (1 + x128))) rfl) rfl ?_
          obtain ⟨x219, hc220, hF⟩ := bind_some hF
          obtain ⟨j221, ej222, hj223, hl224⟩ := idx_spec hc220
          obtain ⟨b225, o226, cs227, eA228, hf229, hc230, hr231⟩ := SlR.at_ (hO126.rd (fun b o hb => S144.grp 3 rfl hb)) hj223
          have hq232 : cs227 = [.int .i64 x219] := hr231
          subst hq232
          change cellsAt _ _ (o226 + j221 * 1) [.int .i64 x219] at hc230
          refine WOps.p (G.idx T.el49 rfl eA228 rfl ej222 hl224) rfl ?_
          obtain ⟨l233, hc234, hF⟩ := bind_some hF
          have e235 := upd_spec' hc234 ej222
          have S236 := S144.front 3 rfl
          change St _ _ _ [G125, [(p1, .cells #[.slice A116 t105.2.L.length c117] 71 (0, 0))], [(p0, .cells #[.slice A95 t84.2.l.length c96] 108 (0, 0))], [(b22, .cells #[.bool a2.Other, .bool a2.Near, .bool a2.None, .int .i64 a2.What, .int .i64 a2.Prog, .int .i64 a2.Vers, .int .i64 a2.Proc, .slice A2_1 a2.Procs.length c2_1, .string (bs a2.Args)] 74 (0, 0))], G118, G97] at S236
          obtain ⟨w237, G238, E239, hO240, S241⟩ := St.storeF (P := Try.prog) (T := 3) S236 hO126 T.size3_1 hj223 eA228 (w64 (1 + x128)) (v := .int .i64 (w64 (1 + x128))) [] [.int .i64 x219] [] rfl rfl rfl
          rw [← e235] at hO240
          have hl242 : (l124).length = l233.length := by rw [e235, List.length_set]
          try rw [hl242] at S241
          try rw [hl242]
          change St _ _ _ [G238, [(p1, .cells #[.slice A116 t105.2.L.length c117] 71 (0, 0))], [(p0, .cells #[.slice A95 t84.2.l.length c96] 108 (0, 0))], [(b22, .cells #[.bool a2.Other, .bool a2.Near, .bool a2.None, .int .i64 a2.What, .int .i64 a2.Prog, .int .i64 a2.Vers, .int .i64 a2.Proc, .slice A2_1 a2.Procs.length c2_1, .string (bs a2.Args)] 74 (0, 0))], G118, G97] at S241
          refine WOps.u (E239 rfl rfl) ?_
          refine WOps.nil ?_
          refine WEx.in_normal ?_
          refine WEx.then_ ?_
          refine WCode.region ?_
          refine WOps.p (G.move rfl) rfl ?_
          refine WOps.p (G.add rfl rfl (r := (w64 (x128 + 1))) rfl) rfl ?_
          refine WOps.p (G.assign rfl) rfl ?_
          refine WOps.nil ?_
          have S243 := S241.front 5 rfl
          change St _ _ _ [G97, G238, [(p1, .cells #[.slice A116 t105.2.L.length c117] 71 (0, 0))], [(p0, .cells #[.slice A95 t84.2.l.length c96] 108 (0, 0))], [(b22, .cells #[.bool a2.Other, .bool a2.Near, .bool a2.None, .int .i64 a2.What, .int .i64 a2.Prog, .int .i64 a2.Vers, .int .i64 a2.Proc, .slice A2_1 a2.Procs.length c2_1, .string (bs a2.Args)] 74 (0, 0))], G118] at S243
          have S244 := S243.front 5 rfl
          change St _ _ _ [G118, G97, G238, [(p1, .cells #[.slice A116 t105.2.L.length c117] 71 (0, 0))], [(p0, .cells #[.slice A95 t84.2.l.length c96] 108 (0, 0))], [(b22, .cells #[.bool a2.Other, .bool a2.Near, .bool a2.None, .int .i64 a2.What, .int .i64 a2.Prog, .int .i64 a2.Vers, .int .i64 a2.Proc, .slice A2_1 a2.Procs.length c2_1, .string (bs a2.Args)] 74 (0, 0))]] at S244
          have S245 := S244.front 5 rfl
          change St _ _ _ [[(b22, .cells #[.bool a2.Other, .bool a2.Near, .bool a2.None, .int .i64 a2.What, .int .i64 a2.Prog, .int .i64 a2.Vers, .int .i64 a2.Proc, .slice A2_1 a2.Procs.length c2_1, .string (bs a2.Args)] 74 (0, 0))], G118, G97, G238, [(p1, .cells #[.slice A116 t105.2.L.length c117] 71 (0, 0))], [(p0, .cells #[.slice A95 t84.2.l.length c96] 108 (0, 0))]] at S245
          have S246 := S245.front 5 rfl
          change St _ _ _ [[(p0, .cells #[.slice A95 t84.2.l.length c96] 108 (0, 0))], [(b22, .cells #[.bool a2.Other, .bool a2.Near, .bool a2.None, .int .i64 a2.What, .int .i64 a2.Prog, .int .i64 a2.Vers, .int .i64 a2.Proc, .slice A2_1 a2.Procs.length c2_1, .string (bs a2.Args)] 74 (0, 0))], G118, G97, G238, [(p1, .cells #[.slice A116 t105.2.L.length c117] 71 (0, 0))]] at S246
          have S247 := S246.front 5 rfl
          change St _ _ _ [[(p1, .cells #[.slice A116 t105.2.L.length c117] 71 (0, 0))], [(p0, .cells #[.slice A95 t84.2.l.length c96] 108 (0, 0))], [(b22, .cells #[.bool a2.Other, .bool a2.Near, .bool a2.None, .int .i64 a2.What, .int .i64 a2.Prog, .int .i64 a2.Vers, .int .i64 a2.Proc, .slice A2_1 a2.Procs.length c2_1, .string (bs a2.Args)] 74 (0, 0))], G118, G97, G238] at S247
          refine WEx.again _ _ (by omega) ?_ ⟨A122, c123, l233, G238, false, w64 (x128 + 1), rfl, hF, hO240, S247⟩
          exact ⟨rfl, rfl, rfl, rfl, trivial⟩
    ·
      refine WCode.cond_f (kb (b := decide (x128 < (l124.length : Int))) rfl (decide_eq_false h141)) ?_
      refine WCode.exit ?_
      refine WEx.then_exit ?_
      refine WEx.then_exit ?_
      refine WEx.in_exit ?_
      refine WEx.then_ ?_
      refine WCode.seq ?_
      refine WCode.region ?_
      refine WOps.p (G.move rfl) rfl ?_
      refine WOps.p (G.assign rfl) rfl ?_
      refine WOps.nil ?_
      refine WEx.then_ ?_
      refine WCode.ret ?_
      obtain rfl := some_eq hF
      refine WEx.ret1 rfl rfl ?_
      have S248 := S130.front 4 rfl
      change St _ _ _ [G97, [(p1, .cells #[.slice A116 t105.2.L.length c117] 71 (0, 0))], [(p0, .cells #[.slice A95 t84.2.l.length c96] 108 (0, 0))], [(b22, .cells #[.bool a2.Other, .bool a2.Near, .bool a2.None, .int .i64 a2.What, .int .i64 a2.Prog, .int .i64 a2.Vers, .int .i64 a2.Proc, .slice A2_1 a2.Procs.length c2_1, .string (bs a2.Args)] 74 (0, 0))], G118, G125] at S248
      have S249 := S248.front 2 rfl
      change St _ _ _ [[(p0, .cells #[.slice A95 t84.2.l.length c96] 108 (0, 0))], G97, [(p1, .cells #[.slice A116 t105.2.L.length c117] 71 (0, 0))], [(b22, .cells #[.bool a2.Other, .bool a2.Near, .bool a2.None, .int .i64 a2.What, .int .i64 a2.Prog, .int .i64 a2.Vers, .int .i64 a2.Proc, .slice A2_1 a2.Procs.length c2_1, .string (bs a2.Args)] 74 (0, 0))], G118, G125] at S249
      have hO250 : ObjO 108 Registry.rp p0 t84.2 ([(p0, .cells #[.slice A95 t84.2.l.length c96] 108 (0, 0))] ++ (G97)) := ⟨_, _, ⟨A95, c96, G97, rfl, hO98, rfl⟩, rfl⟩
      have S251 : St _ _ _ [[(p0, .cells #[.slice A95 t84.2.l.length c96] 108 (0, 0))] ++ (G97), [(p1, .cells #[.slice A116 t105.2.L.length c117] 71 (0, 0))], [(b22, .cells #[.bool a2.Other, .bool a2.Near, .bool a2.None, .int .i64 a2.What, .int .i64 a2.Prog, .int .i64 a2.Vers, .int .i64 a2.Proc, .slice A2_1 a2.Procs.length c2_1, .string (bs a2.Args)] 74 (0, 0))], G118, G125] := S249.objs (by simp)
      have S252 := S251.front 3 rfl
      change St _ _ _ [G118, [(p0, .cells #[.slice A95 t84.2.l.length c96] 108 (0, 0))] ++ (G97), [(p1, .cells #[.slice A116 t105.2.L.length c117] 71 (0, 0))], [(b22, .cells #[.bool a2.Other, .bool a2.Near, .bool a2.None, .int .i64 a2.What, .int .i64 a2.Prog, .int .i64 a2.Vers, .int .i64 a2.Proc, .slice A2_1 a2.Procs.length c2_1, .string (bs a2.Args)] 74 (0, 0))], G125] at S252
      have S253 := S252.front 2 rfl
      change St _ _ _ [[(p1, .cells #[.slice A116 t105.2.L.length c117] 71 (0, 0))], G118, [(p0, .cells #[.slice A95 t84.2.l.length c96] 108 (0, 0))] ++ (G97), [(b22, .cells #[.bool a2.Other, .bool a2.Near, .bool a2.None, .int .i64 a2.What, .int .i64 a2.Prog, .int .i64 a2.Vers, .int .i64 a2.Proc, .slice A2_1 a2.Procs.length c2_1, .string (bs a2.Args)] 74 (0, 0))], G125] at S253
      have hO254 : ObjO 71 Registry71.rp p1 t105.2 ([(p1, .cells #[.slice A116 t105.2.L.length c117] 71 (0, 0))] ++ (G118)) := ⟨_, _, ⟨A116, c117, G118, rfl, hO119, rfl⟩, rfl⟩
      have S255 : St _ _ _ [[(p1, .cells #[.slice A116 t105.2.L.length c117] 71 (0, 0))] ++ (G118), [(p0, .cells #[.slice A95 t84.2.l.length c96] 108 (0, 0))] ++ (G97), [(b22, .cells #[.bool a2.Other, .bool a2.Near, .bool a2.None, .int .i64 a2.What, .int .i64 a2.Prog, .int .i64 a2.Vers, .int .i64 a2.Proc, .slice A2_1 a2.Procs.length c2_1, .string (bs a2.Args)] 74 (0, 0))], G125] := S253.objs (by simp)
      have S256 := S255.front 1 rfl
      change St _ _ _ [[(p0, .cells #[.slice A95 t84.2.l.length c96] 108 (0, 0))] ++ (G97), [(p1, .cells #[.slice A116 t105.2.L.length c117] 71 (0, 0))] ++ (G118), [(b22, .cells #[.bool a2.Other, .bool a2.Near, .bool a2.None, .int .i64 a2.What, .int .i64 a2.Prog, .int .i64 a2.Vers, .int .i64 a2.Proc, .slice A2_1 a2.Procs.length c2_1, .string (bs a2.Args)] 74 (0, 0))], G125] at S256
      exact ⟨[(p0, .cells #[.slice A95 t84.2.l.length c96] 108 (0, 0))] ++ (G97), [(p1, .cells #[.slice A116 t105.2.L.length c117] 71 (0, 0))] ++ (G118), rfl, hO250, hO254, St.keep (As := [[(p0, .cells #[.slice A95 t84.2.l.length c96] 108 (0, 0))] ++ (G97), [(p1, .cells #[.slice A116 t105.2.L.length c117] 71 (0, 0))] ++ (G118)]) S256⟩

end Go.Proofs.Ytpdpfiaediadgaa
