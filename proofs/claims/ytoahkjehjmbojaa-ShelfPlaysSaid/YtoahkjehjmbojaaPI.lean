/- Functions and their walks (printed by auto.py over the engine). -/
import Derived.Test.YtoahkjehjmbojaaProg
import Derived.Test.YtoahkjehjmbojaaPH
namespace Go.Proofs.Ytoahkjehjmbojaa
open Go Go.Eng
set_option linter.unusedSimpArgs false
set_option linter.unusedVariables false

theorem T.call40 : Callable Try.prog 40 := Callable.mk Try.func40 (by kernel_rfl) (by kernel_rfl)
theorem T.call51 : Callable Try.prog 51 := Callable.mk Try.func51 (by kernel_rfl) (by kernel_rfl)
theorem T.call52 : Callable Try.prog 52 := Callable.mk Try.func52 (by kernel_rfl) (by kernel_rfl)
theorem T.call53 : Callable Try.prog 53 := Callable.mk Try.func53 (by kernel_rfl) (by kernel_rfl)
theorem T.call55 : Callable Try.prog 55 := Callable.mk Try.func55 (by kernel_rfl) (by kernel_rfl)
theorem T.call56 : Callable Try.prog 56 := Callable.mk Try.func56 (by kernel_rfl) (by kernel_rfl)
theorem T.call57 : Callable Try.prog 57 := Callable.mk Try.func57 (by kernel_rfl) (by kernel_rfl)
theorem T.el33 : slEl Try.prog 33 = some 1 := by kernel_rfl
theorem T.el98 : slEl Try.prog 98 = some 1 := by kernel_rfl
theorem T.elt98 : Elt Try.prog 98 107 1 8 := elt_mk (z := .pointer none) Try.underlying98 (by kernel_rfl) rfl
theorem T.fld116_1 : fldOff Try.prog 116 1 = some 1 := by kernel_rfl



def law_SPlays.j2 (q265 : Nat) (t9 : Bool) (l244 : List Side) (l249 : List (List KeyS)) (l254 : List (List KeyS)) (l259 : List (List KeyS)) (x262 : Int) : Option Bool := (Option.bind (idx l244 0) fun x551 => (Option.bind (sd_alike q265 x551) fun t590 => (Option.bind (idx (l244.set (0 : Int).toNat t590.2) 1) fun x623 => (Option.bind (sd_alike q265 x623) fun t661 => (if t9 = true then (if t590.1 = true then (if t661.1 = true then (Option.bind (bs_still q265 (⟨l249, l254, l259, x262⟩ : BookS)) fun t694 => (some t694.1)) else (some false)) else (some false)) else (some false))))))
def law_SPlays.l2 : Nat → List OpS → Bool → List Side → Int → List (List KeyS) → List (List KeyS) → List (List KeyS) → Int → Option Bool
  | 0, _, _, _, _, _, _, _, _ => none
  | k291 + 1, a2, t9, l269, x272, l275, l280, l285, x288 => (if x272 < (a2.length : Int) then (Option.bind (idx a2 x272) fun x301 => (Option.bind (sh_pick k291 x301.On 4) fun t315 => (Option.bind (idx l269 (w64 (Int.tdiv t315 3))) fun x320 => (if (x320.r).isSome = true then (Option.bind (x320.r) fun x358 => (Option.bind (idx a2 x272) fun x375 => (if (x320.s).isSome = true then (Option.bind (x320.s) fun x390 => (Option.bind (sd_step k291 x390 x358 x320.asked x320.was x375 (⟨l275, l280, l285, x288⟩ : BookS)) fun t415 => (if t415.1 = true then (if (Int.tmod x272 4) = 3 then (Option.bind (bs_still k291 t415.2.1) fun t480 => (if t480.1 = true then (law_SPlays.l2 k291 a2 t9 (l269.set (w64 (Int.tdiv t315 3)).toNat (⟨(some t415.2.2.1), (some t415.2.2.2.1), (t415.2.2.2.2.1), (t415.2.2.2.2.2)⟩ : Side)) (w64 (x272 + 1)) t480.2.free t480.2.want t480.2.all t480.2.lists) else (some false))) else (law_SPlays.l2 k291 a2 t9 (l269.set (w64 (Int.tdiv t315 3)).toNat (⟨(some t415.2.2.1), (some t415.2.2.2.1), (t415.2.2.2.2.1), (t415.2.2.2.2.2)⟩ : Side)) (w64 (x272 + 1)) t415.2.1.free t415.2.1.want t415.2.1.all t415.2.1.lists)) else (some false)))) else none))) else (law_SPlays.l2 k291 a2 t9 (l269.set (w64 (Int.tdiv t315 3)).toNat (⟨x320.s, none, x320.asked, x320.was⟩ : Side)) (w64 (x272 + 1)) l275 l280 l285 x288))))) else (law_SPlays.j2 k291 t9 l269 l275 l280 l285 x288))
def law_SPlays.j1 (q27 : Nat) (a2 : List OpS) (t9 : Bool) (l22 : List Side) : Option Bool := (law_SPlays.l2 q27 a2 t9 l22 0 [] [] ([] : List (List KeyS)) 0)
def law_SPlays.l1 : Nat → Int → Int → List OpS → Bool → List Side → Int → Option Bool
  | 0, _, _, _, _, _, _ => none
  | k38 + 1, a0, a1, a2, t9, l32, x35 => (if x35 < 2 then (Option.bind (idx ([a0, a1] : List Int) x35) fun x45 => (Option.bind (sk_New k38 x45) fun t59 => (Option.bind (idx ([a0, a1] : List Int) x35) fun x67 => (Option.bind (rk_New k38 x67) fun t81 => (if t59.2 = t81.2 then (if (t59.1).isSome = true then (Option.bind (t59.1) fun x91 => (if (t81.1).isSome = true then (Option.bind (t81.1) fun x109 => (Option.bind (catN 68719476736 l32 ([(⟨(some x91), (some x109), [], []⟩ : Side)] : List Side)) fun l151 => (law_SPlays.l1 k38 a0 a1 a2 t9 l151 (w64 (x35 + 1))))) else (some false))) else (if (t81.1).isSome = true then (Option.bind (t81.1) fun x178 => (some false)) else (Option.bind (catN 68719476736 l32 ([(⟨none, none, [], []⟩ : Side)] : List Side)) fun l220 => (law_SPlays.l1 k38 a0 a1 a2 t9 l220 (w64 (x35 + 1)))))) else (some false)))))) else (law_SPlays.j1 k38 a2 t9 l32))
def law_SPlays (k : Nat) (a0 : Int) (a1 : Int) (a2 : List OpS) : Option Bool := (Option.bind (sh_weighs k a2) fun t3 => (if 2147483647 < t3 then (some true) else (Option.bind (sh_awake k) fun t9 => (law_SPlays.l1 k a0 a1 a2 t9 [] 0))))
set_option maxRecDepth 100000 in
set_option maxHeartbeats 1000000 in
theorem law_SPlays_calls (k : Nat) (a0 : Int) (a1 : Int) (a2 : List OpS) {A2 : Option Addr} {c2 : Nat} {F2 : Nat → Prop} {w : World} (hR2 : SlR OpS.rp w F2 A2 c2 a2) (hF2 : ∀ b, F2 b → NK w [] b) {r_ : Bool} (h_ : law_SPlays k a0 a1 a2 = some r_) :
    Calls Try.prog 10 [.int .i64 a0, .int .i64 a1, .slice A2 a2.length c2].toArray w fun e w' => e = .returned (.bool r_) ∧ St w (KS []) w' [] := by
 have hF := h_
 clear h_
 unfold law_SPlays at hF
 have S := St.ofFalse (As := []) (St.init0 w)
 refine enter 124 [(0, .int .i64 a0), (1, .int .i64 a1), (2, .slice A2 a2.length c2)] Try.func10 rfl rfl rfl rfl ?_
 refine WCode.seq ?_
 refine WCode.region ?_
 refine WOps.p (G.assign rfl) rfl ?_
 refine WOps.nil ?_
 refine WEx.then_ ?_
 refine WCode.seq ?_
 refine WCode.seq ?_
 refine WCode.region ?_
 refine WOps.p (G.move rfl) rfl ?_
 obtain ⟨t3, hc4, hF⟩ := bind_some hF
 refine WOps.call T.call51 (evs_cons rfl evs_nil) rfl ?_
 refine (sh_weighs_calls k a2 (hR2.ext (S.keepF hF2)) (St.outF (Bs := []) S hF2) hc4).mono ?_
 rintro _ w5 ⟨rfl, T6⟩
 have S7 := St.callN (As := []) S T6
 change St _ _ _ [] at S7
 refine ⟨_, rfl, ?_⟩
 refine WOps.p (G.gtr rfl rfl rfl) rfl ?_
 refine WOps.nil ?_
 refine WEx.then_ ?_
 rcases ite_some hF with ⟨h8, hF⟩ | ⟨h8, hF⟩
 ·
  refine WCode.cond_t (kb (b := decide (2147483647 < t3)) rfl (decide_eq_true h8)) ?_
  refine WCode.seq ?_
  refine WCode.region ?_
  refine WOps.p (G.assign rfl) rfl ?_
  refine WOps.nil ?_
  refine WEx.then_ ?_
  refine WCode.ret ?_
  refine WEx.then_ret ?_
  obtain rfl := some_eq hF
  refine WEx.ret1 rfl rfl ?_
  exact ⟨rfl, St.keep (As := []) S7⟩
 ·
  refine WCode.cond_f (kb (b := decide (2147483647 < t3)) rfl (decide_eq_false h8)) ?_
  refine WCode.skip ?_
  refine WEx.then_ ?_
  refine WCode.seq ?_
  refine WCode.region ?_
  obtain ⟨t9, hc10, hF⟩ := bind_some hF
  refine WOps.call T.call40 evs_nil rfl ?_
  refine (sh_awake_calls k hc10).mono ?_
  rintro _ w11 ⟨rfl, T12⟩
  have S13 := St.callN (As := []) S7 T12
  change St _ _ _ [] at S13
  refine ⟨_, rfl, ?_⟩
  refine WOps.p (G.assign rfl) rfl ?_
  refine WOps.nil ?_
  refine WEx.then_ ?_
  refine WCode.seq ?_
  refine WCode.region ?_
  refine WOps.p (G.assign rfl) rfl ?_
  refine WOps.nil ?_
  refine WEx.then_ ?_
  refine WCode.seq ?_
  refine WCode.region ?_
  refine WOps.p (G.move rfl) rfl ?_
  refine WOps.p (G.move rfl) rfl ?_
  obtain ⟨b14, w15, E16, S17, X18, L19⟩ := St.lit S13 (P := Try.prog) (t := 33) (e := 3) (n := 2) (vs := [(0, .int .i64 a0), (1, .int .i64 a1)]) (cs := #[.int .i64 a0, .int .i64 a1]) (by kernel_rfl)
  change St _ _ _ [[(b14, .cells #[.int .i64 a0, .int .i64 a1] 3 (0, 0))]] at S17
  refine WOps.e (E16 (evp_cons rfl (evp_cons rfl evp_nil))) rfl ?_
  refine WOps.p (G.assign rfl) rfl ?_
  refine WOps.nil ?_
  refine WEx.then_ ?_
  refine WCode.forget (l' := [(2, .slice A2 a2.length c2), (7, .bool t9), (8, .slice none 0 0), (9, .slice (some ⟨b14, 0, none⟩) ([a0, a1] : List Int).length 2)]) ⟨rfl, rfl, rfl, rfl, trivial⟩ ?_
  refine WCode.cutseq (fun l_ w_ => ∃ q27 : Nat, ∃ A20 : Option Addr, ∃ c21 : Nat, ∃ l22 : List Side, ∃ G23 : Grp, l_ = [(2, .slice A2 a2.length c2), (7, .bool t9), (8, .slice A20 l22.length c21)] ∧ law_SPlays.j1 q27 a2 t9 l22 = some r_ ∧ (SlO 107 (Rp.ptr 110 Side.rp) (.slice A20 l22.length c21) l22 G23) ∧ St w (KS []) w_ [G23]) ?_ ?_
  ·
   refine WCode.seq ?_
   refine WCode.region ?_
   refine WOps.p (G.assign rfl) rfl ?_
   refine WOps.nil ?_
   refine WEx.then_ ?_
   refine WCode.block ?_
   have hO29 : SlO 3 (Rp.int .i64) (.slice (some ⟨b14, 0, none⟩) ([a0, a1] : List Int).length 2) ([a0, a1] : List Int) ([(b14, .cells #[.int .i64 a0, .int .i64 a1] 3 (0, 0))] ++ []) := SlO.lit (GM := []) ⟨_, _, [], [], rfl, rfl, ⟨rfl, rfl⟩, ⟨_, _, [], [], rfl, rfl, ⟨rfl, rfl⟩, ⟨rfl, rfl⟩⟩⟩ rfl (Nat.le_of_ble_eq_true rfl) (Nat.le_of_ble_eq_true rfl)
   rw [List.append_nil] at hO29
   have S40 := S17.emp
   have S42 := S40.front 1 rfl
   change St _ _ _ [[(b14, .cells #[.int .i64 a0, .int .i64 a1] 3 (0, 0))], ([] : Grp)] at S42
   refine WCode.forget (l' := [(2, .slice A2 a2.length c2), (7, .bool t9), (8, .slice none 0 0), (9, .slice (some ⟨b14, 0, none⟩) ([a0, a1] : List Int).length 2), (10, .int .i64 0)]) ⟨rfl, rfl, rfl, rfl, rfl, trivial⟩ ?_
   refine WCode.loop (fun n_ l_ w_ => ∃ A30 : Option Addr, ∃ c31 : Nat, ∃ l32 : List Side, ∃ G33 : Grp, ∃ x35 : Int, l_ = [(2, .slice A2 a2.length c2), (7, .bool t9), (8, .slice A30 l32.length c31), (9, .slice (some ⟨b14, 0, none⟩) ([a0, a1] : List Int).length 2), (10, .int .i64 x35)] ∧ law_SPlays.l1 n_ a0 a1 a2 t9 l32 x35 = some r_ ∧ (SlO 107 (Rp.ptr 110 Side.rp) (.slice A30 l32.length c31) l32 G33) ∧ St w (KS []) w_ [[(b14, .cells #[.int .i64 a0, .int .i64 a1] 3 (0, 0))], G33]) k ⟨none, 0, [], ([] : Grp), 0, rfl, hF, (SlO.nil 107 (Rp.ptr 110 Side.rp)), S42⟩ ?_
   rintro n39 _ w36 ⟨A30, c31, l32, G33, x35, rfl, hF, hO34, S37⟩
   obtain _ | k38 := n39
   · exact nomatch (show (none : Option Bool) = some r_ from hF)
   rw [law_SPlays.l1] at hF
   refine WCode.seq ?_
   refine WCode.seq ?_
   refine WCode.region ?_
   refine WOps.p (G.move rfl) rfl ?_
   refine WOps.p (G.lss rfl rfl rfl) rfl ?_
   refine WOps.nil ?_
   refine WEx.then_ ?_
   rcases ite_some hF with ⟨h44, hF⟩ | ⟨h44, hF⟩
   ·
    refine WCode.cond_t (kb (b := decide (x35 < 2)) rfl (decide_eq_true h44)) ?_
    refine WCode.skip ?_
    refine WEx.then_ ?_
    refine WCode.seq ?_
    refine WCode.block ?_
    refine WCode.seq ?_
    refine WCode.region ?_
    refine WOps.p (G.move rfl) rfl ?_
    refine WOps.p (G.move rfl) rfl ?_
    obtain ⟨x45, hc46, hF⟩ := bind_some hF
    obtain ⟨j47, ej48, hj49, hl50⟩ := idx_spec hc46
    obtain ⟨b51, o52, cs53, eA54, hf55, hc56, hr57⟩ := SlR.at_ (hO29.rd (fun b o hb => S37.grp 0 rfl hb)) hj49
    have hq58 : cs53 = [.int .i64 x45] := hr57
    subst hq58
    change cellsAt _ _ (o52 + j47 * 1) [.int .i64 x45] at hc56
    refine WOps.p (G.idx T.el33 rfl eA54 rfl ej48 hl50) rfl ?_
    refine WOps.r (G.load1 T.one3 rfl (cellsAt.at0 hc56)) rfl ?_
    obtain ⟨t59, hc60, hF⟩ := bind_some hF
    refine WOps.call T.call52 (evs_cons rfl evs_nil) rfl ?_
    refine (sk_New_calls k38 x45 hc60).mono ?_
    rintro _ w61 ⟨v64, G65, rfl, hO66, T62⟩
    have S63 := St.callN (As := []) S37 T62
    change St _ _ _ [G65, [(b14, .cells #[.int .i64 a0, .int .i64 a1] 3 (0, 0))], G33] at S63
    refine ⟨_, rfl, ?_⟩
    refine WOps.p (G.move rfl) rfl ?_
    refine WOps.p (G.extract rfl rfl) rfl ?_
    refine WOps.p (G.extract rfl rfl) rfl ?_
    refine WOps.p (G.assign rfl) rfl ?_
    refine WOps.p (G.assign rfl) rfl ?_
    refine WOps.nil ?_
    refine WEx.then_ ?_
    refine WCode.forget (l' := [(2, .slice A2 a2.length c2), (7, .bool t9), (8, .slice A30 l32.length c31), (9, .slice (some ⟨b14, 0, none⟩) ([a0, a1] : List Int).length 2), (10, .int .i64 x35), (11, v64), (12, .int .i64 t59.2)]) ⟨rfl, rfl, rfl, rfl, rfl, rfl, rfl, trivial⟩ ?_
    refine WCode.seq ?_
    refine WCode.region ?_
    refine WOps.p (G.move rfl) rfl ?_
    refine WOps.p (G.move rfl) rfl ?_
    obtain ⟨x67, hc68, hF⟩ := bind_some hF
    obtain ⟨j69, ej70, hj71, hl72⟩ := idx_spec hc68
    obtain ⟨b73, o74, cs75, eA76, hf77, hc78, hr79⟩ := SlR.at_ (hO29.rd (fun b o hb => S63.grp 1 rfl hb)) hj71
    have hq80 : cs75 = [.int .i64 x67] := hr79
    subst hq80
    change cellsAt _ _ (o74 + j69 * 1) [.int .i64 x67] at hc78
    refine WOps.p (G.idx T.el33 rfl eA76 rfl ej70 hl72) rfl ?_
    refine WOps.r (G.load1 T.one3 rfl (cellsAt.at0 hc78)) rfl ?_
    obtain ⟨t81, hc82, hF⟩ := bind_some hF
    refine WOps.call T.call53 (evs_cons rfl evs_nil) rfl ?_
    refine (rk_New_calls k38 x67 hc82).mono ?_
    rintro _ w83 ⟨v86, G87, rfl, hO88, T84⟩
    have S85 := St.callN (As := []) S63 T84
    change St _ _ _ [G87, G65, [(b14, .cells #[.int .i64 a0, .int .i64 a1] 3 (0, 0))], G33] at S85
    refine ⟨_, rfl, ?_⟩
    refine WOps.p (G.move rfl) rfl ?_
    refine WOps.p (G.extract rfl rfl) rfl ?_
    refine WOps.p (G.extract rfl rfl) rfl ?_
    refine WOps.p (G.assign rfl) rfl ?_
    refine WOps.p (G.assign rfl) rfl ?_
    refine WOps.nil ?_
    refine WEx.then_ ?_
    refine WCode.seq ?_
    refine WCode.seq ?_
    refine WCode.region ?_
    refine WOps.p (G.move rfl) rfl ?_
    refine WOps.p (G.move rfl) rfl ?_
    refine WOps.p (G.neq rfl rfl rfl) rfl ?_
    refine WOps.p (G.move rfl) rfl ?_
    rcases ite_some hF with ⟨h89, hF⟩ | ⟨h89, hF⟩
    ·
     refine WOps.on rfl (kbl (b := !(decide (t59.2 = t81.2))) rfl (show (!(decide (t59.2 = t81.2))) = false from by rw [(decide_eq_true h89)]; rfl)) ?_
     refine WOps.p (G.move rfl) rfl ?_
     rcases ite_some hF with ⟨h90, hF⟩ | ⟨h90, hF⟩
     ·
      refine WOps.on rfl (kbl (b := !(decide (t59.2 = t81.2))) rfl (show (!(decide (t59.2 = t81.2))) = false from by rw [(decide_eq_true h89)]; rfl)) ?_
      obtain ⟨x91, hc92, hF⟩ := bind_some hF
      have ho93 := hO66
      rw [hc92] at ho93
      obtain ⟨p94, hv95, hO96⟩ := ho93
      subst hv95
      have S97 := S85.front 1 rfl
      change St _ _ _ [G65, G87, [(b14, .cells #[.int .i64 a0, .int .i64 a1] 3 (0, 0))], G33] at S97
      obtain ⟨cs98, G99, ho100, hg101⟩ := hO96
      obtain ⟨A102, c103, G104, rfl, hO105, hq106⟩ := ho100
      have S107 : St _ _ _ [[(p94, .cells #[.int .i64 x91.most, .slice A102 x91.pairs.length c103] 169 (0, 0))], G104, G87, [(b14, .cells #[.int .i64 a0, .int .i64 a1] 3 (0, 0))], G33] := S97.objs (by rw [hg101, hq106]; simp)
      refine WOps.p (G.eqp_nil Try.underlying99 rfl rfl rfl) rfl ?_
      refine WOps.on rfl (kbl (b := !(decide (t59.2 = t81.2))) rfl (show (!(decide (t59.2 = t81.2))) = false from by rw [(decide_eq_true h89)]; rfl)) ?_
      refine WOps.p (G.move rfl) rfl ?_
      rcases ite_some hF with ⟨h108, hF⟩ | ⟨h108, hF⟩
      ·
       refine WOps.on rfl (kbl (b := !(decide (t59.2 = t81.2))) rfl (show (!(decide (t59.2 = t81.2))) = false from by rw [(decide_eq_true h89)]; rfl)) ?_
       obtain ⟨x109, hc110, hF⟩ := bind_some hF
       have ho111 := hO88
       rw [hc110] at ho111
       obtain ⟨p112, hv113, hO114⟩ := ho111
       subst hv113
       have S115 := S107.front 2 rfl
       change St _ _ _ [G87, [(p94, .cells #[.int .i64 x91.most, .slice A102 x91.pairs.length c103] 169 (0, 0))], G104, [(b14, .cells #[.int .i64 a0, .int .i64 a1] 3 (0, 0))], G33] at S115
       obtain ⟨cs116, G117, ho118, hg119⟩ := hO114
       obtain ⟨A120, c121, G122, rfl, hO123, hq124⟩ := ho118
       have S125 : St _ _ _ [[(p112, .cells #[.int .i64 x109.Most, .slice A120 x109.L.length c121] 172 (0, 0))], G122, [(p94, .cells #[.int .i64 x91.most, .slice A102 x91.pairs.length c103] 169 (0, 0))], G104, [(b14, .cells #[.int .i64 a0, .int .i64 a1] 3 (0, 0))], G33] := S115.objs (by rw [hg119, hq124]; simp)
       refine WOps.p (G.eqp_nil Try.underlying104 rfl rfl rfl) rfl ?_
       refine WOps.on rfl (kbl (b := !(decide (t59.2 = t81.2))) rfl (show (!(decide (t59.2 = t81.2))) = false from by rw [(decide_eq_true h89)]; rfl)) ?_
       refine WOps.p (G.neqb Try.underlying4 rfl rfl rfl) rfl ?_
       refine WOps.p (G.pick_f (kb (b := !(decide (t59.2 = t81.2))) rfl (show (!(decide (t59.2 = t81.2))) = false from by rw [(decide_eq_true h89)]; rfl)) rfl) rfl ?_
       refine WOps.nil ?_
       refine WEx.then_ ?_
       refine WCode.forget (l' := [(2, .slice A2 a2.length c2), (7, .bool t9), (8, .slice A30 l32.length c31), (9, .slice (some ⟨b14, 0, none⟩) ([a0, a1] : List Int).length 2), (10, .int .i64 x35), (11, .pointer (some ⟨p94, 0, none⟩)), (13, .pointer (some ⟨p112, 0, none⟩)), (53, .pointer (some ⟨p94, 0, none⟩)), (54, .bool false), (55, .pointer (some ⟨p112, 0, none⟩)), (56, .bool false), (57, .bool false), (58, .bool false)]) ⟨rfl, rfl, rfl, rfl, rfl, rfl, rfl, rfl, rfl, rfl, rfl, rfl, rfl, trivial⟩ ?_
       refine WCode.cond_f rfl ?_
       refine WCode.skip ?_
       refine WEx.then_ ?_
       refine WCode.region ?_
       refine WOps.p (G.move rfl) rfl ?_
       refine WOps.p (G.move rfl) rfl ?_
       refine WOps.p (G.move rfl) rfl ?_
       refine WOps.p (G.build (cells := #[.pointer (some ⟨p94, 0, none⟩), .pointer (some ⟨p112, 0, none⟩), .slice none 0 0, .slice none 0 0]) (evp_spec (evp_cons rfl (evp_cons rfl evp_nil))) (by kernel_rfl)) rfl ?_
       obtain ⟨b126, w127, E128, S129, X130, L131⟩ := St.box S125 Try.prog 110 (.agg #[.pointer (some ⟨p94, 0, none⟩), .pointer (some ⟨p112, 0, none⟩), .slice none 0 0, .slice none 0 0])
       change St _ _ _ [[(b126, .cells #[.pointer (some ⟨p94, 0, none⟩), .pointer (some ⟨p112, 0, none⟩), .slice none 0 0, .slice none 0 0] 110 (0, 0))], [(p112, .cells #[.int .i64 x109.Most, .slice A120 x109.L.length c121] 172 (0, 0))], G122, [(p94, .cells #[.int .i64 x91.most, .slice A102 x91.pairs.length c103] 169 (0, 0))], G104, [(b14, .cells #[.int .i64 a0, .int .i64 a1] 3 (0, 0))], G33] at S129
       refine WOps.e (E128 rfl) rfl ?_
       obtain ⟨b132, w133, E134, S135, X136, L137⟩ := St.lit S129 (P := Try.prog) (t := 98) (e := 107) (n := 1) (vs := [(0, .pointer (some ⟨b126, 0, none⟩))]) (cs := #[.pointer (some ⟨b126, 0, none⟩)]) (by kernel_rfl)
       change St _ _ _ [[(b132, .cells #[.pointer (some ⟨b126, 0, none⟩)] 107 (0, 0))], [(b126, .cells #[.pointer (some ⟨p94, 0, none⟩), .pointer (some ⟨p112, 0, none⟩), .slice none 0 0, .slice none 0 0] 110 (0, 0))], [(p112, .cells #[.int .i64 x109.Most, .slice A120 x109.L.length c121] 172 (0, 0))], G122, [(p94, .cells #[.int .i64 x91.most, .slice A102 x91.pairs.length c103] 169 (0, 0))], G104, [(b14, .cells #[.int .i64 a0, .int .i64 a1] 3 (0, 0))], G33] at S135
       refine WOps.e (E134 (evp_cons rfl evp_nil)) rfl ?_
       have S138 := (S135.front 5 rfl).front 5 rfl
       change St _ _ _ [[(p94, .cells #[.int .i64 x91.most, .slice A102 x91.pairs.length c103] 169 (0, 0))], G104, [(b132, .cells #[.pointer (some ⟨b126, 0, none⟩)] 107 (0, 0))], [(b126, .cells #[.pointer (some ⟨p94, 0, none⟩), .pointer (some ⟨p112, 0, none⟩), .slice none 0 0, .slice none 0 0] 110 (0, 0))], [(p112, .cells #[.int .i64 x109.Most, .slice A120 x109.L.length c121] 172 (0, 0))], G122, [(b14, .cells #[.int .i64 a0, .int .i64 a1] 3 (0, 0))], G33] at S138
       have hO139 : ObjO 169 ShK.rp p94 x91 ([(p94, .cells #[.int .i64 x91.most, .slice A102 x91.pairs.length c103] 169 (0, 0))] ++ (G104)) := ⟨_, _, ⟨A102, c103, G104, rfl, hO105, rfl⟩, rfl⟩
       have S140 : St _ _ _ [[(p94, .cells #[.int .i64 x91.most, .slice A102 x91.pairs.length c103] 169 (0, 0))] ++ (G104), [(b132, .cells #[.pointer (some ⟨b126, 0, none⟩)] 107 (0, 0))], [(b126, .cells #[.pointer (some ⟨p94, 0, none⟩), .pointer (some ⟨p112, 0, none⟩), .slice none 0 0, .slice none 0 0] 110 (0, 0))], [(p112, .cells #[.int .i64 x109.Most, .slice A120 x109.L.length c121] 172 (0, 0))], G122, [(b14, .cells #[.int .i64 a0, .int .i64 a1] 3 (0, 0))], G33] := S138.objs (by simp)
       have S141 := (S140.front 4 rfl).front 4 rfl
       change St _ _ _ [[(p112, .cells #[.int .i64 x109.Most, .slice A120 x109.L.length c121] 172 (0, 0))], G122, [(p94, .cells #[.int .i64 x91.most, .slice A102 x91.pairs.length c103] 169 (0, 0))] ++ (G104), [(b132, .cells #[.pointer (some ⟨b126, 0, none⟩)] 107 (0, 0))], [(b126, .cells #[.pointer (some ⟨p94, 0, none⟩), .pointer (some ⟨p112, 0, none⟩), .slice none 0 0, .slice none 0 0] 110 (0, 0))], [(b14, .cells #[.int .i64 a0, .int .i64 a1] 3 (0, 0))], G33] at S141
       have hO142 : ObjO 172 ShR.rp p112 x109 ([(p112, .cells #[.int .i64 x109.Most, .slice A120 x109.L.length c121] 172 (0, 0))] ++ (G122)) := ⟨_, _, ⟨A120, c121, G122, rfl, hO123, rfl⟩, rfl⟩
       have S143 : St _ _ _ [[(p112, .cells #[.int .i64 x109.Most, .slice A120 x109.L.length c121] 172 (0, 0))] ++ (G122), [(p94, .cells #[.int .i64 x91.most, .slice A102 x91.pairs.length c103] 169 (0, 0))] ++ (G104), [(b132, .cells #[.pointer (some ⟨b126, 0, none⟩)] 107 (0, 0))], [(b126, .cells #[.pointer (some ⟨p94, 0, none⟩), .pointer (some ⟨p112, 0, none⟩), .slice none 0 0, .slice none 0 0] 110 (0, 0))], [(b14, .cells #[.int .i64 a0, .int .i64 a1] 3 (0, 0))], G33] := S141.objs (by simp)
       have S144 := S143.emp
       have S146 := S144.emp
       have S148 : St _ _ _ [[(b126, .cells #[.pointer (some ⟨p94, 0, none⟩), .pointer (some ⟨p112, 0, none⟩), .slice none 0 0, .slice none 0 0] 110 (0, 0))], [(p94, .cells #[.int .i64 x91.most, .slice A102 x91.pairs.length c103] 169 (0, 0))] ++ (G104), [(p112, .cells #[.int .i64 x109.Most, .slice A120 x109.L.length c121] 172 (0, 0))] ++ (G122), ([] : Grp), ([] : Grp), [(b132, .cells #[.pointer (some ⟨b126, 0, none⟩)] 107 (0, 0))], [(b14, .cells #[.int .i64 a0, .int .i64 a1] 3 (0, 0))], G33] := St.reord S146 [5, 3, 2, 1, 0, 4, 6, 7] 8 rfl (by decide) rfl
       have hO149 : ObjO 110 Side.rp b126 (⟨(some x91), (some x109), [], []⟩ : Side) ([(b126, .cells #[.pointer (some ⟨p94, 0, none⟩), .pointer (some ⟨p112, 0, none⟩), .slice none 0 0, .slice none 0 0] 110 (0, 0))] ++ ([(p94, .cells #[.int .i64 x91.most, .slice A102 x91.pairs.length c103] 169 (0, 0))] ++ (G104) ++ ([(p112, .cells #[.int .i64 x109.Most, .slice A120 x109.L.length c121] 172 (0, 0))] ++ (G122) ++ (([] : Grp) ++ (([] : Grp)))))) := ⟨_, _, ⟨(.pointer (some ⟨p94, 0, none⟩)), [(p94, .cells #[.int .i64 x91.most, .slice A102 x91.pairs.length c103] 169 (0, 0))] ++ (G104), (.pointer (some ⟨p112, 0, none⟩)), [(p112, .cells #[.int .i64 x109.Most, .slice A120 x109.L.length c121] 172 (0, 0))] ++ (G122), none, 0, ([] : Grp), none, 0, ([] : Grp), rfl, ⟨_, rfl, hO139⟩, ⟨_, rfl, hO142⟩, (SlO.nil 212 Asked.rp), (SlO.nil 212 Asked.rp), rfl⟩, rfl⟩
       have S150 : St _ _ _ [[(b126, .cells #[.pointer (some ⟨p94, 0, none⟩), .pointer (some ⟨p112, 0, none⟩), .slice none 0 0, .slice none 0 0] 110 (0, 0))] ++ ([(p94, .cells #[.int .i64 x91.most, .slice A102 x91.pairs.length c103] 169 (0, 0))] ++ (G104) ++ ([(p112, .cells #[.int .i64 x109.Most, .slice A120 x109.L.length c121] 172 (0, 0))] ++ (G122) ++ (([] : Grp) ++ (([] : Grp))))), [(b132, .cells #[.pointer (some ⟨b126, 0, none⟩)] 107 (0, 0))], [(b14, .cells #[.int .i64 a0, .int .i64 a1] 3 (0, 0))], G33] := S148.objs (by simp)
       obtain ⟨l151, hc152, hF⟩ := bind_some hF
       have S153 := S150.front 3 rfl
       change St _ _ _ [G33, [(b126, .cells #[.pointer (some ⟨p94, 0, none⟩), .pointer (some ⟨p112, 0, none⟩), .slice none 0 0, .slice none 0 0] 110 (0, 0))] ++ ([(p94, .cells #[.int .i64 x91.most, .slice A102 x91.pairs.length c103] 169 (0, 0))] ++ (G104) ++ ([(p112, .cells #[.int .i64 x109.Most, .slice A120 x109.L.length c121] 172 (0, 0))] ++ (G122) ++ (([] : Grp) ++ (([] : Grp))))), [(b132, .cells #[.pointer (some ⟨b126, 0, none⟩)] 107 (0, 0))], [(b14, .cells #[.int .i64 a0, .int .i64 a1] 3 (0, 0))]] at S153
       have S154 : St _ _ _ [G33, ([(b126, .cells #[.pointer (some ⟨p94, 0, none⟩), .pointer (some ⟨p112, 0, none⟩), .slice none 0 0, .slice none 0 0] 110 (0, 0))] ++ ([(p94, .cells #[.int .i64 x91.most, .slice A102 x91.pairs.length c103] 169 (0, 0))] ++ (G104) ++ ([(p112, .cells #[.int .i64 x109.Most, .slice A120 x109.L.length c121] 172 (0, 0))] ++ (G122) ++ (([] : Grp) ++ (([] : Grp)))))) ++ ([]), [(b132, .cells #[.pointer (some ⟨b126, 0, none⟩)] 107 (0, 0))], [(b14, .cells #[.int .i64 a0, .int .i64 a1] 3 (0, 0))]] := S153.objs (by simp)
       obtain ⟨A155, c156, G157, w158, E159, hO160, S161, hk162⟩ := St.app (P := Try.prog) (r := (Rp.ptr 110 Side.rp)) (n := 68719476736) (M := ([(⟨(some x91), (some x109), [], []⟩ : Side)] : List Side)) S154 T.elt98 rfl hO34 (Rd.of_blk (S154.blk 2 rfl) (n := 1) (sz := 1) rfl) ⟨[.pointer (some ⟨b126, 0, none⟩)], _, ([(b126, .cells #[.pointer (some ⟨p94, 0, none⟩), .pointer (some ⟨p112, 0, none⟩), .slice none 0 0, .slice none 0 0] 110 (0, 0))] ++ ([(p94, .cells #[.int .i64 x91.most, .slice A102 x91.pairs.length c103] 169 (0, 0))] ++ (G104) ++ ([(p112, .cells #[.int .i64 x109.Most, .slice A120 x109.L.length c121] 172 (0, 0))] ++ (G122) ++ (([] : Grp) ++ (([] : Grp)))))), _, rfl, rfl, ⟨_, rfl, hO149⟩, ⟨rfl, rfl⟩⟩ rfl hc152
       change St _ _ _ [G157, [(b132, .cells #[.pointer (some ⟨b126, 0, none⟩)] 107 (0, 0))], [(b14, .cells #[.int .i64 a0, .int .i64 a1] 3 (0, 0))]] at S161
       refine WOps.e (E159 rfl rfl) rfl ?_
       refine WOps.p (G.assign rfl) rfl ?_
       refine WOps.nil ?_
       refine WEx.in_normal ?_
       refine WEx.then_ ?_
       refine WCode.forget (l' := [(2, .slice A2 a2.length c2), (7, .bool t9), (8, .slice A155 l151.length c156), (9, .slice (some ⟨b14, 0, none⟩) ([a0, a1] : List Int).length 2), (10, .int .i64 x35), (53, .pointer (some ⟨p94, 0, none⟩)), (54, .bool false), (55, .pointer (some ⟨p112, 0, none⟩)), (56, .bool false), (57, .bool false)]) ⟨rfl, rfl, rfl, rfl, rfl, rfl, rfl, rfl, rfl, rfl, trivial⟩ ?_
       refine WCode.region ?_
       refine WOps.p (G.move rfl) rfl ?_
       refine WOps.p (G.add rfl rfl (r := (w64 (x35 + 1))) rfl) rfl ?_
       refine WOps.p (G.assign rfl) rfl ?_
       refine WOps.nil ?_
       have S163 := S161.front 2 rfl
       change St _ _ _ [[(b14, .cells #[.int .i64 a0, .int .i64 a1] 3 (0, 0))], G157, [(b132, .cells #[.pointer (some ⟨b126, 0, none⟩)] 107 (0, 0))]] at S163
       have S164 := St.keep (As := [[(b14, .cells #[.int .i64 a0, .int .i64 a1] 3 (0, 0))], G157]) S163
       refine WEx.again _ _ (by omega) ?_ ⟨A155, c156, l151, G157, w64 (x35 + 1), rfl, hF, hO160, S164⟩
       exact ⟨rfl, rfl, rfl, rfl, rfl, trivial⟩
      ·
       refine WOps.on rfl (kbl (b := !(decide (t59.2 = t81.2))) rfl (show (!(decide (t59.2 = t81.2))) = false from by rw [(decide_eq_true h89)]; rfl)) ?_
       have hn166 := Option.not_isSome_iff_eq_none.1 h108
       have ho165 := hO88
       rw [hn166] at ho165
       obtain ⟨hv167, hg168⟩ := ho165
       subst hv167
       have S170 := S107.front 2 rfl
       change St _ _ _ [G87, [(p94, .cells #[.int .i64 x91.most, .slice A102 x91.pairs.length c103] 169 (0, 0))], G104, [(b14, .cells #[.int .i64 a0, .int .i64 a1] 3 (0, 0))], G33] at S170
       have S169 : St _ _ _ [[(p94, .cells #[.int .i64 x91.most, .slice A102 x91.pairs.length c103] 169 (0, 0))], G104, [(b14, .cells #[.int .i64 a0, .int .i64 a1] 3 (0, 0))], G33] := S170.objs (by rw [hg168]; simp)
       refine WOps.p (G.eqp_nil Try.underlying104 rfl rfl rfl) rfl ?_
       refine WOps.on rfl (kbl (b := !(decide (t59.2 = t81.2))) rfl (show (!(decide (t59.2 = t81.2))) = false from by rw [(decide_eq_true h89)]; rfl)) ?_
       refine WOps.p (G.neqb Try.underlying4 rfl rfl rfl) rfl ?_
       refine WOps.p (G.pick_f (kb (b := !(decide (t59.2 = t81.2))) rfl (show (!(decide (t59.2 = t81.2))) = false from by rw [(decide_eq_true h89)]; rfl)) rfl) rfl ?_
       refine WOps.nil ?_
       refine WEx.then_ ?_
       refine WCode.forget (l' := [(2, .slice A2 a2.length c2), (7, .bool t9), (8, .slice A30 l32.length c31), (9, .slice (some ⟨b14, 0, none⟩) ([a0, a1] : List Int).length 2), (10, .int .i64 x35), (11, .pointer (some ⟨p94, 0, none⟩)), (13, .pointer none), (53, .pointer (some ⟨p94, 0, none⟩)), (54, .bool false), (55, .pointer none), (56, .bool true), (57, .bool true), (58, .bool true)]) ⟨rfl, rfl, rfl, rfl, rfl, rfl, rfl, rfl, rfl, rfl, rfl, rfl, rfl, trivial⟩ ?_
       refine WCode.cond_t rfl ?_
       refine WCode.seq ?_
       refine WCode.region ?_
       refine WOps.p (G.assign rfl) rfl ?_
       refine WOps.nil ?_
       refine WEx.then_ ?_
       refine WCode.forget (l' := [(6, .bool false)]) ⟨rfl, trivial⟩ ?_
       refine WCode.ret ?_
       refine WEx.then_ret ?_
       refine WEx.in_ret ?_
       refine WEx.then_ret ?_
       refine WEx.then_ret ?_
       refine WEx.in_ret ?_
       refine WEx.then_ret ?_
       obtain rfl := some_eq hF
       refine WEx.ret1 rfl rfl ?_
       exact ⟨rfl, St.keep (As := []) S169⟩
     ·
      refine WOps.on rfl (kbl (b := !(decide (t59.2 = t81.2))) rfl (show (!(decide (t59.2 = t81.2))) = false from by rw [(decide_eq_true h89)]; rfl)) ?_
      have hn172 := Option.not_isSome_iff_eq_none.1 h90
      have ho171 := hO66
      rw [hn172] at ho171
      obtain ⟨hv173, hg174⟩ := ho171
      subst hv173
      have S176 := S85.front 1 rfl
      change St _ _ _ [G65, G87, [(b14, .cells #[.int .i64 a0, .int .i64 a1] 3 (0, 0))], G33] at S176
      have S175 : St _ _ _ [G87, [(b14, .cells #[.int .i64 a0, .int .i64 a1] 3 (0, 0))], G33] := S176.objs (by rw [hg174]; simp)
      refine WOps.p (G.eqp_nil Try.underlying99 rfl rfl rfl) rfl ?_
      refine WOps.on rfl (kbl (b := !(decide (t59.2 = t81.2))) rfl (show (!(decide (t59.2 = t81.2))) = false from by rw [(decide_eq_true h89)]; rfl)) ?_
      refine WOps.p (G.move rfl) rfl ?_
      rcases ite_some hF with ⟨h177, hF⟩ | ⟨h177, hF⟩
      ·
       refine WOps.on rfl (kbl (b := !(decide (t59.2 = t81.2))) rfl (show (!(decide (t59.2 = t81.2))) = false from by rw [(decide_eq_true h89)]; rfl)) ?_
       obtain ⟨x178, hc179, hF⟩ := bind_some hF
       have ho180 := hO88
       rw [hc179] at ho180
       obtain ⟨p181, hv182, hO183⟩ := ho180
       subst hv182
       obtain ⟨cs184, G185, ho186, hg187⟩ := hO183
       obtain ⟨A188, c189, G190, rfl, hO191, hq192⟩ := ho186
       have S193 : St _ _ _ [[(p181, .cells #[.int .i64 x178.Most, .slice A188 x178.L.length c189] 172 (0, 0))], G190, [(b14, .cells #[.int .i64 a0, .int .i64 a1] 3 (0, 0))], G33] := S175.objs (by rw [hg187, hq192]; simp)
       refine WOps.p (G.eqp_nil Try.underlying104 rfl rfl rfl) rfl ?_
       refine WOps.on rfl (kbl (b := !(decide (t59.2 = t81.2))) rfl (show (!(decide (t59.2 = t81.2))) = false from by rw [(decide_eq_true h89)]; rfl)) ?_
       refine WOps.p (G.neqb Try.underlying4 rfl rfl rfl) rfl ?_
       refine WOps.p (G.pick_f (kb (b := !(decide (t59.2 = t81.2))) rfl (show (!(decide (t59.2 = t81.2))) = false from by rw [(decide_eq_true h89)]; rfl)) rfl) rfl ?_
       refine WOps.nil ?_
       refine WEx.then_ ?_
       refine WCode.forget (l' := [(2, .slice A2 a2.length c2), (7, .bool t9), (8, .slice A30 l32.length c31), (9, .slice (some ⟨b14, 0, none⟩) ([a0, a1] : List Int).length 2), (10, .int .i64 x35), (11, .pointer none), (13, .pointer (some ⟨p181, 0, none⟩)), (53, .pointer none), (54, .bool true), (55, .pointer (some ⟨p181, 0, none⟩)), (56, .bool false), (57, .bool true), (58, .bool true)]) ⟨rfl, rfl, rfl, rfl, rfl, rfl, rfl, rfl, rfl, rfl, rfl, rfl, rfl, trivial⟩ ?_
       refine WCode.cond_t rfl ?_
       refine WCode.seq ?_
       refine WCode.region ?_
       refine WOps.p (G.assign rfl) rfl ?_
       refine WOps.nil ?_
       refine WEx.then_ ?_
       refine WCode.forget (l' := [(6, .bool false)]) ⟨rfl, trivial⟩ ?_
       refine WCode.ret ?_
       refine WEx.then_ret ?_
       refine WEx.in_ret ?_
       refine WEx.then_ret ?_
       refine WEx.then_ret ?_
       refine WEx.in_ret ?_
       refine WEx.then_ret ?_
       obtain rfl := some_eq hF
       refine WEx.ret1 rfl rfl ?_
       exact ⟨rfl, St.keep (As := []) S193⟩
      ·
       refine WOps.on rfl (kbl (b := !(decide (t59.2 = t81.2))) rfl (show (!(decide (t59.2 = t81.2))) = false from by rw [(decide_eq_true h89)]; rfl)) ?_
       have hn195 := Option.not_isSome_iff_eq_none.1 h177
       have ho194 := hO88
       rw [hn195] at ho194
       obtain ⟨hv196, hg197⟩ := ho194
       subst hv196
       have S198 : St _ _ _ [[(b14, .cells #[.int .i64 a0, .int .i64 a1] 3 (0, 0))], G33] := S175.objs (by rw [hg197]; simp)
       refine WOps.p (G.eqp_nil Try.underlying104 rfl rfl rfl) rfl ?_
       refine WOps.on rfl (kbl (b := !(decide (t59.2 = t81.2))) rfl (show (!(decide (t59.2 = t81.2))) = false from by rw [(decide_eq_true h89)]; rfl)) ?_
       refine WOps.p (G.neqb Try.underlying4 rfl rfl rfl) rfl ?_
       refine WOps.p (G.pick_f (kb (b := !(decide (t59.2 = t81.2))) rfl (show (!(decide (t59.2 = t81.2))) = false from by rw [(decide_eq_true h89)]; rfl)) rfl) rfl ?_
       refine WOps.nil ?_
       refine WEx.then_ ?_
       refine WCode.forget (l' := [(2, .slice A2 a2.length c2), (7, .bool t9), (8, .slice A30 l32.length c31), (9, .slice (some ⟨b14, 0, none⟩) ([a0, a1] : List Int).length 2), (10, .int .i64 x35), (11, .pointer none), (13, .pointer none), (53, .pointer none), (54, .bool true), (55, .pointer none), (56, .bool true), (57, .bool false), (58, .bool false)]) ⟨rfl, rfl, rfl, rfl, rfl, rfl, rfl, rfl, rfl, rfl, rfl, rfl, rfl, trivial⟩ ?_
       refine WCode.cond_f rfl ?_
       refine WCode.skip ?_
       refine WEx.then_ ?_
       refine WCode.region ?_
       refine WOps.p (G.move rfl) rfl ?_
       refine WOps.p (G.move rfl) rfl ?_
       refine WOps.p (G.move rfl) rfl ?_
       refine WOps.p (G.build (cells := #[.pointer none, .pointer none, .slice none 0 0, .slice none 0 0]) (evp_spec (evp_cons rfl (evp_cons rfl evp_nil))) (by kernel_rfl)) rfl ?_
       obtain ⟨b199, w200, E201, S202, X203, L204⟩ := St.box S198 Try.prog 110 (.agg #[.pointer none, .pointer none, .slice none 0 0, .slice none 0 0])
       change St _ _ _ [[(b199, .cells #[.pointer none, .pointer none, .slice none 0 0, .slice none 0 0] 110 (0, 0))], [(b14, .cells #[.int .i64 a0, .int .i64 a1] 3 (0, 0))], G33] at S202
       refine WOps.e (E201 rfl) rfl ?_
       obtain ⟨b205, w206, E207, S208, X209, L210⟩ := St.lit S202 (P := Try.prog) (t := 98) (e := 107) (n := 1) (vs := [(0, .pointer (some ⟨b199, 0, none⟩))]) (cs := #[.pointer (some ⟨b199, 0, none⟩)]) (by kernel_rfl)
       change St _ _ _ [[(b205, .cells #[.pointer (some ⟨b199, 0, none⟩)] 107 (0, 0))], [(b199, .cells #[.pointer none, .pointer none, .slice none 0 0, .slice none 0 0] 110 (0, 0))], [(b14, .cells #[.int .i64 a0, .int .i64 a1] 3 (0, 0))], G33] at S208
       refine WOps.e (E207 (evp_cons rfl evp_nil)) rfl ?_
       have S211 := S208.emp
       have S212 := S211.emp
       have S213 := S212.emp
       have S215 := S213.emp
       have S217 : St _ _ _ [[(b199, .cells #[.pointer none, .pointer none, .slice none 0 0, .slice none 0 0] 110 (0, 0))], ([] : Grp), ([] : Grp), ([] : Grp), ([] : Grp), [(b205, .cells #[.pointer (some ⟨b199, 0, none⟩)] 107 (0, 0))], [(b14, .cells #[.int .i64 a0, .int .i64 a1] 3 (0, 0))], G33] := St.reord S215 [5, 3, 2, 1, 0, 4, 6, 7] 8 rfl (by decide) rfl
       have hO218 : ObjO 110 Side.rp b199 (⟨none, none, [], []⟩ : Side) ([(b199, .cells #[.pointer none, .pointer none, .slice none 0 0, .slice none 0 0] 110 (0, 0))] ++ (([] : Grp) ++ (([] : Grp) ++ (([] : Grp) ++ (([] : Grp)))))) := ⟨_, _, ⟨(.pointer none), ([] : Grp), (.pointer none), ([] : Grp), none, 0, ([] : Grp), none, 0, ([] : Grp), rfl, ⟨rfl, rfl⟩, ⟨rfl, rfl⟩, (SlO.nil 212 Asked.rp), (SlO.nil 212 Asked.rp), rfl⟩, rfl⟩
       have S219 : St _ _ _ [[(b199, .cells #[.pointer none, .pointer none, .slice none 0 0, .slice none 0 0] 110 (0, 0))] ++ (([] : Grp) ++ (([] : Grp) ++ (([] : Grp) ++ (([] : Grp))))), [(b205, .cells #[.pointer (some ⟨b199, 0, none⟩)] 107 (0, 0))], [(b14, .cells #[.int .i64 a0, .int .i64 a1] 3 (0, 0))], G33] := S217.objs (by simp)
       obtain ⟨l220, hc221, hF⟩ := bind_some hF
       have S222 := S219.front 3 rfl
       change St _ _ _ [G33, [(b199, .cells #[.pointer none, .pointer none, .slice none 0 0, .slice none 0 0] 110 (0, 0))] ++ (([] : Grp) ++ (([] : Grp) ++ (([] : Grp) ++ (([] : Grp))))), [(b205, .cells #[.pointer (some ⟨b199, 0, none⟩)] 107 (0, 0))], [(b14, .cells #[.int .i64 a0, .int .i64 a1] 3 (0, 0))]] at S222
       have S223 : St _ _ _ [G33, ([(b199, .cells #[.pointer none, .pointer none, .slice none 0 0, .slice none 0 0] 110 (0, 0))] ++ (([] : Grp) ++ (([] : Grp) ++ (([] : Grp) ++ (([] : Grp)))))) ++ ([]), [(b205, .cells #[.pointer (some ⟨b199, 0, none⟩)] 107 (0, 0))], [(b14, .cells #[.int .i64 a0, .int .i64 a1] 3 (0, 0))]] := S222.objs (by simp)
       obtain ⟨A224, c225, G226, w227, E228, hO229, S230, hk231⟩ := St.app (P := Try.prog) (r := (Rp.ptr 110 Side.rp)) (n := 68719476736) (M := ([(⟨none, none, [], []⟩ : Side)] : List Side)) S223 T.elt98 rfl hO34 (Rd.of_blk (S223.blk 2 rfl) (n := 1) (sz := 1) rfl) ⟨[.pointer (some ⟨b199, 0, none⟩)], _, ([(b199, .cells #[.pointer none, .pointer none, .slice none 0 0, .slice none 0 0] 110 (0, 0))] ++ (([] : Grp) ++ (([] : Grp) ++ (([] : Grp) ++ (([] : Grp)))))), _, rfl, rfl, ⟨_, rfl, hO218⟩, ⟨rfl, rfl⟩⟩ rfl hc221
       change St _ _ _ [G226, [(b205, .cells #[.pointer (some ⟨b199, 0, none⟩)] 107 (0, 0))], [(b14, .cells #[.int .i64 a0, .int .i64 a1] 3 (0, 0))]] at S230
       refine WOps.e (E228 rfl rfl) rfl ?_
       refine WOps.p (G.assign rfl) rfl ?_
       refine WOps.nil ?_
       refine WEx.in_normal ?_
       refine WEx.then_ ?_
       refine WCode.forget (l' := [(2, .slice A2 a2.length c2), (7, .bool t9), (8, .slice A224 l220.length c225), (9, .slice (some ⟨b14, 0, none⟩) ([a0, a1] : List Int).length 2), (10, .int .i64 x35), (53, .pointer none), (54, .bool true), (55, .pointer none), (56, .bool true), (57, .bool false)]) ⟨rfl, rfl, rfl, rfl, rfl, rfl, rfl, rfl, rfl, rfl, trivial⟩ ?_
       refine WCode.region ?_
       refine WOps.p (G.move rfl) rfl ?_
       refine WOps.p (G.add rfl rfl (r := (w64 (x35 + 1))) rfl) rfl ?_
       refine WOps.p (G.assign rfl) rfl ?_
       refine WOps.nil ?_
       have S232 := S230.front 2 rfl
       change St _ _ _ [[(b14, .cells #[.int .i64 a0, .int .i64 a1] 3 (0, 0))], G226, [(b205, .cells #[.pointer (some ⟨b199, 0, none⟩)] 107 (0, 0))]] at S232
       have S233 := St.keep (As := [[(b14, .cells #[.int .i64 a0, .int .i64 a1] 3 (0, 0))], G226]) S232
       refine WEx.again _ _ (by omega) ?_ ⟨A224, c225, l220, G226, w64 (x35 + 1), rfl, hF, hO229, S233⟩
       exact ⟨rfl, rfl, rfl, rfl, rfl, trivial⟩
    ·
     refine WOps.off rfl (kbl (b := !(decide (t59.2 = t81.2))) rfl (show (!(decide (t59.2 = t81.2))) = true from by rw [(decide_eq_false h89)]; rfl)) rfl rfl ?_
     refine WOps.off rfl (kbl (b := !(decide (t59.2 = t81.2))) rfl (show (!(decide (t59.2 = t81.2))) = true from by rw [(decide_eq_false h89)]; rfl)) rfl rfl ?_
     refine WOps.off rfl (kbl (b := !(decide (t59.2 = t81.2))) rfl (show (!(decide (t59.2 = t81.2))) = true from by rw [(decide_eq_false h89)]; rfl)) rfl rfl ?_
     refine WOps.off rfl (kbl (b := !(decide (t59.2 = t81.2))) rfl (show (!(decide (t59.2 = t81.2))) = true from by rw [(decide_eq_false h89)]; rfl)) rfl rfl ?_
     refine WOps.off rfl (kbl (b := !(decide (t59.2 = t81.2))) rfl (show (!(decide (t59.2 = t81.2))) = true from by rw [(decide_eq_false h89)]; rfl)) rfl rfl ?_
     refine WOps.p (G.pick_t (kb (b := !(decide (t59.2 = t81.2))) rfl (show (!(decide (t59.2 = t81.2))) = true from by rw [(decide_eq_false h89)]; rfl)) rfl) rfl ?_
     refine WOps.nil ?_
     refine WEx.then_ ?_
     refine WCode.forget (l' := [(2, .slice A2 a2.length c2), (7, .bool t9), (8, .slice A30 l32.length c31), (9, .slice (some ⟨b14, 0, none⟩) ([a0, a1] : List Int).length 2), (10, .int .i64 x35), (11, v64), (13, v86), (53, undef), (54, undef), (55, undef), (56, undef), (57, undef), (58, .bool true)]) ⟨rfl, rfl, rfl, rfl, rfl, rfl, rfl, rfl, rfl, rfl, rfl, rfl, rfl, trivial⟩ ?_
     refine WCode.cond_t rfl ?_
     refine WCode.seq ?_
     refine WCode.region ?_
     refine WOps.p (G.assign rfl) rfl ?_
     refine WOps.nil ?_
     refine WEx.then_ ?_
     refine WCode.forget (l' := [(6, .bool false)]) ⟨rfl, trivial⟩ ?_
     refine WCode.ret ?_
     refine WEx.then_ret ?_
     refine WEx.in_ret ?_
     refine WEx.then_ret ?_
     refine WEx.then_ret ?_
     refine WEx.in_ret ?_
     refine WEx.then_ret ?_
     obtain rfl := some_eq hF
     refine WEx.ret1 rfl rfl ?_
     exact ⟨rfl, St.keep (As := []) S85⟩
   ·
    refine WCode.cond_f (kb (b := decide (x35 < 2)) rfl (decide_eq_false h44)) ?_
    refine WCode.exit ?_
    refine WEx.then_exit ?_
    refine WEx.then_exit ?_
    refine WEx.in_exit ?_
    have S234 := S37.front 1 rfl
    change St _ _ _ [G33, [(b14, .cells #[.int .i64 a0, .int .i64 a1] 3 (0, 0))]] at S234
    have S235 := St.keep (As := [G33]) S234
    refine WEx.cutend _ ?_ ⟨k38, A30, c31, l32, G33, rfl, hF, hO34, S235⟩
    exact ⟨rfl, rfl, rfl, trivial⟩
  ·
   rintro _ w25 ⟨q27, A20, c21, l22, G23, rfl, hF, hO24, S26⟩
   unfold law_SPlays.j1 at hF
   refine WCode.seq ?_
   refine WCode.region ?_
   refine WOps.p (G.build (cells := #[.slice none 0 0, .slice none 0 0, .slice none 0 0, .int .i64 0]) (evp_spec (evp_nil)) (by kernel_rfl)) rfl ?_
   obtain ⟨b236, w237, E238, S239, X240, L241⟩ := St.box S26 Try.prog 114 (.agg #[.slice none 0 0, .slice none 0 0, .slice none 0 0, .int .i64 0])
   change St _ _ _ [[(b236, .cells #[.slice none 0 0, .slice none 0 0, .slice none 0 0, .int .i64 0] 114 (0, 0))], G23] at S239
   refine WOps.e (E238 rfl) rfl ?_
   refine WOps.p (G.assign rfl) rfl ?_
   refine WOps.nil ?_
   refine WEx.then_ ?_
   refine WCode.cutseq (fun l_ w_ => ∃ q265 : Nat, ∃ A242 : Option Addr, ∃ c243 : Nat, ∃ l244 : List Side, ∃ G245 : Grp, ∃ A247 : Option Addr, ∃ c248 : Nat, ∃ l249 : List (List KeyS), ∃ G250 : Grp, ∃ A252 : Option Addr, ∃ c253 : Nat, ∃ l254 : List (List KeyS), ∃ G255 : Grp, ∃ A257 : Option Addr, ∃ c258 : Nat, ∃ l259 : List (List KeyS), ∃ G260 : Grp, ∃ x262 : Int, l_ = [(7, .bool t9), (8, .slice A242 l244.length c243), (15, .pointer (some ⟨b236, 0, none⟩))] ∧ law_SPlays.j2 q265 t9 l244 l249 l254 l259 x262 = some r_ ∧ (SlO 107 (Rp.ptr 110 Side.rp) (.slice A242 l244.length c243) l244 G245) ∧ (SlO 176 (Rp.slice 103 KeyS.rp) (.slice A247 l249.length c248) l249 G250) ∧ (SlO 176 (Rp.slice 103 KeyS.rp) (.slice A252 l254.length c253) l254 G255) ∧ (PoolO 176 103 KeyS.rp A257 c258 l259 G260) ∧ St w (KS []) w_ [[(b236, .cells #[.slice A247 l249.length c248, .slice A252 l254.length c253, .slice A257 l259.length c258, .int .i64 x262] 114 (0, 0))], G245, G250, G255, G260]) ?_ ?_
   ·
    refine WCode.seq ?_
    refine WCode.region ?_
    refine WOps.p (G.assign rfl) rfl ?_
    refine WOps.nil ?_
    refine WEx.then_ ?_
    refine WCode.block ?_
    have S293 := S239.emp
    have S295 := S293.emp
    have S297 := S295.emp
    have S298 : St _ _ _ [[(b236, .cells #[.slice none 0 0, .slice none 0 0, .slice none 0 0, .int .i64 0] 114 (0, 0))], G23, ([] : Grp), ([] : Grp), ([] : Grp)] := St.reord S297 [3, 4, 2, 1, 0] 5 rfl (by decide) rfl
    refine WCode.forget (l' := [(2, .slice A2 a2.length c2), (7, .bool t9), (8, .slice A20 l22.length c21), (15, .pointer (some ⟨b236, 0, none⟩)), (16, .int .i64 0)]) ⟨rfl, rfl, rfl, rfl, rfl, trivial⟩ ?_
    refine WCode.loop (fun n_ l_ w_ => ∃ A267 : Option Addr, ∃ c268 : Nat, ∃ l269 : List Side, ∃ G270 : Grp, ∃ x272 : Int, ∃ A273 : Option Addr, ∃ c274 : Nat, ∃ l275 : List (List KeyS), ∃ G276 : Grp, ∃ A278 : Option Addr, ∃ c279 : Nat, ∃ l280 : List (List KeyS), ∃ G281 : Grp, ∃ A283 : Option Addr, ∃ c284 : Nat, ∃ l285 : List (List KeyS), ∃ G286 : Grp, ∃ x288 : Int, l_ = [(2, .slice A2 a2.length c2), (7, .bool t9), (8, .slice A267 l269.length c268), (15, .pointer (some ⟨b236, 0, none⟩)), (16, .int .i64 x272)] ∧ law_SPlays.l2 n_ a2 t9 l269 x272 l275 l280 l285 x288 = some r_ ∧ (SlO 107 (Rp.ptr 110 Side.rp) (.slice A267 l269.length c268) l269 G270) ∧ (SlO 176 (Rp.slice 103 KeyS.rp) (.slice A273 l275.length c274) l275 G276) ∧ (SlO 176 (Rp.slice 103 KeyS.rp) (.slice A278 l280.length c279) l280 G281) ∧ (PoolO 176 103 KeyS.rp A283 c284 l285 G286) ∧ St w (KS []) w_ [[(b236, .cells #[.slice A273 l275.length c274, .slice A278 l280.length c279, .slice A283 l285.length c284, .int .i64 x288] 114 (0, 0))], G270, G276, G281, G286]) q27 ⟨A20, c21, l22, G23, 0, none, 0, [], ([] : Grp), none, 0, [], ([] : Grp), none, 0, ([] : List (List KeyS)), ([] : Grp), 0, rfl, hF, hO24, (SlO.nil 176 (Rp.slice 103 KeyS.rp)), (SlO.nil 176 (Rp.slice 103 KeyS.rp)), (PoolO.nil (e := 176) (e' := 103) (r := KeyS.rp)), S298⟩ ?_
    rintro n292 _ w289 ⟨A267, c268, l269, G270, x272, A273, c274, l275, G276, A278, c279, l280, G281, A283, c284, l285, G286, x288, rfl, hF, hO271, hO277, hO282, hO287, S290⟩
    obtain _ | k291 := n292
    · exact nomatch (show (none : Option Bool) = some r_ from hF)
    rw [law_SPlays.l2] at hF
    refine WCode.seq ?_
    refine WCode.seq ?_
    refine WCode.region ?_
    refine WOps.p (G.move rfl) rfl ?_
    refine WOps.p (G.move rfl) rfl ?_
    refine WOps.p (G.len T.el96 rfl) rfl ?_
    refine WOps.p (G.lss rfl rfl rfl) rfl ?_
    refine WOps.nil ?_
    refine WEx.then_ ?_
    rcases ite_some hF with ⟨h300, hF⟩ | ⟨h300, hF⟩
    ·
     refine WCode.cond_t (kb (b := decide (x272 < (a2.length : Int))) rfl (decide_eq_true h300)) ?_
     refine WCode.skip ?_
     refine WEx.then_ ?_
     refine WCode.seq ?_
     refine WCode.block ?_
     refine WCode.seq ?_
     refine WCode.region ?_
     refine WOps.p (G.move rfl) rfl ?_
     refine WOps.p (G.move rfl) rfl ?_
     refine WOps.p (G.move rfl) rfl ?_
     obtain ⟨x301, hc302, hF⟩ := bind_some hF
     obtain ⟨j303, ej304, hj305, hl306⟩ := idx_spec hc302
     obtain ⟨b307, o308, cs309, eA310, hf311, hc312, hr313⟩ := SlR.at_ (hR2.ext (S290.keepF hF2)) hj305
     have hq314 : cs309 = [.int .i64 x301.Kind, .int .i64 x301.On, .string (bs x301.K.S), .int .i64 x301.K.N, .int .i64 x301.V, .int .i64 x301.N, .int .i64 x301.M] := hr313
     subst hq314
     change cellsAt _ _ (o308 + j303 * 7) [.int .i64 x301.Kind, .int .i64 x301.On, .string (bs x301.K.S), .int .i64 x301.K.N, .int .i64 x301.V, .int .i64 x301.N, .int .i64 x301.M] at hc312
     refine WOps.p (G.idx T.el96 rfl eA310 rfl ej304 hl306) rfl ?_
     refine WOps.p (G.field T.fld116_1 rfl (show o308 + j303 * 7 + 1 = o308 + j303 * 7 + 1 from rfl)) rfl ?_
     refine WOps.r (G.load1 T.one3 rfl (cellsAt.at hc312 1 rfl)) rfl ?_
     obtain ⟨t315, hc316, hF⟩ := bind_some hF
     refine WOps.call T.call54 (evs_cons rfl (evs_cons rfl evs_nil)) rfl ?_
     refine (sh_pick_calls k291 x301.On 4 hc316).mono ?_
     rintro _ w317 ⟨rfl, T318⟩
     have S319 := St.callN (As := []) S290 T318
     change St _ _ _ [[(b236, .cells #[.slice A273 l275.length c274, .slice A278 l280.length c279, .slice A283 l285.length c284, .int .i64 x288] 114 (0, 0))], G270, G276, G281, G286] at S319
     refine ⟨_, rfl, ?_⟩
     refine WOps.p (G.quok rfl rfl (by decide)) rfl ?_
     obtain ⟨x320, hc321, hF⟩ := bind_some hF
     have S322 := S319.front 1 rfl
     change St _ _ _ [G270, [(b236, .cells #[.slice A273 l275.length c274, .slice A278 l280.length c279, .slice A283 l285.length c284, .int .i64 x288] 114 (0, 0))], G276, G281, G286] at S322
     obtain ⟨j323, ej324, hj325, hl326⟩ := idx_spec hc321
     obtain ⟨p327, G328, G329, b330, o331, eA332, hc333, hO334, hH335, S336⟩ := St.focusP S322 hO271 hj325
     obtain ⟨cs337, G338, ho339, hg340⟩ := hO334
     obtain ⟨v341, G342, v344, G345, A347, c348, G349, A351, c352, G353, rfl, hO343, hO346, hO350, hO354, hq355⟩ := ho339
     have S356 : St _ _ _ [[(p327, .cells #[v341, v344, .slice A347 x320.asked.length c348, .slice A351 x320.was.length c352] 110 (0, 0))], G342, G345, G349, G353, G329, [(b236, .cells #[.slice A273 l275.length c274, .slice A278 l280.length c279, .slice A283 l285.length c284, .int .i64 x288] 114 (0, 0))], G276, G281, G286] := S336.objs (by rw [hg340, hq355]; simp)
     refine WOps.p (G.idx T.el98 rfl eA332 rfl ej324 hl326) rfl ?_
     refine WOps.r (G.load1 T.one107 rfl (cellsAt.at0 hc333)) rfl ?_
     refine WOps.p (G.assign rfl) rfl ?_
     refine WOps.nil ?_
     refine WEx.then_ ?_
     refine WCode.forget (l' := [(2, .slice A2 a2.length c2), (7, .bool t9), (8, .slice A267 l269.length c268), (15, .pointer (some ⟨b236, 0, none⟩)), (16, .int .i64 x272), (17, .pointer (some ⟨p327, 0, none⟩))]) ⟨rfl, rfl, rfl, rfl, rfl, rfl, trivial⟩ ?_
     refine WCode.seq ?_
     refine WCode.seq ?_
     refine WCode.region ?_
     refine WOps.p (G.move rfl) rfl ?_
     refine WOps.p (G.nilp rfl) rfl ?_
     refine WOps.p (G.field T.fld110_1 rfl (show 0 + 1 = 1 from rfl)) rfl ?_
     refine WOps.r (G.load1 T.one104 rfl (cell_blk (S356.blk 0 rfl) rfl)) rfl ?_
     rcases ite_some hF with ⟨h357, hF⟩ | ⟨h357, hF⟩
     ·
      obtain ⟨x358, hc359, hF⟩ := bind_some hF
      have ho360 := hO346
      rw [hc359] at ho360
      obtain ⟨p361, hv362, hO363⟩ := ho360
      subst hv362
      have S364 := S356.front 2 rfl
      change St _ _ _ [G345, [(p327, .cells #[v341, .pointer (some ⟨p361, 0, none⟩), .slice A347 x320.asked.length c348, .slice A351 x320.was.length c352] 110 (0, 0))], G342, G349, G353, G329, [(b236, .cells #[.slice A273 l275.length c274, .slice A278 l280.length c279, .slice A283 l285.length c284, .int .i64 x288] 114 (0, 0))], G276, G281, G286] at S364
      obtain ⟨cs365, G366, ho367, hg368⟩ := hO363
      obtain ⟨A369, c370, G371, rfl, hO372, hq373⟩ := ho367
      have S374 : St _ _ _ [[(p361, .cells #[.int .i64 x358.Most, .slice A369 x358.L.length c370] 172 (0, 0))], G371, [(p327, .cells #[v341, .pointer (some ⟨p361, 0, none⟩), .slice A347 x320.asked.length c348, .slice A351 x320.was.length c352] 110 (0, 0))], G342, G349, G353, G329, [(b236, .cells #[.slice A273 l275.length c274, .slice A278 l280.length c279, .slice A283 l285.length c284, .int .i64 x288] 114 (0, 0))], G276, G281, G286] := S364.objs (by rw [hg368, hq373]; simp)
      refine WOps.p (G.eqp_nil Try.underlying104 rfl rfl rfl) rfl ?_
      refine WOps.nil ?_
      refine WEx.then_ ?_
      refine WCode.cond_f rfl ?_
      refine WCode.skip ?_
      refine WEx.then_ ?_
      refine WCode.seq ?_
      refine WCode.region ?_
      refine WOps.p (G.move rfl) rfl ?_
      refine WOps.p (G.move rfl) rfl ?_
      refine WOps.p (G.move rfl) rfl ?_
      obtain ⟨x375, hc376, hF⟩ := bind_some hF
      obtain ⟨j377, ej378, hj379, hl380⟩ := idx_spec hc376
      obtain ⟨b381, o382, cs383, eA384, hf385, hc386, hr387⟩ := SlR.at_ (hR2.ext (S374.keepF hF2)) hj379
      have hq388 : cs383 = [.int .i64 x375.Kind, .int .i64 x375.On, .string (bs x375.K.S), .int .i64 x375.K.N, .int .i64 x375.V, .int .i64 x375.N, .int .i64 x375.M] := hr387
      subst hq388
      change cellsAt _ _ (o382 + j377 * 7) [.int .i64 x375.Kind, .int .i64 x375.On, .string (bs x375.K.S), .int .i64 x375.K.N, .int .i64 x375.V, .int .i64 x375.N, .int .i64 x375.M] at hc386
      refine WOps.p (G.idx T.el96 rfl eA384 rfl ej378 hl380) rfl ?_
      refine WOps.r (G.loada T.agg116_7 rfl (cs := [.int .i64 x375.Kind, .int .i64 x375.On, .string (bs x375.K.S), .int .i64 x375.K.N, .int .i64 x375.V, .int .i64 x375.N, .int .i64 x375.M]) hc386) rfl ?_
      refine WOps.p (G.move rfl) rfl ?_
      rcases ite_some hF with ⟨h389, hF⟩ | ⟨h389, hF⟩
      ·
       obtain ⟨x390, hc391, hF⟩ := bind_some hF
       have ho392 := hO343
       rw [hc391] at ho392
       obtain ⟨p393, hv394, hO395⟩ := ho392
       subst hv394
       have S396 := S374.front 3 rfl
       change St _ _ _ [G342, [(p361, .cells #[.int .i64 x358.Most, .slice A369 x358.L.length c370] 172 (0, 0))], G371, [(p327, .cells #[.pointer (some ⟨p393, 0, none⟩), .pointer (some ⟨p361, 0, none⟩), .slice A347 x320.asked.length c348, .slice A351 x320.was.length c352] 110 (0, 0))], G349, G353, G329, [(b236, .cells #[.slice A273 l275.length c274, .slice A278 l280.length c279, .slice A283 l285.length c284, .int .i64 x288] 114 (0, 0))], G276, G281, G286] at S396
       obtain ⟨cs397, G398, ho399, hg400⟩ := hO395
       obtain ⟨A401, c402, G403, rfl, hO404, hq405⟩ := ho399
       have S406 : St _ _ _ [[(p393, .cells #[.int .i64 x390.most, .slice A401 x390.pairs.length c402] 169 (0, 0))], G403, [(p361, .cells #[.int .i64 x358.Most, .slice A369 x358.L.length c370] 172 (0, 0))], G371, [(p327, .cells #[.pointer (some ⟨p393, 0, none⟩), .pointer (some ⟨p361, 0, none⟩), .slice A347 x320.asked.length c348, .slice A351 x320.was.length c352] 110 (0, 0))], G349, G353, G329, [(b236, .cells #[.slice A273 l275.length c274, .slice A278 l280.length c279, .slice A283 l285.length c284, .int .i64 x288] 114 (0, 0))], G276, G281, G286] := S396.objs (by rw [hg400, hq405]; simp)
       have hO407 : ObjO 169 ShK.rp p393 x390 ([(p393, .cells #[.int .i64 x390.most, .slice A401 x390.pairs.length c402] 169 (0, 0))] ++ (G403)) := ⟨_, _, ⟨A401, c402, G403, rfl, hO404, rfl⟩, rfl⟩
       have S408 : St _ _ _ [[(p393, .cells #[.int .i64 x390.most, .slice A401 x390.pairs.length c402] 169 (0, 0))] ++ (G403), [(p361, .cells #[.int .i64 x358.Most, .slice A369 x358.L.length c370] 172 (0, 0))], G371, [(p327, .cells #[.pointer (some ⟨p393, 0, none⟩), .pointer (some ⟨p361, 0, none⟩), .slice A347 x320.asked.length c348, .slice A351 x320.was.length c352] 110 (0, 0))], G349, G353, G329, [(b236, .cells #[.slice A273 l275.length c274, .slice A278 l280.length c279, .slice A283 l285.length c284, .int .i64 x288] 114 (0, 0))], G276, G281, G286] := S406.objs (by simp)
       have S409 := (S408.front 2 rfl).front 2 rfl
       change St _ _ _ [[(p361, .cells #[.int .i64 x358.Most, .slice A369 x358.L.length c370] 172 (0, 0))], G371, [(p393, .cells #[.int .i64 x390.most, .slice A401 x390.pairs.length c402] 169 (0, 0))] ++ (G403), [(p327, .cells #[.pointer (some ⟨p393, 0, none⟩), .pointer (some ⟨p361, 0, none⟩), .slice A347 x320.asked.length c348, .slice A351 x320.was.length c352] 110 (0, 0))], G349, G353, G329, [(b236, .cells #[.slice A273 l275.length c274, .slice A278 l280.length c279, .slice A283 l285.length c284, .int .i64 x288] 114 (0, 0))], G276, G281, G286] at S409
       have hO410 : ObjO 172 ShR.rp p361 x358 ([(p361, .cells #[.int .i64 x358.Most, .slice A369 x358.L.length c370] 172 (0, 0))] ++ (G371)) := ⟨_, _, ⟨A369, c370, G371, rfl, hO372, rfl⟩, rfl⟩
       have S411 : St _ _ _ [[(p361, .cells #[.int .i64 x358.Most, .slice A369 x358.L.length c370] 172 (0, 0))] ++ (G371), [(p393, .cells #[.int .i64 x390.most, .slice A401 x390.pairs.length c402] 169 (0, 0))] ++ (G403), [(p327, .cells #[.pointer (some ⟨p393, 0, none⟩), .pointer (some ⟨p361, 0, none⟩), .slice A347 x320.asked.length c348, .slice A351 x320.was.length c352] 110 (0, 0))], G349, G353, G329, [(b236, .cells #[.slice A273 l275.length c274, .slice A278 l280.length c279, .slice A283 l285.length c284, .int .i64 x288] 114 (0, 0))], G276, G281, G286] := S409.objs (by simp)
       have S412 : St _ _ _ [[(b236, .cells #[.slice A273 l275.length c274, .slice A278 l280.length c279, .slice A283 l285.length c284, .int .i64 x288] 114 (0, 0))], G276, G281, G286, [(p361, .cells #[.int .i64 x358.Most, .slice A369 x358.L.length c370] 172 (0, 0))] ++ (G371), [(p393, .cells #[.int .i64 x390.most, .slice A401 x390.pairs.length c402] 169 (0, 0))] ++ (G403), [(p327, .cells #[.pointer (some ⟨p393, 0, none⟩), .pointer (some ⟨p361, 0, none⟩), .slice A347 x320.asked.length c348, .slice A351 x320.was.length c352] 110 (0, 0))], G349, G353, G329] := St.reord S411 [6, 7, 8, 9, 0, 1, 2, 3, 4, 5] 10 rfl (by decide) rfl
       have hO413 : ObjO 114 BookS.rp b236 (⟨l275, l280, l285, x288⟩ : BookS) ([(b236, .cells #[.slice A273 l275.length c274, .slice A278 l280.length c279, .slice A283 l285.length c284, .int .i64 x288] 114 (0, 0))] ++ (G276 ++ (G281 ++ (G286)))) := ⟨_, _, ⟨A273, c274, G276, A278, c279, G281, A283, c284, G286, rfl, hO277, hO282, hO287, rfl⟩, rfl⟩
       have S414 : St _ _ _ [[(b236, .cells #[.slice A273 l275.length c274, .slice A278 l280.length c279, .slice A283 l285.length c284, .int .i64 x288] 114 (0, 0))] ++ (G276 ++ (G281 ++ (G286))), [(p361, .cells #[.int .i64 x358.Most, .slice A369 x358.L.length c370] 172 (0, 0))] ++ (G371), [(p393, .cells #[.int .i64 x390.most, .slice A401 x390.pairs.length c402] 169 (0, 0))] ++ (G403), [(p327, .cells #[.pointer (some ⟨p393, 0, none⟩), .pointer (some ⟨p361, 0, none⟩), .slice A347 x320.asked.length c348, .slice A351 x320.was.length c352] 110 (0, 0))], G349, G353, G329] := S412.objs (by simp)
       obtain ⟨t415, hc416, hF⟩ := bind_some hF
       have S417 : St _ _ _ [[(p327, .cells #[.pointer (some ⟨p393, 0, none⟩), .pointer (some ⟨p361, 0, none⟩), .slice A347 x320.asked.length c348, .slice A351 x320.was.length c352] 110 (0, 0))], [(p393, .cells #[.int .i64 x390.most, .slice A401 x390.pairs.length c402] 169 (0, 0))] ++ (G403), [(p361, .cells #[.int .i64 x358.Most, .slice A369 x358.L.length c370] 172 (0, 0))] ++ (G371), G349, G353, [(b236, .cells #[.slice A273 l275.length c274, .slice A278 l280.length c279, .slice A283 l285.length c284, .int .i64 x288] 114 (0, 0))] ++ (G276 ++ (G281 ++ (G286))), G329] := St.reord S414 [3, 2, 1, 4, 5, 0, 6] 7 rfl (by decide) rfl
       refine WOps.call T.call55 (evs_cons rfl (evs_cons rfl (evs_cons rfl evs_nil))) rfl ?_
       refine (sd_step_calls k291 x390 x358 x320.asked x320.was x375 (⟨l275, l280, l285, x288⟩ : BookS) hO407 hO410 hO350 hO354 hO413 hc416 (St.hpN (As := [[(p327, .cells #[.pointer (some ⟨p393, 0, none⟩), .pointer (some ⟨p361, 0, none⟩), .slice A347 x320.asked.length c348, .slice A351 x320.was.length c352] 110 (0, 0))], [(p393, .cells #[.int .i64 x390.most, .slice A401 x390.pairs.length c402] 169 (0, 0))] ++ (G403), [(p361, .cells #[.int .i64 x358.Most, .slice A369 x358.L.length c370] 172 (0, 0))] ++ (G371), G349, G353, [(b236, .cells #[.slice A273 l275.length c274, .slice A278 l280.length c279, .slice A283 l285.length c284, .int .i64 x288] 114 (0, 0))] ++ (G276 ++ (G281 ++ (G286)))]) S417)).mono ?_
       rintro _ w418 ⟨G421, G423, G425, A427, c428, G429, A431, c432, G433, rfl, hO422, hO424, hO426, hO430, hO434, T419⟩
       have S420 := St.callN (As := [[(p327, .cells #[.pointer (some ⟨p393, 0, none⟩), .pointer (some ⟨p361, 0, none⟩), .slice A347 x320.asked.length c348, .slice A351 x320.was.length c352] 110 (0, 0))], [(p393, .cells #[.int .i64 x390.most, .slice A401 x390.pairs.length c402] 169 (0, 0))] ++ (G403), [(p361, .cells #[.int .i64 x358.Most, .slice A369 x358.L.length c370] 172 (0, 0))] ++ (G371), G349, G353, [(b236, .cells #[.slice A273 l275.length c274, .slice A278 l280.length c279, .slice A283 l285.length c284, .int .i64 x288] 114 (0, 0))] ++ (G276 ++ (G281 ++ (G286)))]) S417 T419
       change St _ _ _ [G421, [(p327, .cells #[.pointer (some ⟨p393, 0, none⟩), .pointer (some ⟨p361, 0, none⟩), .slice A427 (t415.2.2.2.2.1).length c428, .slice A431 (t415.2.2.2.2.2).length c432] 110 (0, 0))], G423, G425, G429, G433, G329] at S420
       refine ⟨_, rfl, ?_⟩
       obtain ⟨cs435, G436, ho437, hg438⟩ := hO422
       obtain ⟨A439, c440, G441, A443, c444, G445, A447, c448, G449, rfl, hO442, hO446, hO450, hq451⟩ := ho437
       have S452 : St _ _ _ [[(b236, .cells #[.slice A439 t415.2.1.free.length c440, .slice A443 t415.2.1.want.length c444, .slice A447 t415.2.1.all.length c448, .int .i64 t415.2.1.lists] 114 (0, 0))], G441, G445, G449, [(p327, .cells #[.pointer (some ⟨p393, 0, none⟩), .pointer (some ⟨p361, 0, none⟩), .slice A427 (t415.2.2.2.2.1).length c428, .slice A431 (t415.2.2.2.2.2).length c432] 110 (0, 0))], G423, G425, G429, G433, G329] := S420.objs (by rw [hg438, hq451]; simp)
       have S453 := S452.front 5 rfl
       change St _ _ _ [G423, [(b236, .cells #[.slice A439 t415.2.1.free.length c440, .slice A443 t415.2.1.want.length c444, .slice A447 t415.2.1.all.length c448, .int .i64 t415.2.1.lists] 114 (0, 0))], G441, G445, G449, [(p327, .cells #[.pointer (some ⟨p393, 0, none⟩), .pointer (some ⟨p361, 0, none⟩), .slice A427 (t415.2.2.2.2.1).length c428, .slice A431 (t415.2.2.2.2.2).length c432] 110 (0, 0))], G425, G429, G433, G329] at S453
       obtain ⟨cs454, G455, ho456, hg457⟩ := hO424
       obtain ⟨A458, c459, G460, rfl, hO461, hq462⟩ := ho456
       have S463 : St _ _ _ [[(p393, .cells #[.int .i64 t415.2.2.1.most, .slice A458 t415.2.2.1.pairs.length c459] 169 (0, 0))], G460, [(b236, .cells #[.slice A439 t415.2.1.free.length c440, .slice A443 t415.2.1.want.length c444, .slice A447 t415.2.1.all.length c448, .int .i64 t415.2.1.lists] 114 (0, 0))], G441, G445, G449, [(p327, .cells #[.pointer (some ⟨p393, 0, none⟩), .pointer (some ⟨p361, 0, none⟩), .slice A427 (t415.2.2.2.2.1).length c428, .slice A431 (t415.2.2.2.2.2).length c432] 110 (0, 0))], G425, G429, G433, G329] := S453.objs (by rw [hg457, hq462]; simp)
       have S464 := S463.front 7 rfl
       change St _ _ _ [G425, [(p393, .cells #[.int .i64 t415.2.2.1.most, .slice A458 t415.2.2.1.pairs.length c459] 169 (0, 0))], G460, [(b236, .cells #[.slice A439 t415.2.1.free.length c440, .slice A443 t415.2.1.want.length c444, .slice A447 t415.2.1.all.length c448, .int .i64 t415.2.1.lists] 114 (0, 0))], G441, G445, G449, [(p327, .cells #[.pointer (some ⟨p393, 0, none⟩), .pointer (some ⟨p361, 0, none⟩), .slice A427 (t415.2.2.2.2.1).length c428, .slice A431 (t415.2.2.2.2.2).length c432] 110 (0, 0))], G429, G433, G329] at S464
       obtain ⟨cs465, G466, ho467, hg468⟩ := hO426
       obtain ⟨A469, c470, G471, rfl, hO472, hq473⟩ := ho467
       have S474 : St _ _ _ [[(p361, .cells #[.int .i64 t415.2.2.2.1.Most, .slice A469 t415.2.2.2.1.L.length c470] 172 (0, 0))], G471, [(p393, .cells #[.int .i64 t415.2.2.1.most, .slice A458 t415.2.2.1.pairs.length c459] 169 (0, 0))], G460, [(b236, .cells #[.slice A439 t415.2.1.free.length c440, .slice A443 t415.2.1.want.length c444, .slice A447 t415.2.1.all.length c448, .int .i64 t415.2.1.lists] 114 (0, 0))], G441, G445, G449, [(p327, .cells #[.pointer (some ⟨p393, 0, none⟩), .pointer (some ⟨p361, 0, none⟩), .slice A427 (t415.2.2.2.2.1).length c428, .slice A431 (t415.2.2.2.2.2).length c432] 110 (0, 0))], G429, G433, G329] := S464.objs (by rw [hg468, hq473]; simp)
       refine WOps.p (G.assign rfl) rfl ?_
       refine WOps.nil ?_
       refine WEx.then_ ?_
       refine WCode.forget (l' := [(2, .slice A2 a2.length c2), (7, .bool t9), (8, .slice A267 l269.length c268), (15, .pointer (some ⟨b236, 0, none⟩)), (16, .int .i64 x272), (18, .bool t415.1)]) ⟨rfl, rfl, rfl, rfl, rfl, rfl, trivial⟩ ?_
       refine WCode.seq ?_
       refine WCode.seq ?_
       refine WCode.region ?_
       refine WOps.p (G.move rfl) rfl ?_
       refine WOps.p (G.not rfl rfl) rfl ?_
       refine WOps.nil ?_
       refine WEx.then_ ?_
       rcases ite_some hF with ⟨h475, hF⟩ | ⟨h475, hF⟩
       ·
        refine WCode.cond_f (kb (b := !t415.1) rfl (show (!t415.1) = false from by rw [h475]; rfl)) ?_
        refine WCode.skip ?_
        refine WEx.then_ ?_
        refine WCode.seq ?_
        refine WCode.region ?_
        refine WOps.p (G.move rfl) rfl ?_
        refine WOps.p (G.remk rfl rfl (by decide)) rfl ?_
        refine WOps.p (G.eql rfl rfl rfl) rfl ?_
        refine WOps.nil ?_
        refine WEx.then_ ?_
        rcases ite_some hF with ⟨h476, hF⟩ | ⟨h476, hF⟩
        ·
         refine WCode.cond_t (kb (b := decide ((Int.tmod x272 4) = 3)) rfl (decide_eq_true h476)) ?_
         refine WCode.seq ?_
         refine WCode.region ?_
         refine WOps.p (G.move rfl) rfl ?_
         have S477 : St _ _ _ [[(b236, .cells #[.slice A439 t415.2.1.free.length c440, .slice A443 t415.2.1.want.length c444, .slice A447 t415.2.1.all.length c448, .int .i64 t415.2.1.lists] 114 (0, 0))], G441, G445, G449, [(p361, .cells #[.int .i64 t415.2.2.2.1.Most, .slice A469 t415.2.2.2.1.L.length c470] 172 (0, 0))], G471, [(p393, .cells #[.int .i64 t415.2.2.1.most, .slice A458 t415.2.2.1.pairs.length c459] 169 (0, 0))], G460, [(p327, .cells #[.pointer (some ⟨p393, 0, none⟩), .pointer (some ⟨p361, 0, none⟩), .slice A427 (t415.2.2.2.2.1).length c428, .slice A431 (t415.2.2.2.2.2).length c432] 110 (0, 0))], G429, G433, G329] := St.reord S474 [4, 5, 6, 7, 0, 1, 2, 3, 8, 9, 10, 11] 12 rfl (by decide) rfl
         have hO478 : ObjO 114 BookS.rp b236 t415.2.1 ([(b236, .cells #[.slice A439 t415.2.1.free.length c440, .slice A443 t415.2.1.want.length c444, .slice A447 t415.2.1.all.length c448, .int .i64 t415.2.1.lists] 114 (0, 0))] ++ (G441 ++ (G445 ++ (G449)))) := ⟨_, _, ⟨A439, c440, G441, A443, c444, G445, A447, c448, G449, rfl, hO442, hO446, hO450, rfl⟩, rfl⟩
         have S479 : St _ _ _ [[(b236, .cells #[.slice A439 t415.2.1.free.length c440, .slice A443 t415.2.1.want.length c444, .slice A447 t415.2.1.all.length c448, .int .i64 t415.2.1.lists] 114 (0, 0))] ++ (G441 ++ (G445 ++ (G449))), [(p361, .cells #[.int .i64 t415.2.2.2.1.Most, .slice A469 t415.2.2.2.1.L.length c470] 172 (0, 0))], G471, [(p393, .cells #[.int .i64 t415.2.2.1.most, .slice A458 t415.2.2.1.pairs.length c459] 169 (0, 0))], G460, [(p327, .cells #[.pointer (some ⟨p393, 0, none⟩), .pointer (some ⟨p361, 0, none⟩), .slice A427 (t415.2.2.2.2.1).length c428, .slice A431 (t415.2.2.2.2.2).length c432] 110 (0, 0))], G429, G433, G329] := S477.objs (by simp)
         obtain ⟨t480, hc481, hF⟩ := bind_some hF
         refine WOps.call T.call56 (evs_cons rfl evs_nil) rfl ?_
         refine (bs_still_calls k291 t415.2.1 hO478 hc481 (St.hpN (As := [[(b236, .cells #[.slice A439 t415.2.1.free.length c440, .slice A443 t415.2.1.want.length c444, .slice A447 t415.2.1.all.length c448, .int .i64 t415.2.1.lists] 114 (0, 0))] ++ (G441 ++ (G445 ++ (G449)))]) S479)).mono ?_
         rintro _ w482 ⟨G485, rfl, hO486, T483⟩
         have S484 := St.callN (As := [[(b236, .cells #[.slice A439 t415.2.1.free.length c440, .slice A443 t415.2.1.want.length c444, .slice A447 t415.2.1.all.length c448, .int .i64 t415.2.1.lists] 114 (0, 0))] ++ (G441 ++ (G445 ++ (G449)))]) S479 T483
         change St _ _ _ [G485, [(p361, .cells #[.int .i64 t415.2.2.2.1.Most, .slice A469 t415.2.2.2.1.L.length c470] 172 (0, 0))], G471, [(p393, .cells #[.int .i64 t415.2.2.1.most, .slice A458 t415.2.2.1.pairs.length c459] 169 (0, 0))], G460, [(p327, .cells #[.pointer (some ⟨p393, 0, none⟩), .pointer (some ⟨p361, 0, none⟩), .slice A427 (t415.2.2.2.2.1).length c428, .slice A431 (t415.2.2.2.2.2).length c432] 110 (0, 0))], G429, G433, G329] at S484
         refine ⟨_, rfl, ?_⟩
         obtain ⟨cs487, G488, ho489, hg490⟩ := hO486
         obtain ⟨A491, c492, G493, A495, c496, G497, A499, c500, G501, rfl, hO494, hO498, hO502, hq503⟩ := ho489
         have S504 : St _ _ _ [[(b236, .cells #[.slice A491 t480.2.free.length c492, .slice A495 t480.2.want.length c496, .slice A499 t480.2.all.length c500, .int .i64 t480.2.lists] 114 (0, 0))], G493, G497, G501, [(p361, .cells #[.int .i64 t415.2.2.2.1.Most, .slice A469 t415.2.2.2.1.L.length c470] 172 (0, 0))], G471, [(p393, .cells #[.int .i64 t415.2.2.1.most, .slice A458 t415.2.2.1.pairs.length c459] 169 (0, 0))], G460, [(p327, .cells #[.pointer (some ⟨p393, 0, none⟩), .pointer (some ⟨p361, 0, none⟩), .slice A427 (t415.2.2.2.2.1).length c428, .slice A431 (t415.2.2.2.2.2).length c432] 110 (0, 0))], G429, G433, G329] := S484.objs (by rw [hg490, hq503]; simp)
         refine WOps.p (G.assign rfl) rfl ?_
         refine WOps.nil ?_
         refine WEx.then_ ?_
         refine WCode.seq ?_
         refine WCode.region ?_
         refine WOps.p (G.move rfl) rfl ?_
         refine WOps.p (G.not rfl rfl) rfl ?_
         refine WOps.nil ?_
         refine WEx.then_ ?_
         refine WCode.forget (l' := [(2, .slice A2 a2.length c2), (7, .bool t9), (8, .slice A267 l269.length c268), (15, .pointer (some ⟨b236, 0, none⟩)), (16, .int .i64 x272), (104, .bool (!t480.1))]) ⟨rfl, rfl, rfl, rfl, rfl, rfl, trivial⟩ ?_
         rcases ite_some hF with ⟨h505, hF⟩ | ⟨h505, hF⟩
         ·
          refine WCode.cond_f (kb (b := !t480.1) rfl (show (!t480.1) = false from by rw [h505]; rfl)) ?_
          refine WCode.skip ?_
          refine WEx.in_normal ?_
          refine WEx.then_ ?_
          refine WCode.region ?_
          refine WOps.p (G.move rfl) rfl ?_
          refine WOps.p (G.add rfl rfl (r := (w64 (x272 + 1))) rfl) rfl ?_
          refine WOps.p (G.assign rfl) rfl ?_
          refine WOps.nil ?_
          have S506 := (S504.front 7 rfl).front 7 rfl
          change St _ _ _ [[(p393, .cells #[.int .i64 t415.2.2.1.most, .slice A458 t415.2.2.1.pairs.length c459] 169 (0, 0))], G460, [(b236, .cells #[.slice A491 t480.2.free.length c492, .slice A495 t480.2.want.length c496, .slice A499 t480.2.all.length c500, .int .i64 t480.2.lists] 114 (0, 0))], G493, G497, G501, [(p361, .cells #[.int .i64 t415.2.2.2.1.Most, .slice A469 t415.2.2.2.1.L.length c470] 172 (0, 0))], G471, [(p327, .cells #[.pointer (some ⟨p393, 0, none⟩), .pointer (some ⟨p361, 0, none⟩), .slice A427 (t415.2.2.2.2.1).length c428, .slice A431 (t415.2.2.2.2.2).length c432] 110 (0, 0))], G429, G433, G329] at S506
          have hO507 : ObjO 169 ShK.rp p393 t415.2.2.1 ([(p393, .cells #[.int .i64 t415.2.2.1.most, .slice A458 t415.2.2.1.pairs.length c459] 169 (0, 0))] ++ (G460)) := ⟨_, _, ⟨A458, c459, G460, rfl, hO461, rfl⟩, rfl⟩
          have S508 : St _ _ _ [[(p393, .cells #[.int .i64 t415.2.2.1.most, .slice A458 t415.2.2.1.pairs.length c459] 169 (0, 0))] ++ (G460), [(b236, .cells #[.slice A491 t480.2.free.length c492, .slice A495 t480.2.want.length c496, .slice A499 t480.2.all.length c500, .int .i64 t480.2.lists] 114 (0, 0))], G493, G497, G501, [(p361, .cells #[.int .i64 t415.2.2.2.1.Most, .slice A469 t415.2.2.2.1.L.length c470] 172 (0, 0))], G471, [(p327, .cells #[.pointer (some ⟨p393, 0, none⟩), .pointer (some ⟨p361, 0, none⟩), .slice A427 (t415.2.2.2.2.1).length c428, .slice A431 (t415.2.2.2.2.2).length c432] 110 (0, 0))], G429, G433, G329] := S506.objs (by simp)
          have S509 := (S508.front 6 rfl).front 6 rfl
          change St _ _ _ [[(p361, .cells #[.int .i64 t415.2.2.2.1.Most, .slice A469 t415.2.2.2.1.L.length c470] 172 (0, 0))], G471, [(p393, .cells #[.int .i64 t415.2.2.1.most, .slice A458 t415.2.2.1.pairs.length c459] 169 (0, 0))] ++ (G460), [(b236, .cells #[.slice A491 t480.2.free.length c492, .slice A495 t480.2.want.length c496, .slice A499 t480.2.all.length c500, .int .i64 t480.2.lists] 114 (0, 0))], G493, G497, G501, [(p327, .cells #[.pointer (some ⟨p393, 0, none⟩), .pointer (some ⟨p361, 0, none⟩), .slice A427 (t415.2.2.2.2.1).length c428, .slice A431 (t415.2.2.2.2.2).length c432] 110 (0, 0))], G429, G433, G329] at S509
          have hO510 : ObjO 172 ShR.rp p361 t415.2.2.2.1 ([(p361, .cells #[.int .i64 t415.2.2.2.1.Most, .slice A469 t415.2.2.2.1.L.length c470] 172 (0, 0))] ++ (G471)) := ⟨_, _, ⟨A469, c470, G471, rfl, hO472, rfl⟩, rfl⟩
          have S511 : St _ _ _ [[(p361, .cells #[.int .i64 t415.2.2.2.1.Most, .slice A469 t415.2.2.2.1.L.length c470] 172 (0, 0))] ++ (G471), [(p393, .cells #[.int .i64 t415.2.2.1.most, .slice A458 t415.2.2.1.pairs.length c459] 169 (0, 0))] ++ (G460), [(b236, .cells #[.slice A491 t480.2.free.length c492, .slice A495 t480.2.want.length c496, .slice A499 t480.2.all.length c500, .int .i64 t480.2.lists] 114 (0, 0))], G493, G497, G501, [(p327, .cells #[.pointer (some ⟨p393, 0, none⟩), .pointer (some ⟨p361, 0, none⟩), .slice A427 (t415.2.2.2.2.1).length c428, .slice A431 (t415.2.2.2.2.2).length c432] 110 (0, 0))], G429, G433, G329] := S509.objs (by simp)
          have S512 : St _ _ _ [[(p327, .cells #[.pointer (some ⟨p393, 0, none⟩), .pointer (some ⟨p361, 0, none⟩), .slice A427 (t415.2.2.2.2.1).length c428, .slice A431 (t415.2.2.2.2.2).length c432] 110 (0, 0))], [(p393, .cells #[.int .i64 t415.2.2.1.most, .slice A458 t415.2.2.1.pairs.length c459] 169 (0, 0))] ++ (G460), [(p361, .cells #[.int .i64 t415.2.2.2.1.Most, .slice A469 t415.2.2.2.1.L.length c470] 172 (0, 0))] ++ (G471), G429, G433, [(b236, .cells #[.slice A491 t480.2.free.length c492, .slice A495 t480.2.want.length c496, .slice A499 t480.2.all.length c500, .int .i64 t480.2.lists] 114 (0, 0))], G493, G497, G501, G329] := St.reord S511 [6, 1, 0, 7, 8, 2, 3, 4, 5, 9] 10 rfl (by decide) rfl
          have hO513 : ObjO 110 Side.rp p327 (⟨(some t415.2.2.1), (some t415.2.2.2.1), (t415.2.2.2.2.1), (t415.2.2.2.2.2)⟩ : Side) ([(p327, .cells #[.pointer (some ⟨p393, 0, none⟩), .pointer (some ⟨p361, 0, none⟩), .slice A427 (t415.2.2.2.2.1).length c428, .slice A431 (t415.2.2.2.2.2).length c432] 110 (0, 0))] ++ ([(p393, .cells #[.int .i64 t415.2.2.1.most, .slice A458 t415.2.2.1.pairs.length c459] 169 (0, 0))] ++ (G460) ++ ([(p361, .cells #[.int .i64 t415.2.2.2.1.Most, .slice A469 t415.2.2.2.1.L.length c470] 172 (0, 0))] ++ (G471) ++ (G429 ++ (G433))))) := ⟨_, _, ⟨(.pointer (some ⟨p393, 0, none⟩)), [(p393, .cells #[.int .i64 t415.2.2.1.most, .slice A458 t415.2.2.1.pairs.length c459] 169 (0, 0))] ++ (G460), (.pointer (some ⟨p361, 0, none⟩)), [(p361, .cells #[.int .i64 t415.2.2.2.1.Most, .slice A469 t415.2.2.2.1.L.length c470] 172 (0, 0))] ++ (G471), A427, c428, G429, A431, c432, G433, rfl, ⟨_, rfl, hO507⟩, ⟨_, rfl, hO510⟩, hO430, hO434, rfl⟩, rfl⟩
          have S514 : St _ _ _ [[(p327, .cells #[.pointer (some ⟨p393, 0, none⟩), .pointer (some ⟨p361, 0, none⟩), .slice A427 (t415.2.2.2.2.1).length c428, .slice A431 (t415.2.2.2.2.2).length c432] 110 (0, 0))] ++ ([(p393, .cells #[.int .i64 t415.2.2.1.most, .slice A458 t415.2.2.1.pairs.length c459] 169 (0, 0))] ++ (G460) ++ ([(p361, .cells #[.int .i64 t415.2.2.2.1.Most, .slice A469 t415.2.2.2.1.L.length c470] 172 (0, 0))] ++ (G471) ++ (G429 ++ (G433)))), [(b236, .cells #[.slice A491 t480.2.free.length c492, .slice A495 t480.2.want.length c496, .slice A499 t480.2.all.length c500, .int .i64 t480.2.lists] 114 (0, 0))], G493, G497, G501, G329] := S512.objs (by simp)
          have S515 := (S514.front 5 rfl).front 1 rfl
          change St _ _ _ [[(p327, .cells #[.pointer (some ⟨p393, 0, none⟩), .pointer (some ⟨p361, 0, none⟩), .slice A427 (t415.2.2.2.2.1).length c428, .slice A431 (t415.2.2.2.2.2).length c432] 110 (0, 0))] ++ ([(p393, .cells #[.int .i64 t415.2.2.1.most, .slice A458 t415.2.2.1.pairs.length c459] 169 (0, 0))] ++ (G460) ++ ([(p361, .cells #[.int .i64 t415.2.2.2.1.Most, .slice A469 t415.2.2.2.1.L.length c470] 172 (0, 0))] ++ (G471) ++ (G429 ++ (G433)))), G329, [(b236, .cells #[.slice A491 t480.2.free.length c492, .slice A495 t480.2.want.length c496, .slice A499 t480.2.all.length c500, .int .i64 t480.2.lists] 114 (0, 0))], G493, G497, G501] at S515
          obtain ⟨G516, hO517, S518⟩ := St.shutP S515 hH335 hO513
          rw [show j323 = (w64 (Int.tdiv t315 3)).toNat by omega] at hO517
          have hl519 : l269.length = (l269.set (w64 (Int.tdiv t315 3)).toNat (⟨(some t415.2.2.1), (some t415.2.2.2.1), (t415.2.2.2.2.1), (t415.2.2.2.2.2)⟩ : Side)).length := (List.length_set ..).symm
          try rw [hl519]
          have S520 : St _ _ _ [[(b236, .cells #[.slice A491 t480.2.free.length c492, .slice A495 t480.2.want.length c496, .slice A499 t480.2.all.length c500, .int .i64 t480.2.lists] 114 (0, 0))], G516, G493, G497, G501] := St.reord S518 [1, 0, 2, 3, 4] 5 rfl (by decide) rfl
          refine WEx.again _ _ (by omega) ?_ ⟨A267, c268, (l269.set (w64 (Int.tdiv t315 3)).toNat (⟨(some t415.2.2.1), (some t415.2.2.2.1), (t415.2.2.2.2.1), (t415.2.2.2.2.2)⟩ : Side)), G516, w64 (x272 + 1), A491, c492, t480.2.free, G493, A495, c496, t480.2.want, G497, A499, c500, t480.2.all, G501, t480.2.lists, rfl, hF, hO517, hO494, hO498, hO502, S520⟩
          exact ⟨rfl, rfl, rfl, rfl, rfl, trivial⟩
         ·
          refine WCode.cond_t (kb (b := !t480.1) rfl (show (!t480.1) = true from by rw [(Bool.eq_false_iff.2 h505)]; rfl)) ?_
          refine WCode.seq ?_
          refine WCode.region ?_
          refine WOps.p (G.assign rfl) rfl ?_
          refine WOps.nil ?_
          refine WEx.then_ ?_
          refine WCode.ret ?_
          refine WEx.in_ret ?_
          refine WEx.then_ret ?_
          refine WEx.then_ret ?_
          refine WEx.in_ret ?_
          refine WEx.then_ret ?_
          obtain rfl := some_eq hF
          refine WEx.ret1 rfl rfl ?_
          exact ⟨rfl, St.keep (As := []) S504⟩
        ·
         refine WCode.cond_f (kb (b := decide ((Int.tmod x272 4) = 3)) rfl (decide_eq_false h476)) ?_
         refine WCode.skip ?_
         refine WEx.in_normal ?_
         refine WEx.then_ ?_
         refine WCode.region ?_
         refine WOps.p (G.move rfl) rfl ?_
         refine WOps.p (G.add rfl rfl (r := (w64 (x272 + 1))) rfl) rfl ?_
         refine WOps.p (G.assign rfl) rfl ?_
         refine WOps.nil ?_
         have S521 := (S474.front 3 rfl).front 3 rfl
         change St _ _ _ [[(p393, .cells #[.int .i64 t415.2.2.1.most, .slice A458 t415.2.2.1.pairs.length c459] 169 (0, 0))], G460, [(p361, .cells #[.int .i64 t415.2.2.2.1.Most, .slice A469 t415.2.2.2.1.L.length c470] 172 (0, 0))], G471, [(b236, .cells #[.slice A439 t415.2.1.free.length c440, .slice A443 t415.2.1.want.length c444, .slice A447 t415.2.1.all.length c448, .int .i64 t415.2.1.lists] 114 (0, 0))], G441, G445, G449, [(p327, .cells #[.pointer (some ⟨p393, 0, none⟩), .pointer (some ⟨p361, 0, none⟩), .slice A427 (t415.2.2.2.2.1).length c428, .slice A431 (t415.2.2.2.2.2).length c432] 110 (0, 0))], G429, G433, G329] at S521
         have hO522 : ObjO 169 ShK.rp p393 t415.2.2.1 ([(p393, .cells #[.int .i64 t415.2.2.1.most, .slice A458 t415.2.2.1.pairs.length c459] 169 (0, 0))] ++ (G460)) := ⟨_, _, ⟨A458, c459, G460, rfl, hO461, rfl⟩, rfl⟩
         have S523 : St _ _ _ [[(p393, .cells #[.int .i64 t415.2.2.1.most, .slice A458 t415.2.2.1.pairs.length c459] 169 (0, 0))] ++ (G460), [(p361, .cells #[.int .i64 t415.2.2.2.1.Most, .slice A469 t415.2.2.2.1.L.length c470] 172 (0, 0))], G471, [(b236, .cells #[.slice A439 t415.2.1.free.length c440, .slice A443 t415.2.1.want.length c444, .slice A447 t415.2.1.all.length c448, .int .i64 t415.2.1.lists] 114 (0, 0))], G441, G445, G449, [(p327, .cells #[.pointer (some ⟨p393, 0, none⟩), .pointer (some ⟨p361, 0, none⟩), .slice A427 (t415.2.2.2.2.1).length c428, .slice A431 (t415.2.2.2.2.2).length c432] 110 (0, 0))], G429, G433, G329] := S521.objs (by simp)
         have S524 := (S523.front 2 rfl).front 2 rfl
         change St _ _ _ [[(p361, .cells #[.int .i64 t415.2.2.2.1.Most, .slice A469 t415.2.2.2.1.L.length c470] 172 (0, 0))], G471, [(p393, .cells #[.int .i64 t415.2.2.1.most, .slice A458 t415.2.2.1.pairs.length c459] 169 (0, 0))] ++ (G460), [(b236, .cells #[.slice A439 t415.2.1.free.length c440, .slice A443 t415.2.1.want.length c444, .slice A447 t415.2.1.all.length c448, .int .i64 t415.2.1.lists] 114 (0, 0))], G441, G445, G449, [(p327, .cells #[.pointer (some ⟨p393, 0, none⟩), .pointer (some ⟨p361, 0, none⟩), .slice A427 (t415.2.2.2.2.1).length c428, .slice A431 (t415.2.2.2.2.2).length c432] 110 (0, 0))], G429, G433, G329] at S524
         have hO525 : ObjO 172 ShR.rp p361 t415.2.2.2.1 ([(p361, .cells #[.int .i64 t415.2.2.2.1.Most, .slice A469 t415.2.2.2.1.L.length c470] 172 (0, 0))] ++ (G471)) := ⟨_, _, ⟨A469, c470, G471, rfl, hO472, rfl⟩, rfl⟩
         have S526 : St _ _ _ [[(p361, .cells #[.int .i64 t415.2.2.2.1.Most, .slice A469 t415.2.2.2.1.L.length c470] 172 (0, 0))] ++ (G471), [(p393, .cells #[.int .i64 t415.2.2.1.most, .slice A458 t415.2.2.1.pairs.length c459] 169 (0, 0))] ++ (G460), [(b236, .cells #[.slice A439 t415.2.1.free.length c440, .slice A443 t415.2.1.want.length c444, .slice A447 t415.2.1.all.length c448, .int .i64 t415.2.1.lists] 114 (0, 0))], G441, G445, G449, [(p327, .cells #[.pointer (some ⟨p393, 0, none⟩), .pointer (some ⟨p361, 0, none⟩), .slice A427 (t415.2.2.2.2.1).length c428, .slice A431 (t415.2.2.2.2.2).length c432] 110 (0, 0))], G429, G433, G329] := S524.objs (by simp)
         have S527 : St _ _ _ [[(p327, .cells #[.pointer (some ⟨p393, 0, none⟩), .pointer (some ⟨p361, 0, none⟩), .slice A427 (t415.2.2.2.2.1).length c428, .slice A431 (t415.2.2.2.2.2).length c432] 110 (0, 0))], [(p393, .cells #[.int .i64 t415.2.2.1.most, .slice A458 t415.2.2.1.pairs.length c459] 169 (0, 0))] ++ (G460), [(p361, .cells #[.int .i64 t415.2.2.2.1.Most, .slice A469 t415.2.2.2.1.L.length c470] 172 (0, 0))] ++ (G471), G429, G433, [(b236, .cells #[.slice A439 t415.2.1.free.length c440, .slice A443 t415.2.1.want.length c444, .slice A447 t415.2.1.all.length c448, .int .i64 t415.2.1.lists] 114 (0, 0))], G441, G445, G449, G329] := St.reord S526 [6, 1, 0, 7, 8, 2, 3, 4, 5, 9] 10 rfl (by decide) rfl
         have hO528 : ObjO 110 Side.rp p327 (⟨(some t415.2.2.1), (some t415.2.2.2.1), (t415.2.2.2.2.1), (t415.2.2.2.2.2)⟩ : Side) ([(p327, .cells #[.pointer (some ⟨p393, 0, none⟩), .pointer (some ⟨p361, 0, none⟩), .slice A427 (t415.2.2.2.2.1).length c428, .slice A431 (t415.2.2.2.2.2).length c432] 110 (0, 0))] ++ ([(p393, .cells #[.int .i64 t415.2.2.1.most, .slice A458 t415.2.2.1.pairs.length c459] 169 (0, 0))] ++ (G460) ++ ([(p361, .cells #[.int .i64 t415.2.2.2.1.Most, .slice A469 t415.2.2.2.1.L.length c470] 172 (0, 0))] ++ (G471) ++ (G429 ++ (G433))))) := ⟨_, _, ⟨(.pointer (some ⟨p393, 0, none⟩)), [(p393, .cells #[.int .i64 t415.2.2.1.most, .slice A458 t415.2.2.1.pairs.length c459] 169 (0, 0))] ++ (G460), (.pointer (some ⟨p361, 0, none⟩)), [(p361, .cells #[.int .i64 t415.2.2.2.1.Most, .slice A469 t415.2.2.2.1.L.length c470] 172 (0, 0))] ++ (G471), A427, c428, G429, A431, c432, G433, rfl, ⟨_, rfl, hO522⟩, ⟨_, rfl, hO525⟩, hO430, hO434, rfl⟩, rfl⟩
         have S529 : St _ _ _ [[(p327, .cells #[.pointer (some ⟨p393, 0, none⟩), .pointer (some ⟨p361, 0, none⟩), .slice A427 (t415.2.2.2.2.1).length c428, .slice A431 (t415.2.2.2.2.2).length c432] 110 (0, 0))] ++ ([(p393, .cells #[.int .i64 t415.2.2.1.most, .slice A458 t415.2.2.1.pairs.length c459] 169 (0, 0))] ++ (G460) ++ ([(p361, .cells #[.int .i64 t415.2.2.2.1.Most, .slice A469 t415.2.2.2.1.L.length c470] 172 (0, 0))] ++ (G471) ++ (G429 ++ (G433)))), [(b236, .cells #[.slice A439 t415.2.1.free.length c440, .slice A443 t415.2.1.want.length c444, .slice A447 t415.2.1.all.length c448, .int .i64 t415.2.1.lists] 114 (0, 0))], G441, G445, G449, G329] := S527.objs (by simp)
         have S530 := (S529.front 5 rfl).front 1 rfl
         change St _ _ _ [[(p327, .cells #[.pointer (some ⟨p393, 0, none⟩), .pointer (some ⟨p361, 0, none⟩), .slice A427 (t415.2.2.2.2.1).length c428, .slice A431 (t415.2.2.2.2.2).length c432] 110 (0, 0))] ++ ([(p393, .cells #[.int .i64 t415.2.2.1.most, .slice A458 t415.2.2.1.pairs.length c459] 169 (0, 0))] ++ (G460) ++ ([(p361, .cells #[.int .i64 t415.2.2.2.1.Most, .slice A469 t415.2.2.2.1.L.length c470] 172 (0, 0))] ++ (G471) ++ (G429 ++ (G433)))), G329, [(b236, .cells #[.slice A439 t415.2.1.free.length c440, .slice A443 t415.2.1.want.length c444, .slice A447 t415.2.1.all.length c448, .int .i64 t415.2.1.lists] 114 (0, 0))], G441, G445, G449] at S530
         obtain ⟨G531, hO532, S533⟩ := St.shutP S530 hH335 hO528
         rw [show j323 = (w64 (Int.tdiv t315 3)).toNat by omega] at hO532
         have hl534 : l269.length = (l269.set (w64 (Int.tdiv t315 3)).toNat (⟨(some t415.2.2.1), (some t415.2.2.2.1), (t415.2.2.2.2.1), (t415.2.2.2.2.2)⟩ : Side)).length := (List.length_set ..).symm
         try rw [hl534]
         have S535 : St _ _ _ [[(b236, .cells #[.slice A439 t415.2.1.free.length c440, .slice A443 t415.2.1.want.length c444, .slice A447 t415.2.1.all.length c448, .int .i64 t415.2.1.lists] 114 (0, 0))], G531, G441, G445, G449] := St.reord S533 [1, 0, 2, 3, 4] 5 rfl (by decide) rfl
         refine WEx.again _ _ (by omega) ?_ ⟨A267, c268, (l269.set (w64 (Int.tdiv t315 3)).toNat (⟨(some t415.2.2.1), (some t415.2.2.2.1), (t415.2.2.2.2.1), (t415.2.2.2.2.2)⟩ : Side)), G531, w64 (x272 + 1), A439, c440, t415.2.1.free, G441, A443, c444, t415.2.1.want, G445, A447, c448, t415.2.1.all, G449, t415.2.1.lists, rfl, hF, hO532, hO442, hO446, hO450, S535⟩
         exact ⟨rfl, rfl, rfl, rfl, rfl, trivial⟩
       ·
        refine WCode.cond_t (kb (b := !t415.1) rfl (show (!t415.1) = true from by rw [(Bool.eq_false_iff.2 h475)]; rfl)) ?_
        refine WCode.seq ?_
        refine WCode.region ?_
        refine WOps.p (G.assign rfl) rfl ?_
        refine WOps.nil ?_
        refine WEx.then_ ?_
        refine WCode.ret ?_
        refine WEx.then_ret ?_
        refine WEx.in_ret ?_
        refine WEx.then_ret ?_
        refine WEx.then_ret ?_
        refine WEx.in_ret ?_
        refine WEx.then_ret ?_
        obtain rfl := some_eq hF
        refine WEx.ret1 rfl rfl ?_
        exact ⟨rfl, St.keep (As := []) S474⟩
      ·
       exact nomatch (show (none : Option Bool) = some r_ from hF)
     ·
      have hn537 := Option.not_isSome_iff_eq_none.1 h357
      have ho536 := hO346
      rw [hn537] at ho536
      obtain ⟨hv538, hg539⟩ := ho536
      subst hv538
      have S541 := S356.front 2 rfl
      change St _ _ _ [G345, [(p327, .cells #[v341, .pointer none, .slice A347 x320.asked.length c348, .slice A351 x320.was.length c352] 110 (0, 0))], G342, G349, G353, G329, [(b236, .cells #[.slice A273 l275.length c274, .slice A278 l280.length c279, .slice A283 l285.length c284, .int .i64 x288] 114 (0, 0))], G276, G281, G286] at S541
      have S540 : St _ _ _ [[(p327, .cells #[v341, .pointer none, .slice A347 x320.asked.length c348, .slice A351 x320.was.length c352] 110 (0, 0))], G342, G349, G353, G329, [(b236, .cells #[.slice A273 l275.length c274, .slice A278 l280.length c279, .slice A283 l285.length c284, .int .i64 x288] 114 (0, 0))], G276, G281, G286] := S541.objs (by rw [hg539]; simp)
      refine WOps.p (G.eqp_nil Try.underlying104 rfl rfl rfl) rfl ?_
      refine WOps.nil ?_
      refine WEx.then_ ?_
      refine WCode.cond_t rfl ?_
      refine WCode.exit ?_
      refine WEx.then_exit ?_
      refine WEx.in_exit ?_
      refine WEx.then_ ?_
      refine WCode.region ?_
      refine WOps.p (G.move rfl) rfl ?_
      refine WOps.p (G.add rfl rfl (r := (w64 (x272 + 1))) rfl) rfl ?_
      refine WOps.p (G.assign rfl) rfl ?_
      refine WOps.nil ?_
      have S542 := S540.emp
      have S543 : St _ _ _ [[(p327, .cells #[v341, .pointer none, .slice A347 x320.asked.length c348, .slice A351 x320.was.length c352] 110 (0, 0))], G342, ([] : Grp), G349, G353, G329, [(b236, .cells #[.slice A273 l275.length c274, .slice A278 l280.length c279, .slice A283 l285.length c284, .int .i64 x288] 114 (0, 0))], G276, G281, G286] := St.reord S542 [1, 2, 0, 3, 4, 5, 6, 7, 8, 9] 10 rfl (by decide) rfl
      have hO544 : ObjO 110 Side.rp p327 (⟨x320.s, none, x320.asked, x320.was⟩ : Side) ([(p327, .cells #[v341, .pointer none, .slice A347 x320.asked.length c348, .slice A351 x320.was.length c352] 110 (0, 0))] ++ (G342 ++ (([] : Grp) ++ (G349 ++ (G353))))) := ⟨_, _, ⟨v341, G342, (.pointer none), ([] : Grp), A347, c348, G349, A351, c352, G353, rfl, hO343, ⟨rfl, rfl⟩, hO350, hO354, rfl⟩, rfl⟩
      have S545 : St _ _ _ [[(p327, .cells #[v341, .pointer none, .slice A347 x320.asked.length c348, .slice A351 x320.was.length c352] 110 (0, 0))] ++ (G342 ++ (([] : Grp) ++ (G349 ++ (G353)))), G329, [(b236, .cells #[.slice A273 l275.length c274, .slice A278 l280.length c279, .slice A283 l285.length c284, .int .i64 x288] 114 (0, 0))], G276, G281, G286] := S543.objs (by simp)
      obtain ⟨G546, hO547, S548⟩ := St.shutP S545 hH335 hO544
      rw [show j323 = (w64 (Int.tdiv t315 3)).toNat by omega] at hO547
      have hl549 : l269.length = (l269.set (w64 (Int.tdiv t315 3)).toNat (⟨x320.s, none, x320.asked, x320.was⟩ : Side)).length := (List.length_set ..).symm
      try rw [hl549]
      have S550 : St _ _ _ [[(b236, .cells #[.slice A273 l275.length c274, .slice A278 l280.length c279, .slice A283 l285.length c284, .int .i64 x288] 114 (0, 0))], G546, G276, G281, G286] := St.reord S548 [1, 0, 2, 3, 4] 5 rfl (by decide) rfl
      refine WEx.again _ _ (by omega) ?_ ⟨A267, c268, (l269.set (w64 (Int.tdiv t315 3)).toNat (⟨x320.s, none, x320.asked, x320.was⟩ : Side)), G546, w64 (x272 + 1), A273, c274, l275, G276, A278, c279, l280, G281, A283, c284, l285, G286, x288, rfl, hF, hO547, hO277, hO282, hO287, S550⟩
      exact ⟨rfl, rfl, rfl, rfl, rfl, trivial⟩
    ·
     refine WCode.cond_f (kb (b := decide (x272 < (a2.length : Int))) rfl (decide_eq_false h300)) ?_
     refine WCode.exit ?_
     refine WEx.then_exit ?_
     refine WEx.then_exit ?_
     refine WEx.in_exit ?_
     refine WEx.cutend _ ?_ ⟨k291, A267, c268, l269, G270, A273, c274, l275, G276, A278, c279, l280, G281, A283, c284, l285, G286, x288, rfl, hF, hO271, hO277, hO282, hO287, S290⟩
     exact ⟨rfl, rfl, rfl, trivial⟩
   ·
    rintro _ w263 ⟨q265, A242, c243, l244, G245, A247, c248, l249, G250, A252, c253, l254, G255, A257, c258, l259, G260, x262, rfl, hF, hO246, hO251, hO256, hO261, S264⟩
    unfold law_SPlays.j2 at hF
    refine WCode.seq ?_
    refine WCode.region ?_
    refine WOps.p (G.move rfl) rfl ?_
    obtain ⟨x551, hc552, hF⟩ := bind_some hF
    have S553 := S264.front 1 rfl
    change St _ _ _ [G245, [(b236, .cells #[.slice A247 l249.length c248, .slice A252 l254.length c253, .slice A257 l259.length c258, .int .i64 x262] 114 (0, 0))], G250, G255, G260] at S553
    obtain ⟨j554, ej555, hj556, hl557⟩ := idx_spec hc552
    obtain ⟨p558, G559, G560, b561, o562, eA563, hc564, hO565, hH566, S567⟩ := St.focusP S553 hO246 hj556
    obtain ⟨cs568, G569, ho570, hg571⟩ := hO565
    obtain ⟨v572, G573, v575, G576, A578, c579, G580, A582, c583, G584, rfl, hO574, hO577, hO581, hO585, hq586⟩ := ho570
    have S587 : St _ _ _ [[(p558, .cells #[v572, v575, .slice A578 x551.asked.length c579, .slice A582 x551.was.length c583] 110 (0, 0))], G573, G576, G580, G584, G560, [(b236, .cells #[.slice A247 l249.length c248, .slice A252 l254.length c253, .slice A257 l259.length c258, .int .i64 x262] 114 (0, 0))], G250, G255, G260] := S567.objs (by rw [hg571, hq586]; simp)
    refine WOps.p (G.idx T.el98 rfl eA563 rfl ej555 hl557) rfl ?_
    refine WOps.r (G.load1 T.one107 rfl (cellsAt.at0 hc564)) rfl ?_
    have hO588 : ObjO 110 Side.rp p558 x551 ([(p558, .cells #[v572, v575, .slice A578 x551.asked.length c579, .slice A582 x551.was.length c583] 110 (0, 0))] ++ (G573 ++ (G576 ++ (G580 ++ (G584))))) := ⟨_, _, ⟨v572, G573, v575, G576, A578, c579, G580, A582, c583, G584, rfl, hO574, hO577, hO581, hO585, rfl⟩, rfl⟩
    have S589 : St _ _ _ [[(p558, .cells #[v572, v575, .slice A578 x551.asked.length c579, .slice A582 x551.was.length c583] 110 (0, 0))] ++ (G573 ++ (G576 ++ (G580 ++ (G584)))), G560, [(b236, .cells #[.slice A247 l249.length c248, .slice A252 l254.length c253, .slice A257 l259.length c258, .int .i64 x262] 114 (0, 0))], G250, G255, G260] := S587.objs (by simp)
    obtain ⟨t590, hc591, hF⟩ := bind_some hF
    refine WOps.call T.call57 (evs_cons rfl evs_nil) rfl ?_
    refine (sd_alike_calls q265 x551 hO588 hc591 (St.hpN (As := [[(p558, .cells #[v572, v575, .slice A578 x551.asked.length c579, .slice A582 x551.was.length c583] 110 (0, 0))] ++ (G573 ++ (G576 ++ (G580 ++ (G584))))]) S589)).mono ?_
    rintro _ w592 ⟨G595, rfl, hO596, T593⟩
    have S594 := St.callN (As := [[(p558, .cells #[v572, v575, .slice A578 x551.asked.length c579, .slice A582 x551.was.length c583] 110 (0, 0))] ++ (G573 ++ (G576 ++ (G580 ++ (G584))))]) S589 T593
    change St _ _ _ [G595, G560, [(b236, .cells #[.slice A247 l249.length c248, .slice A252 l254.length c253, .slice A257 l259.length c258, .int .i64 x262] 114 (0, 0))], G250, G255, G260] at S594
    refine ⟨_, rfl, ?_⟩
    obtain ⟨cs597, G598, ho599, hg600⟩ := hO596
    obtain ⟨v601, G602, v604, G605, A607, c608, G609, A611, c612, G613, rfl, hO603, hO606, hO610, hO614, hq615⟩ := ho599
    have S616 : St _ _ _ [[(p558, .cells #[v601, v604, .slice A607 t590.2.asked.length c608, .slice A611 t590.2.was.length c612] 110 (0, 0))], G602, G605, G609, G613, G560, [(b236, .cells #[.slice A247 l249.length c248, .slice A252 l254.length c253, .slice A257 l259.length c258, .int .i64 x262] 114 (0, 0))], G250, G255, G260] := S594.objs (by rw [hg600, hq615]; simp)
    refine WOps.p (G.assign rfl) rfl ?_
    refine WOps.nil ?_
    refine WEx.then_ ?_
    refine WCode.seq ?_
    refine WCode.region ?_
    refine WOps.p (G.move rfl) rfl ?_
    have hO617 : ObjO 110 Side.rp p558 t590.2 ([(p558, .cells #[v601, v604, .slice A607 t590.2.asked.length c608, .slice A611 t590.2.was.length c612] 110 (0, 0))] ++ (G602 ++ (G605 ++ (G609 ++ (G613))))) := ⟨_, _, ⟨v601, G602, v604, G605, A607, c608, G609, A611, c612, G613, rfl, hO603, hO606, hO610, hO614, rfl⟩, rfl⟩
    have S618 : St _ _ _ [[(p558, .cells #[v601, v604, .slice A607 t590.2.asked.length c608, .slice A611 t590.2.was.length c612] 110 (0, 0))] ++ (G602 ++ (G605 ++ (G609 ++ (G613)))), G560, [(b236, .cells #[.slice A247 l249.length c248, .slice A252 l254.length c253, .slice A257 l259.length c258, .int .i64 x262] 114 (0, 0))], G250, G255, G260] := S616.objs (by simp)
    obtain ⟨G619, hO620, S621⟩ := St.shutP S618 hH566 hO617
    rw [show j554 = (0 : Int).toNat by omega] at hO620
    have hl622 : l244.length = (l244.set (0 : Int).toNat t590.2).length := (List.length_set ..).symm
    try rw [hl622]
    obtain ⟨x623, hc624, hF⟩ := bind_some hF
    obtain ⟨j625, ej626, hj627, hl628⟩ := idx_spec hc624
    obtain ⟨p629, G630, G631, b632, o633, eA634, hc635, hO636, hH637, S638⟩ := St.focusP S621 hO620 hj627
    obtain ⟨cs639, G640, ho641, hg642⟩ := hO636
    obtain ⟨v643, G644, v646, G647, A649, c650, G651, A653, c654, G655, rfl, hO645, hO648, hO652, hO656, hq657⟩ := ho641
    have S658 : St _ _ _ [[(p629, .cells #[v643, v646, .slice A649 x623.asked.length c650, .slice A653 x623.was.length c654] 110 (0, 0))], G644, G647, G651, G655, G631, [(b236, .cells #[.slice A247 l249.length c248, .slice A252 l254.length c253, .slice A257 l259.length c258, .int .i64 x262] 114 (0, 0))], G250, G255, G260] := S638.objs (by rw [hg642, hq657]; simp)
    refine WOps.p (G.idx T.el98 rfl eA634 rfl ej626 hl628) rfl ?_
    refine WOps.r (G.load1 T.one107 rfl (cellsAt.at0 hc635)) rfl ?_
    have hO659 : ObjO 110 Side.rp p629 x623 ([(p629, .cells #[v643, v646, .slice A649 x623.asked.length c650, .slice A653 x623.was.length c654] 110 (0, 0))] ++ (G644 ++ (G647 ++ (G651 ++ (G655))))) := ⟨_, _, ⟨v643, G644, v646, G647, A649, c650, G651, A653, c654, G655, rfl, hO645, hO648, hO652, hO656, rfl⟩, rfl⟩
    have S660 : St _ _ _ [[(p629, .cells #[v643, v646, .slice A649 x623.asked.length c650, .slice A653 x623.was.length c654] 110 (0, 0))] ++ (G644 ++ (G647 ++ (G651 ++ (G655)))), G631, [(b236, .cells #[.slice A247 l249.length c248, .slice A252 l254.length c253, .slice A257 l259.length c258, .int .i64 x262] 114 (0, 0))], G250, G255, G260] := S658.objs (by simp)
    obtain ⟨t661, hc662, hF⟩ := bind_some hF
    refine WOps.call T.call57 (evs_cons rfl evs_nil) rfl ?_
    refine (sd_alike_calls q265 x623 hO659 hc662 (St.hpN (As := [[(p629, .cells #[v643, v646, .slice A649 x623.asked.length c650, .slice A653 x623.was.length c654] 110 (0, 0))] ++ (G644 ++ (G647 ++ (G651 ++ (G655))))]) S660)).mono ?_
    rintro _ w663 ⟨G666, rfl, hO667, T664⟩
    have S665 := St.callN (As := [[(p629, .cells #[v643, v646, .slice A649 x623.asked.length c650, .slice A653 x623.was.length c654] 110 (0, 0))] ++ (G644 ++ (G647 ++ (G651 ++ (G655))))]) S660 T664
    change St _ _ _ [G666, G631, [(b236, .cells #[.slice A247 l249.length c248, .slice A252 l254.length c253, .slice A257 l259.length c258, .int .i64 x262] 114 (0, 0))], G250, G255, G260] at S665
    refine ⟨_, rfl, ?_⟩
    obtain ⟨cs668, G669, ho670, hg671⟩ := hO667
    obtain ⟨v672, G673, v675, G676, A678, c679, G680, A682, c683, G684, rfl, hO674, hO677, hO681, hO685, hq686⟩ := ho670
    have S687 : St _ _ _ [[(p629, .cells #[v672, v675, .slice A678 t661.2.asked.length c679, .slice A682 t661.2.was.length c683] 110 (0, 0))], G673, G676, G680, G684, G631, [(b236, .cells #[.slice A247 l249.length c248, .slice A252 l254.length c253, .slice A257 l259.length c258, .int .i64 x262] 114 (0, 0))], G250, G255, G260] := S665.objs (by rw [hg671, hq686]; simp)
    refine WOps.p (G.assign rfl) rfl ?_
    refine WOps.nil ?_
    refine WEx.then_ ?_
    refine WCode.seq ?_
    refine WCode.region ?_
    refine WOps.p (G.move rfl) rfl ?_
    refine WOps.p (G.move rfl) rfl ?_
    rcases ite_some hF with ⟨h688, hF⟩ | ⟨h688, hF⟩
    ·
     refine WOps.on rfl (kbl (b := t9) rfl h688) ?_
     refine WOps.p (G.move rfl) rfl ?_
     refine WOps.p (G.pick_t (kb (b := t9) rfl h688) rfl) rfl ?_
     refine WOps.p (G.move rfl) rfl ?_
     rcases ite_some hF with ⟨h689, hF⟩ | ⟨h689, hF⟩
     ·
      refine WOps.on rfl (kbl (b := t590.1) rfl h689) ?_
      refine WOps.p (G.move rfl) rfl ?_
      refine WOps.p (G.pick_t (kb (b := t590.1) rfl h689) rfl) rfl ?_
      refine WOps.p (G.move rfl) rfl ?_
      rcases ite_some hF with ⟨h690, hF⟩ | ⟨h690, hF⟩
      ·
       refine WOps.on rfl (kbl (b := t661.1) rfl h690) ?_
       refine WOps.p (G.move rfl) rfl ?_
       refine WOps.on rfl (kbl (b := t661.1) rfl h690) ?_
       have S691 : St _ _ _ [[(b236, .cells #[.slice A247 l249.length c248, .slice A252 l254.length c253, .slice A257 l259.length c258, .int .i64 x262] 114 (0, 0))], G250, G255, G260, [(p629, .cells #[v672, v675, .slice A678 t661.2.asked.length c679, .slice A682 t661.2.was.length c683] 110 (0, 0))], G673, G676, G680, G684, G631] := St.reord S687 [6, 7, 8, 9, 0, 1, 2, 3, 4, 5] 10 rfl (by decide) rfl
       have hO692 : ObjO 114 BookS.rp b236 (⟨l249, l254, l259, x262⟩ : BookS) ([(b236, .cells #[.slice A247 l249.length c248, .slice A252 l254.length c253, .slice A257 l259.length c258, .int .i64 x262] 114 (0, 0))] ++ (G250 ++ (G255 ++ (G260)))) := ⟨_, _, ⟨A247, c248, G250, A252, c253, G255, A257, c258, G260, rfl, hO251, hO256, hO261, rfl⟩, rfl⟩
       have S693 : St _ _ _ [[(b236, .cells #[.slice A247 l249.length c248, .slice A252 l254.length c253, .slice A257 l259.length c258, .int .i64 x262] 114 (0, 0))] ++ (G250 ++ (G255 ++ (G260))), [(p629, .cells #[v672, v675, .slice A678 t661.2.asked.length c679, .slice A682 t661.2.was.length c683] 110 (0, 0))], G673, G676, G680, G684, G631] := S691.objs (by simp)
       obtain ⟨t694, hc695, hF⟩ := bind_some hF
       refine WOps.call T.call56 (evs_cons rfl evs_nil) rfl ?_
       refine (bs_still_calls q265 (⟨l249, l254, l259, x262⟩ : BookS) hO692 hc695 (St.hpN (As := [[(b236, .cells #[.slice A247 l249.length c248, .slice A252 l254.length c253, .slice A257 l259.length c258, .int .i64 x262] 114 (0, 0))] ++ (G250 ++ (G255 ++ (G260)))]) S693)).mono ?_
       rintro _ w696 ⟨G699, rfl, hO700, T697⟩
       have S698 := St.callN (As := [[(b236, .cells #[.slice A247 l249.length c248, .slice A252 l254.length c253, .slice A257 l259.length c258, .int .i64 x262] 114 (0, 0))] ++ (G250 ++ (G255 ++ (G260)))]) S693 T697
       change St _ _ _ [G699, [(p629, .cells #[v672, v675, .slice A678 t661.2.asked.length c679, .slice A682 t661.2.was.length c683] 110 (0, 0))], G673, G676, G680, G684, G631] at S698
       refine ⟨_, rfl, ?_⟩
       obtain ⟨cs701, G702, ho703, hg704⟩ := hO700
       obtain ⟨A705, c706, G707, A709, c710, G711, A713, c714, G715, rfl, hO708, hO712, hO716, hq717⟩ := ho703
       have S718 : St _ _ _ [[(b236, .cells #[.slice A705 t694.2.free.length c706, .slice A709 t694.2.want.length c710, .slice A713 t694.2.all.length c714, .int .i64 t694.2.lists] 114 (0, 0))], G707, G711, G715, [(p629, .cells #[v672, v675, .slice A678 t661.2.asked.length c679, .slice A682 t661.2.was.length c683] 110 (0, 0))], G673, G676, G680, G684, G631] := S698.objs (by rw [hg704, hq717]; simp)
       refine WOps.p (G.pick_t (kb (b := t661.1) rfl h690) rfl) rfl ?_
       refine WOps.p (G.assign rfl) rfl ?_
       refine WOps.nil ?_
       refine WEx.then_ ?_
       refine WCode.forget (l' := [(6, .bool t694.1)]) ⟨rfl, trivial⟩ ?_
       refine WCode.ret ?_
       obtain rfl := some_eq hF
       refine WEx.ret1 rfl rfl ?_
       exact ⟨rfl, St.keep (As := []) S718⟩
      ·
       refine WOps.off rfl (kbl (b := t661.1) rfl (Bool.eq_false_iff.2 h690)) rfl rfl ?_
       refine WOps.off rfl (kbl (b := t661.1) rfl (Bool.eq_false_iff.2 h690)) rfl rfl ?_
       refine WOps.p (G.pick_f (kb (b := t661.1) rfl (Bool.eq_false_iff.2 h690)) rfl) rfl ?_
       refine WOps.p (G.assign rfl) rfl ?_
       refine WOps.nil ?_
       refine WEx.then_ ?_
       refine WCode.forget (l' := [(6, .bool false)]) ⟨rfl, trivial⟩ ?_
       refine WCode.ret ?_
       obtain rfl := some_eq hF
       refine WEx.ret1 rfl rfl ?_
       exact ⟨rfl, St.keep (As := []) S687⟩
     ·
      refine WOps.off rfl (kbl (b := t590.1) rfl (Bool.eq_false_iff.2 h689)) rfl rfl ?_
      refine WOps.p (G.pick_f (kb (b := t590.1) rfl (Bool.eq_false_iff.2 h689)) rfl) rfl ?_
      refine WOps.p (G.move rfl) rfl ?_
      refine WOps.off rfl rfl rfl rfl ?_
      refine WOps.off rfl rfl rfl rfl ?_
      refine WOps.p (G.pick_f rfl rfl) rfl ?_
      refine WOps.p (G.assign rfl) rfl ?_
      refine WOps.nil ?_
      refine WEx.then_ ?_
      refine WCode.forget (l' := [(6, .bool false)]) ⟨rfl, trivial⟩ ?_
      refine WCode.ret ?_
      obtain rfl := some_eq hF
      refine WEx.ret1 rfl rfl ?_
      exact ⟨rfl, St.keep (As := []) S687⟩
    ·
     refine WOps.off rfl (kbl (b := t9) rfl (Bool.eq_false_iff.2 h688)) rfl rfl ?_
     refine WOps.p (G.pick_f (kb (b := t9) rfl (Bool.eq_false_iff.2 h688)) rfl) rfl ?_
     refine WOps.p (G.move rfl) rfl ?_
     refine WOps.off rfl rfl rfl rfl ?_
     refine WOps.p (G.pick_f rfl rfl) rfl ?_
     refine WOps.p (G.move rfl) rfl ?_
     refine WOps.off rfl rfl rfl rfl ?_
     refine WOps.off rfl rfl rfl rfl ?_
     refine WOps.p (G.pick_f rfl rfl) rfl ?_
     refine WOps.p (G.assign rfl) rfl ?_
     refine WOps.nil ?_
     refine WEx.then_ ?_
     refine WCode.forget (l' := [(6, .bool false)]) ⟨rfl, trivial⟩ ?_
     refine WCode.ret ?_
     obtain rfl := some_eq hF
     refine WEx.ret1 rfl rfl ?_
     exact ⟨rfl, St.keep (As := []) S687⟩

end Go.Proofs.Ytoahkjehjmbojaa
