/- Functions and their walks (printed by auto.py over the engine). -/
import Derived.Test.YtpdpfiaediadgaaProg
import Derived.Test.YtpdpfiaediadgaaSE
namespace Go.Proofs.Ytpdpfiaediadgaa
open Go Go.Eng
set_option linter.unusedSimpArgs false
set_option linter.unusedVariables false

theorem T.call25 : Callable Try.prog 25 := Callable.mk Try.func25 (by kernel_rfl) (by kernel_rfl)


def law_Finds.j6 (q404 : Nat) (b401 : Bool) : Option Bool := (some b401)
def law_Finds.j5 (q332 : Nat) (a3 : Int) (t35 : Int) (l42 : List Int) (l47 : List Service) (x201 : Int) (x202 : Int) (t324 : Int) (b329 : Bool) : Option Bool := (Option.bind (sv_Find q332 (⟨l47⟩ : Registry) t35 t324 a3) fun t369 => (Option.bind (sv_Run q332 (⟨l47⟩ : Registry) t35 t324 a3 ([] : List UInt8)) fun t377 => (Option.bind (sv_pick q332 (w64 (t35 + 1)) 4294967296) fun t385 => (Option.bind (sv_Find q332 (⟨l47⟩ : Registry) t385 t324 a3) fun t390 => (if t390.1 = 1 then (if b329 = true then (some true) else (if (l42.length : Int) = 0 then (if t369.1 = 1 then (if t369.2.1 = 0 then (if t369.2.2 = 0 then (if t377.1 = t369.1 then (law_Finds.j6 q332 (decide (t377.2 = ([] : List UInt8)))) else (law_Finds.j6 q332 false)) else (law_Finds.j6 q332 false)) else (law_Finds.j6 q332 false)) else (law_Finds.j6 q332 false)) else (if t369.1 = 2 then (if t369.2.1 = x201 then (if t369.2.2 = x202 then (if t377.1 = t369.1 then (some (decide (t377.2 = ([] : List UInt8)))) else (some false)) else (some false)) else (some false)) else (some false)))) else (some false))))))
def law_Finds.l4 : Nat → Int → Int → List Int → List Service → Int → Int → Int → Bool → Int → Option Bool
  | 0, _, _, _, _, _, _, _, _, _ => none
  | k338 + 1, a3, t35, l42, l47, x201, x202, t324, b334, x335 => (if x335 < (l42.length : Int) then (if b334 = true then (law_Finds.l4 k338 a3 t35 l42 l47 x201 x202 t324 true (w64 (x335 + 1))) else (Option.bind (idx l42 x335) fun x349 => (law_Finds.l4 k338 a3 t35 l42 l47 x201 x202 t324 (decide (x349 = t324)) (w64 (x335 + 1))))) else (law_Finds.j5 k338 a3 t35 l42 l47 x201 x202 t324 b334))
def law_Finds.j4 (q205 : Nat) (a2 : Int) (a3 : Int) (t35 : Int) (l42 : List Int) (l47 : List Service) (x201 : Int) (x202 : Int) : Option Bool := (Option.bind (sv_pick q205 a2 4294967296) fun t324 => (law_Finds.l4 q205 a3 t35 l42 l47 x201 x202 t324 false 0))
def law_Finds.l3 : Nat → Int → Int → Int → List Int → List Service → Int → Int → Int → Option Bool
  | 0, _, _, _, _, _, _, _, _ => none
  | k212 + 1, a2, a3, t35, l42, l47, x207, x208, x209 => (if x209 < (l42.length : Int) then (Option.bind (idx l42 x209) fun x219 => (Option.bind (idx l42 x209) fun x233 => (Option.bind (idx l42 x209) fun x247 => (Option.bind (sv_Find k212 (⟨l47⟩ : Registry) t35 x247 0) fun t261 => (Option.bind (idx l42 x209) fun x269 => (Option.bind (sv_Find k212 (⟨l47⟩ : Registry) t35 x269 1000000) fun t283 => (Option.bind (idx l42 x209) fun x291 => (Option.bind (sv_Find k212 (⟨l47⟩ : Registry) t35 x291 1000001) fun t305 => (if t261.1 = 0 then (if t261.2.1 = 0 then (if t261.2.2 = 0 then (if t283.1 = 0 then (if t305.1 = 3 then (law_Finds.l3 k212 a2 a3 t35 l42 l47 (min x207 x219) (max x208 x233) (w64 (x209 + 1))) else (some false)) else (some false)) else (some false)) else (some false)) else (some false)))))))))) else (law_Finds.j4 k212 a2 a3 t35 l42 l47 x207 x208))
def law_Finds.j2 (q52 : Nat) (a2 : Int) (a3 : Int) (t35 : Int) (l42 : List Int) (l47 : List Service) : Option Bool := (law_Finds.l3 q52 a2 a3 t35 l42 l47 4294967296 (-1) 0)
mutual
def law_Finds.j3 : Nat → List Int → Int → Int → Int → List Int → Int → List Service → Int → Bool → Option Bool
  | 0, _, _, _, _, _, _, _, _, _ => none
  | k135 + 1, a1, a2, a3, t35, l56, x59, l62, t90, b95 => (Option.bind (sv_Offer k135 (⟨l62⟩ : Registry) (⟨t35, t90, ([w64 (1 + (Int.tmod x59 1000)), 1000000] : List Int), true⟩ : Service)) fun t146 => (if b95 = true then (if t146.1 = 181 then (law_Finds.l1 k135 a1 a2 a3 t35 l56 (w64 (x59 + 1)) t146.2.l) else (some false)) else (if (l56.length : Int) = 16 then (if t146.1 = 182 then (law_Finds.l1 k135 a1 a2 a3 t35 l56 (w64 (x59 + 1)) t146.2.l) else (some false)) else (if t146.1 = 0 then (Option.bind (catN 17592186044416 l56 ([t90] : List Int)) fun l183 => (law_Finds.l1 k135 a1 a2 a3 t35 l183 (w64 (x59 + 1)) t146.2.l)) else (some false)))))
def law_Finds.l2 : Nat → List Int → Int → Int → Int → List Int → Int → List Service → Int → Bool → Int → Option Bool
  | 0, _, _, _, _, _, _, _, _, _, _ => none
  | k104 + 1, a1, a2, a3, t35, l56, x59, l62, t90, b100, x101 => (if x101 < (l56.length : Int) then (if b100 = true then (law_Finds.l2 k104 a1 a2 a3 t35 l56 x59 l62 t90 true (w64 (x101 + 1))) else (Option.bind (idx l56 x101) fun x115 => (law_Finds.l2 k104 a1 a2 a3 t35 l56 x59 l62 t90 (decide (x115 = t90)) (w64 (x101 + 1))))) else (law_Finds.j3 k104 a1 a2 a3 t35 l56 x59 l62 t90 b100))
def law_Finds.l1 : Nat → List Int → Int → Int → Int → List Int → Int → List Service → Option Bool
  | 0, _, _, _, _, _, _, _ => none
  | k67 + 1, a1, a2, a3, t35, l56, x59, l62 => (if x59 < (a1.length : Int) then (Option.bind (idx a1 x59) fun x76 => (Option.bind (sv_pick k67 x76 4294967296) fun t90 => (law_Finds.l2 k67 a1 a2 a3 t35 l56 x59 l62 t90 false 0))) else (law_Finds.j2 k67 a2 a3 t35 l56 l62))
end
def law_Finds.j1 (q27 : Nat) (a0 : Int) (a1 : List Int) (a2 : Int) (a3 : Int) (t6 : Registry) (b24 : Bool) : Option Bool := (if b24 = true then (some false) else (Option.bind (sv_pick q27 a0 4294967296) fun t35 => (law_Finds.l1 q27 a1 a2 a3 t35 [] 0 t6.l)))
def law_Finds (k : Nat) (a0 : Int) (a1 : List Int) (a2 : Int) (a3 : Int) : Option Bool := (Option.bind (sv_known k) fun t1 => (Option.bind (sv_New k) fun t6 => (if t1 = true then (law_Finds.j1 k a0 a1 a2 a3 t6 false) else (law_Finds.j1 k a0 a1 a2 a3 t6 true))))
set_option maxRecDepth 100000 in
set_option maxHeartbeats 1000000 in
theorem law_Finds_calls (k : Nat) (a0 : Int) (a1 : List Int) {A1 : Option Addr} {c1 : Nat} {F1 : Nat → Prop} (a2 : Int) (a3 : Int) {w : World} (hR1 : SlR (Rp.int .i64) w F1 A1 c1 a1) (hF1 : ∀ b, F1 b → NK w [] b) {r_ : Bool} (h_ : law_Finds k a0 a1 a2 a3 = some r_) :
    Calls Try.prog 8 [.int .i64 a0, .slice A1 a1.length c1, .int .i64 a2, .int .i64 a3].toArray w fun e w' => e = .returned (.bool r_) ∧ St w (KS []) w' [] := by
  have hF := h_
  clear h_
  unfold law_Finds at hF
  have S := St.ofFalse (As := []) (St.init0 w)
  refine enter 264 [(0, .int .i64 a0), (1, .slice A1 a1.length c1), (2, .int .i64 a2), (3, .int .i64 a3)] Try.func8 rfl rfl rfl rfl ?_
  refine WCode.seq ?_
  refine WCode.region ?_
  refine WOps.p (G.assign rfl) rfl ?_
  refine WOps.nil ?_
  refine WEx.then_ ?_
  refine WCode.seq ?_
  refine WCode.region ?_
  obtain ⟨t1, hc2, hF⟩ := bind_some hF
  refine WOps.call T.call25 evs_nil rfl ?_
  refine (sv_known_calls k hc2).mono ?_
  rintro _ w3 ⟨rfl, T4⟩
  have S5 := St.callN (As := []) S T4
  change St _ _ _ [] at S5
  refine ⟨_, rfl, ?_⟩
  refine WOps.p (G.assign rfl) rfl ?_
  refine WOps.nil ?_
  refine WEx.then_ ?_
  refine WCode.seq ?_
  refine WCode.region ?_
  obtain ⟨t6, hc7, hF⟩ := bind_some hF
  refine WOps.call T.call26 evs_nil rfl ?_
  refine (sv_New_calls k hc7).mono ?_
  rintro _ w8 ⟨p11, G12, rfl, hO13, T9⟩
  have S10 := St.callN (As := []) S5 T9
  change St _ _ _ [G12] at S10
  refine ⟨_, rfl, ?_⟩
  obtain ⟨cs14, G15, ho16, hg17⟩ := hO13
  obtain ⟨A18, c19, G20, rfl, hO21, hq22⟩ := ho16
  have S23 : St _ _ _ [[(p11, .cells #[.slice A18 t6.l.length c19] 108 (0, 0))], G20] := S10.objs (by rw [hg17, hq22]; simp)
  refine WOps.p (G.assign rfl) rfl ?_
  refine WOps.nil ?_
  refine WEx.then_ ?_
  refine WCode.seq ?_
  refine WCode.cutseq (fun l_ w_ => ∃ q27 : Nat, ∃ b24 : Bool, l_ = [(0, .int .i64 a0), (1, .slice A1 a1.length c1), (2, .int .i64 a2), (3, .int .i64 a3), (10, .pointer (some ⟨p11, 0, none⟩)), (48, .bool b24)] ∧ law_Finds.j1 q27 a0 a1 a2 a3 t6 b24 = some r_ ∧ St w (KS []) w_ [[(p11, .cells #[.slice A18 t6.l.length c19] 108 (0, 0))], G20]) ?_ ?_
  ·
    refine WCode.region ?_
    refine WOps.p (G.move rfl) rfl ?_
    refine WOps.p (G.not rfl rfl) rfl ?_
    refine WOps.p (G.move rfl) rfl ?_
    rcases ite_some hF with ⟨h29, hF⟩ | ⟨h29, hF⟩
    ·
      refine WOps.on rfl (kbl (b := !t1) rfl (show (!t1) = false from by rw [h29]; rfl)) ?_
      refine WOps.p (G.move rfl) rfl ?_
      refine WOps.on rfl (kbl (b := !t1) rfl (show (!t1) = false from by rw [h29]; rfl)) ?_
      refine WOps.p (G.eqp_nil Try.underlying65 rfl rfl rfl) rfl ?_
      refine WOps.p (G.pick_f (kb (b := !t1) rfl (show (!t1) = false from by rw [h29]; rfl)) rfl) rfl ?_
      refine WOps.nil ?_
      have S30 := S23.front 1 rfl
      change St _ _ _ [G20, [(p11, .cells #[.slice A18 t6.l.length c19] 108 (0, 0))]] at S30
      have S31 := S30.front 1 rfl
      change St _ _ _ [[(p11, .cells #[.slice A18 t6.l.length c19] 108 (0, 0))], G20] at S31
      refine WEx.cutend _ ?_ ⟨k, false, rfl, hF, S31⟩
      exact ⟨rfl, rfl, rfl, rfl, rfl, rfl, trivial⟩
    ·
      refine WOps.off rfl (kbl (b := !t1) rfl (show (!t1) = true from by rw [(Bool.eq_false_iff.2 h29)]; rfl)) rfl rfl ?_
      refine WOps.off rfl (kbl (b := !t1) rfl (show (!t1) = true from by rw [(Bool.eq_false_iff.2 h29)]; rfl)) rfl rfl ?_
      refine WOps.p (G.pick_t (kb (b := !t1) rfl (show (!t1) = true from by rw [(Bool.eq_false_iff.2 h29)]; rfl)) rfl) rfl ?_
      refine WOps.nil ?_
      have S32 := S23.front 1 rfl
      change St _ _ _ [G20, [(p11, .cells #[.slice A18 t6.l.length c19] 108 (0, 0))]] at S32
      have S33 := S32.front 1 rfl
      change St _ _ _ [[(p11, .cells #[.slice A18 t6.l.length c19] 108 (0, 0))], G20] at S33
      refine WEx.cutend _ ?_ ⟨k, true, rfl, hF, S33⟩
      exact ⟨rfl, rfl, rfl, rfl, rfl, rfl, trivial⟩
  ·
    rintro _ w25 ⟨q27, b24, rfl, hF, S26⟩
    unfold law_Finds.j1 at hF
    rcases ite_some hF with ⟨h34, hF⟩ | ⟨h34, hF⟩
    ·
      refine WCode.cond_t (kb (b := b24) rfl h34) ?_
      refine WCode.seq ?_
      refine WCode.region ?_
      refine WOps.p (G.assign rfl) rfl ?_
      refine WOps.nil ?_
      refine WEx.then_ ?_
      refine WCode.ret ?_
      refine WEx.then_ret ?_
      obtain rfl := some_eq hF
      refine WEx.ret1 rfl rfl ?_
      exact ⟨rfl, St.keep (As := []) S26⟩
    ·
      refine WCode.cond_f (kb (b := b24) rfl (Bool.eq_false_iff.2 h34)) ?_
      refine WCode.skip ?_
      refine WEx.then_ ?_
      refine WCode.seq ?_
      refine WCode.region ?_
      refine WOps.p (G.move rfl) rfl ?_
      obtain ⟨t35, hc36, hF⟩ := bind_some hF
      refine WOps.call T.call33 (evs_cons rfl (evs_cons rfl evs_nil)) rfl ?_
      refine (sv_pick_calls q27 a0 4294967296 hc36).mono ?_
      rintro _ w37 ⟨rfl, T38⟩
      have S39 := St.callN (As := []) S26 T38
      change St _ _ _ [[(p11, .cells #[.slice A18 t6.l.length c19] 108 (0, 0))], G20] at S39
      refine ⟨_, rfl, ?_⟩
      refine WOps.p (G.assign rfl) rfl ?_
      refine WOps.nil ?_
      refine WEx.then_ ?_
      refine WCode.seq ?_
      refine WCode.region ?_
      refine WOps.p (G.assign rfl) rfl ?_
      refine WOps.nil ?_
      refine WEx.then_ ?_
      refine WCode.cutseq (fun l_ w_ => ∃ q52 : Nat, ∃ A40 : Option Addr, ∃ c41 : Nat, ∃ l42 : List Int, ∃ G43 : Grp, ∃ A45 : Option Addr, ∃ c46 : Nat, ∃ l47 : List Service, ∃ G48 : Grp, l_ = [(2, .int .i64 a2), (3, .int .i64 a3), (10, .pointer (some ⟨p11, 0, none⟩)), (11, .int .i64 t35), (12, .slice A40 l42.length c41)] ∧ law_Finds.j2 q52 a2 a3 t35 l42 l47 = some r_ ∧ (SlO 3 (Rp.int .i64) (.slice A40 l42.length c41) l42 G43) ∧ (SlO 85 Service.rp (.slice A45 l47.length c46) l47 G48) ∧ St w (KS []) w_ [[(p11, .cells #[.slice A45 l47.length c46] 108 (0, 0))], G43, G48]) ?_ ?_
      ·
        refine WCode.seq ?_
        refine WCode.region ?_
        refine WOps.p (G.assign rfl) rfl ?_
        refine WOps.nil ?_
        refine WEx.then_ ?_
        refine WCode.block ?_
        have S69 := S39.emp
        have S71 := S69.front 2 rfl
        change St _ _ _ [G20, ([] : Grp), [(p11, .cells #[.slice A18 t6.l.length c19] 108 (0, 0))]] at S71
        have S72 := S71.front 1 rfl
        change St _ _ _ [([] : Grp), G20, [(p11, .cells #[.slice A18 t6.l.length c19] 108 (0, 0))]] at S72
        have S73 := S72.front 2 rfl
        change St _ _ _ [[(p11, .cells #[.slice A18 t6.l.length c19] 108 (0, 0))], ([] : Grp), G20] at S73
        refine WCode.forget (l' := [(1, .slice A1 a1.length c1), (2, .int .i64 a2), (3, .int .i64 a3), (10, .pointer (some ⟨p11, 0, none⟩)), (11, .int .i64 t35), (12, .slice none 0 0), (13, .int .i64 0)]) ⟨rfl, rfl, rfl, rfl, rfl, rfl, rfl, trivial⟩ ?_
        refine WCode.loop (fun n_ l_ w_ => ∃ A54 : Option Addr, ∃ c55 : Nat, ∃ l56 : List Int, ∃ G57 : Grp, ∃ x59 : Int, ∃ A60 : Option Addr, ∃ c61 : Nat, ∃ l62 : List Service, ∃ G63 : Grp, l_ = [(1, .slice A1 a1.length c1), (2, .int .i64 a2), (3, .int .i64 a3), (10, .pointer (some ⟨p11, 0, none⟩)), (11, .int .i64 t35), (12, .slice A54 l56.length c55), (13, .int .i64 x59)] ∧ law_Finds.l1 n_ a1 a2 a3 t35 l56 x59 l62 = some r_ ∧ (SlO 3 (Rp.int .i64) (.slice A54 l56.length c55) l56 G57) ∧ (SlO 85 Service.rp (.slice A60 l62.length c61) l62 G63) ∧ St w (KS []) w_ [[(p11, .cells #[.slice A60 l62.length c61] 108 (0, 0))], G57, G63]) q27 ⟨none, 0, [], ([] : Grp), 0, A18, c19, t6.l, G20, rfl, hF, (SlO.nil 3 (Rp.int .i64)), hO21, S73⟩ ?_
        rintro n68 _ w65 ⟨A54, c55, l56, G57, x59, A60, c61, l62, G63, rfl, hF, hO58, hO64, S66⟩
        obtain _ | k67 := n68
        · exact nomatch (show (none : Option Bool) = some r_ from hF)
        rw [law_Finds.l1] at hF
        refine WCode.seq ?_
        refine WCode.seq ?_
        refine WCode.region ?_
        refine WOps.p (G.move rfl) rfl ?_
        refine WOps.p (G.move rfl) rfl ?_
        refine WOps.p (G.len T.el49 rfl) rfl ?_
        refine WOps.p (G.lss rfl rfl rfl) rfl ?_
        refine WOps.nil ?_
        refine WEx.then_ ?_
        rcases ite_some hF with ⟨h75, hF⟩ | ⟨h75, hF⟩
        ·
          refine WCode.cond_t (kb (b := decide (x59 < (a1.length : Int))) rfl (decide_eq_true h75)) ?_
          refine WCode.skip ?_
          refine WEx.then_ ?_
          refine WCode.seq ?_
          refine WCode.block ?_
          refine WCode.seq ?_
          refine WCode.region ?_
          refine WOps.p (G.move rfl) rfl ?_
          refine WOps.p (G.move rfl) rfl ?_
          obtain ⟨x76, hc77, hF⟩ := bind_some hF
          obtain ⟨j78, ej79, hj80, hl81⟩ := idx_spec hc77
          obtain ⟨b82, o83, cs84, eA85, hf86, hc87, hr88⟩ := SlR.at_ (hR1.ext (S66.keepF hF1)) hj80
          have hq89 : cs84 = [.int .i64 x76] := hr88
          subst hq89
          change cellsAt _ _ (o83 + j78 * 1) [.int .i64 x76] at hc87
          refine WOps.p (G.idx T.el49 rfl eA85 rfl ej79 hl81) rfl ?_
          refine WOps.r (G.load1 T.one3 rfl (cellsAt.at0 hc87)) rfl ?_
          obtain ⟨t90, hc91, hF⟩ := bind_some hF
          refine WOps.call T.call33 (evs_cons rfl (evs_cons rfl evs_nil)) rfl ?_
          refine (sv_pick_calls k67 x76 4294967296 hc91).mono ?_
          rintro _ w92 ⟨rfl, T93⟩
          have S94 := St.callN (As := []) S66 T93
          change St _ _ _ [[(p11, .cells #[.slice A60 l62.length c61] 108 (0, 0))], G57, G63] at S94
          refine ⟨_, rfl, ?_⟩
          refine WOps.p (G.assign rfl) rfl ?_
          refine WOps.nil ?_
          refine WEx.then_ ?_
          refine WCode.seq ?_
          refine WCode.region ?_
          refine WOps.p (G.assign rfl) rfl ?_
          refine WOps.nil ?_
          refine WEx.then_ ?_
          refine WCode.cutseq (fun l_ w_ => ∃ q98 : Nat, ∃ b95 : Bool, l_ = [(1, .slice A1 a1.length c1), (2, .int .i64 a2), (3, .int .i64 a3), (10, .pointer (some ⟨p11, 0, none⟩)), (11, .int .i64 t35), (12, .slice A54 l56.length c55), (13, .int .i64 x59), (14, .int .i64 t90), (15, .bool b95)] ∧ law_Finds.j3 q98 a1 a2 a3 t35 l56 x59 l62 t90 b95 = some r_ ∧ q98 ≤ k67 ∧ St w (KS []) w_ [[(p11, .cells #[.slice A60 l62.length c61] 108 (0, 0))], G57, G63]) ?_ ?_
          ·
            refine WCode.seq ?_
            refine WCode.region ?_
            refine WOps.p (G.assign rfl) rfl ?_
            refine WOps.nil ?_
            refine WEx.then_ ?_
            refine WCode.block ?_
            have S106 := S94.front 2 rfl
            change St _ _ _ [G63, [(p11, .cells #[.slice A60 l62.length c61] 108 (0, 0))], G57] at S106
            have S107 := S106.front 2 rfl
            change St _ _ _ [G57, G63, [(p11, .cells #[.slice A60 l62.length c61] 108 (0, 0))]] at S107
            have S108 := S107.front 2 rfl
            change St _ _ _ [[(p11, .cells #[.slice A60 l62.length c61] 108 (0, 0))], G57, G63] at S108
            refine WCode.forget (l' := [(1, .slice A1 a1.length c1), (2, .int .i64 a2), (3, .int .i64 a3), (10, .pointer (some ⟨p11, 0, none⟩)), (11, .int .i64 t35), (12, .slice A54 l56.length c55), (13, .int .i64 x59), (14, .int .i64 t90), (15, .bool false), (16, .int .i64 0)]) ⟨rfl, rfl, rfl, rfl, rfl, rfl, rfl, rfl, rfl, rfl, trivial⟩ ?_
            refine WCode.loop (fun n_ l_ w_ => ∃ b100 : Bool, ∃ x101 : Int, l_ = [(1, .slice A1 a1.length c1), (2, .int .i64 a2), (3, .int .i64 a3), (10, .pointer (some ⟨p11, 0, none⟩)), (11, .int .i64 t35), (12, .slice A54 l56.length c55), (13, .int .i64 x59), (14, .int .i64 t90), (15, .bool b100), (16, .int .i64 x101)] ∧ law_Finds.l2 n_ a1 a2 a3 t35 l56 x59 l62 t90 b100 x101 = some r_ ∧ n_ ≤ k67 ∧ St w (KS []) w_ [[(p11, .cells #[.slice A60 l62.length c61] 108 (0, 0))], G57, G63]) k67 ⟨false, 0, rfl, hF, Nat.le_refl _, S108⟩ ?_
            rintro n105 _ w102 ⟨b100, x101, rfl, hF, hle109, S103⟩
            obtain _ | k104 := n105
            · exact nomatch (show (none : Option Bool) = some r_ from hF)
            rw [law_Finds.l2] at hF
            refine WCode.seq ?_
            refine WCode.seq ?_
            refine WCode.region ?_
            refine WOps.p (G.move rfl) rfl ?_
            refine WOps.p (G.move rfl) rfl ?_
            refine WOps.p (G.len T.el49 rfl) rfl ?_
            refine WOps.p (G.lss rfl rfl rfl) rfl ?_
            refine WOps.nil ?_
            refine WEx.then_ ?_
            rcases ite_some hF with ⟨h110, hF⟩ | ⟨h110, hF⟩
            ·
              refine WCode.cond_t (kb (b := decide (x101 < (l56.length : Int))) rfl (decide_eq_true h110)) ?_
              refine WCode.skip ?_
              refine WEx.then_ ?_
              refine WCode.seq ?_
              refine WCode.block ?_
              refine WCode.region ?_
              refine WOps.p (G.move rfl) rfl ?_
              refine WOps.p (G.move rfl) rfl ?_
              rcases ite_some hF with ⟨h111, hF⟩ | ⟨h111, hF⟩
              ·
                refine WOps.off rfl (kbl (b := b100) rfl h111) rfl rfl ?_
                refine WOps.off rfl (kbl (b := b100) rfl h111) rfl rfl ?_
                refine WOps.off rfl (kbl (b := b100) rfl h111) rfl rfl ?_
                refine WOps.off rfl (kbl (b := b100) rfl h111) rfl rfl ?_
                refine WOps.off rfl (kbl (b := b100) rfl h111) rfl rfl ?_
                refine WOps.off rfl (kbl (b := b100) rfl h111) rfl rfl ?_
                refine WOps.p (G.pick_t (kb (b := b100) rfl h111) rfl) rfl ?_
                refine WOps.p (G.assign rfl) rfl ?_
                refine WOps.nil ?_
                refine WEx.in_normal ?_
                refine WEx.then_ ?_
                refine WCode.region ?_
                refine WOps.p (G.move rfl) rfl ?_
                refine WOps.p (G.add rfl rfl (r := (w64 (x101 + 1))) rfl) rfl ?_
                refine WOps.p (G.assign rfl) rfl ?_
                refine WOps.nil ?_
                have S112 := S103.front 2 rfl
                change St _ _ _ [G63, [(p11, .cells #[.slice A60 l62.length c61] 108 (0, 0))], G57] at S112
                have S113 := S112.front 2 rfl
                change St _ _ _ [G57, G63, [(p11, .cells #[.slice A60 l62.length c61] 108 (0, 0))]] at S113
                have S114 := S113.front 2 rfl
                change St _ _ _ [[(p11, .cells #[.slice A60 l62.length c61] 108 (0, 0))], G57, G63] at S114
                refine WEx.again _ _ (by omega) ?_ ⟨true, w64 (x101 + 1), rfl, hF, (by omega), S114⟩
                exact ⟨rfl, rfl, rfl, rfl, rfl, rfl, rfl, rfl, rfl, rfl, trivial⟩
              ·
                refine WOps.on rfl (kbl (b := b100) rfl (Bool.eq_false_iff.2 h111)) ?_
                refine WOps.p (G.move rfl) rfl ?_
                refine WOps.on rfl (kbl (b := b100) rfl (Bool.eq_false_iff.2 h111)) ?_
                refine WOps.p (G.move rfl) rfl ?_
                refine WOps.on rfl (kbl (b := b100) rfl (Bool.eq_false_iff.2 h111)) ?_
                obtain ⟨x115, hc116, hF⟩ := bind_some hF
                obtain ⟨j117, ej118, hj119, hl120⟩ := idx_spec hc116
                obtain ⟨b121, o122, cs123, eA124, hf125, hc126, hr127⟩ := SlR.at_ (hO58.rd (fun b o hb => S103.grp 1 rfl hb)) hj119
                have hq128 : cs123 = [.int .i64 x115] := hr127
                subst hq128
                change cellsAt _ _ (o122 + j117 * 1) [.int .i64 x115] at hc126
                refine WOps.p (G.idx T.el49 rfl eA124 rfl ej118 hl120) rfl ?_
                refine WOps.on rfl (kbl (b := b100) rfl (Bool.eq_false_iff.2 h111)) ?_
                refine WOps.r (G.load1 T.one3 rfl (cellsAt.at0 hc126)) rfl ?_
                refine WOps.on rfl (kbl (b := b100) rfl (Bool.eq_false_iff.2 h111)) ?_
                refine WOps.p (G.move rfl) rfl ?_
                refine WOps.on rfl (kbl (b := b100) rfl (Bool.eq_false_iff.2 h111)) ?_
                refine WOps.p (G.eql rfl rfl rfl) rfl ?_
                refine WOps.p (G.pick_f (kb (b := b100) rfl (Bool.eq_false_iff.2 h111)) rfl) rfl ?_
                refine WOps.p (G.assign rfl) rfl ?_
                refine WOps.nil ?_
                refine WEx.in_normal ?_
                refine WEx.then_ ?_
                refine WCode.region ?_
                refine WOps.p (G.move rfl) rfl ?_
                refine WOps.p (G.add rfl rfl (r := (w64 (x101 + 1))) rfl) rfl ?_
                refine WOps.p (G.assign rfl) rfl ?_
                refine WOps.nil ?_
                have S129 := S103.front 2 rfl
                change St _ _ _ [G63, [(p11, .cells #[.slice A60 l62.length c61] 108 (0, 0))], G57] at S129
                have S130 := S129.front 2 rfl
                change St _ _ _ [G57, G63, [(p11, .cells #[.slice A60 l62.length c61] 108 (0, 0))]] at S130
                have S131 := S130.front 2 rfl
                change St _ _ _ [[(p11, .cells #[.slice A60 l62.length c61] 108 (0, 0))], G57, G63] at S131
                refine WEx.again _ _ (by omega) ?_ ⟨decide (x115 = t90), w64 (x101 + 1), rfl, hF, (by omega), S131⟩
                exact ⟨rfl, rfl, rfl, rfl, rfl, rfl, rfl, rfl, rfl, rfl, trivial⟩
            ·
              refine WCode.cond_f (kb (b := decide (x101 < (l56.length : Int))) rfl (decide_eq_false h110)) ?_
              refine WCode.exit ?_
              refine WEx.then_exit ?_
              refine WEx.then_exit ?_
              refine WEx.in_exit ?_
              have S132 := S103.front 2 rfl
              change St _ _ _ [G63, [(p11, .cells #[.slice A60 l62.length c61] 108 (0, 0))], G57] at S132
              have S133 := S132.front 2 rfl
              change St _ _ _ [G57, G63, [(p11, .cells #[.slice A60 l62.length c61] 108 (0, 0))]] at S133
              have S134 := S133.front 2 rfl
              change St _ _ _ [[(p11, .cells #[.slice A60 l62.length c61] 108 (0, 0))], G57, G63] at S134
              refine WEx.cutend _ ?_ ⟨k104, b100, rfl, hF, (by omega), S134⟩
              exact ⟨rfl, rfl, rfl, rfl, rfl, rfl, rfl, rfl, rfl, trivial⟩
          ·
            rintro _ w96 ⟨q98, b95, rfl, hF, hq99, S97⟩
            obtain _ | k135 := q98
            · exact nomatch (show (none : Option Bool) = some r_ from hF)
            rw [law_Finds.j3] at hF
            refine WCode.seq ?_
            refine WCode.region ?_
            refine WOps.p (G.move rfl) rfl ?_
            refine WOps.p (G.move rfl) rfl ?_
            refine WOps.p (G.move rfl) rfl ?_
            refine WOps.p (G.move rfl) rfl ?_
            refine WOps.p (G.remk rfl rfl (by decide)) rfl ?_
            refine WOps.p (G.add rfl rfl (r := (w64 (1 + (Int.tmod x59 1000)))) rfl) rfl ?_
            obtain ⟨b136, w137, E138, S139, X140, L141⟩ := St.lit S97 (P := Try.prog) (t := 49) (e := 3) (n := 2) (vs := [(0, .int .i64 (w64 (1 + (Int.tmod x59 1000)))), (1, .int .i64 1000000)]) (cs := #[.int .i64 (w64 (1 + (Int.tmod x59 1000))), .int .i64 1000000]) (by kernel_rfl)
            change St _ _ _ [[(b136, .cells #[.int .i64 (w64 (1 + (Int.tmod x59 1000))), .int .i64 1000000] 3 (0, 0))], [(p11, .cells #[.slice A60 l62.length c61] 108 (0, 0))], G57, G63] at S139
            refine WOps.e (E138 (evp_cons rfl (evp_cons rfl evp_nil))) rfl ?_
            refine WOps.p (G.build (cells := #[.int .i64 t35, .int .i64 t90, .slice (some ⟨b136, 0, none⟩) ([w64 (1 + (Int.tmod x59 1000)), 1000000] : List Int).length 2, .func (.func 35) #[] #[]]) (evp_spec (evp_cons rfl (evp_cons rfl (evp_cons rfl (evp_cons rfl evp_nil))))) (by kernel_rfl)) rfl ?_
            have S142 := S139.front 3 rfl
            change St _ _ _ [G63, [(b136, .cells #[.int .i64 (w64 (1 + (Int.tmod x59 1000))), .int .i64 1000000] 3 (0, 0))], [(p11, .cells #[.slice A60 l62.length c61] 108 (0, 0))], G57] at S142
            have S143 := S142.front 2 rfl
            change St _ _ _ [[(p11, .cells #[.slice A60 l62.length c61] 108 (0, 0))], G63, [(b136, .cells #[.int .i64 (w64 (1 + (Int.tmod x59 1000))), .int .i64 1000000] 3 (0, 0))], G57] at S143
            have hO144 : ObjO 108 Registry.rp p11 (⟨l62⟩ : Registry) ([(p11, .cells #[.slice A60 l62.length c61] 108 (0, 0))] ++ (G63)) := ⟨_, _, ⟨A60, c61, G63, rfl, hO64, rfl⟩, rfl⟩
            have S145 : St _ _ _ [[(p11, .cells #[.slice A60 l62.length c61] 108 (0, 0))] ++ (G63), [(b136, .cells #[.int .i64 (w64 (1 + (Int.tmod x59 1000))), .int .i64 1000000] 3 (0, 0))], G57] := S143.objs (by simp)
            obtain ⟨t146, hc147, hF⟩ := bind_some hF
            have hO148 : SlO 3 (Rp.int .i64) (.slice (some ⟨b136, 0, none⟩) ([w64 (1 + (Int.tmod x59 1000)), 1000000] : List Int).length 2) ([w64 (1 + (Int.tmod x59 1000)), 1000000] : List Int) ([(b136, .cells #[.int .i64 (w64 (1 + (Int.tmod x59 1000))), .int .i64 1000000] 3 (0, 0))] ++ []) := SlO.lit (GM := []) ⟨_, _, [], [], rfl, rfl, ⟨rfl, rfl⟩, ⟨_, _, [], [], rfl, rfl, ⟨rfl, rfl⟩, ⟨rfl, rfl⟩⟩⟩ rfl (Nat.le_of_ble_eq_true rfl) (Nat.le_of_ble_eq_true rfl)
            rw [List.append_nil] at hO148
            refine WOps.call T.call34 (evs_cons rfl (evs_cons rfl evs_nil)) rfl ?_
            refine (sv_Offer_calls k135 (⟨l62⟩ : Registry) (⟨t35, t90, ([w64 (1 + (Int.tmod x59 1000)), 1000000] : List Int), true⟩ : Service) hO144 (hO148.rd (fun b o hb => S145.grp 1 rfl hb)) (St.outG (Bs := [[(p11, .cells #[.slice A60 l62.length c61] 108 (0, 0))] ++ (G63)]) S145 0 rfl) hc147 (St.hpN (As := [[(p11, .cells #[.slice A60 l62.length c61] 108 (0, 0))] ++ (G63)]) S145)).mono ?_
            rintro _ w149 ⟨G152, rfl, hO153, T150⟩
            have S151 := St.callN (As := [[(p11, .cells #[.slice A60 l62.length c61] 108 (0, 0))] ++ (G63)]) S145 T150
            change St _ _ _ [G152, [(b136, .cells #[.int .i64 (w64 (1 + (Int.tmod x59 1000))), .int .i64 1000000] 3 (0, 0))], G57] at S151
            refine ⟨_, rfl, ?_⟩
            obtain ⟨cs154, G155, ho156, hg157⟩ := hO153
            obtain ⟨A158, c159, G160, rfl, hO161, hq162⟩ := ho156
            have S163 : St _ _ _ [[(p11, .cells #[.slice A158 t146.2.l.length c159] 108 (0, 0))], G160, [(b136, .cells #[.int .i64 (w64 (1 + (Int.tmod x59 1000))), .int .i64 1000000] 3 (0, 0))], G57] := S151.objs (by rw [hg157, hq162]; simp)
            refine WOps.p (G.assign rfl) rfl ?_
            refine WOps.nil ?_
            refine WEx.then_ ?_
            refine WCode.block ?_
            refine WCode.seq ?_
            refine WCode.region ?_
            refine WOps.p (G.move rfl) rfl ?_
            refine WOps.p (G.assign rfl) rfl ?_
            refine WOps.nil ?_
            refine WEx.then_ ?_
            refine WCode.forget (l' := [(1, .slice A1 a1.length c1), (2, .int .i64 a2), (3, .int .i64 a3), (10, .pointer (some ⟨p11, 0, none⟩)), (11, .int .i64 t35), (12, .slice A54 l56.length c55), (13, .int .i64 x59), (14, .int .i64 t90), (17, .int .i64 t146.1), (92, .bool b95)]) ⟨rfl, rfl, rfl, rfl, rfl, rfl, rfl, rfl, rfl, rfl, trivial⟩ ?_
            rcases ite_some hF with ⟨h164, hF⟩ | ⟨h164, hF⟩
            ·
              refine WCode.cond_t (kb (b := b95) rfl h164) ?_
              refine WCode.seq ?_
              refine WCode.region ?_
              refine WOps.p (G.move rfl) rfl ?_
              refine WOps.p (G.neq rfl rfl rfl) rfl ?_
              refine WOps.nil ?_
              refine WEx.then_ ?_
              rcases ite_some hF with ⟨h165, hF⟩ | ⟨h165, hF⟩
              ·
                refine WCode.cond_f (kb (b := !(decide (t146.1 = 181))) rfl (show (!(decide (t146.1 = 181))) = false from by rw [(decide_eq_true h165)]; rfl)) ?_
                refine WCode.skip ?_
                refine WEx.in_normal ?_
                refine WEx.in_normal ?_
                refine WEx.then_ ?_
                refine WCode.region ?_
                refine WOps.p (G.move rfl) rfl ?_
                refine WOps.p (G.add rfl rfl (r := (w64 (x59 + 1))) rfl) rfl ?_
                refine WOps.p (G.assign rfl) rfl ?_
                refine WOps.nil ?_
                have S166 := S163.front 1 rfl
                change St _ _ _ [G160, [(p11, .cells #[.slice A158 t146.2.l.length c159] 108 (0, 0))], [(b136, .cells #[.int .i64 (w64 (1 + (Int.tmod x59 1000))), .int .i64 1000000] 3 (0, 0))], G57] at S166
                have S167 := S166.front 3 rfl
                change St _ _ _ [G57, G160, [(p11, .cells #[.slice A158 t146.2.l.length c159] 108 (0, 0))], [(b136, .cells #[.int .i64 (w64 (1 + (Int.tmod x59 1000))), .int .i64 1000000] 3 (0, 0))]] at S167
                have S168 := S167.front 2 rfl
                change St _ _ _ [[(p11, .cells #[.slice A158 t146.2.l.length c159] 108 (0, 0))], G57, G160, [(b136, .cells #[.int .i64 (w64 (1 + (Int.tmod x59 1000))), .int .i64 1000000] 3 (0, 0))]] at S168
                have S169 := St.keep (As := [[(p11, .cells #[.slice A158 t146.2.l.length c159] 108 (0, 0))], G57, G160]) S168
                refine WEx.again _ _ (by omega) ?_ ⟨A54, c55, l56, G57, w64 (x59 + 1), A158, c159, t146.2.l, G160, rfl, hF, hO58, hO161, S169⟩
                exact ⟨rfl, rfl, rfl, rfl, rfl, rfl, rfl, trivial⟩
              ·
                refine WCode.cond_t (kb (b := !(decide (t146.1 = 181))) rfl (show (!(decide (t146.1 = 181))) = true from by rw [(decide_eq_false h165)]; rfl)) ?_
                refine WCode.seq ?_
                refine WCode.region ?_
                refine WOps.p (G.assign rfl) rfl ?_
                refine WOps.nil ?_
                refine WEx.then_ ?_
                refine WCode.forget (l' := [(8, .bool false)]) ⟨rfl, trivial⟩ ?_
                refine WCode.ret ?_
                refine WEx.in_ret ?_
                refine WEx.in_ret ?_
                refine WEx.then_ret ?_
                refine WEx.then_ret ?_
                refine WEx.in_ret ?_
                refine WEx.then_ret ?_
                obtain rfl := some_eq hF
                refine WEx.ret1 rfl rfl ?_
                exact ⟨rfl, St.keep (As := []) S163⟩
            ·
              refine WCode.cond_f (kb (b := b95) rfl (Bool.eq_false_iff.2 h164)) ?_
              refine WCode.seq ?_
              refine WCode.region ?_
              refine WOps.p (G.move rfl) rfl ?_
              refine WOps.p (G.len T.el49 rfl) rfl ?_
              refine WOps.p (G.eql rfl rfl rfl) rfl ?_
              refine WOps.p (G.assign rfl) rfl ?_
              refine WOps.nil ?_
              refine WEx.then_ ?_
              rcases ite_some hF with ⟨h170, hF⟩ | ⟨h170, hF⟩
              ·
                refine WCode.cond_t (kb (b := decide ((l56.length : Int) = 16)) rfl (decide_eq_true h170)) ?_
                refine WCode.seq ?_
                refine WCode.region ?_
                refine WOps.p (G.move rfl) rfl ?_
                refine WOps.p (G.neq rfl rfl rfl) rfl ?_
                refine WOps.nil ?_
                refine WEx.then_ ?_
                rcases ite_some hF with ⟨h171, hF⟩ | ⟨h171, hF⟩
                ·
                  refine WCode.cond_f (kb (b := !(decide (t146.1 = 182))) rfl (show (!(decide (t146.1 = 182))) = false from by rw [(decide_eq_true h171)]; rfl)) ?_
                  refine WCode.skip ?_
                  refine WEx.in_normal ?_
                  refine WEx.in_normal ?_
                  refine WEx.then_ ?_
                  refine WCode.region ?_
                  refine WOps.p (G.move rfl) rfl ?_
                  refine WOps.p (G.add rfl rfl (r := (w64 (x59 + 1))) rfl) rfl ?_
                  refine WOps.p (G.assign rfl) rfl ?_
                  refine WOps.nil ?_
                  have S172 := S163.front 1 rfl
                  change St _ _ _ [G160, [(p11, .cells #[.slice A158 t146.2.l.length c159] 108 (0, 0))], [(b136, .cells #[.int .i64 (w64 (1 + (Int.tmod x59 1000))), .int .i64 1000000] 3 (0, 0))], G57] at S172
                  have S173 := S172.front 3 rfl
                  change St _ _ _ [G57, G160, [(p11, .cells #[.slice A158 t146.2.l.length c159] 108 (0, 0))], [(b136, .cells #[.int .i64 (w64 (1 + (Int.tmod x59 1000))), .int .i64 1000000] 3 (0, 0))]] at S173
                  have S174 := S173.front 2 rfl
                  change St _ _ _ [[(p11, .cells #[.slice A158 t146.2.l.length c159] 108 (0, 0))], G57, G160, [(b136, .cells #[.int .i64 (w64 (1 + (Int.tmod x59 1000))), .int .i64 1000000] 3 (0, 0))]] at S174
                  have S175 := St.keep (As := [[(p11, .cells #[.slice A158 t146.2.l.length c159] 108 (0, 0))], G57, G160]) S174
                  refine WEx.again _ _ (by omega) ?_ ⟨A54, c55, l56, G57, w64 (x59 + 1), A158, c159, t146.2.l, G160, rfl, hF, hO58, hO161, S175⟩
                  exact ⟨rfl, rfl, rfl, rfl, rfl, rfl, rfl, trivial⟩
                ·
                  refine WCode.cond_t (kb (b := !(decide (t146.1 = 182))) rfl (show (!(decide (t146.1 = 182))) = true from by rw [(decide_eq_false h171)]; rfl)) ?_
                  refine WCode.seq ?_
                  refine WCode.region ?_
                  refine WOps.p (G.assign rfl) rfl ?_
                  refine WOps.nil ?_
                  refine WEx.then_ ?_
                  refine WCode.forget (l' := [(8, .bool false)]) ⟨rfl, trivial⟩ ?_
                  refine WCode.ret ?_
                  refine WEx.in_ret ?_
                  refine WEx.in_ret ?_
                  refine WEx.then_ret ?_
                  refine WEx.then_ret ?_
                  refine WEx.in_ret ?_
                  refine WEx.then_ret ?_
                  obtain rfl := some_eq hF
                  refine WEx.ret1 rfl rfl ?_
                  exact ⟨rfl, St.keep (As := []) S163⟩
              ·
                refine WCode.cond_f (kb (b := decide ((l56.length : Int) = 16)) rfl (decide_eq_false h170)) ?_
                refine WCode.seq ?_
                refine WCode.seq ?_
                refine WCode.region ?_
                refine WOps.p (G.move rfl) rfl ?_
                refine WOps.p (G.neq rfl rfl rfl) rfl ?_
                refine WOps.nil ?_
                refine WEx.then_ ?_
                rcases ite_some hF with ⟨h176, hF⟩ | ⟨h176, hF⟩
                ·
                  refine WCode.cond_f (kb (b := !(decide (t146.1 = 0))) rfl (show (!(decide (t146.1 = 0))) = false from by rw [(decide_eq_true h176)]; rfl)) ?_
                  refine WCode.skip ?_
                  refine WEx.then_ ?_
                  refine WCode.region ?_
                  refine WOps.p (G.move rfl) rfl ?_
                  refine WOps.p (G.move rfl) rfl ?_
                  obtain ⟨b177, w178, E179, S180, X181, L182⟩ := St.lit S163 (P := Try.prog) (t := 49) (e := 3) (n := 1) (vs := [(0, .int .i64 t90)]) (cs := #[.int .i64 t90]) (by kernel_rfl)
                  change St _ _ _ [[(b177, .cells #[.int .i64 t90] 3 (0, 0))], [(p11, .cells #[.slice A158 t146.2.l.length c159] 108 (0, 0))], G160, [(b136, .cells #[.int .i64 (w64 (1 + (Int.tmod x59 1000))), .int .i64 1000000] 3 (0, 0))], G57] at S180
                  refine WOps.e (E179 (evp_cons rfl evp_nil)) rfl ?_
                  obtain ⟨l183, hc184, hF⟩ := bind_some hF
                  have S185 := S180.front 4 rfl
                  change St _ _ _ [G57, [(b177, .cells #[.int .i64 t90] 3 (0, 0))], [(p11, .cells #[.slice A158 t146.2.l.length c159] 108 (0, 0))], G160, [(b136, .cells #[.int .i64 (w64 (1 + (Int.tmod x59 1000))), .int .i64 1000000] 3 (0, 0))]] at S185
                  obtain ⟨A186, c187, G188, w189, E190, hO191, S192, hk193⟩ := St.appP (P := Try.prog) (r := (Rp.int .i64)) (M := ([t90] : List Int)) S185 T.elt49 rfl hO58 (Rd.of_blk (S185.blk 1 rfl) (n := 1) (sz := 1) rfl) ⟨_, _, [], [], rfl, rfl, ⟨rfl, rfl⟩, ⟨rfl, rfl⟩⟩ rfl hc184
                  change St _ _ _ [G188, [(b177, .cells #[.int .i64 t90] 3 (0, 0))], [(p11, .cells #[.slice A158 t146.2.l.length c159] 108 (0, 0))], G160, [(b136, .cells #[.int .i64 (w64 (1 + (Int.tmod x59 1000))), .int .i64 1000000] 3 (0, 0))]] at S192
                  refine WOps.e (E190 rfl rfl) rfl ?_
                  refine WOps.p (G.assign rfl) rfl ?_
                  refine WOps.nil ?_
                  refine WEx.in_normal ?_
                  refine WEx.in_normal ?_
                  refine WEx.then_ ?_
                  refine WCode.forget (l' := [(1, .slice A1 a1.length c1), (2, .int .i64 a2), (3, .int .i64 a3), (10, .pointer (some ⟨p11, 0, none⟩)), (11, .int .i64 t35), (12, .slice A186 l183.length c187), (13, .int .i64 x59)]) ⟨rfl, rfl, rfl, rfl, rfl, rfl, rfl, trivial⟩ ?_
                  refine WCode.region ?_
                  refine WOps.p (G.move rfl) rfl ?_
                  refine WOps.p (G.add rfl rfl (r := (w64 (x59 + 1))) rfl) rfl ?_
                  refine WOps.p (G.assign rfl) rfl ?_
                  refine WOps.nil ?_
                  have S194 := S192.front 3 rfl
                  change St _ _ _ [G160, G188, [(b177, .cells #[.int .i64 t90] 3 (0, 0))], [(p11, .cells #[.slice A158 t146.2.l.length c159] 108 (0, 0))], [(b136, .cells #[.int .i64 (w64 (1 + (Int.tmod x59 1000))), .int .i64 1000000] 3 (0, 0))]] at S194
                  have S195 := S194.front 1 rfl
                  change St _ _ _ [G188, G160, [(b177, .cells #[.int .i64 t90] 3 (0, 0))], [(p11, .cells #[.slice A158 t146.2.l.length c159] 108 (0, 0))], [(b136, .cells #[.int .i64 (w64 (1 + (Int.tmod x59 1000))), .int .i64 1000000] 3 (0, 0))]] at S195
                  have S196 := S195.front 3 rfl
                  change St _ _ _ [[(p11, .cells #[.slice A158 t146.2.l.length c159] 108 (0, 0))], G188, G160, [(b177, .cells #[.int .i64 t90] 3 (0, 0))], [(b136, .cells #[.int .i64 (w64 (1 + (Int.tmod x59 1000))), .int .i64 1000000] 3 (0, 0))]] at S196
                  have S197 := St.keep (As := [[(p11, .cells #[.slice A158 t146.2.l.length c159] 108 (0, 0))], G188, G160]) S196
                  refine WEx.again _ _ (by omega) ?_ ⟨A186, c187, l183, G188, w64 (x59 + 1), A158, c159, t146.2.l, G160, rfl, hF, hO191, hO161, S197⟩
                  exact ⟨rfl, rfl, rfl, rfl, rfl, rfl, rfl, trivial⟩
                ·
                  refine WCode.cond_t (kb (b := !(decide (t146.1 = 0))) rfl (show (!(decide (t146.1 = 0))) = true from by rw [(decide_eq_false h176)]; rfl)) ?_
                  refine WCode.seq ?_
                  refine WCode.region ?_
                  refine WOps.p (G.assign rfl) rfl ?_
                  refine WOps.nil ?_
                  refine WEx.then_ ?_
                  refine WCode.forget (l' := [(8, .bool false)]) ⟨rfl, trivial⟩ ?_
                  refine WCode.ret ?_
                  refine WEx.then_ret ?_
                  refine WEx.in_ret ?_
                  refine WEx.in_ret ?_
                  refine WEx.then_ret ?_
                  refine WEx.then_ret ?_
                  refine WEx.in_ret ?_
                  refine WEx.then_ret ?_
                  obtain rfl := some_eq hF
                  refine WEx.ret1 rfl rfl ?_
                  exact ⟨rfl, St.keep (As := []) S163⟩
        ·
          refine WCode.cond_f (kb (b := decide (x59 < (a1.length : Int))) rfl (decide_eq_false h75)) ?_
          refine WCode.exit ?_
          refine WEx.then_exit ?_
          refine WEx.then_exit ?_
          refine WEx.in_exit ?_
          have S198 := S66.front 2 rfl
          change St _ _ _ [G63, [(p11, .cells #[.slice A60 l62.length c61] 108 (0, 0))], G57] at S198
          have S199 := S198.front 2 rfl
          change St _ _ _ [G57, G63, [(p11, .cells #[.slice A60 l62.length c61] 108 (0, 0))]] at S199
          have S200 := S199.front 2 rfl
          change St _ _ _ [[(p11, .cells #[.slice A60 l62.length c61] 108 (0, 0))], G57, G63] at S200
          refine WEx.cutend _ ?_ ⟨k67, A54, c55, l56, G57, A60, c61, l62, G63, rfl, hF, hO58, hO64, S200⟩
          exact ⟨rfl, rfl, rfl, rfl, rfl, trivial⟩
      ·
        rintro _ w50 ⟨q52, A40, c41, l42, G43, A45, c46, l47, G48, rfl, hF, hO44, hO49, S51⟩
        unfold law_Finds.j2 at hF
        refine WCode.seq ?_
        refine WCode.region ?_
        refine WOps.p (G.assign rfl) rfl ?_
        refine WOps.nil ?_
        refine WEx.then_ ?_
        refine WCode.seq ?_
        refine WCode.region ?_
        refine WOps.p (G.assign rfl) rfl ?_
        refine WOps.nil ?_
        refine WEx.then_ ?_
        refine WCode.cutseq (fun l_ w_ => ∃ q205 : Nat, ∃ x201 : Int, ∃ x202 : Int, l_ = [(2, .int .i64 a2), (3, .int .i64 a3), (10, .pointer (some ⟨p11, 0, none⟩)), (11, .int .i64 t35), (12, .slice A40 l42.length c41), (18, .int .i64 x201), (19, .int .i64 x202)] ∧ law_Finds.j4 q205 a2 a3 t35 l42 l47 x201 x202 = some r_ ∧ St w (KS []) w_ [[(p11, .cells #[.slice A45 l47.length c46] 108 (0, 0))], G43, G48]) ?_ ?_
        ·
          refine WCode.seq ?_
          refine WCode.region ?_
          refine WOps.p (G.assign rfl) rfl ?_
          refine WOps.nil ?_
          refine WEx.then_ ?_
          refine WCode.block ?_
          have S214 := S51.front 2 rfl
          change St _ _ _ [G48, [(p11, .cells #[.slice A45 l47.length c46] 108 (0, 0))], G43] at S214
          have S215 := S214.front 2 rfl
          change St _ _ _ [G43, G48, [(p11, .cells #[.slice A45 l47.length c46] 108 (0, 0))]] at S215
          have S216 := S215.front 2 rfl
          change St _ _ _ [[(p11, .cells #[.slice A45 l47.length c46] 108 (0, 0))], G43, G48] at S216
          refine WCode.forget (l' := [(2, .int .i64 a2), (3, .int .i64 a3), (10, .pointer (some ⟨p11, 0, none⟩)), (11, .int .i64 t35), (12, .slice A40 l42.length c41), (18, .int .i64 4294967296), (19, .int .i64 (-1)), (20, .int .i64 0)]) ⟨rfl, rfl, rfl, rfl, rfl, rfl, rfl, rfl, trivial⟩ ?_
          refine WCode.loop (fun n_ l_ w_ => ∃ x207 : Int, ∃ x208 : Int, ∃ x209 : Int, l_ = [(2, .int .i64 a2), (3, .int .i64 a3), (10, .pointer (some ⟨p11, 0, none⟩)), (11, .int .i64 t35), (12, .slice A40 l42.length c41), (18, .int .i64 x207), (19, .int .i64 x208), (20, .int .i64 x209)] ∧ law_Finds.l3 n_ a2 a3 t35 l42 l47 x207 x208 x209 = some r_ ∧ St w (KS []) w_ [[(p11, .cells #[.slice A45 l47.length c46] 108 (0, 0))], G43, G48]) q52 ⟨4294967296, -1, 0, rfl, hF, S216⟩ ?_
          rintro n213 _ w210 ⟨x207, x208, x209, rfl, hF, S211⟩
          obtain _ | k212 := n213
          · exact nomatch (show (none : Option Bool) = some r_ from hF)
          rw [law_Finds.l3] at hF
          refine WCode.seq ?_
          refine WCode.seq ?_
          refine WCode.region ?_
          refine WOps.p (G.move rfl) rfl ?_
          refine WOps.p (G.move rfl) rfl ?_
          refine WOps.p (G.len T.el49 rfl) rfl ?_
          refine WOps.p (G.lss rfl rfl rfl) rfl ?_
          refine WOps.nil ?_
          refine WEx.then_ ?_
          rcases ite_some hF with ⟨h218, hF⟩ | ⟨h218, hF⟩
          ·
            refine WCode.cond_t (kb (b := decide (x209 < (l42.length : Int))) rfl (decide_eq_true h218)) ?_
            refine WCode.skip ?_
            refine WEx.then_ ?_
            refine WCode.seq ?_
            refine WCode.block ?_
            refine WCode.seq ?_
            refine WCode.region ?_
            refine WOps.p (G.move rfl) rfl ?_
            refine WOps.p (G.move rfl) rfl ?_
            refine WOps.p (G.move rfl) rfl ?_
            obtain ⟨x219, hc220, hF⟩ := bind_some hF
            obtain ⟨j221, ej222, hj223, hl224⟩ := idx_spec hc220
            obtain ⟨b225, o226, cs227, eA228, hf229, hc230, hr231⟩ := SlR.at_ (hO44.rd (fun b o hb => S211.grp 1 rfl hb)) hj223
            have hq232 : cs227 = [.int .i64 x219] := hr231
            subst hq232
            change cellsAt _ _ (o226 + j221 * 1) [.int .i64 x219] at hc230
            refine WOps.p (G.idx T.el49 rfl eA228 rfl ej222 hl224) rfl ?_
            refine WOps.r (G.load1 T.one3 rfl (cellsAt.at0 hc230)) rfl ?_
            refine WOps.p (G.min rfl rfl (int_min x207 x219)) rfl ?_
            refine WOps.p (G.assign rfl) rfl ?_
            refine WOps.nil ?_
            refine WEx.then_ ?_
            refine WCode.forget (l' := [(2, .int .i64 a2), (3, .int .i64 a3), (10, .pointer (some ⟨p11, 0, none⟩)), (11, .int .i64 t35), (12, .slice A40 l42.length c41), (18, .int .i64 (min x207 x219)), (19, .int .i64 x208), (20, .int .i64 x209)]) ⟨rfl, rfl, rfl, rfl, rfl, rfl, rfl, rfl, trivial⟩ ?_
            refine WCode.seq ?_
            refine WCode.region ?_
            refine WOps.p (G.move rfl) rfl ?_
            refine WOps.p (G.move rfl) rfl ?_
            refine WOps.p (G.move rfl) rfl ?_
            obtain ⟨x233, hc234, hF⟩ := bind_some hF
            obtain ⟨j235, ej236, hj237, hl238⟩ := idx_spec hc234
            obtain ⟨b239, o240, cs241, eA242, hf243, hc244, hr245⟩ := SlR.at_ (hO44.rd (fun b o hb => S211.grp 1 rfl hb)) hj237
            have hq246 : cs241 = [.int .i64 x233] := hr245
            subst hq246
            change cellsAt _ _ (o240 + j235 * 1) [.int .i64 x233] at hc244
            refine WOps.p (G.idx T.el49 rfl eA242 rfl ej236 hl238) rfl ?_
            refine WOps.r (G.load1 T.one3 rfl (cellsAt.at0 hc244)) rfl ?_
            refine WOps.p (G.max rfl rfl (int_max x208 x233)) rfl ?_
            refine WOps.p (G.assign rfl) rfl ?_
            refine WOps.nil ?_
            refine WEx.then_ ?_
            refine WCode.seq ?_
            refine WCode.region ?_
            refine WOps.p (G.move rfl) rfl ?_
            refine WOps.p (G.move rfl) rfl ?_
            refine WOps.p (G.move rfl) rfl ?_
            refine WOps.p (G.move rfl) rfl ?_
            obtain ⟨x247, hc248, hF⟩ := bind_some hF
            obtain ⟨j249, ej250, hj251, hl252⟩ := idx_spec hc248
            obtain ⟨b253, o254, cs255, eA256, hf257, hc258, hr259⟩ := SlR.at_ (hO44.rd (fun b o hb => S211.grp 1 rfl hb)) hj251
            have hq260 : cs255 = [.int .i64 x247] := hr259
            subst hq260
            change cellsAt _ _ (o254 + j249 * 1) [.int .i64 x247] at hc258
            refine WOps.p (G.idx T.el49 rfl eA256 rfl ej250 hl252) rfl ?_
            refine WOps.r (G.load1 T.one3 rfl (cellsAt.at0 hc258)) rfl ?_
            obtain ⟨t261, hc262, hF⟩ := bind_some hF
            have S263 := S211.front 2 rfl
            change St _ _ _ [G48, [(p11, .cells #[.slice A45 l47.length c46] 108 (0, 0))], G43] at S263
            have S264 := S263.front 1 rfl
            change St _ _ _ [[(p11, .cells #[.slice A45 l47.length c46] 108 (0, 0))], G48, G43] at S264
            have hP265 : PtR 108 Registry.rp w210 (KS [[(p11, .cells #[.slice A45 l47.length c46] 108 (0, 0))], G48]) p11 (⟨l47⟩ : Registry) := ⟨_, S264.blk 0 rfl, KS_at 0 rfl (by simp [keys]), ⟨A45, c46, rfl, ((hO49.rd (fun b o hb => S264.grp 1 rfl hb)).mono (fun b hb => KS_at 1 rfl hb))⟩⟩
            refine WOps.call T.call29 (evs_cons rfl (evs_cons rfl (evs_cons rfl (evs_cons rfl evs_nil)))) rfl ?_
            refine (sv_Find_calls k212 (⟨l47⟩ : Registry) t35 x247 0 hP265 (St.outN (Bs := []) (As := [[(p11, .cells #[.slice A45 l47.length c46] 108 (0, 0))], G48]) S264) hc262).mono ?_
            rintro _ w266 ⟨rfl, T267⟩
            have S268 := St.callN (As := []) S264 T267
            change St _ _ _ [[(p11, .cells #[.slice A45 l47.length c46] 108 (0, 0))], G48, G43] at S268
            refine ⟨_, rfl, ?_⟩
            refine WOps.p (G.move rfl) rfl ?_
            refine WOps.p (G.extract rfl rfl) rfl ?_
            refine WOps.p (G.extract rfl rfl) rfl ?_
            refine WOps.p (G.extract rfl rfl) rfl ?_
            refine WOps.p (G.assign rfl) rfl ?_
            refine WOps.p (G.assign rfl) rfl ?_
            refine WOps.p (G.assign rfl) rfl ?_
            refine WOps.nil ?_
            refine WEx.then_ ?_
            refine WCode.forget (l' := [(2, .int .i64 a2), (3, .int .i64 a3), (10, .pointer (some ⟨p11, 0, none⟩)), (11, .int .i64 t35), (12, .slice A40 l42.length c41), (18, .int .i64 (min x207 x219)), (19, .int .i64 (max x208 x233)), (20, .int .i64 x209), (21, .int .i64 t261.1), (22, .int .i64 t261.2.1), (23, .int .i64 t261.2.2)]) ⟨rfl, rfl, rfl, rfl, rfl, rfl, rfl, rfl, rfl, rfl, rfl, trivial⟩ ?_
            refine WCode.seq ?_
            refine WCode.region ?_
            refine WOps.p (G.move rfl) rfl ?_
            refine WOps.p (G.move rfl) rfl ?_
            refine WOps.p (G.move rfl) rfl ?_
            refine WOps.p (G.move rfl) rfl ?_
            obtain ⟨x269, hc270, hF⟩ := bind_some hF
            obtain ⟨j271, ej272, hj273, hl274⟩ := idx_spec hc270
            obtain ⟨b275, o276, cs277, eA278, hf279, hc280, hr281⟩ := SlR.at_ (hO44.rd (fun b o hb => S268.grp 2 rfl hb)) hj273
            have hq282 : cs277 = [.int .i64 x269] := hr281
            subst hq282
            change cellsAt _ _ (o276 + j271 * 1) [.int .i64 x269] at hc280
            refine WOps.p (G.idx T.el49 rfl eA278 rfl ej272 hl274) rfl ?_
            refine WOps.r (G.load1 T.one3 rfl (cellsAt.at0 hc280)) rfl ?_
            obtain ⟨t283, hc284, hF⟩ := bind_some hF
            have S285 := S268.front 1 rfl
            change St _ _ _ [G48, [(p11, .cells #[.slice A45 l47.length c46] 108 (0, 0))], G43] at S285
            have S286 := S285.front 1 rfl
            change St _ _ _ [[(p11, .cells #[.slice A45 l47.length c46] 108 (0, 0))], G48, G43] at S286
            have hP287 : PtR 108 Registry.rp w266 (KS [[(p11, .cells #[.slice A45 l47.length c46] 108 (0, 0))], G48]) p11 (⟨l47⟩ : Registry) := ⟨_, S286.blk 0 rfl, KS_at 0 rfl (by simp [keys]), ⟨A45, c46, rfl, ((hO49.rd (fun b o hb => S286.grp 1 rfl hb)).mono (fun b hb => KS_at 1 rfl hb))⟩⟩
            refine WOps.call T.call29 (evs_cons rfl (evs_cons rfl (evs_cons rfl (evs_cons rfl evs_nil)))) rfl ?_
            refine (sv_Find_calls k212 (⟨l47⟩ : Registry) t35 x269 1000000 hP287 (St.outN (Bs := []) (As := [[(p11, .cells #[.slice A45 l47.length c46] 108 (0, 0))], G48]) S286) hc284).mono ?_
            rintro _ w288 ⟨rfl, T289⟩
            have S290 := St.callN (As := []) S286 T289
            change St _ _ _ [[(p11, .cells #[.slice A45 l47.length c46] 108 (0, 0))], G48, G43] at S290
            refine ⟨_, rfl, ?_⟩
            refine WOps.p (G.move rfl) rfl ?_
            refine WOps.p (G.extract rfl rfl) rfl ?_
            refine WOps.p (G.extract rfl rfl) rfl ?_
            refine WOps.p (G.extract rfl rfl) rfl ?_
            refine WOps.p (G.assign rfl) rfl ?_
            refine WOps.p (G.assign rfl) rfl ?_
            refine WOps.p (G.assign rfl) rfl ?_
            refine WOps.nil ?_
            refine WEx.then_ ?_
            refine WCode.forget (l' := [(2, .int .i64 a2), (3, .int .i64 a3), (10, .pointer (some ⟨p11, 0, none⟩)), (11, .int .i64 t35), (12, .slice A40 l42.length c41), (18, .int .i64 (min x207 x219)), (19, .int .i64 (max x208 x233)), (20, .int .i64 x209), (21, .int .i64 t261.1), (22, .int .i64 t261.2.1), (23, .int .i64 t261.2.2), (24, .int .i64 t283.1)]) ⟨rfl, rfl, rfl, rfl, rfl, rfl, rfl, rfl, rfl, rfl, rfl, rfl, trivial⟩ ?_
            refine WCode.seq ?_
            refine WCode.region ?_
            refine WOps.p (G.move rfl) rfl ?_
            refine WOps.p (G.move rfl) rfl ?_
            refine WOps.p (G.move rfl) rfl ?_
            refine WOps.p (G.move rfl) rfl ?_
            obtain ⟨x291, hc292, hF⟩ := bind_some hF
            obtain ⟨j293, ej294, hj295, hl296⟩ := idx_spec hc292
            obtain ⟨b297, o298, cs299, eA300, hf301, hc302, hr303⟩ := SlR.at_ (hO44.rd (fun b o hb => S290.grp 2 rfl hb)) hj295
            have hq304 : cs299 = [.int .i64 x291] := hr303
            subst hq304
            change cellsAt _ _ (o298 + j293 * 1) [.int .i64 x291] at hc302
            refine WOps.p (G.idx T.el49 rfl eA300 rfl ej294 hl296) rfl ?_
            refine WOps.r (G.load1 T.one3 rfl (cellsAt.at0 hc302)) rfl ?_
            obtain ⟨t305, hc306, hF⟩ := bind_some hF
            have S307 := S290.front 1 rfl
            change St _ _ _ [G48, [(p11, .cells #[.slice A45 l47.length c46] 108 (0, 0))], G43] at S307
            have S308 := S307.front 1 rfl
            change St _ _ _ [[(p11, .cells #[.slice A45 l47.length c46] 108 (0, 0))], G48, G43] at S308
            have hP309 : PtR 108 Registry.rp w288 (KS [[(p11, .cells #[.slice A45 l47.length c46] 108 (0, 0))], G48]) p11 (⟨l47⟩ : Registry) := ⟨_, S308.blk 0 rfl, KS_at 0 rfl (by simp [keys]), ⟨A45, c46, rfl, ((hO49.rd (fun b o hb => S308.grp 1 rfl hb)).mono (fun b hb => KS_at 1 rfl hb))⟩⟩
            refine WOps.call T.call29 (evs_cons rfl (evs_cons rfl (evs_cons rfl (evs_cons rfl evs_nil)))) rfl ?_
            refine (sv_Find_calls k212 (⟨l47⟩ : Registry) t35 x291 1000001 hP309 (St.outN (Bs := []) (As := [[(p11, .cells #[.slice A45 l47.length c46] 108 (0, 0))], G48]) S308) hc306).mono ?_
            rintro _ w310 ⟨rfl, T311⟩
            have S312 := St.callN (As := []) S308 T311
            change St _ _ _ [[(p11, .cells #[.slice A45 l47.length c46] 108 (0, 0))], G48, G43] at S312
            refine ⟨_, rfl, ?_⟩
            refine WOps.p (G.move rfl) rfl ?_
            refine WOps.p (G.extract rfl rfl) rfl ?_
            refine WOps.p (G.extract rfl rfl) rfl ?_
            refine WOps.p (G.extract rfl rfl) rfl ?_
            refine WOps.p (G.assign rfl) rfl ?_
            refine WOps.p (G.assign rfl) rfl ?_
            refine WOps.p (G.assign rfl) rfl ?_
            refine WOps.nil ?_
            refine WEx.then_ ?_
            refine WCode.forget (l' := [(2, .int .i64 a2), (3, .int .i64 a3), (10, .pointer (some ⟨p11, 0, none⟩)), (11, .int .i64 t35), (12, .slice A40 l42.length c41), (18, .int .i64 (min x207 x219)), (19, .int .i64 (max x208 x233)), (20, .int .i64 x209), (21, .int .i64 t261.1), (22, .int .i64 t261.2.1), (23, .int .i64 t261.2.2), (24, .int .i64 t283.1), (27, .int .i64 t305.1)]) ⟨rfl, rfl, rfl, rfl, rfl, rfl, rfl, rfl, rfl, rfl, rfl, rfl, rfl, trivial⟩ ?_
            refine WCode.seq ?_
            refine WCode.region ?_
            refine WOps.p (G.move rfl) rfl ?_
            refine WOps.p (G.neq rfl rfl rfl) rfl ?_
            refine WOps.p (G.move rfl) rfl ?_
            rcases ite_some hF with ⟨h313, hF⟩ | ⟨h313, hF⟩
            ·
              refine WOps.on rfl (kbl (b := !(decide (t261.1 = 0))) rfl (show (!(decide (t261.1 = 0))) = false from by rw [(decide_eq_true h313)]; rfl)) ?_
              refine WOps.p (G.move rfl) rfl ?_
              refine WOps.on rfl (kbl (b := !(decide (t261.1 = 0))) rfl (show (!(decide (t261.1 = 0))) = false from by rw [(decide_eq_true h313)]; rfl)) ?_
              refine WOps.p (G.neq rfl rfl rfl) rfl ?_
              refine WOps.p (G.pick_f (kb (b := !(decide (t261.1 = 0))) rfl (show (!(decide (t261.1 = 0))) = false from by rw [(decide_eq_true h313)]; rfl)) rfl) rfl ?_
              refine WOps.p (G.move rfl) rfl ?_
              rcases ite_some hF with ⟨h314, hF⟩ | ⟨h314, hF⟩
              ·
                refine WOps.on rfl (kbl (b := !(decide (t261.2.1 = 0))) rfl (show (!(decide (t261.2.1 = 0))) = false from by rw [(decide_eq_true h314)]; rfl)) ?_
                refine WOps.p (G.move rfl) rfl ?_
                refine WOps.on rfl (kbl (b := !(decide (t261.2.1 = 0))) rfl (show (!(decide (t261.2.1 = 0))) = false from by rw [(decide_eq_true h314)]; rfl)) ?_
                refine WOps.p (G.neq rfl rfl rfl) rfl ?_
                refine WOps.p (G.pick_f (kb (b := !(decide (t261.2.1 = 0))) rfl (show (!(decide (t261.2.1 = 0))) = false from by rw [(decide_eq_true h314)]; rfl)) rfl) rfl ?_
                refine WOps.p (G.move rfl) rfl ?_
                rcases ite_some hF with ⟨h315, hF⟩ | ⟨h315, hF⟩
                ·
                  refine WOps.on rfl (kbl (b := !(decide (t261.2.2 = 0))) rfl (show (!(decide (t261.2.2 = 0))) = false from by rw [(decide_eq_true h315)]; rfl)) ?_
                  refine WOps.p (G.move rfl) rfl ?_
                  refine WOps.on rfl (kbl (b := !(decide (t261.2.2 = 0))) rfl (show (!(decide (t261.2.2 = 0))) = false from by rw [(decide_eq_true h315)]; rfl)) ?_
                  refine WOps.p (G.neq rfl rfl rfl) rfl ?_
                  refine WOps.p (G.pick_f (kb (b := !(decide (t261.2.2 = 0))) rfl (show (!(decide (t261.2.2 = 0))) = false from by rw [(decide_eq_true h315)]; rfl)) rfl) rfl ?_
                  refine WOps.p (G.move rfl) rfl ?_
                  rcases ite_some hF with ⟨h316, hF⟩ | ⟨h316, hF⟩
                  ·
                    refine WOps.on rfl (kbl (b := !(decide (t283.1 = 0))) rfl (show (!(decide (t283.1 = 0))) = false from by rw [(decide_eq_true h316)]; rfl)) ?_
                    refine WOps.p (G.move rfl) rfl ?_
                    refine WOps.on rfl (kbl (b := !(decide (t283.1 = 0))) rfl (show (!(decide (t283.1 = 0))) = false from by rw [(decide_eq_true h316)]; rfl)) ?_
                    refine WOps.p (G.neq rfl rfl rfl) rfl ?_
                    refine WOps.p (G.pick_f (kb (b := !(decide (t283.1 = 0))) rfl (show (!(decide (t283.1 = 0))) = false from by rw [(decide_eq_true h316)]; rfl)) rfl) rfl ?_
                    refine WOps.nil ?_
                    refine WEx.then_ ?_
                    refine WCode.forget (l' := [(2, .int .i64 a2), (3, .int .i64 a3), (10, .pointer (some ⟨p11, 0, none⟩)), (11, .int .i64 t35), (12, .slice A40 l42.length c41), (18, .int .i64 (min x207 x219)), (19, .int .i64 (max x208 x233)), (20, .int .i64 x209), (156, .int .i64 t261.2.1), (157, .bool (!(decide (t261.2.1 = 0)))), (160, .int .i64 t261.2.2), (161, .bool (!(decide (t261.2.2 = 0)))), (164, .int .i64 t283.1), (165, .bool (!(decide (t283.1 = 0)))), (168, .int .i64 t305.1), (169, .bool (!(decide (t305.1 = 3)))), (170, .bool (!(decide (t305.1 = 3))))]) ⟨rfl, rfl, rfl, rfl, rfl, rfl, rfl, rfl, rfl, rfl, rfl, rfl, rfl, rfl, rfl, rfl, rfl, trivial⟩ ?_
                    rcases ite_some hF with ⟨h317, hF⟩ | ⟨h317, hF⟩
                    ·
                      refine WCode.cond_f (kb (b := !(decide (t305.1 = 3))) rfl (show (!(decide (t305.1 = 3))) = false from by rw [(decide_eq_true h317)]; rfl)) ?_
                      refine WCode.skip ?_
                      refine WEx.in_normal ?_
                      refine WEx.then_ ?_
                      refine WCode.region ?_
                      refine WOps.p (G.move rfl) rfl ?_
                      refine WOps.p (G.add rfl rfl (r := (w64 (x209 + 1))) rfl) rfl ?_
                      refine WOps.p (G.assign rfl) rfl ?_
                      refine WOps.nil ?_
                      have S318 := S312.front 1 rfl
                      change St _ _ _ [G48, [(p11, .cells #[.slice A45 l47.length c46] 108 (0, 0))], G43] at S318
                      have S319 := S318.front 2 rfl
                      change St _ _ _ [G43, G48, [(p11, .cells #[.slice A45 l47.length c46] 108 (0, 0))]] at S319
                      have S320 := S319.front 2 rfl
                      change St _ _ _ [[(p11, .cells #[.slice A45 l47.length c46] 108 (0, 0))], G43, G48] at S320
                      refine WEx.again _ _ (by omega) ?_ ⟨min x207 x219, max x208 x233, w64 (x209 + 1), rfl, hF, S320⟩
                      exact ⟨rfl, rfl, rfl, rfl, rfl, rfl, rfl, rfl, trivial⟩
                    ·
                      refine WCode.cond_t (kb (b := !(decide (t305.1 = 3))) rfl (show (!(decide (t305.1 = 3))) = true from by rw [(decide_eq_false h317)]; rfl)) ?_
                      refine WCode.seq ?_
                      refine WCode.region ?_
                      refine WOps.p (G.assign rfl) rfl ?_
                      refine WOps.nil ?_
                      refine WEx.then_ ?_
                      refine WCode.forget (l' := [(8, .bool false)]) ⟨rfl, trivial⟩ ?_
                      refine WCode.ret ?_
                      refine WEx.in_ret ?_
                      refine WEx.then_ret ?_
                      refine WEx.then_ret ?_
                      refine WEx.in_ret ?_
                      refine WEx.then_ret ?_
                      obtain rfl := some_eq hF
                      refine WEx.ret1 rfl rfl ?_
                      exact ⟨rfl, St.keep (As := []) S312⟩
                  ·
                    refine WOps.off rfl (kbl (b := !(decide (t283.1 = 0))) rfl (show (!(decide (t283.1 = 0))) = true from by rw [(decide_eq_false h316)]; rfl)) rfl rfl ?_
                    refine WOps.off rfl (kbl (b := !(decide (t283.1 = 0))) rfl (show (!(decide (t283.1 = 0))) = true from by rw [(decide_eq_false h316)]; rfl)) rfl rfl ?_
                    refine WOps.p (G.pick_t (kb (b := !(decide (t283.1 = 0))) rfl (show (!(decide (t283.1 = 0))) = true from by rw [(decide_eq_false h316)]; rfl)) rfl) rfl ?_
                    refine WOps.nil ?_
                    refine WEx.then_ ?_
                    refine WCode.forget (l' := [(2, .int .i64 a2), (3, .int .i64 a3), (10, .pointer (some ⟨p11, 0, none⟩)), (11, .int .i64 t35), (12, .slice A40 l42.length c41), (18, .int .i64 (min x207 x219)), (19, .int .i64 (max x208 x233)), (20, .int .i64 x209), (156, .int .i64 t261.2.1), (157, .bool (!(decide (t261.2.1 = 0)))), (160, .int .i64 t261.2.2), (161, .bool (!(decide (t261.2.2 = 0)))), (164, .int .i64 t283.1), (165, .bool (!(decide (t283.1 = 0)))), (168, undef), (169, undef), (170, .bool true)]) ⟨rfl, rfl, rfl, rfl, rfl, rfl, rfl, rfl, rfl, rfl, rfl, rfl, rfl, rfl, rfl, rfl, rfl, trivial⟩ ?_
                    refine WCode.cond_t rfl ?_
                    refine WCode.seq ?_
                    refine WCode.region ?_
                    refine WOps.p (G.assign rfl) rfl ?_
                    refine WOps.nil ?_
                    refine WEx.then_ ?_
                    refine WCode.forget (l' := [(8, .bool false)]) ⟨rfl, trivial⟩ ?_
                    refine WCode.ret ?_
                    refine WEx.in_ret ?_
                    refine WEx.then_ret ?_
                    refine WEx.then_ret ?_
                    refine WEx.in_ret ?_
                    refine WEx.then_ret ?_
                    obtain rfl := some_eq hF
                    refine WEx.ret1 rfl rfl ?_
                    exact ⟨rfl, St.keep (As := []) S312⟩
                ·
                  refine WOps.off rfl (kbl (b := !(decide (t261.2.2 = 0))) rfl (show (!(decide (t261.2.2 = 0))) = true from by rw [(decide_eq_false h315)]; rfl)) rfl rfl ?_
                  refine WOps.off rfl (kbl (b := !(decide (t261.2.2 = 0))) rfl (show (!(decide (t261.2.2 = 0))) = true from by rw [(decide_eq_false h315)]; rfl)) rfl rfl ?_
                  refine WOps.p (G.pick_t (kb (b := !(decide (t261.2.2 = 0))) rfl (show (!(decide (t261.2.2 = 0))) = true from by rw [(decide_eq_false h315)]; rfl)) rfl) rfl ?_
                  refine WOps.p (G.move rfl) rfl ?_
                  refine WOps.off rfl rfl rfl rfl ?_
                  refine WOps.off rfl rfl rfl rfl ?_
                  refine WOps.p (G.pick_t rfl rfl) rfl ?_
                  refine WOps.nil ?_
                  refine WEx.then_ ?_
                  refine WCode.forget (l' := [(2, .int .i64 a2), (3, .int .i64 a3), (10, .pointer (some ⟨p11, 0, none⟩)), (11, .int .i64 t35), (12, .slice A40 l42.length c41), (18, .int .i64 (min x207 x219)), (19, .int .i64 (max x208 x233)), (20, .int .i64 x209), (156, .int .i64 t261.2.1), (157, .bool (!(decide (t261.2.1 = 0)))), (160, .int .i64 t261.2.2), (161, .bool (!(decide (t261.2.2 = 0)))), (164, undef), (165, undef), (168, undef), (169, undef), (170, .bool true)]) ⟨rfl, rfl, rfl, rfl, rfl, rfl, rfl, rfl, rfl, rfl, rfl, rfl, rfl, rfl, rfl, rfl, rfl, trivial⟩ ?_
                  refine WCode.cond_t rfl ?_
                  refine WCode.seq ?_
                  refine WCode.region ?_
                  refine WOps.p (G.assign rfl) rfl ?_
                  refine WOps.nil ?_
                  refine WEx.then_ ?_
                  refine WCode.forget (l' := [(8, .bool false)]) ⟨rfl, trivial⟩ ?_
                  refine WCode.ret ?_
                  refine WEx.in_ret ?_
                  refine WEx.then_ret ?_
                  refine WEx.then_ret ?_
                  refine WEx.in_ret ?_
                  refine WEx.then_ret ?_
                  obtain rfl := some_eq hF
                  refine WEx.ret1 rfl rfl ?_
                  exact ⟨rfl, St.keep (As := []) S312⟩
              ·
                refine WOps.off rfl (kbl (b := !(decide (t261.2.1 = 0))) rfl (show (!(decide (t261.2.1 = 0))) = true from by rw [(decide_eq_false h314)]; rfl)) rfl rfl ?_
                refine WOps.off rfl (kbl (b := !(decide (t261.2.1 = 0))) rfl (show (!(decide (t261.2.1 = 0))) = true from by rw [(decide_eq_false h314)]; rfl)) rfl rfl ?_
                refine WOps.p (G.pick_t (kb (b := !(decide (t261.2.1 = 0))) rfl (show (!(decide (t261.2.1 = 0))) = true from by rw [(decide_eq_false h314)]; rfl)) rfl) rfl ?_
                refine WOps.p (G.move rfl) rfl ?_
                refine WOps.off rfl rfl rfl rfl ?_
                refine WOps.off rfl rfl rfl rfl ?_
                refine WOps.p (G.pick_t rfl rfl) rfl ?_
                refine WOps.p (G.move rfl) rfl ?_
                refine WOps.off rfl rfl rfl rfl ?_
                refine WOps.off rfl rfl rfl rfl ?_
                refine WOps.p (G.pick_t rfl rfl) rfl ?_
                refine WOps.nil ?_
                refine WEx.then_ ?_
                refine WCode.forget (l' := [(2, .int .i64 a2), (3, .int .i64 a3), (10, .pointer (some ⟨p11, 0, none⟩)), (11, .int .i64 t35), (12, .slice A40 l42.length c41), (18, .int .i64 (min x207 x219)), (19, .int .i64 (max x208 x233)), (20, .int .i64 x209), (156, .int .i64 t261.2.1), (157, .bool (!(decide (t261.2.1 = 0)))), (160, undef), (161, undef), (164, undef), (165, undef), (168, undef), (169, undef), (170, .bool true)]) ⟨rfl, rfl, rfl, rfl, rfl, rfl, rfl, rfl, rfl, rfl, rfl, rfl, rfl, rfl, rfl, rfl, rfl, trivial⟩ ?_
                refine WCode.cond_t rfl ?_
                refine WCode.seq ?_
                refine WCode.region ?_
                refine WOps.p (G.assign rfl) rfl ?_
                refine WOps.nil ?_
                refine WEx.then_ ?_
                refine WCode.forget (l' := [(8, .bool false)]) ⟨rfl, trivial⟩ ?_
                refine WCode.ret ?_
                refine WEx.in_ret ?_
                refine WEx.then_ret ?_
                refine WEx.then_ret ?_
                refine WEx.in_ret ?_
                refine WEx.then_ret ?_
                obtain rfl := some_eq hF
                refine WEx.ret1 rfl rfl ?_
                exact ⟨rfl, St.keep (As := []) S312⟩
            ·
              refine WOps.off rfl (kbl (b := !(decide (t261.1 = 0))) rfl (show (!(decide (t261.1 = 0))) = true from by rw [(decide_eq_false h313)]; rfl)) rfl rfl ?_
              refine WOps.off rfl (kbl (b := !(decide (t261.1 = 0))) rfl (show (!(decide (t261.1 = 0))) = true from by rw [(decide_eq_false h313)]; rfl)) rfl rfl ?_
              refine WOps.p (G.pick_t (kb (b := !(decide (t261.1 = 0))) rfl (show (!(decide (t261.1 = 0))) = true from by rw [(decide_eq_false h313)]; rfl)) rfl) rfl ?_
              refine WOps.p (G.move rfl) rfl ?_
              refine WOps.off rfl rfl rfl rfl ?_
              refine WOps.off rfl rfl rfl rfl ?_
              refine WOps.p (G.pick_t rfl rfl) rfl ?_
              refine WOps.p (G.move rfl) rfl ?_
              refine WOps.off rfl rfl rfl rfl ?_
              refine WOps.off rfl rfl rfl rfl ?_
              refine WOps.p (G.pick_t rfl rfl) rfl ?_
              refine WOps.p (G.move rfl) rfl ?_
              refine WOps.off rfl rfl rfl rfl ?_
              refine WOps.off rfl rfl rfl rfl ?_
              refine WOps.p (G.pick_t rfl rfl) rfl ?_
              refine WOps.nil ?_
              refine WEx.then_ ?_
              refine WCode.forget (l' := [(2, .int .i64 a2), (3, .int .i64 a3), (10, .pointer (some ⟨p11, 0, none⟩)), (11, .int .i64 t35), (12, .slice A40 l42.length c41), (18, .int .i64 (min x207 x219)), (19, .int .i64 (max x208 x233)), (20, .int .i64 x209), (156, undef), (157, undef), (160, undef), (161, undef), (164, undef), (165, undef), (168, undef), (169, undef), (170, .bool true)]) ⟨rfl, rfl, rfl, rfl, rfl, rfl, rfl, rfl, rfl, rfl, rfl, rfl, rfl, rfl, rfl, rfl, rfl, trivial⟩ ?_
              refine WCode.cond_t rfl ?_
              refine WCode.seq ?_
              refine WCode.region ?_
              refine WOps.p (G.assign rfl) rfl ?_
              refine WOps.nil ?_
              refine WEx.then_ ?_
              refine WCode.forget (l' := [(8, .bool false)]) ⟨rfl, trivial⟩ ?_
              refine WCode.ret ?_
              refine WEx.in_ret ?_
              refine WEx.then_ret ?_
              refine WEx.then_ret ?_
              refine WEx.in_ret ?_
              refine WEx.then_ret ?_
              obtain rfl := some_eq hF
              refine WEx.ret1 rfl rfl ?_
              exact ⟨rfl, St.keep (As := []) S312⟩
          ·
            refine WCode.cond_f (kb (b := decide (x209 < (l42.length : Int))) rfl (decide_eq_false h218)) ?_
            refine WCode.exit ?_
            refine WEx.then_exit ?_
            refine WEx.then_exit ?_
            refine WEx.in_exit ?_
            have S321 := S211.front 2 rfl
            change St _ _ _ [G48, [(p11, .cells #[.slice A45 l47.length c46] 108 (0, 0))], G43] at S321
            have S322 := S321.front 2 rfl
            change St _ _ _ [G43, G48, [(p11, .cells #[.slice A45 l47.length c46] 108 (0, 0))]] at S322
            have S323 := S322.front 2 rfl
            change St _ _ _ [[(p11, .cells #[.slice A45 l47.length c46] 108 (0, 0))], G43, G48] at S323
            refine WEx.cutend _ ?_ ⟨k212, x207, x208, rfl, hF, S323⟩
            exact ⟨rfl, rfl, rfl, rfl, rfl, rfl, rfl, trivial⟩
        ·
          rintro _ w203 ⟨q205, x201, x202, rfl, hF, S204⟩
          unfold law_Finds.j4 at hF
          refine WCode.seq ?_
          refine WCode.region ?_
          refine WOps.p (G.move rfl) rfl ?_
          obtain ⟨t324, hc325, hF⟩ := bind_some hF
          refine WOps.call T.call33 (evs_cons rfl (evs_cons rfl evs_nil)) rfl ?_
          refine (sv_pick_calls q205 a2 4294967296 hc325).mono ?_
          rintro _ w326 ⟨rfl, T327⟩
          have S328 := St.callN (As := []) S204 T327
          change St _ _ _ [[(p11, .cells #[.slice A45 l47.length c46] 108 (0, 0))], G43, G48] at S328
          refine ⟨_, rfl, ?_⟩
          refine WOps.p (G.assign rfl) rfl ?_
          refine WOps.nil ?_
          refine WEx.then_ ?_
          refine WCode.seq ?_
          refine WCode.region ?_
          refine WOps.p (G.assign rfl) rfl ?_
          refine WOps.nil ?_
          refine WEx.then_ ?_
          refine WCode.cutseq (fun l_ w_ => ∃ q332 : Nat, ∃ b329 : Bool, l_ = [(3, .int .i64 a3), (10, .pointer (some ⟨p11, 0, none⟩)), (11, .int .i64 t35), (12, .slice A40 l42.length c41), (18, .int .i64 x201), (19, .int .i64 x202), (30, .int .i64 t324), (31, .bool b329)] ∧ law_Finds.j5 q332 a3 t35 l42 l47 x201 x202 t324 b329 = some r_ ∧ St w (KS []) w_ [[(p11, .cells #[.slice A45 l47.length c46] 108 (0, 0))], G43, G48]) ?_ ?_
          ·
            refine WCode.seq ?_
            refine WCode.region ?_
            refine WOps.p (G.assign rfl) rfl ?_
            refine WOps.nil ?_
            refine WEx.then_ ?_
            refine WCode.block ?_
            have S340 := S328.front 2 rfl
            change St _ _ _ [G48, [(p11, .cells #[.slice A45 l47.length c46] 108 (0, 0))], G43] at S340
            have S341 := S340.front 2 rfl
            change St _ _ _ [G43, G48, [(p11, .cells #[.slice A45 l47.length c46] 108 (0, 0))]] at S341
            have S342 := S341.front 2 rfl
            change St _ _ _ [[(p11, .cells #[.slice A45 l47.length c46] 108 (0, 0))], G43, G48] at S342
            refine WCode.forget (l' := [(3, .int .i64 a3), (10, .pointer (some ⟨p11, 0, none⟩)), (11, .int .i64 t35), (12, .slice A40 l42.length c41), (18, .int .i64 x201), (19, .int .i64 x202), (30, .int .i64 t324), (31, .bool false), (32, .int .i64 0)]) ⟨rfl, rfl, rfl, rfl, rfl, rfl, rfl, rfl, rfl, trivial⟩ ?_
            refine WCode.loop (fun n_ l_ w_ => ∃ b334 : Bool, ∃ x335 : Int, l_ = [(3, .int .i64 a3), (10, .pointer (some ⟨p11, 0, none⟩)), (11, .int .i64 t35), (12, .slice A40 l42.length c41), (18, .int .i64 x201), (19, .int .i64 x202), (30, .int .i64 t324), (31, .bool b334), (32, .int .i64 x335)] ∧ law_Finds.l4 n_ a3 t35 l42 l47 x201 x202 t324 b334 x335 = some r_ ∧ St w (KS []) w_ [[(p11, .cells #[.slice A45 l47.length c46] 108 (0, 0))], G43, G48]) q205 ⟨false, 0, rfl, hF, S342⟩ ?_
            rintro n339 _ w336 ⟨b334, x335, rfl, hF, S337⟩
            obtain _ | k338 := n339
            · exact nomatch (show (none : Option Bool) = some r_ from hF)
            rw [law_Finds.l4] at hF
            refine WCode.seq ?_
            refine WCode.seq ?_
            refine WCode.region ?_
            refine WOps.p (G.move rfl) rfl ?_
            refine WOps.p (G.move rfl) rfl ?_
            refine WOps.p (G.len T.el49 rfl) rfl ?_
            refine WOps.p (G.lss rfl rfl rfl) rfl ?_
            refine WOps.nil ?_
            refine WEx.then_ ?_
            rcases ite_some hF with ⟨h344, hF⟩ | ⟨h344, hF⟩
            ·
              refine WCode.cond_t (kb (b := decide (x335 < (l42.length : Int))) rfl (decide_eq_true h344)) ?_
              refine WCode.skip ?_
              refine WEx.then_ ?_
              refine WCode.seq ?_
              refine WCode.block ?_
              refine WCode.region ?_
              refine WOps.p (G.move rfl) rfl ?_
              refine WOps.p (G.move rfl) rfl ?_
              rcases ite_some hF with ⟨h345, hF⟩ | ⟨h345, hF⟩
              ·
                refine WOps.off rfl (kbl (b := b334) rfl h345) rfl rfl ?_
                refine WOps.off rfl (kbl (b := b334) rfl h345) rfl rfl ?_
                refine WOps.off rfl (kbl (b := b334) rfl h345) rfl rfl ?_
                refine WOps.off rfl (kbl (b := b334) rfl h345) rfl rfl ?_
                refine WOps.off rfl (kbl (b := b334) rfl h345) rfl rfl ?_
                refine WOps.off rfl (kbl (b := b334) rfl h345) rfl rfl ?_
                refine WOps.p (G.pick_t (kb (b := b334) rfl h345) rfl) rfl ?_
                refine WOps.p (G.assign rfl) rfl ?_
                refine WOps.nil ?_
                refine WEx.in_normal ?_
                refine WEx.then_ ?_
                refine WCode.region ?_
                refine WOps.p (G.move rfl) rfl ?_
                refine WOps.p (G.add rfl rfl (r := (w64 (x335 + 1))) rfl) rfl ?_
                refine WOps.p (G.assign rfl) rfl ?_
                refine WOps.nil ?_
                have S346 := S337.front 2 rfl
                change St _ _ _ [G48, [(p11, .cells #[.slice A45 l47.length c46] 108 (0, 0))], G43] at S346
                have S347 := S346.front 2 rfl
                change St _ _ _ [G43, G48, [(p11, .cells #[.slice A45 l47.length c46] 108 (0, 0))]] at S347
                have S348 := S347.front 2 rfl
                change St _ _ _ [[(p11, .cells #[.slice A45 l47.length c46] 108 (0, 0))], G43, G48] at S348
                refine WEx.again _ _ (by omega) ?_ ⟨true, w64 (x335 + 1), rfl, hF, S348⟩
                exact ⟨rfl, rfl, rfl, rfl, rfl, rfl, rfl, rfl, rfl, trivial⟩
              ·
                refine WOps.on rfl (kbl (b := b334) rfl (Bool.eq_false_iff.2 h345)) ?_
                refine WOps.p (G.move rfl) rfl ?_
                refine WOps.on rfl (kbl (b := b334) rfl (Bool.eq_false_iff.2 h345)) ?_
                refine WOps.p (G.move rfl) rfl ?_
                refine WOps.on rfl (kbl (b := b334) rfl (Bool.eq_false_iff.2 h345)) ?_
                obtain ⟨x349, hc350, hF⟩ := bind_some hF
                obtain ⟨j351, ej352, hj353, hl354⟩ := idx_spec hc350
                obtain ⟨b355, o356, cs357, eA358, hf359, hc360, hr361⟩ := SlR.at_ (hO44.rd (fun b o hb => S337.grp 1 rfl hb)) hj353
                have hq362 : cs357 = [.int .i64 x349] := hr361
                subst hq362
                change cellsAt _ _ (o356 + j351 * 1) [.int .i64 x349] at hc360
                refine WOps.p (G.idx T.el49 rfl eA358 rfl ej352 hl354) rfl ?_
                refine WOps.on rfl (kbl (b := b334) rfl (Bool.eq_false_iff.2 h345)) ?_
                refine WOps.r (G.load1 T.one3 rfl (cellsAt.at0 hc360)) rfl ?_
                refine WOps.on rfl (kbl (b := b334) rfl (Bool.eq_false_iff.2 h345)) ?_
                refine WOps.p (G.move rfl) rfl ?_
                refine WOps.on rfl (kbl (b := b334) rfl (Bool.eq_false_iff.2 h345)) ?_
                refine WOps.p (G.eql rfl rfl rfl) rfl ?_
                refine WOps.p (G.pick_f (kb (b := b334) rfl (Bool.eq_false_iff.2 h345)) rfl) rfl ?_
                refine WOps.p (G.assign rfl) rfl ?_
                refine WOps.nil ?_
                refine WEx.in_normal ?_
                refine WEx.then_ ?_
                refine WCode.region ?_
                refine WOps.p (G.move rfl) rfl ?_
                refine WOps.p (G.add rfl rfl (r := (w64 (x335 + 1))) rfl) rfl ?_
                refine WOps.p (G.assign rfl) rfl ?_
                refine WOps.nil ?_
                have S363 := S337.front 2 rfl
                change St _ _ _ [G48, [(p11, .cells #[.slice A45 l47.length c46] 108 (0, 0))], G43] at S363
                have S364 := S363.front 2 rfl
                change St _ _ _ [G43, G48, [(p11, .cells #[.slice A45 l47.length c46] 108 (0, 0))]] at S364
                have S365 := S364.front 2 rfl
                change St _ _ _ [[(p11, .cells #[.slice A45 l47.length c46] 108 (0, 0))], G43, G48] at S365
                refine WEx.again _ _ (by omega) ?_ ⟨decide (x349 = t324), w64 (x335 + 1), rfl, hF, S365⟩
                exact ⟨rfl, rfl, rfl, rfl, rfl, rfl, rfl, rfl, rfl, trivial⟩
            ·
              refine WCode.cond_f (kb (b := decide (x335 < (l42.length : Int))) rfl (decide_eq_false h344)) ?_
              refine WCode.exit ?_
              refine WEx.then_exit ?_
              refine WEx.then_exit ?_
              refine WEx.in_exit ?_
              have S366 := S337.front 2 rfl
              change St _ _ _ [G48, [(p11, .cells #[.slice A45 l47.length c46] 108 (0, 0))], G43] at S366
              have S367 := S366.front 2 rfl
              change St _ _ _ [G43, G48, [(p11, .cells #[.slice A45 l47.length c46] 108 (0, 0))]] at S367
              have S368 := S367.front 2 rfl
              change St _ _ _ [[(p11, .cells #[.slice A45 l47.length c46] 108 (0, 0))], G43, G48] at S368
              refine WEx.cutend _ ?_ ⟨k338, b334, rfl, hF, S368⟩
              exact ⟨rfl, rfl, rfl, rfl, rfl, rfl, rfl, rfl, trivial⟩
          ·
            rintro _ w330 ⟨q332, b329, rfl, hF, S331⟩
            unfold law_Finds.j5 at hF
            refine WCode.seq ?_
            refine WCode.region ?_
            refine WOps.p (G.move rfl) rfl ?_
            refine WOps.p (G.move rfl) rfl ?_
            refine WOps.p (G.move rfl) rfl ?_
            refine WOps.p (G.move rfl) rfl ?_
            obtain ⟨t369, hc370, hF⟩ := bind_some hF
            have S371 := S331.front 2 rfl
            change St _ _ _ [G48, [(p11, .cells #[.slice A45 l47.length c46] 108 (0, 0))], G43] at S371
            have S372 := S371.front 1 rfl
            change St _ _ _ [[(p11, .cells #[.slice A45 l47.length c46] 108 (0, 0))], G48, G43] at S372
            have hP373 : PtR 108 Registry.rp w330 (KS [[(p11, .cells #[.slice A45 l47.length c46] 108 (0, 0))], G48]) p11 (⟨l47⟩ : Registry) := ⟨_, S372.blk 0 rfl, KS_at 0 rfl (by simp [keys]), ⟨A45, c46, rfl, ((hO49.rd (fun b o hb => S372.grp 1 rfl hb)).mono (fun b hb => KS_at 1 rfl hb))⟩⟩
            refine WOps.call T.call29 (evs_cons rfl (evs_cons rfl (evs_cons rfl (evs_cons rfl evs_nil)))) rfl ?_
            refine (sv_Find_calls q332 (⟨l47⟩ : Registry) t35 t324 a3 hP373 (St.outN (Bs := []) (As := [[(p11, .cells #[.slice A45 l47.length c46] 108 (0, 0))], G48]) S372) hc370).mono ?_
            rintro _ w374 ⟨rfl, T375⟩
            have S376 := St.callN (As := []) S372 T375
            change St _ _ _ [[(p11, .cells #[.slice A45 l47.length c46] 108 (0, 0))], G48, G43] at S376
            refine ⟨_, rfl, ?_⟩
            refine WOps.p (G.move rfl) rfl ?_
            refine WOps.p (G.extract rfl rfl) rfl ?_
            refine WOps.p (G.extract rfl rfl) rfl ?_
            refine WOps.p (G.extract rfl rfl) rfl ?_
            refine WOps.p (G.assign rfl) rfl ?_
            refine WOps.p (G.assign rfl) rfl ?_
            refine WOps.p (G.assign rfl) rfl ?_
            refine WOps.nil ?_
            refine WEx.then_ ?_
            refine WCode.seq ?_
            refine WCode.region ?_
            refine WOps.p (G.move rfl) rfl ?_
            refine WOps.p (G.move rfl) rfl ?_
            refine WOps.p (G.move rfl) rfl ?_
            refine WOps.p (G.move rfl) rfl ?_
            obtain ⟨t377, hc378, hF⟩ := bind_some hF
            have S379 := S376.front 1 rfl
            change St _ _ _ [G48, [(p11, .cells #[.slice A45 l47.length c46] 108 (0, 0))], G43] at S379
            have S380 := S379.front 1 rfl
            change St _ _ _ [[(p11, .cells #[.slice A45 l47.length c46] 108 (0, 0))], G48, G43] at S380
            have hP381 : PtR 108 Registry.rp w374 (KS [[(p11, .cells #[.slice A45 l47.length c46] 108 (0, 0))], G48]) p11 (⟨l47⟩ : Registry) := ⟨_, S380.blk 0 rfl, KS_at 0 rfl (by simp [keys]), ⟨A45, c46, rfl, ((hO49.rd (fun b o hb => S380.grp 1 rfl hb)).mono (fun b hb => KS_at 1 rfl hb))⟩⟩
            refine WOps.call T.call31 (evs_cons rfl (evs_cons rfl (evs_cons rfl (evs_cons rfl (evs_cons rfl evs_nil))))) rfl ?_
            refine (sv_Run_calls q332 (⟨l47⟩ : Registry) t35 t324 a3 ([] : List UInt8) hP381 (St.outN (Bs := []) (As := [[(p11, .cells #[.slice A45 l47.length c46] 108 (0, 0))], G48]) S380) hc378).mono ?_
            rintro _ w382 ⟨rfl, T383⟩
            have S384 := St.callN (As := []) S380 T383
            change St _ _ _ [[(p11, .cells #[.slice A45 l47.length c46] 108 (0, 0))], G48, G43] at S384
            refine ⟨_, rfl, ?_⟩
            refine WOps.p (G.move rfl) rfl ?_
            refine WOps.p (G.extract rfl rfl) rfl ?_
            refine WOps.p (G.extract rfl rfl) rfl ?_
            refine WOps.p (G.assign rfl) rfl ?_
            refine WOps.p (G.assign rfl) rfl ?_
            refine WOps.nil ?_
            refine WEx.then_ ?_
            refine WCode.forget (l' := [(3, .int .i64 a3), (10, .pointer (some ⟨p11, 0, none⟩)), (11, .int .i64 t35), (12, .slice A40 l42.length c41), (18, .int .i64 x201), (19, .int .i64 x202), (30, .int .i64 t324), (31, .bool b329), (33, .int .i64 t369.1), (34, .int .i64 t369.2.1), (35, .int .i64 t369.2.2), (36, .int .i64 t377.1), (37, .string (bs t377.2))]) ⟨rfl, rfl, rfl, rfl, rfl, rfl, rfl, rfl, rfl, rfl, rfl, rfl, rfl, trivial⟩ ?_
            refine WCode.seq ?_
            refine WCode.region ?_
            refine WOps.p (G.move rfl) rfl ?_
            refine WOps.p (G.move rfl) rfl ?_
            refine WOps.p (G.add rfl rfl (r := (w64 (t35 + 1))) rfl) rfl ?_
            obtain ⟨t385, hc386, hF⟩ := bind_some hF
            refine WOps.call T.call33 (evs_cons rfl (evs_cons rfl evs_nil)) rfl ?_
            refine (sv_pick_calls q332 (w64 (t35 + 1)) 4294967296 hc386).mono ?_
            rintro _ w387 ⟨rfl, T388⟩
            have S389 := St.callN (As := []) S384 T388
            change St _ _ _ [[(p11, .cells #[.slice A45 l47.length c46] 108 (0, 0))], G48, G43] at S389
            refine ⟨_, rfl, ?_⟩
            refine WOps.p (G.move rfl) rfl ?_
            refine WOps.p (G.move rfl) rfl ?_
            obtain ⟨t390, hc391, hF⟩ := bind_some hF
            have S392 := S389.front 1 rfl
            change St _ _ _ [G48, [(p11, .cells #[.slice A45 l47.length c46] 108 (0, 0))], G43] at S392
            have S393 := S392.front 1 rfl
            change St _ _ _ [[(p11, .cells #[.slice A45 l47.length c46] 108 (0, 0))], G48, G43] at S393
            have hP394 : PtR 108 Registry.rp w387 (KS [[(p11, .cells #[.slice A45 l47.length c46] 108 (0, 0))], G48]) p11 (⟨l47⟩ : Registry) := ⟨_, S393.blk 0 rfl, KS_at 0 rfl (by simp [keys]), ⟨A45, c46, rfl, ((hO49.rd (fun b o hb => S393.grp 1 rfl hb)).mono (fun b hb => KS_at 1 rfl hb))⟩⟩
            refine WOps.call T.call29 (evs_cons rfl (evs_cons rfl (evs_cons rfl (evs_cons rfl evs_nil)))) rfl ?_
            refine (sv_Find_calls q332 (⟨l47⟩ : Registry) t385 t324 a3 hP394 (St.outN (Bs := []) (As := [[(p11, .cells #[.slice A45 l47.length c46] 108 (0, 0))], G48]) S393) hc391).mono ?_
            rintro _ w395 ⟨rfl, T396⟩
            have S397 := St.callN (As := []) S393 T396
            change St _ _ _ [[(p11, .cells #[.slice A45 l47.length c46] 108 (0, 0))], G48, G43] at S397
            refine ⟨_, rfl, ?_⟩
            refine WOps.p (G.move rfl) rfl ?_
            refine WOps.p (G.extract rfl rfl) rfl ?_
            refine WOps.p (G.extract rfl rfl) rfl ?_
            refine WOps.p (G.extract rfl rfl) rfl ?_
            refine WOps.p (G.assign rfl) rfl ?_
            refine WOps.p (G.assign rfl) rfl ?_
            refine WOps.p (G.assign rfl) rfl ?_
            refine WOps.nil ?_
            refine WEx.then_ ?_
            refine WCode.forget (l' := [(12, .slice A40 l42.length c41), (18, .int .i64 x201), (19, .int .i64 x202), (31, .bool b329), (33, .int .i64 t369.1), (34, .int .i64 t369.2.1), (35, .int .i64 t369.2.2), (36, .int .i64 t377.1), (37, .string (bs t377.2)), (38, .int .i64 t390.1)]) ⟨rfl, rfl, rfl, rfl, rfl, rfl, rfl, rfl, rfl, rfl, trivial⟩ ?_
            refine WCode.seq ?_
            refine WCode.seq ?_
            refine WCode.region ?_
            refine WOps.p (G.move rfl) rfl ?_
            refine WOps.p (G.neq rfl rfl rfl) rfl ?_
            refine WOps.nil ?_
            refine WEx.then_ ?_
            rcases ite_some hF with ⟨h398, hF⟩ | ⟨h398, hF⟩
            ·
              refine WCode.cond_f (kb (b := !(decide (t390.1 = 1))) rfl (show (!(decide (t390.1 = 1))) = false from by rw [(decide_eq_true h398)]; rfl)) ?_
              refine WCode.skip ?_
              refine WEx.then_ ?_
              refine WCode.seq ?_
              refine WCode.block ?_
              refine WCode.seq ?_
              refine WCode.region ?_
              refine WOps.p (G.move rfl) rfl ?_
              refine WOps.p (G.assign rfl) rfl ?_
              refine WOps.nil ?_
              refine WEx.then_ ?_
              rcases ite_some hF with ⟨h399, hF⟩ | ⟨h399, hF⟩
              ·
                refine WCode.cond_t (kb (b := b329) rfl h399) ?_
                refine WCode.seq ?_
                refine WCode.region ?_
                refine WOps.p (G.assign rfl) rfl ?_
                refine WOps.nil ?_
                refine WEx.then_ ?_
                refine WCode.forget (l' := [(8, .bool true)]) ⟨rfl, trivial⟩ ?_
                refine WCode.ret ?_
                refine WEx.in_ret ?_
                refine WEx.then_ret ?_
                obtain rfl := some_eq hF
                refine WEx.ret1 rfl rfl ?_
                exact ⟨rfl, St.keep (As := []) S397⟩
              ·
                refine WCode.cond_f (kb (b := b329) rfl (Bool.eq_false_iff.2 h399)) ?_
                refine WCode.seq ?_
                refine WCode.region ?_
                refine WOps.p (G.move rfl) rfl ?_
                refine WOps.p (G.len T.el49 rfl) rfl ?_
                refine WOps.p (G.eql rfl rfl rfl) rfl ?_
                refine WOps.p (G.assign rfl) rfl ?_
                refine WOps.nil ?_
                refine WEx.then_ ?_
                refine WCode.forget (l' := [(18, .int .i64 x201), (19, .int .i64 x202), (33, .int .i64 t369.1), (34, .int .i64 t369.2.1), (35, .int .i64 t369.2.2), (36, .int .i64 t377.1), (37, .string (bs t377.2)), (220, .bool (decide ((l42.length : Int) = 0)))]) ⟨rfl, rfl, rfl, rfl, rfl, rfl, rfl, rfl, trivial⟩ ?_
                rcases ite_some hF with ⟨h400, hF⟩ | ⟨h400, hF⟩
                ·
                  refine WCode.cond_t (kb (b := decide ((l42.length : Int) = 0)) rfl (decide_eq_true h400)) ?_
                  refine WCode.cutseq (fun l_ w_ => ∃ q404 : Nat, ∃ b401 : Bool, l_ = [(8, .bool b401)] ∧ law_Finds.j6 q404 b401 = some r_ ∧ St w (KS []) w_ []) ?_ ?_
                  ·
                    refine WCode.region ?_
                    refine WOps.p (G.move rfl) rfl ?_
                    refine WOps.p (G.eql rfl rfl rfl) rfl ?_
                    refine WOps.p (G.move rfl) rfl ?_
                    rcases ite_some hF with ⟨h406, hF⟩ | ⟨h406, hF⟩
                    ·
                      refine WOps.on rfl (kbl (b := decide (t369.1 = 1)) rfl (decide_eq_true h406)) ?_
                      refine WOps.p (G.move rfl) rfl ?_
                      refine WOps.on rfl (kbl (b := decide (t369.1 = 1)) rfl (decide_eq_true h406)) ?_
                      refine WOps.p (G.eql rfl rfl rfl) rfl ?_
                      refine WOps.p (G.pick_t (kb (b := decide (t369.1 = 1)) rfl (decide_eq_true h406)) rfl) rfl ?_
                      refine WOps.p (G.move rfl) rfl ?_
                      rcases ite_some hF with ⟨h407, hF⟩ | ⟨h407, hF⟩
                      ·
                        refine WOps.on rfl (kbl (b := decide (t369.2.1 = 0)) rfl (decide_eq_true h407)) ?_
                        refine WOps.p (G.move rfl) rfl ?_
                        refine WOps.on rfl (kbl (b := decide (t369.2.1 = 0)) rfl (decide_eq_true h407)) ?_
                        refine WOps.p (G.eql rfl rfl rfl) rfl ?_
                        refine WOps.p (G.pick_t (kb (b := decide (t369.2.1 = 0)) rfl (decide_eq_true h407)) rfl) rfl ?_
                        refine WOps.p (G.move rfl) rfl ?_
                        rcases ite_some hF with ⟨h408, hF⟩ | ⟨h408, hF⟩
                        ·
                          refine WOps.on rfl (kbl (b := decide (t369.2.2 = 0)) rfl (decide_eq_true h408)) ?_
                          refine WOps.p (G.move rfl) rfl ?_
                          refine WOps.on rfl (kbl (b := decide (t369.2.2 = 0)) rfl (decide_eq_true h408)) ?_
                          refine WOps.p (G.move rfl) rfl ?_
                          refine WOps.on rfl (kbl (b := decide (t369.2.2 = 0)) rfl (decide_eq_true h408)) ?_
                          refine WOps.p (G.eql rfl rfl rfl) rfl ?_
                          refine WOps.p (G.pick_t (kb (b := decide (t369.2.2 = 0)) rfl (decide_eq_true h408)) rfl) rfl ?_
                          refine WOps.p (G.move rfl) rfl ?_
                          rcases ite_some hF with ⟨h409, hF⟩ | ⟨h409, hF⟩
                          ·
                            refine WOps.on rfl (kbl (b := decide (t377.1 = t369.1)) rfl (decide_eq_true h409)) ?_
                            refine WOps.p (G.move rfl) rfl ?_
                            refine WOps.on rfl (kbl (b := decide (t377.1 = t369.1)) rfl (decide_eq_true h409)) ?_
                            refine WOps.p (G.eqlb' rfl rfl rfl) rfl ?_
                            refine WOps.p (G.pick_t (kb (b := decide (t377.1 = t369.1)) rfl (decide_eq_true h409)) rfl) rfl ?_
                            refine WOps.p (G.assign rfl) rfl ?_
                            refine WOps.nil ?_
                            have S410 := St.keep (As := []) S397
                            refine WEx.cutend _ ?_ ⟨q332, decide (t377.2 = ([] : List UInt8)), rfl, hF, S410⟩
                            exact ⟨rfl, trivial⟩
                          ·
                            refine WOps.off rfl (kbl (b := decide (t377.1 = t369.1)) rfl (decide_eq_false h409)) rfl rfl ?_
                            refine WOps.off rfl (kbl (b := decide (t377.1 = t369.1)) rfl (decide_eq_false h409)) rfl rfl ?_
                            refine WOps.p (G.pick_f (kb (b := decide (t377.1 = t369.1)) rfl (decide_eq_false h409)) rfl) rfl ?_
                            refine WOps.p (G.assign rfl) rfl ?_
                            refine WOps.nil ?_
                            have S411 := St.keep (As := []) S397
                            refine WEx.cutend _ ?_ ⟨q332, false, rfl, hF, S411⟩
                            exact ⟨rfl, trivial⟩
                        ·
                          refine WOps.off rfl (kbl (b := decide (t369.2.2 = 0)) rfl (decide_eq_false h408)) rfl rfl ?_
                          refine WOps.off rfl (kbl (b := decide (t369.2.2 = 0)) rfl (decide_eq_false h408)) rfl rfl ?_
                          refine WOps.off rfl (kbl (b := decide (t369.2.2 = 0)) rfl (decide_eq_false h408)) rfl rfl ?_
                          refine WOps.p (G.pick_f (kb (b := decide (t369.2.2 = 0)) rfl (decide_eq_false h408)) rfl) rfl ?_
                          refine WOps.p (G.move rfl) rfl ?_
                          refine WOps.off rfl rfl rfl rfl ?_
                          refine WOps.off rfl rfl rfl rfl ?_
                          refine WOps.p (G.pick_f rfl rfl) rfl ?_
                          refine WOps.p (G.assign rfl) rfl ?_
                          refine WOps.nil ?_
                          have S412 := St.keep (As := []) S397
                          refine WEx.cutend _ ?_ ⟨q332, false, rfl, hF, S412⟩
                          exact ⟨rfl, trivial⟩
                      ·
                        refine WOps.off rfl (kbl (b := decide (t369.2.1 = 0)) rfl (decide_eq_false h407)) rfl rfl ?_
                        refine WOps.off rfl (kbl (b := decide (t369.2.1 = 0)) rfl (decide_eq_false h407)) rfl rfl ?_
                        refine WOps.p (G.pick_f (kb (b := decide (t369.2.1 = 0)) rfl (decide_eq_false h407)) rfl) rfl ?_
                        refine WOps.p (G.move rfl) rfl ?_
                        refine WOps.off rfl rfl rfl rfl ?_
                        refine WOps.off rfl rfl rfl rfl ?_
                        refine WOps.off rfl rfl rfl rfl ?_
                        refine WOps.p (G.pick_f rfl rfl) rfl ?_
                        refine WOps.p (G.move rfl) rfl ?_
                        refine WOps.off rfl rfl rfl rfl ?_
                        refine WOps.off rfl rfl rfl rfl ?_
                        refine WOps.p (G.pick_f rfl rfl) rfl ?_
                        refine WOps.p (G.assign rfl) rfl ?_
                        refine WOps.nil ?_
                        have S413 := St.keep (As := []) S397
                        refine WEx.cutend _ ?_ ⟨q332, false, rfl, hF, S413⟩
                        exact ⟨rfl, trivial⟩
                    ·
                      refine WOps.off rfl (kbl (b := decide (t369.1 = 1)) rfl (decide_eq_false h406)) rfl rfl ?_
                      refine WOps.off rfl (kbl (b := decide (t369.1 = 1)) rfl (decide_eq_false h406)) rfl rfl ?_
                      refine WOps.p (G.pick_f (kb (b := decide (t369.1 = 1)) rfl (decide_eq_false h406)) rfl) rfl ?_
                      refine WOps.p (G.move rfl) rfl ?_
                      refine WOps.off rfl rfl rfl rfl ?_
                      refine WOps.off rfl rfl rfl rfl ?_
                      refine WOps.p (G.pick_f rfl rfl) rfl ?_
                      refine WOps.p (G.move rfl) rfl ?_
                      refine WOps.off rfl rfl rfl rfl ?_
                      refine WOps.off rfl rfl rfl rfl ?_
                      refine WOps.off rfl rfl rfl rfl ?_
                      refine WOps.p (G.pick_f rfl rfl) rfl ?_
                      refine WOps.p (G.move rfl) rfl ?_
                      refine WOps.off rfl rfl rfl rfl ?_
                      refine WOps.off rfl rfl rfl rfl ?_
                      refine WOps.p (G.pick_f rfl rfl) rfl ?_
                      refine WOps.p (G.assign rfl) rfl ?_
                      refine WOps.nil ?_
                      have S414 := St.keep (As := []) S397
                      refine WEx.cutend _ ?_ ⟨q332, false, rfl, hF, S414⟩
                      exact ⟨rfl, trivial⟩
                  ·
                    rintro _ w402 ⟨q404, b401, rfl, hF, S403⟩
                    unfold law_Finds.j6 at hF
                    refine WCode.ret ?_
                    refine WEx.in_ret ?_
                    refine WEx.then_ret ?_
                    obtain rfl := some_eq hF
                    refine WEx.ret1 rfl rfl ?_
                    exact ⟨rfl, St.keep (As := []) S403⟩
                ·
                  refine WCode.cond_f (kb (b := decide ((l42.length : Int) = 0)) rfl (decide_eq_false h400)) ?_
                  refine WCode.skip ?_
                  refine WEx.in_normal ?_
                  refine WEx.then_ ?_
                  refine WCode.seq ?_
                  refine WCode.region ?_
                  refine WOps.p (G.move rfl) rfl ?_
                  refine WOps.p (G.eql rfl rfl rfl) rfl ?_
                  refine WOps.p (G.move rfl) rfl ?_
                  rcases ite_some hF with ⟨h415, hF⟩ | ⟨h415, hF⟩
                  ·
                    refine WOps.on rfl (kbl (b := decide (t369.1 = 2)) rfl (decide_eq_true h415)) ?_
                    refine WOps.p (G.move rfl) rfl ?_
                    refine WOps.on rfl (kbl (b := decide (t369.1 = 2)) rfl (decide_eq_true h415)) ?_
                    refine WOps.p (G.move rfl) rfl ?_
                    refine WOps.on rfl (kbl (b := decide (t369.1 = 2)) rfl (decide_eq_true h415)) ?_
                    refine WOps.p (G.eql rfl rfl rfl) rfl ?_
                    refine WOps.p (G.pick_t (kb (b := decide (t369.1 = 2)) rfl (decide_eq_true h415)) rfl) rfl ?_
                    refine WOps.p (G.move rfl) rfl ?_
                    rcases ite_some hF with ⟨h416, hF⟩ | ⟨h416, hF⟩
                    ·
                      refine WOps.on rfl (kbl (b := decide (t369.2.1 = x201)) rfl (decide_eq_true h416)) ?_
                      refine WOps.p (G.move rfl) rfl ?_
                      refine WOps.on rfl (kbl (b := decide (t369.2.1 = x201)) rfl (decide_eq_true h416)) ?_
                      refine WOps.p (G.move rfl) rfl ?_
                      refine WOps.on rfl (kbl (b := decide (t369.2.1 = x201)) rfl (decide_eq_true h416)) ?_
                      refine WOps.p (G.eql rfl rfl rfl) rfl ?_
                      refine WOps.p (G.pick_t (kb (b := decide (t369.2.1 = x201)) rfl (decide_eq_true h416)) rfl) rfl ?_
                      refine WOps.p (G.move rfl) rfl ?_
                      rcases ite_some hF with ⟨h417, hF⟩ | ⟨h417, hF⟩
                      ·
                        refine WOps.on rfl (kbl (b := decide (t369.2.2 = x202)) rfl (decide_eq_true h417)) ?_
                        refine WOps.p (G.move rfl) rfl ?_
                        refine WOps.on rfl (kbl (b := decide (t369.2.2 = x202)) rfl (decide_eq_true h417)) ?_
                        refine WOps.p (G.move rfl) rfl ?_
                        refine WOps.on rfl (kbl (b := decide (t369.2.2 = x202)) rfl (decide_eq_true h417)) ?_
                        refine WOps.p (G.eql rfl rfl rfl) rfl ?_
                        refine WOps.p (G.pick_t (kb (b := decide (t369.2.2 = x202)) rfl (decide_eq_true h417)) rfl) rfl ?_
                        refine WOps.p (G.move rfl) rfl ?_
                        rcases ite_some hF with ⟨h418, hF⟩ | ⟨h418, hF⟩
                        ·
                          refine WOps.on rfl (kbl (b := decide (t377.1 = t369.1)) rfl (decide_eq_true h418)) ?_
                          refine WOps.p (G.move rfl) rfl ?_
                          refine WOps.on rfl (kbl (b := decide (t377.1 = t369.1)) rfl (decide_eq_true h418)) ?_
                          refine WOps.p (G.eqlb' rfl rfl rfl) rfl ?_
                          refine WOps.p (G.pick_t (kb (b := decide (t377.1 = t369.1)) rfl (decide_eq_true h418)) rfl) rfl ?_
                          refine WOps.p (G.assign rfl) rfl ?_
                          refine WOps.nil ?_
                          refine WEx.then_ ?_
                          refine WCode.forget (l' := [(8, .bool (decide (t377.2 = ([] : List UInt8))))]) ⟨rfl, trivial⟩ ?_
                          refine WCode.ret ?_
                          obtain rfl := some_eq hF
                          refine WEx.ret1 rfl rfl ?_
                          exact ⟨rfl, St.keep (As := []) S397⟩
                        ·
                          refine WOps.off rfl (kbl (b := decide (t377.1 = t369.1)) rfl (decide_eq_false h418)) rfl rfl ?_
                          refine WOps.off rfl (kbl (b := decide (t377.1 = t369.1)) rfl (decide_eq_false h418)) rfl rfl ?_
                          refine WOps.p (G.pick_f (kb (b := decide (t377.1 = t369.1)) rfl (decide_eq_false h418)) rfl) rfl ?_
                          refine WOps.p (G.assign rfl) rfl ?_
                          refine WOps.nil ?_
                          refine WEx.then_ ?_
                          refine WCode.forget (l' := [(8, .bool false)]) ⟨rfl, trivial⟩ ?_
                          refine WCode.ret ?_
                          obtain rfl := some_eq hF
                          refine WEx.ret1 rfl rfl ?_
                          exact ⟨rfl, St.keep (As := []) S397⟩
                      ·
                        refine WOps.off rfl (kbl (b := decide (t369.2.2 = x202)) rfl (decide_eq_false h417)) rfl rfl ?_
                        refine WOps.off rfl (kbl (b := decide (t369.2.2 = x202)) rfl (decide_eq_false h417)) rfl rfl ?_
                        refine WOps.off rfl (kbl (b := decide (t369.2.2 = x202)) rfl (decide_eq_false h417)) rfl rfl ?_
                        refine WOps.p (G.pick_f (kb (b := decide (t369.2.2 = x202)) rfl (decide_eq_false h417)) rfl) rfl ?_
                        refine WOps.p (G.move rfl) rfl ?_
                        refine WOps.off rfl rfl rfl rfl ?_
                        refine WOps.off rfl rfl rfl rfl ?_
                        refine WOps.p (G.pick_f rfl rfl) rfl ?_
                        refine WOps.p (G.assign rfl) rfl ?_
                        refine WOps.nil ?_
                        refine WEx.then_ ?_
                        refine WCode.forget (l' := [(8, .bool false)]) ⟨rfl, trivial⟩ ?_
                        refine WCode.ret ?_
                        obtain rfl := some_eq hF
                        refine WEx.ret1 rfl rfl ?_
                        exact ⟨rfl, St.keep (As := []) S397⟩
                    ·
                      refine WOps.off rfl (kbl (b := decide (t369.2.1 = x201)) rfl (decide_eq_false h416)) rfl rfl ?_
                      refine WOps.off rfl (kbl (b := decide (t369.2.1 = x201)) rfl (decide_eq_false h416)) rfl rfl ?_
                      refine WOps.off rfl (kbl (b := decide (t369.2.1 = x201)) rfl (decide_eq_false h416)) rfl rfl ?_
                      refine WOps.p (G.pick_f (kb (b := decide (t369.2.1 = x201)) rfl (decide_eq_false h416)) rfl) rfl ?_
                      refine WOps.p (G.move rfl) rfl ?_
                      refine WOps.off rfl rfl rfl rfl ?_
                      refine WOps.off rfl rfl rfl rfl ?_
                      refine WOps.off rfl rfl rfl rfl ?_
                      refine WOps.p (G.pick_f rfl rfl) rfl ?_
                      refine WOps.p (G.move rfl) rfl ?_
                      refine WOps.off rfl rfl rfl rfl ?_
                      refine WOps.off rfl rfl rfl rfl ?_
                      refine WOps.p (G.pick_f rfl rfl) rfl ?_
                      refine WOps.p (G.assign rfl) rfl ?_
                      refine WOps.nil ?_
                      refine WEx.then_ ?_
                      refine WCode.forget (l' := [(8, .bool false)]) ⟨rfl, trivial⟩ ?_
                      refine WCode.ret ?_
                      obtain rfl := some_eq hF
                      refine WEx.ret1 rfl rfl ?_
                      exact ⟨rfl, St.keep (As := []) S397⟩
                  ·
                    refine WOps.off rfl (kbl (b := decide (t369.1 = 2)) rfl (decide_eq_false h415)) rfl rfl ?_
                    refine WOps.off rfl (kbl (b := decide (t369.1 = 2)) rfl (decide_eq_false h415)) rfl rfl ?_
                    refine WOps.off rfl (kbl (b := decide (t369.1 = 2)) rfl (decide_eq_false h415)) rfl rfl ?_
                    refine WOps.p (G.pick_f (kb (b := decide (t369.1 = 2)) rfl (decide_eq_false h415)) rfl) rfl ?_
                    refine WOps.p (G.move rfl) rfl ?_
                    refine WOps.off rfl rfl rfl rfl ?_
                    refine WOps.off rfl rfl rfl rfl ?_
                    refine WOps.off rfl rfl rfl rfl ?_
                    refine WOps.p (G.pick_f rfl rfl) rfl ?_
                    refine WOps.p (G.move rfl) rfl ?_
                    refine WOps.off rfl rfl rfl rfl ?_
                    refine WOps.off rfl rfl rfl rfl ?_
                    refine WOps.off rfl rfl rfl rfl ?_
                    refine WOps.p (G.pick_f rfl rfl) rfl ?_
                    refine WOps.p (G.move rfl) rfl ?_
                    refine WOps.off rfl rfl rfl rfl ?_
                    refine WOps.off rfl rfl rfl rfl ?_
                    refine WOps.p (G.pick_f rfl rfl) rfl ?_
                    refine WOps.p (G.assign rfl) rfl ?_
                    refine WOps.nil ?_
                    refine WEx.then_ ?_
                    refine WCode.forget (l' := [(8, .bool false)]) ⟨rfl, trivial⟩ ?_
                    refine WCode.ret ?_
                    obtain rfl := some_eq hF
                    refine WEx.ret1 rfl rfl ?_
                    exact ⟨rfl, St.keep (As := []) S397⟩
            ·
              refine WCode.cond_t (kb (b := !(decide (t390.1 = 1))) rfl (show (!(decide (t390.1 = 1))) = true from by rw [(decide_eq_false h398)]; rfl)) ?_
              refine WCode.seq ?_
              refine WCode.region ?_
              refine WOps.p (G.assign rfl) rfl ?_
              refine WOps.nil ?_
              refine WEx.then_ ?_
              refine WCode.forget (l' := [(8, .bool false)]) ⟨rfl, trivial⟩ ?_
              refine WCode.ret ?_
              refine WEx.then_ret ?_
              obtain rfl := some_eq hF
              refine WEx.ret1 rfl rfl ?_
              exact ⟨rfl, St.keep (As := []) S397⟩

end Go.Proofs.Ytpdpfiaediadgaa
