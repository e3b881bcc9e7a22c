/- Functions and their walks (printed by auto.py over the engine). -/
import Derived.Test.YtpdpfiaediadgaaDoorProg
import Derived.Test.YtpdpfiaediadgaaDoorLexB
import Derived.Test.YtpdpfiaediadgaaDoorKept
namespace Go.Proofs.YtpdpfiaediadgaaDoor
open Go Go.Eng
set_option linter.unusedSimpArgs false
set_option linter.unusedVariables false

theorem T.call11 : Callable Tryd.prog 11 := Callable.mk Tryd.func11 (by kernel_rfl) (by kernel_rfl)
theorem T.call8 : Callable Tryd.prog 8 := Callable.mk Tryd.func8 (by kernel_rfl) (by kernel_rfl)
theorem T.el24 : slEl Tryd.prog 24 = some 1 := by kernel_rfl
theorem T.elt24 : Elt Tryd.prog 24 25 1 24 := elt_mk (z := .slice none 0 0) Tryd.underlying24 (by kernel_rfl) rfl
theorem T.one25 : isOneT Tryd.prog 25 = true := by kernel_rfl


mutual
def lw_owned.l6 : Nat → List (List Token) → Int → Int → Option Bool
  | 0, _, _, _ => none
  | k226 + 1, l98, x214, x223 => (Option.bind (idx l98 x214) fun x231 => (if x223 < (x231.length : Int) then (Option.bind (idx l98 x214) fun x249 => (Option.bind (idx x249 x223) fun x266 => (if x266.Kind = (w64 ((-5) - (w64 (Int.tdiv x214 20)))) then (lw_owned.l6 k226 l98 x214 (w64 (x223 + 1))) else (some false)))) else (lw_owned.l5 k226 l98 (w64 (x214 + 1)))))
def lw_owned.l5 : Nat → List (List Token) → Int → Option Bool
  | 0, _, _ => none
  | k217 + 1, l98, x214 => (if x214 < (l98.length : Int) then (lw_owned.l6 k217 l98 x214 0) else (some true))
end
def lw_owned.j2 (q104 : Nat) (l98 : List (List Token)) : Option Bool := (lw_owned.l5 q104 l98 0)
mutual
def lw_owned.l4 : Nat → List (List Token) → Int → List (List Token) → List Token → Int → Option Bool
  | 0, _, _, _, _, _ => none
  | k166 + 1, l3, x119, l156, l162, x163 => (if x163 < 20 then (Option.bind (cat l156 ([l162] : List (List Token))) fun l179 => (Option.bind (cat l162 ([(⟨w64 ((-5) - x119), ([] : List UInt8), 0, 0⟩ : Token)] : List Token)) fun l195 => (lw_owned.l4 k166 l3 x119 l179 l195 (w64 (x163 + 1))))) else (lw_owned.l3 k166 l3 l156 (w64 (x119 + 1))))
def lw_owned.l3 : Nat → List (List Token) → List (List Token) → Int → Option Bool
  | 0, _, _, _ => none
  | k122 + 1, l3, l115, x119 => (if x119 < (l3.length : Int) then (Option.bind (idx l3 x119) fun x129 => (lw_owned.l4 k122 l3 x119 l115 x129 0)) else (lw_owned.j2 k122 l115))
end
def lw_owned.j1 (q8 : Nat) (l3 : List (List Token)) : Option Bool := (lw_owned.l3 q8 l3 [] 0)
mutual
def lw_owned.l2 : Nat → Int → List (List Token) → Int → Option Bool
  | 0, _, _, _ => none
  | k30 + 1, x15, l24, x27 => (Option.bind (idx l24 x15) fun x33 => (if x27 < (x33.length : Int) then (Option.bind (idx l24 x15) fun x52 => (Option.bind (idx x52 x27) fun x70 => (Option.bind (upd x52 x27 (⟨w64 ((-5) - x15), ([] : List UInt8), 0, 0⟩ : Token)) fun x84 => (Option.bind (upd l24 x15 x84) fun l86 => (lw_owned.l2 k30 x15 l86 (w64 (x27 + 1))))))) else (lw_owned.l1 k30 l24 (w64 (x15 + 1)))))
def lw_owned.l1 : Nat → List (List Token) → Int → Option Bool
  | 0, _, _ => none
  | k18 + 1, l12, x15 => (if x15 < (l12.length : Int) then (lw_owned.l2 k18 x15 l12 0) else (lw_owned.j1 k18 l12))
end
def lw_owned (k : Nat) (a0 : List (List Token)) : Option Bool := (lw_owned.l1 k a0 0)
set_option maxRecDepth 100000 in
set_option maxHeartbeats 1000000 in
theorem lw_owned_calls (k : Nat) (a0 : List (List Token)) {A0 : Option Addr} {c0 : Nat} {G0 : Grp} {w : World} (hO0 : SlO 25 (Rp.slice 37 Token.rp) (.slice A0 a0.length c0) a0 G0) {r_ : Bool} (h_ : lw_owned k a0 = some r_) (hp_ : Hp w ([G0]).flatten) :
    Calls Tryd.prog 11 [.slice A0 a0.length c0].toArray w fun e w' => e = .returned (.bool r_) ∧ St w (KS [G0]) w' [] := by
  have hF := h_
  clear h_
  unfold lw_owned at hF
  have S := St.initK [G0] hp_
  refine enter 86 [(0, .slice A0 a0.length c0)] Tryd.func11 rfl rfl rfl rfl ?_
  refine WCode.seq ?_
  refine WCode.region ?_
  refine WOps.p (G.assign rfl) rfl ?_
  refine WOps.nil ?_
  refine WEx.then_ ?_
  refine WCode.cutseq (fun l_ w_ => ∃ q8 : Nat, ∃ A1 : Option Addr, ∃ c2 : Nat, ∃ l3 : List (List Token), ∃ G4 : Grp, l_ = [(0, .slice A1 l3.length c2)] ∧ lw_owned.j1 q8 l3 = some r_ ∧ (SlO 25 (Rp.slice 37 Token.rp) (.slice A1 l3.length c2) l3 G4) ∧ St w (KS [G0]) w_ [G4]) ?_ ?_
  ·
    refine WCode.seq ?_
    refine WCode.region ?_
    refine WOps.p (G.assign rfl) rfl ?_
    refine WOps.nil ?_
    refine WEx.then_ ?_
    refine WCode.block ?_
    refine WCode.forget (l' := [(0, .slice A0 a0.length c0), (3, .int .i64 0)]) ⟨rfl, rfl, trivial⟩ ?_
    refine WCode.loop (fun n_ l_ w_ => ∃ A10 : Option Addr, ∃ c11 : Nat, ∃ l12 : List (List Token), ∃ G13 : Grp, ∃ x15 : Int, l_ = [(0, .slice A10 l12.length c11), (3, .int .i64 x15)] ∧ lw_owned.l1 n_ l12 x15 = some r_ ∧ (SlO 25 (Rp.slice 37 Token.rp) (.slice A10 l12.length c11) l12 G13) ∧ St w (KS [G0]) w_ [G13]) k ⟨A0, c0, a0, G0, 0, rfl, hF, hO0, S⟩ ?_
    rintro n19 _ w16 ⟨A10, c11, l12, G13, x15, rfl, hF, hO14, S17⟩
    obtain _ | k18 := n19
    · exact nomatch (show (none : Option Bool) = some r_ from hF)
    rw [lw_owned.l1] at hF
    refine WCode.seq ?_
    refine WCode.seq ?_
    refine WCode.region ?_
    refine WOps.p (G.move rfl) rfl ?_
    refine WOps.p (G.move rfl) rfl ?_
    refine WOps.p (G.len T.el24 rfl) rfl ?_
    refine WOps.p (G.lss rfl rfl rfl) rfl ?_
    refine WOps.nil ?_
    refine WEx.then_ ?_
    rcases ite_some hF with ⟨h21, hF⟩ | ⟨h21, hF⟩
    ·
      refine WCode.cond_t (kb (b := decide (x15 < (l12.length : Int))) rfl (decide_eq_true h21)) ?_
      refine WCode.skip ?_
      refine WEx.then_ ?_
      refine WCode.seq ?_
      refine WCode.block ?_
      refine WCode.seq ?_
      refine WCode.region ?_
      refine WOps.p (G.assign rfl) rfl ?_
      refine WOps.nil ?_
      refine WEx.then_ ?_
      refine WCode.block ?_
      refine WCode.forget (l' := [(0, .slice A10 l12.length c11), (3, .int .i64 x15), (4, .int .i64 0)]) ⟨rfl, rfl, rfl, trivial⟩ ?_
      refine WCode.loop (fun n_ l_ w_ => ∃ A22 : Option Addr, ∃ c23 : Nat, ∃ l24 : List (List Token), ∃ G25 : Grp, ∃ x27 : Int, l_ = [(0, .slice A22 l24.length c23), (3, .int .i64 x15), (4, .int .i64 x27)] ∧ lw_owned.l2 n_ x15 l24 x27 = some r_ ∧ n_ ≤ k18 ∧ (SlO 25 (Rp.slice 37 Token.rp) (.slice A22 l24.length c23) l24 G25) ∧ St w (KS [G0]) w_ [G25]) k18 ⟨A10, c11, l12, G13, 0, rfl, hF, Nat.le_refl _, hO14, S17⟩ ?_
      rintro n31 _ w28 ⟨A22, c23, l24, G25, x27, rfl, hF, hle32, hO26, S29⟩
      obtain _ | k30 := n31
      · exact nomatch (show (none : Option Bool) = some r_ from hF)
      rw [lw_owned.l2] at hF
      refine WCode.seq ?_
      refine WCode.seq ?_
      refine WCode.region ?_
      refine WOps.p (G.move rfl) rfl ?_
      refine WOps.p (G.move rfl) rfl ?_
      refine WOps.p (G.move rfl) rfl ?_
      obtain ⟨x33, hc34, hF⟩ := bind_some hF
      obtain ⟨j35, ej36, hj37, hl38⟩ := idx_spec hc34
      obtain ⟨A46, c47, hG48, hS49, hcl50⟩ := SlO.sub hO26 hj37
      obtain ⟨b39, o40, eA42, hf43, hc44⟩ := hcl50 _ (fun b o hb => S29.grp 0 rfl hb)
      refine WOps.p (G.idx T.el24 rfl eA42 rfl ej36 hl38) rfl ?_
      refine WOps.r (G.load1 T.one25 rfl (cellsAt.at0 hc44)) rfl ?_
      refine WOps.p (G.len T.el25 rfl) rfl ?_
      refine WOps.p (G.lss rfl rfl rfl) rfl ?_
      refine WOps.nil ?_
      refine WEx.then_ ?_
      rcases ite_some hF with ⟨h51, hF⟩ | ⟨h51, hF⟩
      ·
        refine WCode.cond_t (kb (b := decide (x27 < (x33.length : Int))) rfl (decide_eq_true h51)) ?_
        refine WCode.skip ?_
        refine WEx.then_ ?_
        refine WCode.seq ?_
        refine WCode.block ?_
        refine WCode.region ?_
        refine WOps.p (G.move rfl) rfl ?_
        refine WOps.p (G.move rfl) rfl ?_
        obtain ⟨x52, hc53, hF⟩ := bind_some hF
        obtain ⟨j54, ej55, hj56, hl57⟩ := idx_spec hc53
        obtain ⟨A65, c66, hG67, hS68, hcl69⟩ := SlO.sub hO26 hj56
        obtain ⟨b58, o59, eA61, hf62, hc63⟩ := hcl69 _ (fun b o hb => S29.grp 0 rfl hb)
        refine WOps.p (G.idx T.el24 rfl eA61 rfl ej55 hl57) rfl ?_
        refine WOps.r (G.load1 T.one25 rfl (cellsAt.at0 hc63)) rfl ?_
        refine WOps.p (G.move rfl) rfl ?_
        refine WOps.p (G.move rfl) rfl ?_
        refine WOps.p (G.sub rfl rfl (r := (w64 ((-5) - x15))) rfl) rfl ?_
        refine WOps.p (G.build (cells := #[.int .i64 (w64 ((-5) - x15)), .string (bs ([] : List UInt8)), .int .i64 0, .int .i64 0]) (evp_spec (evp_cons rfl evp_nil)) (by kernel_rfl)) rfl ?_
        obtain ⟨x70, hc71, hF⟩ := bind_some hF
        obtain ⟨j72, ej73, hj74, hl75⟩ := idx_spec hc71
        obtain ⟨b76, o77, cs78, eA79, hf80, hc81, hr82⟩ := SlR.at_ (hG67 _ (fun b o hb => S29.grp 0 rfl hb)) hj74
        have hq83 : cs78 = [.int .i64 x70.Kind, .string (bs x70.Text), .int .i64 x70.Number, .int .i64 x70.At] := hr82
        subst hq83
        change cellsAt _ _ (o77 + j72 * 4) [.int .i64 x70.Kind, .string (bs x70.Text), .int .i64 x70.Number, .int .i64 x70.At] at hc81
        refine WOps.p (G.idx T.el25 rfl eA79 rfl ej73 hl75) rfl ?_
        obtain ⟨x84, hc85, hF⟩ := bind_some hF
        obtain ⟨l86, hc87, hF⟩ := bind_some hF
        have e88 := upd_spec' hc85 ej73
        have e89 := upd_spec' hc87 ej55
        obtain ⟨w90, G91, E92, hO93, S94⟩ := St.store2 (P := Tryd.prog) (T := 37) S29 hS68 T.size37_4 hl75 eA79 (⟨w64 ((-5) - x15), ([] : List UInt8), 0, 0⟩ : Token) (v := .agg #[.int .i64 (w64 ((-5) - x15)), .string (bs ([] : List UInt8)), .int .i64 0, .int .i64 0]) rfl
        rw [← e88, ← e89] at hO93
        have hl95 : (l24).length = l86.length := by rw [e89, List.length_set]
        rw [hl95]
        refine WOps.u (E92 rfl rfl) ?_
        refine WOps.nil ?_
        refine WEx.in_normal ?_
        refine WEx.then_ ?_
        refine WCode.forget (l' := [(0, .slice A22 l86.length c23), (3, .int .i64 x15), (4, .int .i64 x27)]) ⟨rfl, rfl, rfl, trivial⟩ ?_
        refine WCode.region ?_
        refine WOps.p (G.move rfl) rfl ?_
        refine WOps.p (G.add rfl rfl (r := (w64 (x27 + 1))) rfl) rfl ?_
        refine WOps.p (G.assign rfl) rfl ?_
        refine WOps.nil ?_
        refine WEx.again _ _ (by omega) ?_ ⟨A22, c23, l86, G91, w64 (x27 + 1), rfl, hF, (by omega), hO93, S94⟩
        exact ⟨rfl, rfl, rfl, trivial⟩
      ·
        refine WCode.cond_f (kb (b := decide (x27 < (x33.length : Int))) rfl (decide_eq_false h51)) ?_
        refine WCode.exit ?_
        refine WEx.then_exit ?_
        refine WEx.then_exit ?_
        refine WEx.in_exit ?_
        refine WEx.in_normal ?_
        refine WEx.then_ ?_
        refine WCode.region ?_
        refine WOps.p (G.move rfl) rfl ?_
        refine WOps.p (G.add rfl rfl (r := (w64 (x15 + 1))) rfl) rfl ?_
        refine WOps.p (G.assign rfl) rfl ?_
        refine WOps.nil ?_
        refine WEx.again _ _ (by omega) ?_ ⟨A22, c23, l24, G25, w64 (x15 + 1), rfl, hF, hO26, S29⟩
        exact ⟨rfl, rfl, trivial⟩
    ·
      refine WCode.cond_f (kb (b := decide (x15 < (l12.length : Int))) rfl (decide_eq_false h21)) ?_
      refine WCode.exit ?_
      refine WEx.then_exit ?_
      refine WEx.then_exit ?_
      refine WEx.in_exit ?_
      refine WEx.cutend _ ?_ ⟨k18, A10, c11, l12, G13, rfl, hF, hO14, S17⟩
      exact ⟨rfl, trivial⟩
  ·
    rintro _ w6 ⟨q8, A1, c2, l3, G4, rfl, hF, hO5, S7⟩
    unfold lw_owned.j1 at hF
    refine WCode.seq ?_
    refine WCode.region ?_
    refine WOps.p (G.assign rfl) rfl ?_
    refine WOps.nil ?_
    refine WEx.then_ ?_
    refine WCode.cutseq (fun l_ w_ => ∃ q104 : Nat, ∃ A96 : Option Addr, ∃ c97 : Nat, ∃ l98 : List (List Token), ∃ G99 : Grp, ∃ M100 : Grp, l_ = [(5, .slice A96 l98.length c97)] ∧ lw_owned.j2 q104 l98 = some r_ ∧ (PoolP 25 37 Token.rp A96 c97 l98 G99 M100 none) ∧ St w (KS [G0]) w_ [G99, M100]) ?_ ?_
    ·
      refine WCode.seq ?_
      refine WCode.region ?_
      refine WOps.p (G.assign rfl) rfl ?_
      refine WOps.nil ?_
      refine WEx.then_ ?_
      refine WCode.block ?_
      have hD106 := SlO.toD hO5
      obtain ⟨G108, M109, hP107, S110⟩ : ∃ GA_ M_ : Grp, PoolP 25 37 Token.rp none 0 [] GA_ M_ none ∧ St w (KS [G0]) w6 (GA_ :: M_ :: [G4]) := ⟨[], [], PoolP.nil, S7.emp.emp⟩
      have S124 := S110.front 1 rfl
      change St _ _ _ [M109, G108, G4] at S124
      have S125 := S124.front 1 rfl
      change St _ _ _ [G108, M109, G4] at S125
      have S126 := S125.front 2 rfl
      change St _ _ _ [G4, G108, M109] at S126
      refine WCode.forget (l' := [(0, .slice A1 l3.length c2), (5, .slice none 0 0), (6, .int .i64 0)]) ⟨rfl, rfl, rfl, trivial⟩ ?_
      refine WCode.loop (fun n_ l_ w_ => ∃ G111 : Grp, ∃ A113 : Option Addr, ∃ c114 : Nat, ∃ l115 : List (List Token), ∃ G116 : Grp, ∃ M117 : Grp, ∃ x119 : Int, l_ = [(0, .slice A1 l3.length c2), (5, .slice A113 l115.length c114), (6, .int .i64 x119)] ∧ lw_owned.l3 n_ l3 l115 x119 = some r_ ∧ (SlD 25 37 Token.rp A1 c2 l3 (x119.toNat) G111) ∧ (PoolP 25 37 Token.rp A113 c114 l115 G116 M117 none) ∧ St w (KS [G0]) w_ [G111, G116, M117]) q8 ⟨G4, none, 0, [], G108, M109, 0, rfl, hF, hD106, (hP107.untip), S126⟩ ?_
      rintro n123 _ w120 ⟨G111, A113, c114, l115, G116, M117, x119, rfl, hF, hD112, hP118, S121⟩
      obtain _ | k122 := n123
      · exact nomatch (show (none : Option Bool) = some r_ from hF)
      rw [lw_owned.l3] at hF
      refine WCode.seq ?_
      refine WCode.seq ?_
      refine WCode.region ?_
      refine WOps.p (G.move rfl) rfl ?_
      refine WOps.p (G.move rfl) rfl ?_
      refine WOps.p (G.len T.el24 rfl) rfl ?_
      refine WOps.p (G.lss rfl rfl rfl) rfl ?_
      refine WOps.nil ?_
      refine WEx.then_ ?_
      rcases ite_some hF with ⟨h128, hF⟩ | ⟨h128, hF⟩
      ·
        refine WCode.cond_t (kb (b := decide (x119 < (l3.length : Int))) rfl (decide_eq_true h128)) ?_
        refine WCode.skip ?_
        refine WEx.then_ ?_
        refine WCode.seq ?_
        refine WCode.block ?_
        refine WCode.seq ?_
        refine WCode.region ?_
        refine WOps.p (G.move rfl) rfl ?_
        refine WOps.p (G.move rfl) rfl ?_
        obtain ⟨x129, hc130, hF⟩ := bind_some hF
        obtain ⟨j131, ej132, hj133, hl134⟩ := idx_spec hc130
        have S144 := S121.front 2 rfl
        change St _ _ _ [M117, G111, G116] at S144
        have S145 := S144.front 1 rfl
        change St _ _ _ [G111, M117, G116] at S145
        obtain ⟨A142, c143, G146, M147, ⟨b135, o136, eA138, hc140⟩, hD148, hP149, S150⟩ := PoolP.next S145 (SlD.cast hD112 (show j131 = x119.toNat by omega)) hP118 (fun h => h.2) hj133
        change St _ _ _ [G146, M147, G116] at S150
        have hD151 := SlD.cast hD148 (show x119.toNat + 1 = j131 + 1 by omega)
        refine WOps.p (G.idx T.el24 rfl eA138 rfl ej132 hl134) rfl ?_
        refine WOps.r (G.load1 T.one25 rfl (cellsAt.at0 hc140)) rfl ?_
        refine WOps.p (G.assign rfl) rfl ?_
        refine WOps.nil ?_
        refine WEx.then_ ?_
        refine WCode.seq ?_
        refine WCode.region ?_
        refine WOps.p (G.assign rfl) rfl ?_
        refine WOps.nil ?_
        refine WEx.then_ ?_
        refine WCode.block ?_
        have S168 := S150.front 1 rfl
        change St _ _ _ [M147, G146, G116] at S168
        have S169 := S168.front 2 rfl
        change St _ _ _ [G116, M147, G146] at S169
        have S170 := S169.front 2 rfl
        change St _ _ _ [G146, G116, M147] at S170
        refine WCode.forget (l' := [(0, .slice A1 l3.length c2), (5, .slice A113 l115.length c114), (6, .int .i64 x119), (7, .slice A142 x129.length c143), (8, .int .i64 0)]) ⟨rfl, rfl, rfl, rfl, rfl, trivial⟩ ?_
        refine WCode.loop (fun n_ l_ w_ => ∃ G152 : Grp, ∃ A154 : Option Addr, ∃ c155 : Nat, ∃ l156 : List (List Token), ∃ G157 : Grp, ∃ M158 : Grp, ∃ A160 : Option Addr, ∃ c161 : Nat, ∃ l162 : List Token, ∃ x163 : Int, l_ = [(0, .slice A1 l3.length c2), (5, .slice A154 l156.length c155), (6, .int .i64 x119), (7, .slice A160 l162.length c161), (8, .int .i64 x163)] ∧ lw_owned.l4 n_ l3 x119 l156 l162 x163 = some r_ ∧ n_ ≤ k122 ∧ (SlD 25 37 Token.rp A1 c2 l3 (x119.toNat + 1) G152) ∧ (PoolP 25 37 Token.rp A154 c155 l156 G157 M158 (some ⟨A160, c161, l162⟩)) ∧ St w (KS [G0]) w_ [G152, G157, M158]) k122 ⟨G146, A113, c114, l115, G116, M147, A142, c143, x129, 0, rfl, hF, Nat.le_refl _, hD151, hP149, S170⟩ ?_
        rintro n167 _ w164 ⟨G152, A154, c155, l156, G157, M158, A160, c161, l162, x163, rfl, hF, hle171, hD153, hP159, S165⟩
        obtain _ | k166 := n167
        · exact nomatch (show (none : Option Bool) = some r_ from hF)
        rw [lw_owned.l4] at hF
        refine WCode.seq ?_
        refine WCode.seq ?_
        refine WCode.region ?_
        refine WOps.p (G.move rfl) rfl ?_
        refine WOps.p (G.lss rfl rfl rfl) rfl ?_
        refine WOps.nil ?_
        refine WEx.then_ ?_
        rcases ite_some hF with ⟨h172, hF⟩ | ⟨h172, hF⟩
        ·
          refine WCode.cond_t (kb (b := decide (x163 < 20)) rfl (decide_eq_true h172)) ?_
          refine WCode.skip ?_
          refine WEx.then_ ?_
          refine WCode.seq ?_
          refine WCode.block ?_
          refine WCode.seq ?_
          refine WCode.region ?_
          refine WOps.p (G.move rfl) rfl ?_
          refine WOps.p (G.move rfl) rfl ?_
          obtain ⟨b173, w174, E175, S176, X177, L178⟩ := St.lit S165 (P := Tryd.prog) (t := 24) (e := 25) (n := 1) (vs := [(0, .slice A160 l162.length c161)]) (cs := #[.slice A160 l162.length c161]) (by kernel_rfl)
          change St _ _ _ [[(b173, .cells #[.slice A160 l162.length c161] 25 (0, 0))], G152, G157, M158] at S176
          refine WOps.e (E175 (evp_cons rfl evp_nil)) rfl ?_
          obtain ⟨l179, hc180, hF⟩ := bind_some hF
          have S181 := S176.front 2 rfl
          change St _ _ _ [G157, [(b173, .cells #[.slice A160 l162.length c161] 25 (0, 0))], G152, M158] at S181
          obtain ⟨A182, c183, G184, w185, E186, hP187, S188⟩ := PoolP.put (P := Tryd.prog) S181 T.elt24 rfl hP159 (Rd.of_blk (S181.blk 1 rfl) (n := 1) (sz := 1) rfl) hc180
          change St _ _ _ [G184, [(b173, .cells #[.slice A160 l162.length c161] 25 (0, 0))], G152, M158] at S188
          refine WOps.e (E186 rfl rfl) rfl ?_
          refine WOps.p (G.assign rfl) rfl ?_
          refine WOps.nil ?_
          refine WEx.then_ ?_
          refine WCode.region ?_
          refine WOps.p (G.move rfl) rfl ?_
          refine WOps.p (G.move rfl) rfl ?_
          refine WOps.p (G.sub rfl rfl (r := (w64 ((-5) - x119))) rfl) rfl ?_
          refine WOps.p (G.build (cells := #[.int .i64 (w64 ((-5) - x119)), .string (bs ([] : List UInt8)), .int .i64 0, .int .i64 0]) (evp_spec (evp_cons rfl evp_nil)) (by kernel_rfl)) rfl ?_
          obtain ⟨b189, w190, E191, S192, X193, L194⟩ := St.lit S188 (P := Tryd.prog) (t := 25) (e := 37) (n := 1) (vs := [(0, .agg #[.int .i64 (w64 ((-5) - x119)), .string (bs ([] : List UInt8)), .int .i64 0, .int .i64 0])]) (cs := #[.int .i64 (w64 ((-5) - x119)), .string (bs ([] : List UInt8)), .int .i64 0, .int .i64 0]) (by kernel_rfl)
          change St _ _ _ [[(b189, .cells #[.int .i64 (w64 ((-5) - x119)), .string (bs ([] : List UInt8)), .int .i64 0, .int .i64 0] 37 (0, 0))], G184, [(b173, .cells #[.slice A160 l162.length c161] 25 (0, 0))], G152, M158] at S192
          refine WOps.e (E191 (evp_cons rfl evp_nil)) rfl ?_
          obtain ⟨l195, hc196, hF⟩ := bind_some hF
          have S197 := S192.front 4 rfl
          change St _ _ _ [M158, [(b189, .cells #[.int .i64 (w64 ((-5) - x119)), .string (bs ([] : List UInt8)), .int .i64 0, .int .i64 0] 37 (0, 0))], G184, [(b173, .cells #[.slice A160 l162.length c161] 25 (0, 0))], G152] at S197
          obtain ⟨A198, c199, M200, w201, E202, hP203, S204⟩ := PoolP.grow (P := Tryd.prog) (Y := ([(⟨w64 ((-5) - x119), ([] : List UInt8), 0, 0⟩ : Token)] : List Token)) S197 T.elt25 rfl hP187 (Rd.of_blk (S197.blk 1 rfl) (n := 1) (sz := 4) rfl) ⟨_, _, [], [], rfl, rfl, ⟨rfl, rfl⟩, ⟨rfl, rfl⟩⟩ rfl hc196
          change St _ _ _ [M200, [(b189, .cells #[.int .i64 (w64 ((-5) - x119)), .string (bs ([] : List UInt8)), .int .i64 0, .int .i64 0] 37 (0, 0))], G184, [(b173, .cells #[.slice A160 l162.length c161] 25 (0, 0))], G152] at S204
          refine WOps.e (E202 rfl rfl) rfl ?_
          refine WOps.p (G.assign rfl) rfl ?_
          refine WOps.nil ?_
          refine WEx.in_normal ?_
          refine WEx.then_ ?_
          refine WCode.forget (l' := [(0, .slice A1 l3.length c2), (5, .slice A182 l179.length c183), (6, .int .i64 x119), (7, .slice A198 l195.length c199), (8, .int .i64 x163)]) ⟨rfl, rfl, rfl, rfl, rfl, trivial⟩ ?_
          refine WCode.region ?_
          refine WOps.p (G.move rfl) rfl ?_
          refine WOps.p (G.add rfl rfl (r := (w64 (x163 + 1))) rfl) rfl ?_
          refine WOps.p (G.assign rfl) rfl ?_
          refine WOps.nil ?_
          have S205 := S204.front 2 rfl
          change St _ _ _ [G184, M200, [(b189, .cells #[.int .i64 (w64 ((-5) - x119)), .string (bs ([] : List UInt8)), .int .i64 0, .int .i64 0] 37 (0, 0))], [(b173, .cells #[.slice A160 l162.length c161] 25 (0, 0))], G152] at S205
          have S206 := S205.front 4 rfl
          change St _ _ _ [G152, G184, M200, [(b189, .cells #[.int .i64 (w64 ((-5) - x119)), .string (bs ([] : List UInt8)), .int .i64 0, .int .i64 0] 37 (0, 0))], [(b173, .cells #[.slice A160 l162.length c161] 25 (0, 0))]] at S206
          have S207 := St.keep (As := [G152, G184, M200]) S206
          refine WEx.again _ _ (by omega) ?_ ⟨G152, A182, c183, l179, G184, M200, A198, c199, l195, w64 (x163 + 1), rfl, hF, (by omega), hD153, hP203, S207⟩
          exact ⟨rfl, rfl, rfl, rfl, rfl, trivial⟩
        ·
          refine WCode.cond_f (kb (b := decide (x163 < 20)) rfl (decide_eq_false h172)) ?_
          refine WCode.exit ?_
          refine WEx.then_exit ?_
          refine WEx.then_exit ?_
          refine WEx.in_exit ?_
          refine WEx.in_normal ?_
          refine WEx.then_ ?_
          refine WCode.region ?_
          refine WOps.p (G.move rfl) rfl ?_
          refine WOps.p (G.add rfl rfl (r := (w64 (x119 + 1))) rfl) rfl ?_
          refine WOps.p (G.assign rfl) rfl ?_
          refine WOps.nil ?_
          have S208 := S165.front 2 rfl
          change St _ _ _ [M158, G152, G157] at S208
          have S209 := S208.front 2 rfl
          change St _ _ _ [G157, M158, G152] at S209
          have S210 := S209.front 2 rfl
          change St _ _ _ [G152, G157, M158] at S210
          refine WEx.again _ _ (by omega) ?_ ⟨G152, A154, c155, l156, G157, M158, w64 (x119 + 1), rfl, hF, (hD153.cast (toNat_succ hD153 hc130)), (hP159.untip), S210⟩
          exact ⟨rfl, rfl, rfl, trivial⟩
      ·
        refine WCode.cond_f (kb (b := decide (x119 < (l3.length : Int))) rfl (decide_eq_false h128)) ?_
        refine WCode.exit ?_
        refine WEx.then_exit ?_
        refine WEx.then_exit ?_
        refine WEx.in_exit ?_
        have S211 := S121.front 2 rfl
        change St _ _ _ [M117, G111, G116] at S211
        have S212 := S211.front 2 rfl
        change St _ _ _ [G116, M117, G111] at S212
        have S213 := St.keep (As := [G116, M117]) S212
        refine WEx.cutend _ ?_ ⟨k122, A113, c114, l115, G116, M117, rfl, hF, (hP118.untip), S213⟩
        exact ⟨rfl, trivial⟩
    ·
      rintro _ w102 ⟨q104, A96, c97, l98, G99, M100, rfl, hF, hP101, S103⟩
      unfold lw_owned.j2 at hF
      refine WCode.seq ?_
      refine WCode.seq ?_
      refine WCode.region ?_
      refine WOps.p (G.assign rfl) rfl ?_
      refine WOps.nil ?_
      refine WEx.then_ ?_
      refine WCode.block ?_
      have S219 := S103.front 1 rfl
      change St _ _ _ [M100, G99] at S219
      have S220 := S219.front 1 rfl
      change St _ _ _ [G99, M100] at S220
      refine WCode.forget (l' := [(5, .slice A96 l98.length c97), (9, .int .i64 0)]) ⟨rfl, rfl, trivial⟩ ?_
      refine WCode.loop (fun n_ l_ w_ => ∃ x214 : Int, l_ = [(5, .slice A96 l98.length c97), (9, .int .i64 x214)] ∧ lw_owned.l5 n_ l98 x214 = some r_ ∧ St w (KS [G0]) w_ [G99, M100]) q104 ⟨0, rfl, hF, S220⟩ ?_
      rintro n218 _ w215 ⟨x214, rfl, hF, S216⟩
      obtain _ | k217 := n218
      · exact nomatch (show (none : Option Bool) = some r_ from hF)
      rw [lw_owned.l5] at hF
      refine WCode.seq ?_
      refine WCode.seq ?_
      refine WCode.region ?_
      refine WOps.p (G.move rfl) rfl ?_
      refine WOps.p (G.move rfl) rfl ?_
      refine WOps.p (G.len T.el24 rfl) rfl ?_
      refine WOps.p (G.lss rfl rfl rfl) rfl ?_
      refine WOps.nil ?_
      refine WEx.then_ ?_
      rcases ite_some hF with ⟨h222, hF⟩ | ⟨h222, hF⟩
      ·
        refine WCode.cond_t (kb (b := decide (x214 < (l98.length : Int))) rfl (decide_eq_true h222)) ?_
        refine WCode.skip ?_
        refine WEx.then_ ?_
        refine WCode.seq ?_
        refine WCode.block ?_
        refine WCode.seq ?_
        refine WCode.region ?_
        refine WOps.p (G.assign rfl) rfl ?_
        refine WOps.nil ?_
        refine WEx.then_ ?_
        refine WCode.block ?_
        have S228 := S216.front 1 rfl
        change St _ _ _ [M100, G99] at S228
        have S229 := S228.front 1 rfl
        change St _ _ _ [G99, M100] at S229
        refine WCode.forget (l' := [(5, .slice A96 l98.length c97), (9, .int .i64 x214), (10, .int .i64 0)]) ⟨rfl, rfl, rfl, trivial⟩ ?_
        refine WCode.loop (fun n_ l_ w_ => ∃ x223 : Int, l_ = [(5, .slice A96 l98.length c97), (9, .int .i64 x214), (10, .int .i64 x223)] ∧ lw_owned.l6 n_ l98 x214 x223 = some r_ ∧ n_ ≤ k217 ∧ St w (KS [G0]) w_ [G99, M100]) k217 ⟨0, rfl, hF, Nat.le_refl _, S229⟩ ?_
        rintro n227 _ w224 ⟨x223, rfl, hF, hle230, S225⟩
        obtain _ | k226 := n227
        · exact nomatch (show (none : Option Bool) = some r_ from hF)
        rw [lw_owned.l6] at hF
        refine WCode.seq ?_
        refine WCode.seq ?_
        refine WCode.region ?_
        refine WOps.p (G.move rfl) rfl ?_
        refine WOps.p (G.move rfl) rfl ?_
        refine WOps.p (G.move rfl) rfl ?_
        obtain ⟨x231, hc232, hF⟩ := bind_some hF
        obtain ⟨j233, ej234, hj235, hl236⟩ := idx_spec hc232
        obtain ⟨A244, c245, hG246, hcl247⟩ := PoolP.at_ hP101 hj235
        obtain ⟨b237, o238, eA240, hc242⟩ := hcl247 _ (fun b o hb => S225.grp 0 rfl hb)
        refine WOps.p (G.idx T.el24 rfl eA240 rfl ej234 hl236) rfl ?_
        refine WOps.r (G.load1 T.one25 rfl (cellsAt.at0 hc242)) rfl ?_
        refine WOps.p (G.len T.el25 rfl) rfl ?_
        refine WOps.p (G.lss rfl rfl rfl) rfl ?_
        refine WOps.nil ?_
        refine WEx.then_ ?_
        rcases ite_some hF with ⟨h248, hF⟩ | ⟨h248, hF⟩
        ·
          refine WCode.cond_t (kb (b := decide (x223 < (x231.length : Int))) rfl (decide_eq_true h248)) ?_
          refine WCode.skip ?_
          refine WEx.then_ ?_
          refine WCode.seq ?_
          refine WCode.block ?_
          refine WCode.seq ?_
          refine WCode.region ?_
          refine WOps.p (G.move rfl) rfl ?_
          refine WOps.p (G.move rfl) rfl ?_
          obtain ⟨x249, hc250, hF⟩ := bind_some hF
          obtain ⟨j251, ej252, hj253, hl254⟩ := idx_spec hc250
          obtain ⟨A262, c263, hG264, hcl265⟩ := PoolP.at_ hP101 hj253
          obtain ⟨b255, o256, eA258, hc260⟩ := hcl265 _ (fun b o hb => S225.grp 0 rfl hb)
          refine WOps.p (G.idx T.el24 rfl eA258 rfl ej252 hl254) rfl ?_
          refine WOps.r (G.load1 T.one25 rfl (cellsAt.at0 hc260)) rfl ?_
          refine WOps.p (G.move rfl) rfl ?_
          obtain ⟨x266, hc267, hF⟩ := bind_some hF
          obtain ⟨j268, ej269, hj270, hl271⟩ := idx_spec hc267
          obtain ⟨b272, o273, cs274, eA275, hf276, hc277, hr278⟩ := SlR.at_ (hG264 _ (fun b o hb => S225.grp 1 rfl hb)) hj270
          have hq279 : cs274 = [.int .i64 x266.Kind, .string (bs x266.Text), .int .i64 x266.Number, .int .i64 x266.At] := hr278
          subst hq279
          change cellsAt _ _ (o273 + j268 * 4) [.int .i64 x266.Kind, .string (bs x266.Text), .int .i64 x266.Number, .int .i64 x266.At] at hc277
          refine WOps.p (G.idx T.el25 rfl eA275 rfl ej269 hl271) rfl ?_
          refine WOps.p (G.field T.fld37_0 rfl (show o273 + j268 * 4 + 0 = o273 + j268 * 4 + 0 from rfl)) rfl ?_
          refine WOps.r (G.load1 T.one3 rfl (cellsAt.at0 hc277)) rfl ?_
          refine WOps.p (G.move rfl) rfl ?_
          refine WOps.p (G.quok rfl rfl (by decide)) rfl ?_
          refine WOps.p (G.sub rfl rfl (r := (w64 ((-5) - (w64 (Int.tdiv x214 20))))) rfl) rfl ?_
          refine WOps.p (G.neq rfl rfl rfl) rfl ?_
          refine WOps.nil ?_
          refine WEx.then_ ?_
          refine WCode.forget (l' := [(5, .slice A96 l98.length c97), (9, .int .i64 x214), (10, .int .i64 x223), (85, .bool (!(decide (x266.Kind = (w64 ((-5) - (w64 (Int.tdiv x214 20))))))))]) ⟨rfl, rfl, rfl, rfl, trivial⟩ ?_
          rcases ite_some hF with ⟨h280, hF⟩ | ⟨h280, hF⟩
          ·
            refine WCode.cond_f (kb (b := !(decide (x266.Kind = (w64 ((-5) - (w64 (Int.tdiv x214 20))))))) rfl (show (!(decide (x266.Kind = (w64 ((-5) - (w64 (Int.tdiv x214 20))))))) = false from by rw [(decide_eq_true h280)]; rfl)) ?_
            refine WCode.skip ?_
            refine WEx.in_normal ?_
            refine WEx.then_ ?_
            refine WCode.region ?_
            refine WOps.p (G.move rfl) rfl ?_
            refine WOps.p (G.add rfl rfl (r := (w64 (x223 + 1))) rfl) rfl ?_
            refine WOps.p (G.assign rfl) rfl ?_
            refine WOps.nil ?_
            have S281 := S225.front 1 rfl
            change St _ _ _ [M100, G99] at S281
            have S282 := S281.front 1 rfl
            change St _ _ _ [G99, M100] at S282
            refine WEx.again _ _ (by omega) ?_ ⟨w64 (x223 + 1), rfl, hF, (by omega), S282⟩
            exact ⟨rfl, rfl, rfl, trivial⟩
          ·
            refine WCode.cond_t (kb (b := !(decide (x266.Kind = (w64 ((-5) - (w64 (Int.tdiv x214 20))))))) rfl (show (!(decide (x266.Kind = (w64 ((-5) - (w64 (Int.tdiv x214 20))))))) = true from by rw [(decide_eq_false h280)]; rfl)) ?_
            refine WCode.seq ?_
            refine WCode.region ?_
            refine WOps.p (G.assign rfl) rfl ?_
            refine WOps.nil ?_
            refine WEx.then_ ?_
            refine WCode.ret ?_
            refine WEx.in_ret ?_
            refine WEx.then_ret ?_
            refine WEx.then_ret ?_
            refine WEx.in_ret ?_
            refine WEx.in_ret ?_
            refine WEx.then_ret ?_
            refine WEx.then_ret ?_
            refine WEx.in_ret ?_
            refine WEx.then_ret ?_
            obtain rfl := some_eq hF
            refine WEx.ret1 rfl rfl ?_
            exact ⟨rfl, St.keep (As := []) S225⟩
        ·
          refine WCode.cond_f (kb (b := decide (x223 < (x231.length : Int))) rfl (decide_eq_false h248)) ?_
          refine WCode.exit ?_
          refine WEx.then_exit ?_
          refine WEx.then_exit ?_
          refine WEx.in_exit ?_
          refine WEx.in_normal ?_
          refine WEx.then_ ?_
          refine WCode.region ?_
          refine WOps.p (G.move rfl) rfl ?_
          refine WOps.p (G.add rfl rfl (r := (w64 (x214 + 1))) rfl) rfl ?_
          refine WOps.p (G.assign rfl) rfl ?_
          refine WOps.nil ?_
          have S283 := S225.front 1 rfl
          change St _ _ _ [M100, G99] at S283
          have S284 := S283.front 1 rfl
          change St _ _ _ [G99, M100] at S284
          refine WEx.again _ _ (by omega) ?_ ⟨w64 (x214 + 1), rfl, hF, S284⟩
          exact ⟨rfl, rfl, trivial⟩
      ·
        refine WCode.cond_f (kb (b := decide (x214 < (l98.length : Int))) rfl (decide_eq_false h222)) ?_
        refine WCode.exit ?_
        refine WEx.then_exit ?_
        refine WEx.then_exit ?_
        refine WEx.in_exit ?_
        refine WEx.then_ ?_
        refine WCode.seq ?_
        refine WCode.region ?_
        refine WOps.p (G.assign rfl) rfl ?_
        refine WOps.nil ?_
        refine WEx.then_ ?_
        refine WCode.ret ?_
        obtain rfl := some_eq hF
        refine WEx.ret1 rfl rfl ?_
        exact ⟨rfl, St.keep (As := []) S216⟩

def law_Scans.l2 : Nat → Bool → List (List UInt8) → List (List Token) → Int → Option Bool
  | 0, _, _, _, _ => none
  | k121 + 1, t1, l14, l19, x118 => (if x118 < (l14.length : Int) then (Option.bind (idx l14 x118) fun x127 => (Option.bind (rf_Scan k121 x127) fun t141 => (Option.bind (idx l19 x118) fun x150 => (Option.bind (lw_same k121 x150 (t141.1)) fun t168 => (if t168 = true then (law_Scans.l2 k121 t1 l14 l19 (w64 (x118 + 1))) else (some false)))))) else (if t1 = true then (Option.bind (lw_owned k121 l19) fun t178 => (some t178)) else (some false)))
def law_Scans.j1 (q24 : Nat) (t1 : Bool) (l14 : List (List UInt8)) (l19 : List (List Token)) : Option Bool := (law_Scans.l2 q24 t1 l14 l19 0)
def law_Scans.l1 : Nat → List UInt8 → List UInt8 → Bool → List (List Token) → Int → Option Bool
  | 0, _, _, _, _, _ => none
  | k35 + 1, a0, a1, t1, l29, x32 => (if x32 < (([a0, a0, a1, a0] : List (List UInt8)).length : Int) then (Option.bind (idx ([a0, a0, a1, a0] : List (List UInt8)) x32) fun x42 => (Option.bind (rf_Scan k35 x42) fun t56 => (Option.bind (idx ([a0, a0, a1, a0] : List (List UInt8)) x32) fun x65 => (Option.bind (lx_Scan k35 x65) fun t79 => (Option.bind (lw_same k35 (t79.1) (t56.1)) fun t88 => (if t88 = true then (if t79.2.1 = t56.2.1 then (if t79.2.2 = t56.2.2 then (Option.bind (cat l29 ([(t79.1)] : List (List Token))) fun l102 => (law_Scans.l1 k35 a0 a1 t1 l102 (w64 (x32 + 1)))) else (some false)) else (some false)) else (some false))))))) else (law_Scans.j1 k35 t1 ([a0, a0, a1, a0] : List (List UInt8)) l29))
def law_Scans (k : Nat) (a0 : List UInt8) (a1 : List UInt8) : Option Bool := (Option.bind (lw_known k) fun t1 => (law_Scans.l1 k a0 a1 t1 [] 0))
set_option maxRecDepth 100000 in
set_option maxHeartbeats 1000000 in
theorem law_Scans_calls (k : Nat) (a0 : List UInt8) (a1 : List UInt8) {FG : Nat → Prop} {w : World} (hGl : Glob FG w) (hFG : ∀ b, FG b → NK w [] b) {r_ : Bool} (h_ : law_Scans k a0 a1 = some r_) :
    Calls Tryd.prog 3 [.string (bs a0), .string (bs a1)].toArray w fun e w' => e = .returned (.bool r_) ∧ St w (KS []) w' [] := by
  have hF := h_
  clear h_
  unfold law_Scans at hF
  have S := St.ofFalse (As := []) (St.init0 w)
  refine enter 98 [(0, .string (bs a0)), (1, .string (bs a1))] Tryd.func3 rfl rfl rfl rfl ?_
  refine WCode.seq ?_
  refine WCode.region ?_
  refine WOps.p (G.assign rfl) rfl ?_
  refine WOps.nil ?_
  refine WEx.then_ ?_
  refine WCode.seq ?_
  refine WCode.region ?_
  obtain ⟨t1, hc2, hF⟩ := bind_some hF
  refine WOps.call T.call7 evs_nil rfl ?_
  refine (lw_known_calls k (hGl.ext (S.keepF hFG)) (St.outF (Bs := []) S hFG) hc2).mono ?_
  rintro _ w3 ⟨rfl, T4⟩
  have S5 := St.callN (As := []) S T4
  change St _ _ _ [] at S5
  refine ⟨_, rfl, ?_⟩
  refine WOps.p (G.assign rfl) rfl ?_
  refine WOps.nil ?_
  refine WEx.then_ ?_
  refine WCode.seq ?_
  refine WCode.region ?_
  refine WOps.p (G.move rfl) rfl ?_
  refine WOps.p (G.move rfl) rfl ?_
  refine WOps.p (G.move rfl) rfl ?_
  refine WOps.p (G.move rfl) rfl ?_
  obtain ⟨b6, w7, E8, S9, X10, L11⟩ := St.lit S5 (P := Tryd.prog) (t := 23) (e := 9) (n := 4) (vs := [(0, .string (bs a0)), (1, .string (bs a0)), (2, .string (bs a1)), (3, .string (bs a0))]) (cs := #[.string (bs a0), .string (bs a0), .string (bs a1), .string (bs a0)]) (by kernel_rfl)
  change St _ _ _ [[(b6, .cells #[.string (bs a0), .string (bs a0), .string (bs a1), .string (bs a0)] 9 (0, 0))]] at S9
  refine WOps.e (E8 (evp_cons rfl (evp_cons rfl (evp_cons rfl (evp_cons rfl evp_nil))))) rfl ?_
  refine WOps.p (G.assign rfl) rfl ?_
  refine WOps.nil ?_
  refine WEx.then_ ?_
  refine WCode.seq ?_
  refine WCode.region ?_
  refine WOps.p (G.assign rfl) rfl ?_
  refine WOps.nil ?_
  refine WEx.then_ ?_
  refine WCode.cutseq (fun l_ w_ => ∃ q24 : Nat, ∃ A12 : Option Addr, ∃ c13 : Nat, ∃ l14 : List (List UInt8), ∃ G15 : Grp, ∃ A17 : Option Addr, ∃ c18 : Nat, ∃ l19 : List (List Token), ∃ G20 : Grp, l_ = [(5, .bool t1), (6, .slice A12 l14.length c13), (7, .slice A17 l19.length c18)] ∧ law_Scans.j1 q24 t1 l14 l19 = some r_ ∧ (SlO 9 Rp.str (.slice A12 l14.length c13) l14 G15) ∧ (SlO 25 (Rp.slice 37 Token.rp) (.slice A17 l19.length c18) l19 G20) ∧ St w (KS []) w_ [G15, G20]) ?_ ?_
  ·
    refine WCode.seq ?_
    refine WCode.region ?_
    refine WOps.p (G.assign rfl) rfl ?_
    refine WOps.nil ?_
    refine WEx.then_ ?_
    refine WCode.block ?_
    have hO26 : SlO 9 Rp.str (.slice (some ⟨b6, 0, none⟩) ([a0, a0, a1, a0] : List (List UInt8)).length 4) ([a0, a0, a1, a0] : List (List UInt8)) ([(b6, .cells #[.string (bs a0), .string (bs a0), .string (bs a1), .string (bs a0)] 9 (0, 0))] ++ []) := SlO.lit (GM := []) ⟨_, _, [], [], rfl, rfl, ⟨rfl, rfl⟩, ⟨_, _, [], [], rfl, rfl, ⟨rfl, rfl⟩, ⟨_, _, [], [], rfl, rfl, ⟨rfl, rfl⟩, ⟨_, _, [], [], rfl, rfl, ⟨rfl, rfl⟩, ⟨rfl, rfl⟩⟩⟩⟩⟩ rfl (Nat.le_of_ble_eq_true rfl) (Nat.le_of_ble_eq_true rfl)
    rw [List.append_nil] at hO26
    have S37 := S9.emp
    have S39 := S37.front 1 rfl
    change St _ _ _ [[(b6, .cells #[.string (bs a0), .string (bs a0), .string (bs a1), .string (bs a0)] 9 (0, 0))], ([] : Grp)] at S39
    refine WCode.forget (l' := [(5, .bool t1), (6, .slice (some ⟨b6, 0, none⟩) ([a0, a0, a1, a0] : List (List UInt8)).length 4), (7, .slice none 0 0), (8, .int .i64 0)]) ⟨rfl, rfl, rfl, rfl, trivial⟩ ?_
    refine WCode.loop (fun n_ l_ w_ => ∃ A27 : Option Addr, ∃ c28 : Nat, ∃ l29 : List (List Token), ∃ G30 : Grp, ∃ x32 : Int, l_ = [(5, .bool t1), (6, .slice (some ⟨b6, 0, none⟩) ([a0, a0, a1, a0] : List (List UInt8)).length 4), (7, .slice A27 l29.length c28), (8, .int .i64 x32)] ∧ law_Scans.l1 n_ a0 a1 t1 l29 x32 = some r_ ∧ (SlO 25 (Rp.slice 37 Token.rp) (.slice A27 l29.length c28) l29 G30) ∧ St w (KS []) w_ [[(b6, .cells #[.string (bs a0), .string (bs a0), .string (bs a1), .string (bs a0)] 9 (0, 0))], G30]) k ⟨none, 0, [], ([] : Grp), 0, rfl, hF, (SlO.nil 25 (Rp.slice 37 Token.rp)), S39⟩ ?_
    rintro n36 _ w33 ⟨A27, c28, l29, G30, x32, rfl, hF, hO31, S34⟩
    obtain _ | k35 := n36
    · exact nomatch (show (none : Option Bool) = some r_ from hF)
    rw [law_Scans.l1] at hF
    refine WCode.seq ?_
    refine WCode.seq ?_
    refine WCode.region ?_
    refine WOps.p (G.move rfl) rfl ?_
    refine WOps.p (G.move rfl) rfl ?_
    refine WOps.p (G.len T.el23 rfl) rfl ?_
    refine WOps.p (G.lss rfl rfl rfl) rfl ?_
    refine WOps.nil ?_
    refine WEx.then_ ?_
    rcases ite_some hF with ⟨h41, hF⟩ | ⟨h41, hF⟩
    ·
      refine WCode.cond_t (kb (b := decide (x32 < (([a0, a0, a1, a0] : List (List UInt8)).length : Int))) rfl (decide_eq_true h41)) ?_
      refine WCode.skip ?_
      refine WEx.then_ ?_
      refine WCode.seq ?_
      refine WCode.block ?_
      refine WCode.seq ?_
      refine WCode.region ?_
      refine WOps.p (G.move rfl) rfl ?_
      refine WOps.p (G.move rfl) rfl ?_
      obtain ⟨x42, hc43, hF⟩ := bind_some hF
      obtain ⟨j44, ej45, hj46, hl47⟩ := idx_spec hc43
      obtain ⟨b48, o49, cs50, eA51, hf52, hc53, hr54⟩ := SlR.at_ (hO26.rd (fun b o hb => S34.grp 0 rfl hb)) hj46
      have hq55 : cs50 = [.string (bs x42)] := hr54
      subst hq55
      change cellsAt _ _ (o49 + j44 * 1) [.string (bs x42)] at hc53
      refine WOps.p (G.idx T.el23 rfl eA51 rfl ej45 hl47) rfl ?_
      refine WOps.r (G.load1 T.one9 rfl (cellsAt.at0 hc53)) rfl ?_
      obtain ⟨t56, hc57, hF⟩ := bind_some hF
      refine WOps.call T.call8 (evs_cons rfl evs_nil) rfl ?_
      refine (rf_Scan_calls k35 x42 hc57).mono ?_
      rintro _ w58 ⟨A61, c62, G63, rfl, hO64, T59⟩
      have S60 := St.callN (As := []) S34 T59
      change St _ _ _ [G63, [(b6, .cells #[.string (bs a0), .string (bs a0), .string (bs a1), .string (bs a0)] 9 (0, 0))], G30] at S60
      refine ⟨_, rfl, ?_⟩
      refine WOps.p (G.move rfl) rfl ?_
      refine WOps.p (G.extract rfl rfl) rfl ?_
      refine WOps.p (G.extract rfl rfl) rfl ?_
      refine WOps.p (G.extract rfl rfl) rfl ?_
      refine WOps.p (G.assign rfl) rfl ?_
      refine WOps.p (G.assign rfl) rfl ?_
      refine WOps.p (G.assign rfl) rfl ?_
      refine WOps.nil ?_
      refine WEx.then_ ?_
      refine WCode.forget (l' := [(5, .bool t1), (6, .slice (some ⟨b6, 0, none⟩) ([a0, a0, a1, a0] : List (List UInt8)).length 4), (7, .slice A27 l29.length c28), (8, .int .i64 x32), (9, .slice A61 (t56.1).length c62), (10, .int .i64 t56.2.1), (11, .int .i64 t56.2.2)]) ⟨rfl, rfl, rfl, rfl, rfl, rfl, rfl, trivial⟩ ?_
      refine WCode.seq ?_
      refine WCode.region ?_
      refine WOps.p (G.move rfl) rfl ?_
      refine WOps.p (G.move rfl) rfl ?_
      obtain ⟨x65, hc66, hF⟩ := bind_some hF
      obtain ⟨j67, ej68, hj69, hl70⟩ := idx_spec hc66
      obtain ⟨b71, o72, cs73, eA74, hf75, hc76, hr77⟩ := SlR.at_ (hO26.rd (fun b o hb => S60.grp 1 rfl hb)) hj69
      have hq78 : cs73 = [.string (bs x65)] := hr77
      subst hq78
      change cellsAt _ _ (o72 + j67 * 1) [.string (bs x65)] at hc76
      refine WOps.p (G.idx T.el23 rfl eA74 rfl ej68 hl70) rfl ?_
      refine WOps.r (G.load1 T.one9 rfl (cellsAt.at0 hc76)) rfl ?_
      obtain ⟨t79, hc80, hF⟩ := bind_some hF
      refine WOps.call T.call9 (evs_cons rfl evs_nil) rfl ?_
      refine (lx_Scan_calls k35 x65 (hGl.ext (S60.keepF hFG)) (St.outF (Bs := []) S60 hFG) hc80).mono ?_
      rintro _ w81 ⟨A84, c85, G86, rfl, hO87, T82⟩
      have S83 := St.callN (As := []) S60 T82
      change St _ _ _ [G86, G63, [(b6, .cells #[.string (bs a0), .string (bs a0), .string (bs a1), .string (bs a0)] 9 (0, 0))], G30] at S83
      refine ⟨_, rfl, ?_⟩
      refine WOps.p (G.move rfl) rfl ?_
      refine WOps.p (G.extract rfl rfl) rfl ?_
      refine WOps.p (G.extract rfl rfl) rfl ?_
      refine WOps.p (G.extract rfl rfl) rfl ?_
      refine WOps.p (G.assign rfl) rfl ?_
      refine WOps.p (G.assign rfl) rfl ?_
      refine WOps.p (G.assign rfl) rfl ?_
      refine WOps.nil ?_
      refine WEx.then_ ?_
      refine WCode.seq ?_
      refine WCode.region ?_
      refine WOps.p (G.move rfl) rfl ?_
      refine WOps.p (G.move rfl) rfl ?_
      obtain ⟨t88, hc89, hF⟩ := bind_some hF
      refine WOps.call T.call10 (evs_cons rfl (evs_cons rfl evs_nil)) rfl ?_
      refine (lw_same_calls k35 (t79.1) (t56.1) (hO87.rd (fun b o hb => S83.grp 0 rfl hb)) (St.outG (Bs := []) S83 0 rfl) (hO64.rd (fun b o hb => S83.grp 1 rfl hb)) (St.outG (Bs := []) S83 1 rfl) hc89).mono ?_
      rintro _ w90 ⟨rfl, T91⟩
      have S92 := St.callN (As := []) S83 T91
      change St _ _ _ [G86, G63, [(b6, .cells #[.string (bs a0), .string (bs a0), .string (bs a1), .string (bs a0)] 9 (0, 0))], G30] at S92
      refine ⟨_, rfl, ?_⟩
      refine WOps.p (G.assign rfl) rfl ?_
      refine WOps.nil ?_
      refine WEx.then_ ?_
      refine WCode.forget (l' := [(5, .bool t1), (6, .slice (some ⟨b6, 0, none⟩) ([a0, a0, a1, a0] : List (List UInt8)).length 4), (7, .slice A27 l29.length c28), (8, .int .i64 x32), (10, .int .i64 t56.2.1), (11, .int .i64 t56.2.2), (12, .slice A84 (t79.1).length c85), (13, .int .i64 t79.2.1), (14, .int .i64 t79.2.2), (15, .bool t88)]) ⟨rfl, rfl, rfl, rfl, rfl, rfl, rfl, rfl, rfl, rfl, trivial⟩ ?_
      refine WCode.seq ?_
      refine WCode.seq ?_
      refine WCode.region ?_
      refine WOps.p (G.move rfl) rfl ?_
      refine WOps.p (G.not rfl rfl) rfl ?_
      refine WOps.p (G.move rfl) rfl ?_
      rcases ite_some hF with ⟨h93, hF⟩ | ⟨h93, hF⟩
      ·
        refine WOps.on rfl (kbl (b := !t88) rfl (show (!t88) = false from by rw [h93]; rfl)) ?_
        refine WOps.p (G.move rfl) rfl ?_
        refine WOps.on rfl (kbl (b := !t88) rfl (show (!t88) = false from by rw [h93]; rfl)) ?_
        refine WOps.p (G.move rfl) rfl ?_
        refine WOps.on rfl (kbl (b := !t88) rfl (show (!t88) = false from by rw [h93]; rfl)) ?_
        refine WOps.p (G.neq rfl rfl rfl) rfl ?_
        refine WOps.p (G.pick_f (kb (b := !t88) rfl (show (!t88) = false from by rw [h93]; rfl)) rfl) rfl ?_
        refine WOps.p (G.move rfl) rfl ?_
        rcases ite_some hF with ⟨h94, hF⟩ | ⟨h94, hF⟩
        ·
          refine WOps.on rfl (kbl (b := !(decide (t79.2.1 = t56.2.1))) rfl (show (!(decide (t79.2.1 = t56.2.1))) = false from by rw [(decide_eq_true h94)]; rfl)) ?_
          refine WOps.p (G.move rfl) rfl ?_
          refine WOps.on rfl (kbl (b := !(decide (t79.2.1 = t56.2.1))) rfl (show (!(decide (t79.2.1 = t56.2.1))) = false from by rw [(decide_eq_true h94)]; rfl)) ?_
          refine WOps.p (G.move rfl) rfl ?_
          refine WOps.on rfl (kbl (b := !(decide (t79.2.1 = t56.2.1))) rfl (show (!(decide (t79.2.1 = t56.2.1))) = false from by rw [(decide_eq_true h94)]; rfl)) ?_
          refine WOps.p (G.neq rfl rfl rfl) rfl ?_
          refine WOps.p (G.pick_f (kb (b := !(decide (t79.2.1 = t56.2.1))) rfl (show (!(decide (t79.2.1 = t56.2.1))) = false from by rw [(decide_eq_true h94)]; rfl)) rfl) rfl ?_
          refine WOps.nil ?_
          refine WEx.then_ ?_
          refine WCode.forget (l' := [(5, .bool t1), (6, .slice (some ⟨b6, 0, none⟩) ([a0, a0, a1, a0] : List (List UInt8)).length 4), (7, .slice A27 l29.length c28), (8, .int .i64 x32), (12, .slice A84 (t79.1).length c85), (57, .int .i64 t79.2.1), (58, .int .i64 t56.2.1), (59, .bool (!(decide (t79.2.1 = t56.2.1)))), (62, .int .i64 t79.2.2), (63, .int .i64 t56.2.2), (64, .bool (!(decide (t79.2.2 = t56.2.2)))), (65, .bool (!(decide (t79.2.2 = t56.2.2))))]) ⟨rfl, rfl, rfl, rfl, rfl, rfl, rfl, rfl, rfl, rfl, rfl, rfl, trivial⟩ ?_
          rcases ite_some hF with ⟨h95, hF⟩ | ⟨h95, hF⟩
          ·
            refine WCode.cond_f (kb (b := !(decide (t79.2.2 = t56.2.2))) rfl (show (!(decide (t79.2.2 = t56.2.2))) = false from by rw [(decide_eq_true h95)]; rfl)) ?_
            refine WCode.skip ?_
            refine WEx.then_ ?_
            refine WCode.region ?_
            refine WOps.p (G.move rfl) rfl ?_
            refine WOps.p (G.move rfl) rfl ?_
            obtain ⟨b96, w97, E98, S99, X100, L101⟩ := St.lit S92 (P := Tryd.prog) (t := 24) (e := 25) (n := 1) (vs := [(0, .slice A84 (t79.1).length c85)]) (cs := #[.slice A84 (t79.1).length c85]) (by kernel_rfl)
            change St _ _ _ [[(b96, .cells #[.slice A84 (t79.1).length c85] 25 (0, 0))], G86, G63, [(b6, .cells #[.string (bs a0), .string (bs a0), .string (bs a1), .string (bs a0)] 9 (0, 0))], G30] at S99
            refine WOps.e (E98 (evp_cons rfl evp_nil)) rfl ?_
            obtain ⟨l102, hc103, hF⟩ := bind_some hF
            have S104 := S99.front 1 rfl
            change St _ _ _ [G86, [(b96, .cells #[.slice A84 (t79.1).length c85] 25 (0, 0))], G63, [(b6, .cells #[.string (bs a0), .string (bs a0), .string (bs a1), .string (bs a0)] 9 (0, 0))], G30] at S104
            have S105 := S104.front 4 rfl
            change St _ _ _ [G30, G86, [(b96, .cells #[.slice A84 (t79.1).length c85] 25 (0, 0))], G63, [(b6, .cells #[.string (bs a0), .string (bs a0), .string (bs a1), .string (bs a0)] 9 (0, 0))]] at S105
            obtain ⟨A106, c107, G108, w109, E110, hO111, S112, hk113⟩ := St.app (P := Tryd.prog) (r := (Rp.slice 37 Token.rp)) (M := ([(t79.1)] : List (List Token))) S105 T.elt24 rfl hO31 (Rd.of_blk (S105.blk 2 rfl) (n := 1) (sz := 1) rfl) (elemsO.single (r := (Rp.slice 37 Token.rp)) ⟨_, rfl, hO87⟩) rfl hc103
            change St _ _ _ [G108, [(b96, .cells #[.slice A84 (t79.1).length c85] 25 (0, 0))], G63, [(b6, .cells #[.string (bs a0), .string (bs a0), .string (bs a1), .string (bs a0)] 9 (0, 0))]] at S112
            refine WOps.e (E110 rfl rfl) rfl ?_
            refine WOps.p (G.assign rfl) rfl ?_
            refine WOps.nil ?_
            refine WEx.in_normal ?_
            refine WEx.then_ ?_
            refine WCode.region ?_
            refine WOps.p (G.move rfl) rfl ?_
            refine WOps.p (G.add rfl rfl (r := (w64 (x32 + 1))) rfl) rfl ?_
            refine WOps.p (G.assign rfl) rfl ?_
            refine WOps.nil ?_
            have S114 := S112.front 3 rfl
            change St _ _ _ [[(b6, .cells #[.string (bs a0), .string (bs a0), .string (bs a1), .string (bs a0)] 9 (0, 0))], G108, [(b96, .cells #[.slice A84 (t79.1).length c85] 25 (0, 0))], G63] at S114
            have S115 := St.keep (As := [[(b6, .cells #[.string (bs a0), .string (bs a0), .string (bs a1), .string (bs a0)] 9 (0, 0))], G108]) S114
            refine WEx.again _ _ (by omega) ?_ ⟨A106, c107, l102, G108, w64 (x32 + 1), rfl, hF, hO111, S115⟩
            exact ⟨rfl, rfl, rfl, rfl, trivial⟩
          ·
            refine WCode.cond_t (kb (b := !(decide (t79.2.2 = t56.2.2))) rfl (show (!(decide (t79.2.2 = t56.2.2))) = true from by rw [(decide_eq_false h95)]; rfl)) ?_
            refine WCode.seq ?_
            refine WCode.region ?_
            refine WOps.p (G.assign rfl) rfl ?_
            refine WOps.nil ?_
            refine WEx.then_ ?_
            refine WCode.forget (l' := [(4, .bool false)]) ⟨rfl, trivial⟩ ?_
            refine WCode.ret ?_
            refine WEx.then_ret ?_
            refine WEx.in_ret ?_
            refine WEx.then_ret ?_
            refine WEx.then_ret ?_
            refine WEx.in_ret ?_
            refine WEx.then_ret ?_
            obtain rfl := some_eq hF
            refine WEx.ret1 rfl rfl ?_
            exact ⟨rfl, St.keep (As := []) S92⟩
        ·
          refine WOps.off rfl (kbl (b := !(decide (t79.2.1 = t56.2.1))) rfl (show (!(decide (t79.2.1 = t56.2.1))) = true from by rw [(decide_eq_false h94)]; rfl)) rfl rfl ?_
          refine WOps.off rfl (kbl (b := !(decide (t79.2.1 = t56.2.1))) rfl (show (!(decide (t79.2.1 = t56.2.1))) = true from by rw [(decide_eq_false h94)]; rfl)) rfl rfl ?_
          refine WOps.off rfl (kbl (b := !(decide (t79.2.1 = t56.2.1))) rfl (show (!(decide (t79.2.1 = t56.2.1))) = true from by rw [(decide_eq_false h94)]; rfl)) rfl rfl ?_
          refine WOps.p (G.pick_t (kb (b := !(decide (t79.2.1 = t56.2.1))) rfl (show (!(decide (t79.2.1 = t56.2.1))) = true from by rw [(decide_eq_false h94)]; rfl)) rfl) rfl ?_
          refine WOps.nil ?_
          refine WEx.then_ ?_
          refine WCode.forget (l' := [(5, .bool t1), (6, .slice (some ⟨b6, 0, none⟩) ([a0, a0, a1, a0] : List (List UInt8)).length 4), (7, .slice A27 l29.length c28), (8, .int .i64 x32), (12, .slice A84 (t79.1).length c85), (57, .int .i64 t79.2.1), (58, .int .i64 t56.2.1), (59, .bool (!(decide (t79.2.1 = t56.2.1)))), (62, undef), (63, undef), (64, undef), (65, .bool true)]) ⟨rfl, rfl, rfl, rfl, rfl, rfl, rfl, rfl, rfl, rfl, rfl, rfl, trivial⟩ ?_
          refine WCode.cond_t rfl ?_
          refine WCode.seq ?_
          refine WCode.region ?_
          refine WOps.p (G.assign rfl) rfl ?_
          refine WOps.nil ?_
          refine WEx.then_ ?_
          refine WCode.forget (l' := [(4, .bool false)]) ⟨rfl, trivial⟩ ?_
          refine WCode.ret ?_
          refine WEx.then_ret ?_
          refine WEx.in_ret ?_
          refine WEx.then_ret ?_
          refine WEx.then_ret ?_
          refine WEx.in_ret ?_
          refine WEx.then_ret ?_
          obtain rfl := some_eq hF
          refine WEx.ret1 rfl rfl ?_
          exact ⟨rfl, St.keep (As := []) S92⟩
      ·
        refine WOps.off rfl (kbl (b := !t88) rfl (show (!t88) = true from by rw [(Bool.eq_false_iff.2 h93)]; rfl)) rfl rfl ?_
        refine WOps.off rfl (kbl (b := !t88) rfl (show (!t88) = true from by rw [(Bool.eq_false_iff.2 h93)]; rfl)) rfl rfl ?_
        refine WOps.off rfl (kbl (b := !t88) rfl (show (!t88) = true from by rw [(Bool.eq_false_iff.2 h93)]; rfl)) rfl rfl ?_
        refine WOps.p (G.pick_t (kb (b := !t88) rfl (show (!t88) = true from by rw [(Bool.eq_false_iff.2 h93)]; rfl)) rfl) rfl ?_
        refine WOps.p (G.move rfl) rfl ?_
        refine WOps.off rfl rfl rfl rfl ?_
        refine WOps.off rfl rfl rfl rfl ?_
        refine WOps.off rfl rfl rfl rfl ?_
        refine WOps.p (G.pick_t rfl rfl) rfl ?_
        refine WOps.nil ?_
        refine WEx.then_ ?_
        refine WCode.forget (l' := [(5, .bool t1), (6, .slice (some ⟨b6, 0, none⟩) ([a0, a0, a1, a0] : List (List UInt8)).length 4), (7, .slice A27 l29.length c28), (8, .int .i64 x32), (12, .slice A84 (t79.1).length c85), (57, undef), (58, undef), (59, undef), (62, undef), (63, undef), (64, undef), (65, .bool true)]) ⟨rfl, rfl, rfl, rfl, rfl, rfl, rfl, rfl, rfl, rfl, rfl, rfl, trivial⟩ ?_
        refine WCode.cond_t rfl ?_
        refine WCode.seq ?_
        refine WCode.region ?_
        refine WOps.p (G.assign rfl) rfl ?_
        refine WOps.nil ?_
        refine WEx.then_ ?_
        refine WCode.forget (l' := [(4, .bool false)]) ⟨rfl, trivial⟩ ?_
        refine WCode.ret ?_
        refine WEx.then_ret ?_
        refine WEx.in_ret ?_
        refine WEx.then_ret ?_
        refine WEx.then_ret ?_
        refine WEx.in_ret ?_
        refine WEx.then_ret ?_
        obtain rfl := some_eq hF
        refine WEx.ret1 rfl rfl ?_
        exact ⟨rfl, St.keep (As := []) S92⟩
    ·
      refine WCode.cond_f (kb (b := decide (x32 < (([a0, a0, a1, a0] : List (List UInt8)).length : Int))) rfl (decide_eq_false h41)) ?_
      refine WCode.exit ?_
      refine WEx.then_exit ?_
      refine WEx.then_exit ?_
      refine WEx.in_exit ?_
      have S116 := S34.front 1 rfl
      change St _ _ _ [G30, [(b6, .cells #[.string (bs a0), .string (bs a0), .string (bs a1), .string (bs a0)] 9 (0, 0))]] at S116
      have S117 := S116.front 1 rfl
      change St _ _ _ [[(b6, .cells #[.string (bs a0), .string (bs a0), .string (bs a1), .string (bs a0)] 9 (0, 0))], G30] at S117
      refine WEx.cutend _ ?_ ⟨k35, some ⟨b6, 0, none⟩, 4, ([a0, a0, a1, a0] : List (List UInt8)), [(b6, .cells #[.string (bs a0), .string (bs a0), .string (bs a1), .string (bs a0)] 9 (0, 0))], A27, c28, l29, G30, rfl, hF, hO26, hO31, S117⟩
      exact ⟨rfl, rfl, rfl, trivial⟩
  ·
    rintro _ w22 ⟨q24, A12, c13, l14, G15, A17, c18, l19, G20, rfl, hF, hO16, hO21, S23⟩
    unfold law_Scans.j1 at hF
    refine WCode.seq ?_
    refine WCode.seq ?_
    refine WCode.region ?_
    refine WOps.p (G.assign rfl) rfl ?_
    refine WOps.nil ?_
    refine WEx.then_ ?_
    refine WCode.block ?_
    have S123 := S23.front 1 rfl
    change St _ _ _ [G20, G15] at S123
    have S124 := S123.front 1 rfl
    change St _ _ _ [G15, G20] at S124
    refine WCode.forget (l' := [(5, .bool t1), (6, .slice A12 l14.length c13), (7, .slice A17 l19.length c18), (16, .int .i64 0)]) ⟨rfl, rfl, rfl, rfl, trivial⟩ ?_
    refine WCode.loop (fun n_ l_ w_ => ∃ x118 : Int, l_ = [(5, .bool t1), (6, .slice A12 l14.length c13), (7, .slice A17 l19.length c18), (16, .int .i64 x118)] ∧ law_Scans.l2 n_ t1 l14 l19 x118 = some r_ ∧ St w (KS []) w_ [G15, G20]) q24 ⟨0, rfl, hF, S124⟩ ?_
    rintro n122 _ w119 ⟨x118, rfl, hF, S120⟩
    obtain _ | k121 := n122
    · exact nomatch (show (none : Option Bool) = some r_ from hF)
    rw [law_Scans.l2] at hF
    refine WCode.seq ?_
    refine WCode.seq ?_
    refine WCode.region ?_
    refine WOps.p (G.move rfl) rfl ?_
    refine WOps.p (G.move rfl) rfl ?_
    refine WOps.p (G.len T.el23 rfl) rfl ?_
    refine WOps.p (G.lss rfl rfl rfl) rfl ?_
    refine WOps.nil ?_
    refine WEx.then_ ?_
    rcases ite_some hF with ⟨h126, hF⟩ | ⟨h126, hF⟩
    ·
      refine WCode.cond_t (kb (b := decide (x118 < (l14.length : Int))) rfl (decide_eq_true h126)) ?_
      refine WCode.skip ?_
      refine WEx.then_ ?_
      refine WCode.seq ?_
      refine WCode.block ?_
      refine WCode.seq ?_
      refine WCode.region ?_
      refine WOps.p (G.move rfl) rfl ?_
      refine WOps.p (G.move rfl) rfl ?_
      obtain ⟨x127, hc128, hF⟩ := bind_some hF
      obtain ⟨j129, ej130, hj131, hl132⟩ := idx_spec hc128
      obtain ⟨b133, o134, cs135, eA136, hf137, hc138, hr139⟩ := SlR.at_ (hO16.rd (fun b o hb => S120.grp 0 rfl hb)) hj131
      have hq140 : cs135 = [.string (bs x127)] := hr139
      subst hq140
      change cellsAt _ _ (o134 + j129 * 1) [.string (bs x127)] at hc138
      refine WOps.p (G.idx T.el23 rfl eA136 rfl ej130 hl132) rfl ?_
      refine WOps.r (G.load1 T.one9 rfl (cellsAt.at0 hc138)) rfl ?_
      obtain ⟨t141, hc142, hF⟩ := bind_some hF
      refine WOps.call T.call8 (evs_cons rfl evs_nil) rfl ?_
      refine (rf_Scan_calls k121 x127 hc142).mono ?_
      rintro _ w143 ⟨A146, c147, G148, rfl, hO149, T144⟩
      have S145 := St.callN (As := []) S120 T144
      change St _ _ _ [G148, G15, G20] at S145
      refine ⟨_, rfl, ?_⟩
      refine WOps.p (G.move rfl) rfl ?_
      refine WOps.p (G.extract rfl rfl) rfl ?_
      refine WOps.p (G.extract rfl rfl) rfl ?_
      refine WOps.p (G.extract rfl rfl) rfl ?_
      refine WOps.p (G.assign rfl) rfl ?_
      refine WOps.p (G.assign rfl) rfl ?_
      refine WOps.p (G.assign rfl) rfl ?_
      refine WOps.nil ?_
      refine WEx.then_ ?_
      refine WCode.forget (l' := [(5, .bool t1), (6, .slice A12 l14.length c13), (7, .slice A17 l19.length c18), (16, .int .i64 x118), (17, .slice A146 (t141.1).length c147)]) ⟨rfl, rfl, rfl, rfl, rfl, trivial⟩ ?_
      refine WCode.seq ?_
      refine WCode.region ?_
      refine WOps.p (G.move rfl) rfl ?_
      refine WOps.p (G.move rfl) rfl ?_
      obtain ⟨x150, hc151, hF⟩ := bind_some hF
      obtain ⟨j152, ej153, hj154, hl155⟩ := idx_spec hc151
      obtain ⟨A163, c164, hG165, hS166, hcl167⟩ := SlO.sub hO21 hj154
      obtain ⟨b156, o157, eA159, hf160, hc161⟩ := hcl167 _ (fun b o hb => S145.grp 2 rfl hb)
      refine WOps.p (G.idx T.el24 rfl eA159 rfl ej153 hl155) rfl ?_
      refine WOps.r (G.load1 T.one25 rfl (cellsAt.at0 hc161)) rfl ?_
      refine WOps.p (G.move rfl) rfl ?_
      obtain ⟨t168, hc169, hF⟩ := bind_some hF
      refine WOps.call T.call10 (evs_cons rfl (evs_cons rfl evs_nil)) rfl ?_
      refine (lw_same_calls k121 x150 (t141.1) (hG165 _ (fun b o hb => S145.grp 2 rfl hb)) (St.outG (Bs := []) S145 2 rfl) (hO149.rd (fun b o hb => S145.grp 0 rfl hb)) (St.outG (Bs := []) S145 0 rfl) hc169).mono ?_
      rintro _ w170 ⟨rfl, T171⟩
      have S172 := St.callN (As := []) S145 T171
      change St _ _ _ [G148, G15, G20] at S172
      refine ⟨_, rfl, ?_⟩
      refine WOps.p (G.assign rfl) rfl ?_
      refine WOps.nil ?_
      refine WEx.then_ ?_
      refine WCode.seq ?_
      refine WCode.region ?_
      refine WOps.p (G.move rfl) rfl ?_
      refine WOps.p (G.not rfl rfl) rfl ?_
      refine WOps.nil ?_
      refine WEx.then_ ?_
      rcases ite_some hF with ⟨h173, hF⟩ | ⟨h173, hF⟩
      ·
        refine WCode.cond_f (kb (b := !t168) rfl (show (!t168) = false from by rw [h173]; rfl)) ?_
        refine WCode.skip ?_
        refine WEx.in_normal ?_
        refine WEx.then_ ?_
        refine WCode.forget (l' := [(5, .bool t1), (6, .slice A12 l14.length c13), (7, .slice A17 l19.length c18), (16, .int .i64 x118)]) ⟨rfl, rfl, rfl, rfl, trivial⟩ ?_
        refine WCode.region ?_
        refine WOps.p (G.move rfl) rfl ?_
        refine WOps.p (G.add rfl rfl (r := (w64 (x118 + 1))) rfl) rfl ?_
        refine WOps.p (G.assign rfl) rfl ?_
        refine WOps.nil ?_
        have S174 := S172.front 2 rfl
        change St _ _ _ [G20, G148, G15] at S174
        have S175 := S174.front 2 rfl
        change St _ _ _ [G15, G20, G148] at S175
        have S176 := St.keep (As := [G15, G20]) S175
        refine WEx.again _ _ (by omega) ?_ ⟨w64 (x118 + 1), rfl, hF, S176⟩
        exact ⟨rfl, rfl, rfl, rfl, trivial⟩
      ·
        refine WCode.cond_t (kb (b := !t168) rfl (show (!t168) = true from by rw [(Bool.eq_false_iff.2 h173)]; rfl)) ?_
        refine WCode.seq ?_
        refine WCode.region ?_
        refine WOps.p (G.assign rfl) rfl ?_
        refine WOps.nil ?_
        refine WEx.then_ ?_
        refine WCode.forget (l' := [(4, .bool false)]) ⟨rfl, trivial⟩ ?_
        refine WCode.ret ?_
        refine WEx.in_ret ?_
        refine WEx.then_ret ?_
        refine WEx.then_ret ?_
        refine WEx.in_ret ?_
        refine WEx.then_ret ?_
        obtain rfl := some_eq hF
        refine WEx.ret1 rfl rfl ?_
        exact ⟨rfl, St.keep (As := []) S172⟩
    ·
      refine WCode.cond_f (kb (b := decide (x118 < (l14.length : Int))) rfl (decide_eq_false h126)) ?_
      refine WCode.exit ?_
      refine WEx.then_exit ?_
      refine WEx.then_exit ?_
      refine WEx.in_exit ?_
      refine WEx.then_ ?_
      refine WCode.seq ?_
      refine WCode.region ?_
      refine WOps.p (G.move rfl) rfl ?_
      refine WOps.p (G.move rfl) rfl ?_
      rcases ite_some hF with ⟨h177, hF⟩ | ⟨h177, hF⟩
      ·
        refine WOps.on rfl (kbl (b := t1) rfl h177) ?_
        refine WOps.p (G.move rfl) rfl ?_
        refine WOps.on rfl (kbl (b := t1) rfl h177) ?_
        obtain ⟨t178, hc179, hF⟩ := bind_some hF
        have S180 := S120.front 1 rfl
        change St _ _ _ [G20, G15] at S180
        refine WOps.call T.call11 (evs_cons rfl evs_nil) rfl ?_
        refine (lw_owned_calls k121 l19 hO21 hc179 (St.hpN (As := [G20]) S180)).mono ?_
        rintro _ w181 ⟨rfl, T182⟩
        have S183 := St.callN (As := [G20]) S180 T182
        change St _ _ _ [G15] at S183
        refine ⟨_, rfl, ?_⟩
        refine WOps.p (G.pick_t (kb (b := t1) rfl h177) rfl) rfl ?_
        refine WOps.p (G.assign rfl) rfl ?_
        refine WOps.nil ?_
        refine WEx.then_ ?_
        refine WCode.forget (l' := [(4, .bool t178)]) ⟨rfl, trivial⟩ ?_
        refine WCode.ret ?_
        obtain rfl := some_eq hF
        refine WEx.ret1 rfl rfl ?_
        exact ⟨rfl, St.keep (As := []) S183⟩
      ·
        refine WOps.off rfl (kbl (b := t1) rfl (Bool.eq_false_iff.2 h177)) rfl rfl ?_
        refine WOps.off rfl (kbl (b := t1) rfl (Bool.eq_false_iff.2 h177)) rfl rfl ?_
        refine WOps.p (G.pick_f (kb (b := t1) rfl (Bool.eq_false_iff.2 h177)) rfl) rfl ?_
        refine WOps.p (G.assign rfl) rfl ?_
        refine WOps.nil ?_
        refine WEx.then_ ?_
        refine WCode.forget (l' := [(4, .bool false)]) ⟨rfl, trivial⟩ ?_
        refine WCode.ret ?_
        obtain rfl := some_eq hF
        refine WEx.ret1 rfl rfl ?_
        exact ⟨rfl, St.keep (As := []) S120⟩

end Go.Proofs.YtpdpfiaediadgaaDoor
