/- Functions and their walks (printed by auto.py over the engine). -/
import Derived.Test.YtpdpfiaediadgaaProg
import Derived.Test.YtpdpfiaediadgaaSB
namespace Go.Proofs.Ytpdpfiaediadgaa
open Go Go.Eng
set_option linter.unusedSimpArgs false
set_option linter.unusedVariables false

theorem T.call30 : Callable Try.prog 30 := Callable.mk Try.func30 (by kernel_rfl) (by kernel_rfl)
theorem T.call35 : Callable Try.prog 35 := Callable.mk Try.func35 (by kernel_rfl) (by kernel_rfl)
theorem T.call53 : Callable Try.prog 53 := Callable.mk Try.func53 (by kernel_rfl) (by kernel_rfl)
theorem T.call54 : Callable Try.prog 54 := Callable.mk Try.func54 (by kernel_rfl) (by kernel_rfl)
theorem T.call69 : Callable Try.prog 69 := Callable.mk Try.func69 (by kernel_rfl) (by kernel_rfl)
theorem T.elt120 : Elt Try.prog 120 5 1 1 := elt_mk (z := .int .u8 0) Try.underlying120 (by kernel_rfl) rfl
theorem T.fld74_8 : fldOff Try.prog 74 8 = some 8 := by kernel_rfl
theorem T.one9 : isOneT Try.prog 9 = true := by kernel_rfl
theorem T.zero5 : zeroOf Try.prog 5 = some (.int .u8 0) := by kernel_rfl


def sv_tells.j2 (q36 : Nat) (a1 : List UInt8) (x33 : Int) : Option (Int × (List UInt8)) := (if 1 < (a1.length : Int) then (Option.bind (idx a1 1) fun c40 => (if 0 ≤ (w64 (((c40).toNat : Int) * 8)) then (if (w64 (((c40).toNat : Int) * 8)) ≤ 140737488355328 then (Option.bind (catN 140737488355328 a1 (List.replicate (w64 (((c40).toNat : Int) * 8)).toNat ((0 : UInt8) : UInt8))) fun m53 => (some (x33, m53))) else none) else none)) else (Option.bind (catN 140737488355328 a1 ([] : List UInt8)) fun m64 => (some (x33, m64))))
def sv_tells.j1 (q12 : Nat) (a0 : Int) (a1 : List UInt8) (c8 : UInt8) : Option (Int × (List UInt8)) := (if ((c8).toNat : Int) = 255 then (sv_tells.j2 q12 a1 a0) else (sv_tells.j2 q12 a1 ((c8).toNat : Int)))
def sv_tells (k : Nat) (a0 : Int) (a1 : List UInt8) : Option (Int × (List UInt8)) := (if a1 = ([] : List UInt8) then (some (0, ([110, 111, 110, 101] : List UInt8))) else (Option.bind (idx a1 0) fun c8 => (if 200 ≤ ((c8).toNat : Int) then (if ((c8).toNat : Int) < 255 then (Option.bind (idx ([0] : List Int) ((c8).toNat : Int)) fun x17 => (some (x17, ([] : List UInt8)))) else (sv_tells.j1 k a0 a1 c8)) else (sv_tells.j1 k a0 a1 c8))))
set_option maxRecDepth 100000 in
set_option maxHeartbeats 1000000 in
theorem sv_tells_calls (k : Nat) (a0 : Int) (a1 : List UInt8) {w : World} {r_ : Int × (List UInt8)} (h_ : sv_tells k a0 a1 = some r_) :
    Calls Try.prog 35 [.int .i64 a0, .string (bs a1)].toArray w fun e w' => e = .returned (.tuple #[.int .i64 r_.1, .string (bs r_.2)]) ∧ St w (KS []) w' [] := by
  have hF := h_
  clear h_
  unfold sv_tells at hF
  have S := St.ofFalse (As := []) (St.init0 w)
  refine enter 41 [(0, .int .i64 a0), (1, .string (bs a1))] Try.func35 rfl rfl rfl rfl ?_
  refine WCode.seq ?_
  refine WCode.region ?_
  refine WOps.p (G.assign rfl) rfl ?_
  refine WOps.p (G.assign rfl) rfl ?_
  refine WOps.nil ?_
  refine WEx.then_ ?_
  refine WCode.seq ?_
  refine WCode.seq ?_
  refine WCode.region ?_
  refine WOps.p (G.move rfl) rfl ?_
  refine WOps.p (G.eqlb' rfl rfl rfl) rfl ?_
  refine WOps.nil ?_
  refine WEx.then_ ?_
  rcases ite_some hF with ⟨h1, hF⟩ | ⟨h1, hF⟩
  ·
    refine WCode.cond_t (kb (b := decide (a1 = ([] : List UInt8))) rfl (decide_eq_true h1)) ?_
    refine WCode.seq ?_
    refine WCode.region ?_
    refine WOps.p (G.assign rfl) rfl ?_
    refine WOps.p (G.assign rfl) rfl ?_
    refine WOps.nil ?_
    refine WEx.then_ ?_
    refine WCode.ret ?_
    refine WEx.then_ret ?_
    obtain rfl := some_eq hF
    refine WEx.ret2 rfl rfl rfl ?_
    exact ⟨rfl, St.keep (As := []) S⟩
  ·
    refine WCode.cond_f (kb (b := decide (a1 = ([] : List UInt8))) rfl (decide_eq_false h1)) ?_
    refine WCode.skip ?_
    refine WEx.then_ ?_
    refine WCode.seq ?_
    refine WCode.region ?_
    obtain ⟨b2, w3, E4, S5, X6, L7⟩ := St.lit S (P := Try.prog) (t := 49) (e := 3) (n := 1) (vs := [(0, .int .i64 0)]) (cs := #[.int .i64 0]) (by kernel_rfl)
    change St _ _ _ [[(b2, .cells #[.int .i64 0] 3 (0, 0))]] at S5
    refine WOps.e (E4 (evp_cons rfl evp_nil)) rfl ?_
    refine WOps.p (G.assign rfl) rfl ?_
    refine WOps.nil ?_
    refine WEx.then_ ?_
    refine WCode.seq ?_
    refine WCode.region ?_
    refine WOps.p (G.move rfl) rfl ?_
    obtain ⟨c8, hc9, hF⟩ := bind_some hF
    refine WOps.p (G.idxb T.str9 rfl rfl hc9) rfl ?_
    refine WOps.p (G.convi (by kernel_rfl) Try.underlying3 rfl (r := ((c8).toNat : Int)) (u8_i64 _)) rfl ?_
    refine WOps.p (G.assign rfl) rfl ?_
    refine WOps.nil ?_
    refine WEx.then_ ?_
    refine WCode.cutseq (fun l_ w_ => ∃ q12 : Nat, l_ = [(0, .int .i64 a0), (1, .string (bs a1)), (7, .int .i64 ((c8).toNat : Int))] ∧ sv_tells.j1 q12 a0 a1 c8 = some r_ ∧ St w (KS []) w_ []) ?_ ?_
    ·
      refine WCode.seq ?_
      refine WCode.region ?_
      refine WOps.p (G.move rfl) rfl ?_
      refine WOps.p (G.geq rfl rfl rfl) rfl ?_
      refine WOps.p (G.move rfl) rfl ?_
      rcases ite_some hF with ⟨h14, hF⟩ | ⟨h14, hF⟩
      ·
        refine WOps.on rfl (kbl (b := decide (200 ≤ ((c8).toNat : Int))) rfl (decide_eq_true h14)) ?_
        refine WOps.p (G.move rfl) rfl ?_
        refine WOps.on rfl (kbl (b := decide (200 ≤ ((c8).toNat : Int))) rfl (decide_eq_true h14)) ?_
        refine WOps.p (G.lss rfl rfl rfl) rfl ?_
        refine WOps.p (G.pick_t (kb (b := decide (200 ≤ ((c8).toNat : Int))) rfl (decide_eq_true h14)) rfl) rfl ?_
        refine WOps.nil ?_
        refine WEx.then_ ?_
        refine WCode.forget (l' := [(0, .int .i64 a0), (1, .string (bs a1)), (6, .slice (some ⟨b2, 0, none⟩) ([0] : List Int).length 1), (7, .int .i64 ((c8).toNat : Int)), (20, .bool (decide (((c8).toNat : Int) < 255)))]) ⟨rfl, rfl, rfl, rfl, rfl, trivial⟩ ?_
        rcases ite_some hF with ⟨h15, hF⟩ | ⟨h15, hF⟩
        ·
          refine WCode.cond_t (kb (b := decide (((c8).toNat : Int) < 255)) rfl (decide_eq_true h15)) ?_
          refine WCode.seq ?_
          refine WCode.region ?_
          refine WOps.p (G.move rfl) rfl ?_
          refine WOps.p (G.move rfl) rfl ?_
          have hO16 : SlO 3 (Rp.int .i64) (.slice (some ⟨b2, 0, none⟩) ([0] : List Int).length 1) ([0] : List Int) ([(b2, .cells #[.int .i64 0] 3 (0, 0))] ++ []) := SlO.lit (GM := []) ⟨_, _, [], [], rfl, rfl, ⟨rfl, rfl⟩, ⟨rfl, rfl⟩⟩ rfl (Nat.le_of_ble_eq_true rfl) (Nat.le_of_ble_eq_true rfl)
          rw [List.append_nil] at hO16
          obtain ⟨x17, hc18, hF⟩ := bind_some hF
          obtain ⟨j19, ej20, hj21, hl22⟩ := idx_spec hc18
          obtain ⟨b23, o24, cs25, eA26, hf27, hc28, hr29⟩ := SlR.at_ (hO16.rd (fun b o hb => S5.grp 0 rfl hb)) hj21
          have hq30 : cs25 = [.int .i64 x17] := hr29
          subst hq30
          change cellsAt _ _ (o24 + j19 * 1) [.int .i64 x17] at hc28
          refine WOps.p (G.idx T.el49 rfl eA26 rfl ej20 hl22) rfl ?_
          refine WOps.r (G.load1 T.one3 rfl (cellsAt.at0 hc28)) rfl ?_
          refine WOps.p (G.assign rfl) rfl ?_
          refine WOps.p (G.assign rfl) rfl ?_
          refine WOps.nil ?_
          refine WEx.then_ ?_
          refine WCode.ret ?_
          refine WEx.then_ret ?_
          obtain rfl := some_eq hF
          refine WEx.ret2 rfl rfl rfl ?_
          exact ⟨rfl, St.keep (As := []) S5⟩
        ·
          refine WCode.cond_f (kb (b := decide (((c8).toNat : Int) < 255)) rfl (decide_eq_false h15)) ?_
          refine WCode.skip ?_
          have S31 := St.keep (As := []) S5
          refine WEx.cutend _ ?_ ⟨k, rfl, hF, S31⟩
          exact ⟨rfl, rfl, rfl, trivial⟩
      ·
        refine WOps.off rfl (kbl (b := decide (200 ≤ ((c8).toNat : Int))) rfl (decide_eq_false h14)) rfl rfl ?_
        refine WOps.off rfl (kbl (b := decide (200 ≤ ((c8).toNat : Int))) rfl (decide_eq_false h14)) rfl rfl ?_
        refine WOps.p (G.pick_f (kb (b := decide (200 ≤ ((c8).toNat : Int))) rfl (decide_eq_false h14)) rfl) rfl ?_
        refine WOps.nil ?_
        refine WEx.then_ ?_
        refine WCode.forget (l' := [(0, .int .i64 a0), (1, .string (bs a1)), (6, .slice (some ⟨b2, 0, none⟩) ([0] : List Int).length 1), (7, .int .i64 ((c8).toNat : Int)), (20, .bool false)]) ⟨rfl, rfl, rfl, rfl, rfl, trivial⟩ ?_
        refine WCode.cond_f rfl ?_
        refine WCode.skip ?_
        have S32 := St.keep (As := []) S5
        refine WEx.cutend _ ?_ ⟨k, rfl, hF, S32⟩
        exact ⟨rfl, rfl, rfl, trivial⟩
    ·
      rintro _ w10 ⟨q12, rfl, hF, S11⟩
      unfold sv_tells.j1 at hF
      refine WCode.cutseq (fun l_ w_ => ∃ q36 : Nat, ∃ x33 : Int, l_ = [(1, .string (bs a1)), (7, .int .i64 x33)] ∧ sv_tells.j2 q36 a1 x33 = some r_ ∧ St w (KS []) w_ []) ?_ ?_
      ·
        refine WCode.seq ?_
        refine WCode.region ?_
        refine WOps.p (G.move rfl) rfl ?_
        refine WOps.p (G.eql rfl rfl rfl) rfl ?_
        refine WOps.nil ?_
        refine WEx.then_ ?_
        rcases ite_some hF with ⟨h38, hF⟩ | ⟨h38, hF⟩
        ·
          refine WCode.cond_t (kb (b := decide (((c8).toNat : Int) = 255)) rfl (decide_eq_true h38)) ?_
          refine WCode.region ?_
          refine WOps.p (G.move rfl) rfl ?_
          refine WOps.p (G.assign rfl) rfl ?_
          refine WOps.nil ?_
          refine WEx.cutend _ ?_ ⟨q12, a0, rfl, hF, S11⟩
          exact ⟨rfl, rfl, trivial⟩
        ·
          refine WCode.cond_f (kb (b := decide (((c8).toNat : Int) = 255)) rfl (decide_eq_false h38)) ?_
          refine WCode.skip ?_
          refine WEx.cutend _ ?_ ⟨q12, ((c8).toNat : Int), rfl, hF, S11⟩
          exact ⟨rfl, rfl, trivial⟩
      ·
        rintro _ w34 ⟨q36, x33, rfl, hF, S35⟩
        unfold sv_tells.j2 at hF
        refine WCode.seq ?_
        refine WCode.region ?_
        refine WOps.p (G.assign rfl) rfl ?_
        refine WOps.nil ?_
        refine WEx.then_ ?_
        refine WCode.seq ?_
        refine WCode.seq ?_
        refine WCode.region ?_
        refine WOps.p (G.move rfl) rfl ?_
        refine WOps.p (G.lenb T.str9 rfl) rfl ?_
        refine WOps.p (G.gtr rfl rfl rfl) rfl ?_
        refine WOps.nil ?_
        refine WEx.then_ ?_
        rcases ite_some hF with ⟨h39, hF⟩ | ⟨h39, hF⟩
        ·
          refine WCode.cond_t (kb (b := decide (1 < (a1.length : Int))) rfl (decide_eq_true h39)) ?_
          refine WCode.region ?_
          refine WOps.p (G.move rfl) rfl ?_
          obtain ⟨c40, hc41, hF⟩ := bind_some hF
          refine WOps.p (G.idxb T.str9 rfl rfl hc41) rfl ?_
          refine WOps.p (G.convi (by kernel_rfl) Try.underlying3 rfl (r := ((c40).toNat : Int)) (u8_i64 _)) rfl ?_
          refine WOps.p (G.mul rfl rfl (r := (w64 (((c40).toNat : Int) * 8))) rfl) rfl ?_
          refine WOps.p (G.assign rfl) rfl ?_
          refine WOps.nil ?_
          refine WEx.then_ ?_
          refine WCode.seq ?_
          refine WCode.drawH (.one 0 0 (.one 1 0 (.one 2 0 (.one 6 0 (.one 3 2 (.one 4 2 (.one 5 0 (.one 7 0 .nil)))))))) (fun W_ => True) T.mixed (by kernel_rfl) (by intro _ _ d _ _ h; cases d <;> exact h) rfl rfl (by kernel_rfl) ?_ ?_
          all_goals have S42 := S35.drew
          all_goals generalize w34.drew = w43 at *
          · exact trivial
          refine WH.p rfl wants (G.move rfl) rfl ?_
          refine WH.p rfl wants (G.move rfl) rfl ?_
          refine WH.p rfl wants (G.move rfl) rfl ?_
          refine WH.p rfl wants (G.assign rfl) rfl ?_
          obtain ⟨h44, hF⟩ := guard_some hF
          obtain ⟨h45, hF⟩ := guard_some hF
          obtain ⟨A46, G47, w48, E49, hO50, S51, X52⟩ := St.makeN (P := Try.prog) (r := Rp.u8) (x0 := (0 : UInt8)) S42 T.elt120 rfl T.zero5 ⟨rfl, rfl⟩ (by decide) h44 h45
          refine WH.e rfl wants (E49 rfl rfl) rfl trivial ?_
          refine WH.e rfl wants (GR.e (G.strb Try.underlying120 Try.underlying5 Try.underlying9 rfl (hO50.rd (fun b o hb => S51.grp 0 rfl hb)))) rfl trivial ?_
          obtain ⟨m53, hc54, hF⟩ := bind_some hF
          refine WH.p rfl wants (G.catb rfl rfl hc54) rfl ?_
          refine WH.p rfl wants (G.assign rfl) rfl ?_
          refine WH.nil ?_
          refine WEx.then_ ?_
          refine WCode.forget (l' := [(4, .int .i64 x33), (5, .string (bs m53))]) ⟨rfl, rfl, trivial⟩ ?_
          refine WCode.ret ?_
          obtain rfl := some_eq hF
          refine WEx.ret2 rfl rfl rfl ?_
          exact ⟨rfl, St.keep (As := []) S51⟩
        ·
          refine WCode.cond_f (kb (b := decide (1 < (a1.length : Int))) rfl (decide_eq_false h39)) ?_
          refine WCode.skip ?_
          refine WEx.then_ ?_
          refine WCode.seq ?_
          refine WCode.drawH (.one 0 0 (.one 1 0 (.one 2 0 (.one 6 0 (.one 3 2 (.one 4 2 (.one 5 0 (.one 7 0 .nil)))))))) (fun W_ => True) T.mixed (by kernel_rfl) (by intro _ _ d _ _ h; cases d <;> exact h) rfl rfl (by kernel_rfl) ?_ ?_
          all_goals have S55 := S35.drew
          all_goals generalize w34.drew = w56 at *
          · exact trivial
          refine WH.p rfl wants (G.move rfl) rfl ?_
          refine WH.p rfl wants (G.move rfl) rfl ?_
          refine WH.p rfl wants (G.move rfl) rfl ?_
          refine WH.p rfl wants (G.assign rfl) rfl ?_
          obtain ⟨A57, G58, w59, E60, hO61, S62, X63⟩ := St.make0 (P := Try.prog) (r := Rp.u8) S55 T.elt120 rfl (show 0 ≤ (0 : Int) by decide) (show (0 : Int) ≤ 68719476736 by decide)
          refine WH.e rfl wants (E60 rfl rfl) rfl trivial ?_
          refine WH.e rfl wants (GR.e (G.strb Try.underlying120 Try.underlying5 Try.underlying9 rfl (hO61.rd (fun b o hb => S62.grp 0 rfl hb)))) rfl trivial ?_
          obtain ⟨m64, hc65, hF⟩ := bind_some hF
          refine WH.p rfl wants (G.catb rfl rfl hc65) rfl ?_
          refine WH.p rfl wants (G.assign rfl) rfl ?_
          refine WH.nil ?_
          refine WEx.then_ ?_
          refine WCode.forget (l' := [(4, .int .i64 x33), (5, .string (bs m64))]) ⟨rfl, rfl, trivial⟩ ?_
          refine WCode.ret ?_
          obtain rfl := some_eq hF
          refine WEx.ret2 rfl rfl rfl ?_
          exact ⟨rfl, St.keep (As := []) S62⟩

def sv_would.j1 (q3 : Nat) (a0 : Int) (a1 : List UInt8) : Option (Int × (List UInt8)) := (Option.bind (sv_tells q3 a0 a1) fun t12 => (Option.bind (rv_Told q3 t12.1 t12.2) fun t17 => (some (t17.1, t17.2))))
def sv_would (k : Nat) (a0 : Int) (a1 : List UInt8) : Option (Int × (List UInt8)) := (if 0 < (a1.length : Int) then (Option.bind (idx a1 0) fun c6 => (if 200 ≤ ((c6).toNat : Int) then (Option.bind (idx a1 0) fun c9 => (if ((c9).toNat : Int) < 255 then (some (5, ([] : List UInt8))) else (sv_would.j1 k a0 a1))) else (sv_would.j1 k a0 a1))) else (sv_would.j1 k a0 a1))
set_option maxRecDepth 100000 in
set_option maxHeartbeats 1000000 in
theorem sv_would_calls (k : Nat) (a0 : Int) (a1 : List UInt8) {w : World} {r_ : Int × (List UInt8)} (h_ : sv_would k a0 a1 = some r_) :
    Calls Try.prog 54 [.int .i64 a0, .string (bs a1)].toArray w fun e w' => e = .returned (.tuple #[.int .i64 r_.1, .string (bs r_.2)]) ∧ St w (KS []) w' [] := by
  have hF := h_
  clear h_
  unfold sv_would at hF
  have S := St.ofFalse (As := []) (St.init0 w)
  refine enter 32 [(0, .int .i64 a0), (1, .string (bs a1))] Try.func54 rfl rfl rfl rfl ?_
  refine WCode.seq ?_
  refine WCode.region ?_
  refine WOps.p (G.assign rfl) rfl ?_
  refine WOps.p (G.assign rfl) rfl ?_
  refine WOps.nil ?_
  refine WEx.then_ ?_
  refine WCode.cutseq (fun l_ w_ => ∃ q3 : Nat, l_ = [(0, .int .i64 a0), (1, .string (bs a1))] ∧ sv_would.j1 q3 a0 a1 = some r_ ∧ St w (KS []) w_ []) ?_ ?_
  ·
    refine WCode.seq ?_
    refine WCode.region ?_
    refine WOps.p (G.move rfl) rfl ?_
    refine WOps.p (G.lenb T.str9 rfl) rfl ?_
    refine WOps.p (G.gtr rfl rfl rfl) rfl ?_
    refine WOps.p (G.move rfl) rfl ?_
    rcases ite_some hF with ⟨h5, hF⟩ | ⟨h5, hF⟩
    ·
      refine WOps.on rfl (kbl (b := decide (0 < (a1.length : Int))) rfl (decide_eq_true h5)) ?_
      refine WOps.p (G.move rfl) rfl ?_
      refine WOps.on rfl (kbl (b := decide (0 < (a1.length : Int))) rfl (decide_eq_true h5)) ?_
      obtain ⟨c6, hc7, hF⟩ := bind_some hF
      refine WOps.p (G.idxb T.str9 rfl rfl hc7) rfl ?_
      refine WOps.on rfl (kbl (b := decide (0 < (a1.length : Int))) rfl (decide_eq_true h5)) ?_
      refine WOps.p (G.geq rfl rfl rfl) rfl ?_
      refine WOps.p (G.pick_t (kb (b := decide (0 < (a1.length : Int))) rfl (decide_eq_true h5)) rfl) rfl ?_
      refine WOps.p (G.move rfl) rfl ?_
      rcases ite_some hF with ⟨h8, hF⟩ | ⟨h8, hF⟩
      ·
        refine WOps.on rfl (kbl (b := decide (200 ≤ ((c6).toNat : Int))) rfl (decide_eq_true h8)) ?_
        refine WOps.p (G.move rfl) rfl ?_
        refine WOps.on rfl (kbl (b := decide (200 ≤ ((c6).toNat : Int))) rfl (decide_eq_true h8)) ?_
        obtain ⟨c9, hc10, hF⟩ := bind_some hF
        refine WOps.p (G.idxb T.str9 rfl rfl hc10) rfl ?_
        refine WOps.on rfl (kbl (b := decide (200 ≤ ((c6).toNat : Int))) rfl (decide_eq_true h8)) ?_
        refine WOps.p (G.lss rfl rfl rfl) rfl ?_
        refine WOps.p (G.pick_t (kb (b := decide (200 ≤ ((c6).toNat : Int))) rfl (decide_eq_true h8)) rfl) rfl ?_
        refine WOps.nil ?_
        refine WEx.then_ ?_
        refine WCode.forget (l' := [(0, .int .i64 a0), (1, .string (bs a1)), (20, .bool (decide (((c9).toNat : Int) < 255)))]) ⟨rfl, rfl, rfl, trivial⟩ ?_
        rcases ite_some hF with ⟨h11, hF⟩ | ⟨h11, hF⟩
        ·
          refine WCode.cond_t (kb (b := decide (((c9).toNat : Int) < 255)) rfl (decide_eq_true h11)) ?_
          refine WCode.seq ?_
          refine WCode.region ?_
          refine WOps.p (G.assign rfl) rfl ?_
          refine WOps.p (G.assign rfl) rfl ?_
          refine WOps.nil ?_
          refine WEx.then_ ?_
          refine WCode.ret ?_
          refine WEx.then_ret ?_
          obtain rfl := some_eq hF
          refine WEx.ret2 rfl rfl rfl ?_
          exact ⟨rfl, St.keep (As := []) S⟩
        ·
          refine WCode.cond_f (kb (b := decide (((c9).toNat : Int) < 255)) rfl (decide_eq_false h11)) ?_
          refine WCode.skip ?_
          refine WEx.cutend _ ?_ ⟨k, rfl, hF, S⟩
          exact ⟨rfl, rfl, trivial⟩
      ·
        refine WOps.off rfl (kbl (b := decide (200 ≤ ((c6).toNat : Int))) rfl (decide_eq_false h8)) rfl rfl ?_
        refine WOps.off rfl (kbl (b := decide (200 ≤ ((c6).toNat : Int))) rfl (decide_eq_false h8)) rfl rfl ?_
        refine WOps.off rfl (kbl (b := decide (200 ≤ ((c6).toNat : Int))) rfl (decide_eq_false h8)) rfl rfl ?_
        refine WOps.p (G.pick_f (kb (b := decide (200 ≤ ((c6).toNat : Int))) rfl (decide_eq_false h8)) rfl) rfl ?_
        refine WOps.nil ?_
        refine WEx.then_ ?_
        refine WCode.forget (l' := [(0, .int .i64 a0), (1, .string (bs a1)), (20, .bool false)]) ⟨rfl, rfl, rfl, trivial⟩ ?_
        refine WCode.cond_f rfl ?_
        refine WCode.skip ?_
        refine WEx.cutend _ ?_ ⟨k, rfl, hF, S⟩
        exact ⟨rfl, rfl, trivial⟩
    ·
      refine WOps.off rfl (kbl (b := decide (0 < (a1.length : Int))) rfl (decide_eq_false h5)) rfl rfl ?_
      refine WOps.off rfl (kbl (b := decide (0 < (a1.length : Int))) rfl (decide_eq_false h5)) rfl rfl ?_
      refine WOps.off rfl (kbl (b := decide (0 < (a1.length : Int))) rfl (decide_eq_false h5)) rfl rfl ?_
      refine WOps.p (G.pick_f (kb (b := decide (0 < (a1.length : Int))) rfl (decide_eq_false h5)) rfl) rfl ?_
      refine WOps.p (G.move rfl) rfl ?_
      refine WOps.off rfl rfl rfl rfl ?_
      refine WOps.off rfl rfl rfl rfl ?_
      refine WOps.off rfl rfl rfl rfl ?_
      refine WOps.p (G.pick_f rfl rfl) rfl ?_
      refine WOps.nil ?_
      refine WEx.then_ ?_
      refine WCode.forget (l' := [(0, .int .i64 a0), (1, .string (bs a1)), (20, .bool false)]) ⟨rfl, rfl, rfl, trivial⟩ ?_
      refine WCode.cond_f rfl ?_
      refine WCode.skip ?_
      refine WEx.cutend _ ?_ ⟨k, rfl, hF, S⟩
      exact ⟨rfl, rfl, trivial⟩
  ·
    rintro _ w1 ⟨q3, rfl, hF, S2⟩
    unfold sv_would.j1 at hF
    refine WCode.seq ?_
    refine WCode.region ?_
    refine WOps.p (G.move rfl) rfl ?_
    refine WOps.p (G.move rfl) rfl ?_
    obtain ⟨t12, hc13, hF⟩ := bind_some hF
    refine WOps.call T.call35 (evs_cons rfl (evs_cons rfl evs_nil)) rfl ?_
    refine (sv_tells_calls q3 a0 a1 hc13).mono ?_
    rintro _ w14 ⟨rfl, T15⟩
    have S16 := St.callN (As := []) S2 T15
    change St _ _ _ [] at S16
    refine ⟨_, rfl, ?_⟩
    refine WOps.p (G.move rfl) rfl ?_
    refine WOps.p (G.extract rfl rfl) rfl ?_
    refine WOps.p (G.extract rfl rfl) rfl ?_
    refine WOps.p (G.assign rfl) rfl ?_
    refine WOps.p (G.assign rfl) rfl ?_
    refine WOps.nil ?_
    refine WEx.then_ ?_
    refine WCode.seq ?_
    refine WCode.region ?_
    refine WOps.p (G.move rfl) rfl ?_
    refine WOps.p (G.move rfl) rfl ?_
    obtain ⟨t17, hc18, hF⟩ := bind_some hF
    refine WOps.call T.call69 (evs_cons rfl (evs_cons rfl evs_nil)) rfl ?_
    refine (rv_Told_calls q3 t12.1 t12.2 hc18).mono ?_
    rintro _ w19 ⟨rfl, T20⟩
    have S21 := St.callN (As := []) S16 T20
    change St _ _ _ [] at S21
    refine ⟨_, rfl, ?_⟩
    refine WOps.p (G.extract rfl rfl) rfl ?_
    refine WOps.p (G.extract rfl rfl) rfl ?_
    refine WOps.p (G.assign rfl) rfl ?_
    refine WOps.p (G.assign rfl) rfl ?_
    refine WOps.nil ?_
    refine WEx.then_ ?_
    refine WCode.forget (l' := [(4, .int .i64 t17.1), (5, .string (bs t17.2))]) ⟨rfl, rfl, trivial⟩ ?_
    refine WCode.ret ?_
    obtain rfl := some_eq hF
    refine WEx.ret2 rfl rfl rfl ?_
    exact ⟨rfl, St.keep (As := []) S21⟩

def sv_run (k : Nat) (a0 : Registry71) (a1 : Op) : Option (Int × (List UInt8)) := (Option.bind (rv_Find k a0 a1.Prog a1.Vers a1.Proc) fun t14 => (if t14.1 = 0 then (if a1.Proc = 0 then (Option.bind (rv_Null k a1.Args) fun t21 => (some (t21, ([] : List UInt8)))) else (Option.bind (sv_would k a1.Proc a1.Args) fun t26 => (some (t26.1, t26.2)))) else (some (t14.1, ([] : List UInt8)))))
set_option maxRecDepth 100000 in
set_option maxHeartbeats 1000000 in
theorem sv_run_calls (k : Nat) (a0 : Registry71) {p0 : Nat} {F0 : Nat → Prop} (a1 : Op) {A1_1 : Option Addr} {c1_1 : Nat} {F1_1 : Nat → Prop} {w : World} (hP0 : PtR 71 Registry71.rp w F0 p0 a0) (hF0 : ∀ b, F0 b → NK w [] b) (hR1_1 : SlR (Rp.int .i64) w F1_1 A1_1 c1_1 a1.Procs) (hF1_1 : ∀ b, F1_1 b → NK w [] b) {r_ : Int × (List UInt8)} (h_ : sv_run k a0 a1 = some r_) :
    Calls Try.prog 32 [.pointer (some ⟨p0, 0, none⟩), .agg #[.bool a1.Other, .bool a1.Near, .bool a1.None, .int .i64 a1.What, .int .i64 a1.Prog, .int .i64 a1.Vers, .int .i64 a1.Proc, .slice A1_1 a1.Procs.length c1_1, .string (bs a1.Args)]].toArray w fun e w' => e = .returned (.tuple #[.int .i64 r_.1, .string (bs r_.2)]) ∧ St w (KS []) w' [] := by
  have hF := h_
  clear h_
  unfold sv_run at hF
  have S := St.ofFalse (As := []) (St.init0 w)
  have hPq0 := hP0
  obtain ⟨cs1, hB2, hf3, A5, c6, hq4, hR7⟩ := hPq0
  subst hq4
  change _ = some (Obj.cells #[.slice A5 a0.L.length c6] 71 (0, 0)) at hB2
  refine enter 37 [(0, .pointer (some ⟨p0, 0, none⟩)), (1, .agg #[.bool a1.Other, .bool a1.Near, .bool a1.None, .int .i64 a1.What, .int .i64 a1.Prog, .int .i64 a1.Vers, .int .i64 a1.Proc, .slice A1_1 a1.Procs.length c1_1, .string (bs a1.Args)])] Try.func32 rfl rfl rfl rfl ?_
  refine WCode.seq ?_
  refine WCode.region ?_
  obtain ⟨b8, w9, E10, S11, X12, L13⟩ := St.box S Try.prog 74 (.agg #[.bool a1.Other, .bool a1.Near, .bool a1.None, .int .i64 a1.What, .int .i64 a1.Prog, .int .i64 a1.Vers, .int .i64 a1.Proc, .slice A1_1 a1.Procs.length c1_1, .string (bs a1.Args)])
  change St _ _ _ [[(b8, .cells #[.bool a1.Other, .bool a1.Near, .bool a1.None, .int .i64 a1.What, .int .i64 a1.Prog, .int .i64 a1.Vers, .int .i64 a1.Proc, .slice A1_1 a1.Procs.length c1_1, .string (bs a1.Args)] 74 (0, 0))]] at S11
  refine WOps.e (E10 rfl) rfl ?_
  refine WOps.p (G.assign rfl) rfl ?_
  refine WOps.p (G.assign rfl) rfl ?_
  refine WOps.nil ?_
  refine WEx.then_ ?_
  refine WCode.seq ?_
  refine WCode.region ?_
  refine WOps.p (G.move rfl) rfl ?_
  refine WOps.p (G.field T.fld74_4 rfl (show 0 + 4 = 4 from rfl)) rfl ?_
  refine WOps.r (G.load1 T.one3 rfl (cell_blk (S11.blk 0 rfl) rfl)) rfl ?_
  refine WOps.p (G.field T.fld74_5 rfl (show 0 + 5 = 5 from rfl)) rfl ?_
  refine WOps.r (G.load1 T.one3 rfl (cell_blk (S11.blk 0 rfl) rfl)) rfl ?_
  refine WOps.p (G.field T.fld74_6 rfl (show 0 + 6 = 6 from rfl)) rfl ?_
  refine WOps.r (G.load1 T.one3 rfl (cell_blk (S11.blk 0 rfl) rfl)) rfl ?_
  obtain ⟨t14, hc15, hF⟩ := bind_some hF
  refine WOps.call T.call30 (evs_cons rfl (evs_cons rfl (evs_cons rfl (evs_cons rfl evs_nil)))) rfl ?_
  refine (rv_Find_calls k a0 a1.Prog a1.Vers a1.Proc (hP0.ext (S11.keepF hF0)) (St.outF (Bs := []) S11 hF0) hc15).mono ?_
  rintro _ w16 ⟨rfl, T17⟩
  have S18 := St.callN (As := []) S11 T17
  change St _ _ _ [[(b8, .cells #[.bool a1.Other, .bool a1.Near, .bool a1.None, .int .i64 a1.What, .int .i64 a1.Prog, .int .i64 a1.Vers, .int .i64 a1.Proc, .slice A1_1 a1.Procs.length c1_1, .string (bs a1.Args)] 74 (0, 0))]] at S18
  refine ⟨_, rfl, ?_⟩
  refine WOps.p (G.move rfl) rfl ?_
  refine WOps.p (G.extract rfl rfl) rfl ?_
  refine WOps.p (G.extract rfl rfl) rfl ?_
  refine WOps.p (G.extract rfl rfl) rfl ?_
  refine WOps.p (G.assign rfl) rfl ?_
  refine WOps.p (G.assign rfl) rfl ?_
  refine WOps.p (G.assign rfl) rfl ?_
  refine WOps.nil ?_
  refine WEx.then_ ?_
  refine WCode.forget (l' := [(3, .pointer (some ⟨b8, 0, none⟩)), (6, .int .i64 t14.1)]) ⟨rfl, rfl, trivial⟩ ?_
  refine WCode.seq ?_
  refine WCode.seq ?_
  refine WCode.region ?_
  refine WOps.p (G.move rfl) rfl ?_
  refine WOps.p (G.neq rfl rfl rfl) rfl ?_
  refine WOps.nil ?_
  refine WEx.then_ ?_
  rcases ite_some hF with ⟨h19, hF⟩ | ⟨h19, hF⟩
  ·
    refine WCode.cond_f (kb (b := !(decide (t14.1 = 0))) rfl (show (!(decide (t14.1 = 0))) = false from by rw [(decide_eq_true h19)]; rfl)) ?_
    refine WCode.skip ?_
    refine WEx.then_ ?_
    refine WCode.seq ?_
    refine WCode.seq ?_
    refine WCode.region ?_
    refine WOps.p (G.field T.fld74_6 rfl (show 0 + 6 = 6 from rfl)) rfl ?_
    refine WOps.r (G.load1 T.one3 rfl (cell_blk (S18.blk 0 rfl) rfl)) rfl ?_
    refine WOps.p (G.eql rfl rfl rfl) rfl ?_
    refine WOps.nil ?_
    refine WEx.then_ ?_
    rcases ite_some hF with ⟨h20, hF⟩ | ⟨h20, hF⟩
    ·
      refine WCode.cond_t (kb (b := decide (a1.Proc = 0)) rfl (decide_eq_true h20)) ?_
      refine WCode.seq ?_
      refine WCode.region ?_
      refine WOps.p (G.field T.fld74_8 rfl (show 0 + 8 = 8 from rfl)) rfl ?_
      refine WOps.r (G.load1 T.one9 rfl (cell_blk (S18.blk 0 rfl) rfl)) rfl ?_
      obtain ⟨t21, hc22, hF⟩ := bind_some hF
      refine WOps.call T.call53 (evs_cons rfl evs_nil) rfl ?_
      refine (rv_Null_calls k a1.Args hc22).mono ?_
      rintro _ w23 ⟨rfl, T24⟩
      have S25 := St.callN (As := []) S18 T24
      change St _ _ _ [[(b8, .cells #[.bool a1.Other, .bool a1.Near, .bool a1.None, .int .i64 a1.What, .int .i64 a1.Prog, .int .i64 a1.Vers, .int .i64 a1.Proc, .slice A1_1 a1.Procs.length c1_1, .string (bs a1.Args)] 74 (0, 0))]] at S25
      refine ⟨_, rfl, ?_⟩
      refine WOps.p (G.assign rfl) rfl ?_
      refine WOps.p (G.assign rfl) rfl ?_
      refine WOps.nil ?_
      refine WEx.then_ ?_
      refine WCode.forget (l' := [(4, .int .i64 t21), (5, .string (bs ([] : List UInt8)))]) ⟨rfl, rfl, trivial⟩ ?_
      refine WCode.ret ?_
      refine WEx.then_ret ?_
      obtain rfl := some_eq hF
      refine WEx.ret2 rfl rfl rfl ?_
      exact ⟨rfl, St.keep (As := []) S25⟩
    ·
      refine WCode.cond_f (kb (b := decide (a1.Proc = 0)) rfl (decide_eq_false h20)) ?_
      refine WCode.skip ?_
      refine WEx.then_ ?_
      refine WCode.seq ?_
      refine WCode.region ?_
      refine WOps.p (G.field T.fld74_6 rfl (show 0 + 6 = 6 from rfl)) rfl ?_
      refine WOps.r (G.load1 T.one3 rfl (cell_blk (S18.blk 0 rfl) rfl)) rfl ?_
      refine WOps.p (G.field T.fld74_8 rfl (show 0 + 8 = 8 from rfl)) rfl ?_
      refine WOps.r (G.load1 T.one9 rfl (cell_blk (S18.blk 0 rfl) rfl)) rfl ?_
      obtain ⟨t26, hc27, hF⟩ := bind_some hF
      refine WOps.call T.call54 (evs_cons rfl (evs_cons rfl evs_nil)) rfl ?_
      refine (sv_would_calls k a1.Proc a1.Args hc27).mono ?_
      rintro _ w28 ⟨rfl, T29⟩
      have S30 := St.callN (As := []) S18 T29
      change St _ _ _ [[(b8, .cells #[.bool a1.Other, .bool a1.Near, .bool a1.None, .int .i64 a1.What, .int .i64 a1.Prog, .int .i64 a1.Vers, .int .i64 a1.Proc, .slice A1_1 a1.Procs.length c1_1, .string (bs a1.Args)] 74 (0, 0))]] at S30
      refine ⟨_, rfl, ?_⟩
      refine WOps.p (G.extract rfl rfl) rfl ?_
      refine WOps.p (G.extract rfl rfl) rfl ?_
      refine WOps.p (G.assign rfl) rfl ?_
      refine WOps.p (G.assign rfl) rfl ?_
      refine WOps.nil ?_
      refine WEx.then_ ?_
      refine WCode.forget (l' := [(4, .int .i64 t26.1), (5, .string (bs t26.2))]) ⟨rfl, rfl, trivial⟩ ?_
      refine WCode.ret ?_
      obtain rfl := some_eq hF
      refine WEx.ret2 rfl rfl rfl ?_
      exact ⟨rfl, St.keep (As := []) S30⟩
  ·
    refine WCode.cond_t (kb (b := !(decide (t14.1 = 0))) rfl (show (!(decide (t14.1 = 0))) = true from by rw [(decide_eq_false h19)]; rfl)) ?_
    refine WCode.seq ?_
    refine WCode.region ?_
    refine WOps.p (G.move rfl) rfl ?_
    refine WOps.p (G.assign rfl) rfl ?_
    refine WOps.p (G.assign rfl) rfl ?_
    refine WOps.nil ?_
    refine WEx.then_ ?_
    refine WCode.ret ?_
    refine WEx.then_ret ?_
    obtain rfl := some_eq hF
    refine WEx.ret2 rfl rfl rfl ?_
    exact ⟨rfl, St.keep (As := []) S18⟩

end Go.Proofs.Ytpdpfiaediadgaa
