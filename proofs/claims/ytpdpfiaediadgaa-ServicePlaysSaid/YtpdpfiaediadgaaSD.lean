/- Functions and their walks (printed by auto.py over the engine). -/
import Derived.Test.YtpdpfiaediadgaaProg
import Derived.Test.YtpdpfiaediadgaaSH
namespace Go.Proofs.Ytpdpfiaediadgaa
open Go Go.Eng
set_option linter.unusedSimpArgs false
set_option linter.unusedVariables false

theorem T.call26 : Callable Try.prog 26 := Callable.mk Try.func26 (by kernel_rfl) (by kernel_rfl)
theorem T.call29 : Callable Try.prog 29 := Callable.mk Try.func29 (by kernel_rfl) (by kernel_rfl)
theorem T.call31 : Callable Try.prog 31 := Callable.mk Try.func31 (by kernel_rfl) (by kernel_rfl)
theorem T.call34 : Callable Try.prog 34 := Callable.mk Try.func34 (by kernel_rfl) (by kernel_rfl)
theorem T.call52 : Callable Try.prog 52 := Callable.mk Try.func52 (by kernel_rfl) (by kernel_rfl)


def sv_Run.j1 (q17 : Nat) (a0 : Registry) (a1 : Int) (a2 : Int) (a3 : Int) (a4 : List UInt8) (b14 : Bool) : Option (Int × (List UInt8)) := (if b14 = true then (some (4, ([] : List UInt8))) else (if a3 = 0 then (some (0, ([] : List UInt8))) else (Option.bind (sv_place q17 a0 a1 a2) fun t24 => (Option.bind (idx a0.l t24) fun x29 => (Option.bind (sv_handled q17 x29.Handle a3 a4) fun t42 => (if t42.1 = 4 then (some (4, ([] : List UInt8))) else (if t42.1 = 0 then (if 1000 < (t42.2.length : Int) then (some (5, ([] : List UInt8))) else (if (Int.tmod (t42.2.length : Int) 4) = 0 then (some (t42.1, t42.2)) else (some (5, ([] : List UInt8))))) else (some (5, ([] : List UInt8))))))))))
def sv_Run (k : Nat) (a0 : Registry) (a1 : Int) (a2 : Int) (a3 : Int) (a4 : List UInt8) : Option (Int × (List UInt8)) := (Option.bind (sv_Find k a0 a1 a2 a3) fun t8 => (if t8.1 = 0 then (if a3 = 0 then (sv_Run.j1 k a0 a1 a2 a3 a4 (!(decide (a4 = ([] : List UInt8))))) else (sv_Run.j1 k a0 a1 a2 a3 a4 false)) else (some (t8.1, ([] : List UInt8)))))
set_option maxRecDepth 100000 in
set_option maxHeartbeats 1000000 in
theorem sv_Run_calls (k : Nat) (a0 : Registry) {p0 : Nat} {F0 : Nat → Prop} (a1 : Int) (a2 : Int) (a3 : Int) (a4 : List UInt8) {w : World} (hP0 : PtR 108 Registry.rp w F0 p0 a0) (hF0 : ∀ b, F0 b → NK w [] b) {r_ : Int × (List UInt8)} (h_ : sv_Run k a0 a1 a2 a3 a4 = some r_) :
    Calls Try.prog 31 [.pointer (some ⟨p0, 0, none⟩), .int .i64 a1, .int .i64 a2, .int .i64 a3, .string (bs a4)].toArray w fun e w' => e = .returned (.tuple #[.int .i64 r_.1, .string (bs r_.2)]) ∧ St w (KS []) w' [] := by
  have hF := h_
  clear h_
  unfold sv_Run at hF
  have S := St.ofFalse (As := []) (St.init0 w)
  have hPq0 := hP0
  obtain ⟨cs1, hB2, hf3, A5, c6, hq4, hR7⟩ := hPq0
  subst hq4
  change _ = some (Obj.cells #[.slice A5 a0.l.length c6] 108 (0, 0)) at hB2
  refine enter 76 [(0, .pointer (some ⟨p0, 0, none⟩)), (1, .int .i64 a1), (2, .int .i64 a2), (3, .int .i64 a3), (4, .string (bs a4))] Try.func31 rfl rfl rfl rfl ?_
  refine WCode.seq ?_
  refine WCode.region ?_
  refine WOps.p (G.assign rfl) rfl ?_
  refine WOps.p (G.assign rfl) rfl ?_
  refine WOps.nil ?_
  refine WEx.then_ ?_
  refine WCode.seq ?_
  refine WCode.region ?_
  refine WOps.p (G.move rfl) rfl ?_
  refine WOps.p (G.move rfl) rfl ?_
  refine WOps.p (G.move rfl) rfl ?_
  refine WOps.p (G.move rfl) rfl ?_
  obtain ⟨t8, hc9, hF⟩ := bind_some hF
  refine WOps.call T.call29 (evs_cons rfl (evs_cons rfl (evs_cons rfl (evs_cons rfl evs_nil)))) rfl ?_
  refine (sv_Find_calls k a0 a1 a2 a3 (hP0.ext (S.keepF hF0)) (St.outF (Bs := []) S hF0) hc9).mono ?_
  rintro _ w10 ⟨rfl, T11⟩
  have S12 := St.callN (As := []) S T11
  change St _ _ _ [] at S12
  refine ⟨_, rfl, ?_⟩
  refine WOps.p (G.move rfl) rfl ?_
  refine WOps.p (G.extract rfl rfl) rfl ?_
  refine WOps.p (G.extract rfl rfl) rfl ?_
  refine WOps.p (G.extract rfl rfl) rfl ?_
  refine WOps.p (G.assign rfl) rfl ?_
  refine WOps.p (G.assign rfl) rfl ?_
  refine WOps.p (G.assign rfl) rfl ?_
  refine WOps.nil ?_
  refine WEx.then_ ?_
  refine WCode.forget (l' := [(0, .pointer (some ⟨p0, 0, none⟩)), (1, .int .i64 a1), (2, .int .i64 a2), (3, .int .i64 a3), (4, .string (bs a4)), (12, .int .i64 t8.1)]) ⟨rfl, rfl, rfl, rfl, rfl, rfl, trivial⟩ ?_
  refine WCode.seq ?_
  refine WCode.block ?_
  refine WCode.seq ?_
  refine WCode.region ?_
  refine WOps.p (G.move rfl) rfl ?_
  refine WOps.p (G.neq rfl rfl rfl) rfl ?_
  refine WOps.p (G.assign rfl) rfl ?_
  refine WOps.nil ?_
  refine WEx.then_ ?_
  rcases ite_some hF with ⟨h13, hF⟩ | ⟨h13, hF⟩
  ·
    refine WCode.cond_f (kb (b := !(decide (t8.1 = 0))) rfl (show (!(decide (t8.1 = 0))) = false from by rw [(decide_eq_true h13)]; rfl)) ?_
    refine WCode.cutseq (fun l_ w_ => ∃ q17 : Nat, ∃ b14 : Bool, l_ = [(0, .pointer (some ⟨p0, 0, none⟩)), (1, .int .i64 a1), (2, .int .i64 a2), (3, .int .i64 a3), (4, .string (bs a4)), (30, .bool b14)] ∧ sv_Run.j1 q17 a0 a1 a2 a3 a4 b14 = some r_ ∧ St w (KS []) w_ []) ?_ ?_
    ·
      refine WCode.region ?_
      refine WOps.p (G.move rfl) rfl ?_
      refine WOps.p (G.eql rfl rfl rfl) rfl ?_
      refine WOps.p (G.move rfl) rfl ?_
      rcases ite_some hF with ⟨h19, hF⟩ | ⟨h19, hF⟩
      ·
        refine WOps.on rfl (kbl (b := decide (a3 = 0)) rfl (decide_eq_true h19)) ?_
        refine WOps.p (G.move rfl) rfl ?_
        refine WOps.on rfl (kbl (b := decide (a3 = 0)) rfl (decide_eq_true h19)) ?_
        refine WOps.p (G.neqlb' rfl rfl rfl) rfl ?_
        refine WOps.p (G.pick_t (kb (b := decide (a3 = 0)) rfl (decide_eq_true h19)) rfl) rfl ?_
        refine WOps.p (G.assign rfl) rfl ?_
        refine WOps.nil ?_
        refine WEx.cutend _ ?_ ⟨k, !(decide (a4 = ([] : List UInt8))), rfl, hF, S12⟩
        exact ⟨rfl, rfl, rfl, rfl, rfl, rfl, trivial⟩
      ·
        refine WOps.off rfl (kbl (b := decide (a3 = 0)) rfl (decide_eq_false h19)) rfl rfl ?_
        refine WOps.off rfl (kbl (b := decide (a3 = 0)) rfl (decide_eq_false h19)) rfl rfl ?_
        refine WOps.p (G.pick_f (kb (b := decide (a3 = 0)) rfl (decide_eq_false h19)) rfl) rfl ?_
        refine WOps.p (G.assign rfl) rfl ?_
        refine WOps.nil ?_
        refine WEx.cutend _ ?_ ⟨k, false, rfl, hF, S12⟩
        exact ⟨rfl, rfl, rfl, rfl, rfl, rfl, trivial⟩
    ·
      rintro _ w15 ⟨q17, b14, rfl, hF, S16⟩
      unfold sv_Run.j1 at hF
      rcases ite_some hF with ⟨h20, hF⟩ | ⟨h20, hF⟩
      ·
        refine WCode.cond_t (kb (b := b14) rfl h20) ?_
        refine WCode.seq ?_
        refine WCode.region ?_
        refine WOps.p (G.assign rfl) rfl ?_
        refine WOps.p (G.assign rfl) rfl ?_
        refine WOps.nil ?_
        refine WEx.then_ ?_
        refine WCode.ret ?_
        refine WEx.in_ret ?_
        refine WEx.then_ret ?_
        obtain rfl := some_eq hF
        refine WEx.ret2 rfl rfl rfl ?_
        exact ⟨rfl, St.keep (As := []) S16⟩
      ·
        refine WCode.cond_f (kb (b := b14) rfl (Bool.eq_false_iff.2 h20)) ?_
        refine WCode.seq ?_
        refine WCode.region ?_
        refine WOps.p (G.move rfl) rfl ?_
        refine WOps.p (G.eql rfl rfl rfl) rfl ?_
        refine WOps.p (G.assign rfl) rfl ?_
        refine WOps.nil ?_
        refine WEx.then_ ?_
        rcases ite_some hF with ⟨h21, hF⟩ | ⟨h21, hF⟩
        ·
          refine WCode.cond_t (kb (b := decide (a3 = 0)) rfl (decide_eq_true h21)) ?_
          refine WCode.seq ?_
          refine WCode.region ?_
          refine WOps.p (G.assign rfl) rfl ?_
          refine WOps.p (G.assign rfl) rfl ?_
          refine WOps.nil ?_
          refine WEx.then_ ?_
          refine WCode.ret ?_
          refine WEx.in_ret ?_
          refine WEx.then_ret ?_
          obtain rfl := some_eq hF
          refine WEx.ret2 rfl rfl rfl ?_
          exact ⟨rfl, St.keep (As := []) S16⟩
        ·
          refine WCode.cond_f (kb (b := decide (a3 = 0)) rfl (decide_eq_false h21)) ?_
          refine WCode.skip ?_
          refine WEx.in_normal ?_
          refine WEx.then_ ?_
          refine WCode.seq ?_
          refine WCode.drawH (.one 0 0 (.one 1 0 (.one 2 0 (.one 4 0 (.one 5 0 (.one 6 0 (.one 11 0 (.one 12 0 (.one 3 1 (.one 7 2 (.one 8 0 (.one 9 0 (.one 10 1 (.one 13 2 (.one 14 0 (.one 15 0 (.one 16 0 (.one 17 0 (.one 18 0 .nil))))))))))))))))))) (fun W_ => cellsAt W_ p0 0 [.slice A5 a0.l.length c6] ∧ SlR Service.rp W_ F0 A5 c6 a0.l ∧ True) T.mixed (by kernel_rfl) (by intro _ _ d _ _ h; cases d <;> exact h) rfl rfl (by kernel_rfl) ?_ ?_
          all_goals have S22 := S16.drew
          all_goals generalize w15.drew = w23 at *
          · exact ⟨cellsAt.of_blk ((S22.fr p0 (lt_of_blk hB2) (hF0 p0 hf3).1).trans hB2) rfl, (hR7.ext (S22.keepF hF0)), trivial⟩
          refine WH.p rfl wants (G.move rfl) rfl ?_
          refine WH.p rfl wants (G.nilp rfl) rfl ?_
          refine WH.p rfl wants (G.field T.fld108_0 rfl (show 0 + 0 = 0 from rfl)) rfl ?_
          refine WH.p rfl wants (G.move rfl) rfl ?_
          refine WH.p rfl wants (G.move rfl) rfl ?_
          refine WH.p rfl wants (G.move rfl) rfl ?_
          refine WH.p rfl wants (G.move rfl) rfl ?_
          refine WH.p rfl wants (G.move rfl) rfl ?_
          refine WH.r rfl wants (fun _ h_ => G.load1 T.one106 rfl (cellsAt.at h_.1 0 rfl)) rfl ?_
          obtain ⟨t24, hc25, hF⟩ := bind_some hF
          refine WH.call rfl wants T.call49 (evs_cons rfl (evs_cons rfl (evs_cons rfl evs_nil))) rfl ?_
          refine (sv_place_calls q17 a0 a1 a2 (hP0.ext (S22.keepF hF0)) (St.outF (Bs := []) S22 hF0) hc25).mono ?_
          rintro _ w26 ⟨rfl, T27⟩
          have S28 := St.callN (As := []) S22 T27
          change St _ _ _ [] at S28
          refine ⟨_, rfl, ?_⟩
          refine ⟨⟨cellsAt.of_blk ((S28.fr p0 (lt_of_blk hB2) (hF0 p0 hf3).1).trans hB2) rfl, (hR7.ext (S28.keepF hF0)), trivial⟩, ?_⟩
          obtain ⟨x29, hc30, hF⟩ := bind_some hF
          obtain ⟨j31, ej32, hj33, hl34⟩ := idx_spec hc30
          obtain ⟨b35, o36, cs37, eA38, hf39, hc40, hr41⟩ := SlR.at_ (hR7.ext (S28.keepF hF0)) hj33
          refine WH.p rfl wants (G.idx T.el106 rfl eA38 rfl ej32 hl34) rfl ?_
          refine WH.p rfl wants (G.field T.fld85_3 rfl (show o36 + j31 * 4 + 3 = o36 + j31 * 4 + 3 from rfl)) rfl ?_
          refine WH.r rfl wants (fun _ h_ => G.load1 T.one83 rfl (SlR.leaf h_.2.1 hj33 eA38 (q := 3) (by rintro _ _ _ ⟨_, _, rfl, _⟩; rfl))) rfl ?_
          obtain ⟨t42, hc43, hF⟩ := bind_some hF
          refine WH.call rfl wants T.call52 (evs_cons rfl (evs_cons rfl (evs_cons rfl evs_nil))) rfl ?_
          refine (sv_handled_calls q17 x29.Handle a3 a4 hc43).mono ?_
          rintro _ w44 ⟨rfl, T45⟩
          have S46 := St.callN (As := []) S28 T45
          change St _ _ _ [] at S46
          refine ⟨_, rfl, ?_⟩
          refine ⟨⟨cellsAt.of_blk ((S46.fr p0 (lt_of_blk hB2) (hF0 p0 hf3).1).trans hB2) rfl, (hR7.ext (S46.keepF hF0)), trivial⟩, ?_⟩
          refine WH.p rfl wants (G.move rfl) rfl ?_
          refine WH.p rfl wants (G.extract rfl rfl) rfl ?_
          refine WH.p rfl wants (G.extract rfl rfl) rfl ?_
          refine WH.p rfl wants (G.assign rfl) rfl ?_
          refine WH.p rfl wants (G.assign rfl) rfl ?_
          refine WH.nil ?_
          refine WEx.then_ ?_
          refine WCode.forget (l' := [(15, .int .i64 t42.1), (16, .string (bs t42.2))]) ⟨rfl, rfl, trivial⟩ ?_
          refine WCode.seq ?_
          refine WCode.block ?_
          refine WCode.seq ?_
          refine WCode.region ?_
          refine WOps.p (G.move rfl) rfl ?_
          refine WOps.p (G.eql rfl rfl rfl) rfl ?_
          refine WOps.p (G.assign rfl) rfl ?_
          refine WOps.nil ?_
          refine WEx.then_ ?_
          rcases ite_some hF with ⟨h47, hF⟩ | ⟨h47, hF⟩
          ·
            refine WCode.cond_t (kb (b := decide (t42.1 = 4)) rfl (decide_eq_true h47)) ?_
            refine WCode.seq ?_
            refine WCode.region ?_
            refine WOps.p (G.assign rfl) rfl ?_
            refine WOps.p (G.assign rfl) rfl ?_
            refine WOps.nil ?_
            refine WEx.then_ ?_
            refine WCode.ret ?_
            refine WEx.in_ret ?_
            refine WEx.then_ret ?_
            obtain rfl := some_eq hF
            refine WEx.ret2 rfl rfl rfl ?_
            exact ⟨rfl, St.keep (As := []) S46⟩
          ·
            refine WCode.cond_f (kb (b := decide (t42.1 = 4)) rfl (decide_eq_false h47)) ?_
            refine WCode.seq ?_
            refine WCode.region ?_
            refine WOps.p (G.move rfl) rfl ?_
            refine WOps.p (G.neq rfl rfl rfl) rfl ?_
            refine WOps.p (G.move rfl) rfl ?_
            rcases ite_some hF with ⟨h48, hF⟩ | ⟨h48, hF⟩
            ·
              refine WOps.on rfl (kbl (b := !(decide (t42.1 = 0))) rfl (show (!(decide (t42.1 = 0))) = false from by rw [(decide_eq_true h48)]; rfl)) ?_
              refine WOps.p (G.move rfl) rfl ?_
              refine WOps.on rfl (kbl (b := !(decide (t42.1 = 0))) rfl (show (!(decide (t42.1 = 0))) = false from by rw [(decide_eq_true h48)]; rfl)) ?_
              refine WOps.p (G.lenb T.str9 rfl) rfl ?_
              refine WOps.on rfl (kbl (b := !(decide (t42.1 = 0))) rfl (show (!(decide (t42.1 = 0))) = false from by rw [(decide_eq_true h48)]; rfl)) ?_
              refine WOps.p (G.gtr rfl rfl rfl) rfl ?_
              refine WOps.p (G.pick_f (kb (b := !(decide (t42.1 = 0))) rfl (show (!(decide (t42.1 = 0))) = false from by rw [(decide_eq_true h48)]; rfl)) rfl) rfl ?_
              refine WOps.p (G.move rfl) rfl ?_
              rcases ite_some hF with ⟨h49, hF⟩ | ⟨h49, hF⟩
              ·
                refine WOps.off rfl (kbl (b := decide (1000 < (t42.2.length : Int))) rfl (decide_eq_true h49)) rfl rfl ?_
                refine WOps.off rfl (kbl (b := decide (1000 < (t42.2.length : Int))) rfl (decide_eq_true h49)) rfl rfl ?_
                refine WOps.off rfl (kbl (b := decide (1000 < (t42.2.length : Int))) rfl (decide_eq_true h49)) rfl rfl ?_
                refine WOps.off rfl (kbl (b := decide (1000 < (t42.2.length : Int))) rfl (decide_eq_true h49)) rfl rfl ?_
                refine WOps.p (G.pick_t (kb (b := decide (1000 < (t42.2.length : Int))) rfl (decide_eq_true h49)) rfl) rfl ?_
                refine WOps.p (G.assign rfl) rfl ?_
                refine WOps.nil ?_
                refine WEx.then_ ?_
                refine WCode.forget (l' := [(15, .int .i64 t42.1), (16, .string (bs t42.2)), (60, .bool true)]) ⟨rfl, rfl, rfl, trivial⟩ ?_
                refine WCode.cond_t rfl ?_
                refine WCode.seq ?_
                refine WCode.region ?_
                refine WOps.p (G.assign rfl) rfl ?_
                refine WOps.p (G.assign rfl) rfl ?_
                refine WOps.nil ?_
                refine WEx.then_ ?_
                refine WCode.ret ?_
                refine WEx.in_ret ?_
                refine WEx.then_ret ?_
                obtain rfl := some_eq hF
                refine WEx.ret2 rfl rfl rfl ?_
                exact ⟨rfl, St.keep (As := []) S46⟩
              ·
                refine WOps.on rfl (kbl (b := decide (1000 < (t42.2.length : Int))) rfl (decide_eq_false h49)) ?_
                refine WOps.p (G.move rfl) rfl ?_
                refine WOps.on rfl (kbl (b := decide (1000 < (t42.2.length : Int))) rfl (decide_eq_false h49)) ?_
                refine WOps.p (G.lenb T.str9 rfl) rfl ?_
                refine WOps.on rfl (kbl (b := decide (1000 < (t42.2.length : Int))) rfl (decide_eq_false h49)) ?_
                refine WOps.p (G.remk rfl rfl (by decide)) rfl ?_
                refine WOps.on rfl (kbl (b := decide (1000 < (t42.2.length : Int))) rfl (decide_eq_false h49)) ?_
                refine WOps.p (G.neq rfl rfl rfl) rfl ?_
                refine WOps.p (G.pick_f (kb (b := decide (1000 < (t42.2.length : Int))) rfl (decide_eq_false h49)) rfl) rfl ?_
                refine WOps.p (G.assign rfl) rfl ?_
                refine WOps.nil ?_
                refine WEx.then_ ?_
                refine WCode.forget (l' := [(15, .int .i64 t42.1), (16, .string (bs t42.2)), (60, .bool (!(decide ((Int.tmod (t42.2.length : Int) 4) = 0))))]) ⟨rfl, rfl, rfl, trivial⟩ ?_
                rcases ite_some hF with ⟨h50, hF⟩ | ⟨h50, hF⟩
                ·
                  refine WCode.cond_f (kb (b := !(decide ((Int.tmod (t42.2.length : Int) 4) = 0))) rfl (show (!(decide ((Int.tmod (t42.2.length : Int) 4) = 0))) = false from by rw [(decide_eq_true h50)]; rfl)) ?_
                  refine WCode.skip ?_
                  refine WEx.in_normal ?_
                  refine WEx.then_ ?_
                  refine WCode.seq ?_
                  refine WCode.region ?_
                  refine WOps.p (G.move rfl) rfl ?_
                  refine WOps.p (G.move rfl) rfl ?_
                  refine WOps.p (G.assign rfl) rfl ?_
                  refine WOps.p (G.assign rfl) rfl ?_
                  refine WOps.nil ?_
                  refine WEx.then_ ?_
                  refine WCode.ret ?_
                  obtain rfl := some_eq hF
                  refine WEx.ret2 rfl rfl rfl ?_
                  exact ⟨rfl, St.keep (As := []) S46⟩
                ·
                  refine WCode.cond_t (kb (b := !(decide ((Int.tmod (t42.2.length : Int) 4) = 0))) rfl (show (!(decide ((Int.tmod (t42.2.length : Int) 4) = 0))) = true from by rw [(decide_eq_false h50)]; rfl)) ?_
                  refine WCode.seq ?_
                  refine WCode.region ?_
                  refine WOps.p (G.assign rfl) rfl ?_
                  refine WOps.p (G.assign rfl) rfl ?_
                  refine WOps.nil ?_
                  refine WEx.then_ ?_
                  refine WCode.ret ?_
                  refine WEx.in_ret ?_
                  refine WEx.then_ret ?_
                  obtain rfl := some_eq hF
                  refine WEx.ret2 rfl rfl rfl ?_
                  exact ⟨rfl, St.keep (As := []) S46⟩
            ·
              refine WOps.off rfl (kbl (b := !(decide (t42.1 = 0))) rfl (show (!(decide (t42.1 = 0))) = true from by rw [(decide_eq_false h48)]; rfl)) rfl rfl ?_
              refine WOps.off rfl (kbl (b := !(decide (t42.1 = 0))) rfl (show (!(decide (t42.1 = 0))) = true from by rw [(decide_eq_false h48)]; rfl)) rfl rfl ?_
              refine WOps.off rfl (kbl (b := !(decide (t42.1 = 0))) rfl (show (!(decide (t42.1 = 0))) = true from by rw [(decide_eq_false h48)]; rfl)) rfl rfl ?_
              refine WOps.p (G.pick_t (kb (b := !(decide (t42.1 = 0))) rfl (show (!(decide (t42.1 = 0))) = true from by rw [(decide_eq_false h48)]; rfl)) rfl) rfl ?_
              refine WOps.p (G.move rfl) rfl ?_
              refine WOps.off rfl rfl rfl rfl ?_
              refine WOps.off rfl rfl rfl rfl ?_
              refine WOps.off rfl rfl rfl rfl ?_
              refine WOps.off rfl rfl rfl rfl ?_
              refine WOps.p (G.pick_t rfl rfl) rfl ?_
              refine WOps.p (G.assign rfl) rfl ?_
              refine WOps.nil ?_
              refine WEx.then_ ?_
              refine WCode.forget (l' := [(15, .int .i64 t42.1), (16, .string (bs t42.2)), (60, .bool true)]) ⟨rfl, rfl, rfl, trivial⟩ ?_
              refine WCode.cond_t rfl ?_
              refine WCode.seq ?_
              refine WCode.region ?_
              refine WOps.p (G.assign rfl) rfl ?_
              refine WOps.p (G.assign rfl) rfl ?_
              refine WOps.nil ?_
              refine WEx.then_ ?_
              refine WCode.ret ?_
              refine WEx.in_ret ?_
              refine WEx.then_ret ?_
              obtain rfl := some_eq hF
              refine WEx.ret2 rfl rfl rfl ?_
              exact ⟨rfl, St.keep (As := []) S46⟩
  ·
    refine WCode.cond_t (kb (b := !(decide (t8.1 = 0))) rfl (show (!(decide (t8.1 = 0))) = true from by rw [(decide_eq_false h13)]; rfl)) ?_
    refine WCode.seq ?_
    refine WCode.region ?_
    refine WOps.p (G.move rfl) rfl ?_
    refine WOps.p (G.assign rfl) rfl ?_
    refine WOps.p (G.assign rfl) rfl ?_
    refine WOps.nil ?_
    refine WEx.then_ ?_
    refine WCode.forget (l' := [(10, .int .i64 t8.1), (11, .string (bs ([] : List UInt8)))]) ⟨rfl, rfl, trivial⟩ ?_
    refine WCode.ret ?_
    refine WEx.in_ret ?_
    refine WEx.then_ret ?_
    obtain rfl := some_eq hF
    refine WEx.ret2 rfl rfl rfl ?_
    exact ⟨rfl, St.keep (As := []) S12⟩

def sv_known (k : Nat) : Option Bool := (Option.bind (sv_New k) fun t1 => (Option.bind (sv_Offer k t1 (⟨7, 2, ([1, 4] : List Int), true⟩ : Service)) fun t29 => (Option.bind (sv_Find k t29.2 7 2 4) fun t47 => (Option.bind (sv_Find k t29.2 7 3 1) fun t55 => (Option.bind (sv_Run k t29.2 7 2 1 ([] : List UInt8)) fun t63 => (if t29.1 = 0 then (if t47.1 = 0 then (if t55.1 = 2 then (if t55.2.1 = 2 then (if t55.2.2 = 2 then (if t63.1 = 0 then (some (decide (t63.2 = ([110, 111, 110, 101] : List UInt8)))) else (some false)) else (some false)) else (some false)) else (some false)) else (some false)) else (some false)))))))
set_option maxRecDepth 100000 in
set_option maxHeartbeats 1000000 in
theorem sv_known_calls (k : Nat)  {w : World} {r_ : Bool} (h_ : sv_known k = some r_) :
    Calls Try.prog 25 [].toArray w fun e w' => e = .returned (.bool r_) ∧ St w (KS []) w' [] := by
  have hF := h_
  clear h_
  unfold sv_known at hF
  have S := St.ofFalse (As := []) (St.init0 w)
  refine enter 61 [] Try.func25 rfl rfl rfl rfl ?_
  refine WCode.seq ?_
  refine WCode.region ?_
  refine WOps.p (G.assign rfl) rfl ?_
  refine WOps.nil ?_
  refine WEx.then_ ?_
  refine WCode.seq ?_
  refine WCode.region ?_
  obtain ⟨t1, hc2, hF⟩ := bind_some hF
  refine WOps.call T.call26 evs_nil rfl ?_
  refine (sv_New_calls k hc2).mono ?_
  rintro _ w3 ⟨p6, G7, rfl, hO8, T4⟩
  have S5 := St.callN (As := []) S T4
  change St _ _ _ [G7] at S5
  refine ⟨_, rfl, ?_⟩
  obtain ⟨cs9, G10, ho11, hg12⟩ := hO8
  obtain ⟨A13, c14, G15, rfl, hO16, hq17⟩ := ho11
  have S18 : St _ _ _ [[(p6, .cells #[.slice A13 t1.l.length c14] 108 (0, 0))], G15] := S5.objs (by rw [hg12, hq17]; simp)
  refine WOps.p (G.assign rfl) rfl ?_
  refine WOps.nil ?_
  refine WEx.then_ ?_
  refine WCode.seq ?_
  refine WCode.seq ?_
  refine WCode.region ?_
  refine WOps.p (G.move rfl) rfl ?_
  refine WOps.p (G.eqp_nil Try.underlying65 rfl rfl rfl) rfl ?_
  refine WOps.nil ?_
  refine WEx.then_ ?_
  refine WCode.cond_f rfl ?_
  refine WCode.skip ?_
  refine WEx.then_ ?_
  refine WCode.seq ?_
  refine WCode.region ?_
  refine WOps.p (G.move rfl) rfl ?_
  obtain ⟨b19, w20, E21, S22, X23, L24⟩ := St.lit S18 (P := Try.prog) (t := 49) (e := 3) (n := 2) (vs := [(0, .int .i64 1), (1, .int .i64 4)]) (cs := #[.int .i64 1, .int .i64 4]) (by kernel_rfl)
  change St _ _ _ [[(b19, .cells #[.int .i64 1, .int .i64 4] 3 (0, 0))], [(p6, .cells #[.slice A13 t1.l.length c14] 108 (0, 0))], G15] at S22
  refine WOps.e (E21 (evp_cons rfl (evp_cons rfl evp_nil))) rfl ?_
  refine WOps.p (G.build (cells := #[.int .i64 7, .int .i64 2, .slice (some ⟨b19, 0, none⟩) ([1, 4] : List Int).length 2, .func (.func 35) #[] #[]]) (evp_spec (evp_cons rfl (evp_cons rfl (evp_cons rfl (evp_cons rfl evp_nil))))) (by kernel_rfl)) rfl ?_
  have S25 := S22.front 2 rfl
  change St _ _ _ [G15, [(b19, .cells #[.int .i64 1, .int .i64 4] 3 (0, 0))], [(p6, .cells #[.slice A13 t1.l.length c14] 108 (0, 0))]] at S25
  have S26 := S25.front 2 rfl
  change St _ _ _ [[(p6, .cells #[.slice A13 t1.l.length c14] 108 (0, 0))], G15, [(b19, .cells #[.int .i64 1, .int .i64 4] 3 (0, 0))]] at S26
  have hO27 : ObjO 108 Registry.rp p6 t1 ([(p6, .cells #[.slice A13 t1.l.length c14] 108 (0, 0))] ++ (G15)) := ⟨_, _, ⟨A13, c14, G15, rfl, hO16, rfl⟩, rfl⟩
  have S28 : St _ _ _ [[(p6, .cells #[.slice A13 t1.l.length c14] 108 (0, 0))] ++ (G15), [(b19, .cells #[.int .i64 1, .int .i64 4] 3 (0, 0))]] := S26.objs (by simp)
  obtain ⟨t29, hc30, hF⟩ := bind_some hF
  have hO31 : SlO 3 (Rp.int .i64) (.slice (some ⟨b19, 0, none⟩) ([1, 4] : List Int).length 2) ([1, 4] : List Int) ([(b19, .cells #[.int .i64 1, .int .i64 4] 3 (0, 0))] ++ []) := SlO.lit (GM := []) ⟨_, _, [], [], rfl, rfl, ⟨rfl, rfl⟩, ⟨_, _, [], [], rfl, rfl, ⟨rfl, rfl⟩, ⟨rfl, rfl⟩⟩⟩ rfl (Nat.le_of_ble_eq_true rfl) (Nat.le_of_ble_eq_true rfl)
  rw [List.append_nil] at hO31
  refine WOps.call T.call34 (evs_cons rfl (evs_cons rfl evs_nil)) rfl ?_
  refine (sv_Offer_calls k t1 (⟨7, 2, ([1, 4] : List Int), true⟩ : Service) hO27 (hO31.rd (fun b o hb => S28.grp 1 rfl hb)) (St.outG (Bs := [[(p6, .cells #[.slice A13 t1.l.length c14] 108 (0, 0))] ++ (G15)]) S28 0 rfl) hc30 (St.hpN (As := [[(p6, .cells #[.slice A13 t1.l.length c14] 108 (0, 0))] ++ (G15)]) S28)).mono ?_
  rintro _ w32 ⟨G35, rfl, hO36, T33⟩
  have S34 := St.callN (As := [[(p6, .cells #[.slice A13 t1.l.length c14] 108 (0, 0))] ++ (G15)]) S28 T33
  change St _ _ _ [G35, [(b19, .cells #[.int .i64 1, .int .i64 4] 3 (0, 0))]] at S34
  refine ⟨_, rfl, ?_⟩
  obtain ⟨cs37, G38, ho39, hg40⟩ := hO36
  obtain ⟨A41, c42, G43, rfl, hO44, hq45⟩ := ho39
  have S46 : St _ _ _ [[(p6, .cells #[.slice A41 t29.2.l.length c42] 108 (0, 0))], G43, [(b19, .cells #[.int .i64 1, .int .i64 4] 3 (0, 0))]] := S34.objs (by rw [hg40, hq45]; simp)
  refine WOps.p (G.assign rfl) rfl ?_
  refine WOps.nil ?_
  refine WEx.then_ ?_
  refine WCode.seq ?_
  refine WCode.region ?_
  refine WOps.p (G.move rfl) rfl ?_
  obtain ⟨t47, hc48, hF⟩ := bind_some hF
  have S49 := S46.front 1 rfl
  change St _ _ _ [G43, [(p6, .cells #[.slice A41 t29.2.l.length c42] 108 (0, 0))], [(b19, .cells #[.int .i64 1, .int .i64 4] 3 (0, 0))]] at S49
  have S50 := S49.front 1 rfl
  change St _ _ _ [[(p6, .cells #[.slice A41 t29.2.l.length c42] 108 (0, 0))], G43, [(b19, .cells #[.int .i64 1, .int .i64 4] 3 (0, 0))]] at S50
  have hP51 : PtR 108 Registry.rp w32 (KS [[(p6, .cells #[.slice A41 t29.2.l.length c42] 108 (0, 0))], G43]) p6 t29.2 := ⟨_, S50.blk 0 rfl, KS_at 0 rfl (by simp [keys]), ⟨A41, c42, rfl, ((hO44.rd (fun b o hb => S50.grp 1 rfl hb)).mono (fun b hb => KS_at 1 rfl hb))⟩⟩
  refine WOps.call T.call29 (evs_cons rfl (evs_cons rfl (evs_cons rfl (evs_cons rfl evs_nil)))) rfl ?_
  refine (sv_Find_calls k t29.2 7 2 4 hP51 (St.outN (Bs := []) (As := [[(p6, .cells #[.slice A41 t29.2.l.length c42] 108 (0, 0))], G43]) S50) hc48).mono ?_
  rintro _ w52 ⟨rfl, T53⟩
  have S54 := St.callN (As := []) S50 T53
  change St _ _ _ [[(p6, .cells #[.slice A41 t29.2.l.length c42] 108 (0, 0))], G43, [(b19, .cells #[.int .i64 1, .int .i64 4] 3 (0, 0))]] at S54
  refine ⟨_, rfl, ?_⟩
  refine WOps.p (G.move rfl) rfl ?_
  refine WOps.p (G.extract rfl rfl) rfl ?_
  refine WOps.p (G.extract rfl rfl) rfl ?_
  refine WOps.p (G.extract rfl rfl) rfl ?_
  refine WOps.p (G.assign rfl) rfl ?_
  refine WOps.p (G.assign rfl) rfl ?_
  refine WOps.p (G.assign rfl) rfl ?_
  refine WOps.nil ?_
  refine WEx.then_ ?_
  refine WCode.forget (l' := [(1, .pointer (some ⟨p6, 0, none⟩)), (2, .int .i64 t29.1), (3, .int .i64 t47.1)]) ⟨rfl, rfl, rfl, trivial⟩ ?_
  refine WCode.seq ?_
  refine WCode.region ?_
  refine WOps.p (G.move rfl) rfl ?_
  obtain ⟨t55, hc56, hF⟩ := bind_some hF
  have S57 := S54.front 1 rfl
  change St _ _ _ [G43, [(p6, .cells #[.slice A41 t29.2.l.length c42] 108 (0, 0))], [(b19, .cells #[.int .i64 1, .int .i64 4] 3 (0, 0))]] at S57
  have S58 := S57.front 1 rfl
  change St _ _ _ [[(p6, .cells #[.slice A41 t29.2.l.length c42] 108 (0, 0))], G43, [(b19, .cells #[.int .i64 1, .int .i64 4] 3 (0, 0))]] at S58
  have hP59 : PtR 108 Registry.rp w52 (KS [[(p6, .cells #[.slice A41 t29.2.l.length c42] 108 (0, 0))], G43]) p6 t29.2 := ⟨_, S58.blk 0 rfl, KS_at 0 rfl (by simp [keys]), ⟨A41, c42, rfl, ((hO44.rd (fun b o hb => S58.grp 1 rfl hb)).mono (fun b hb => KS_at 1 rfl hb))⟩⟩
  refine WOps.call T.call29 (evs_cons rfl (evs_cons rfl (evs_cons rfl (evs_cons rfl evs_nil)))) rfl ?_
  refine (sv_Find_calls k t29.2 7 3 1 hP59 (St.outN (Bs := []) (As := [[(p6, .cells #[.slice A41 t29.2.l.length c42] 108 (0, 0))], G43]) S58) hc56).mono ?_
  rintro _ w60 ⟨rfl, T61⟩
  have S62 := St.callN (As := []) S58 T61
  change St _ _ _ [[(p6, .cells #[.slice A41 t29.2.l.length c42] 108 (0, 0))], G43, [(b19, .cells #[.int .i64 1, .int .i64 4] 3 (0, 0))]] at S62
  refine ⟨_, rfl, ?_⟩
  refine WOps.p (G.move rfl) rfl ?_
  refine WOps.p (G.extract rfl rfl) rfl ?_
  refine WOps.p (G.extract rfl rfl) rfl ?_
  refine WOps.p (G.extract rfl rfl) rfl ?_
  refine WOps.p (G.assign rfl) rfl ?_
  refine WOps.p (G.assign rfl) rfl ?_
  refine WOps.p (G.assign rfl) rfl ?_
  refine WOps.nil ?_
  refine WEx.then_ ?_
  refine WCode.seq ?_
  refine WCode.region ?_
  refine WOps.p (G.move rfl) rfl ?_
  obtain ⟨t63, hc64, hF⟩ := bind_some hF
  have S65 := S62.front 1 rfl
  change St _ _ _ [G43, [(p6, .cells #[.slice A41 t29.2.l.length c42] 108 (0, 0))], [(b19, .cells #[.int .i64 1, .int .i64 4] 3 (0, 0))]] at S65
  have S66 := S65.front 1 rfl
  change St _ _ _ [[(p6, .cells #[.slice A41 t29.2.l.length c42] 108 (0, 0))], G43, [(b19, .cells #[.int .i64 1, .int .i64 4] 3 (0, 0))]] at S66
  have hP67 : PtR 108 Registry.rp w60 (KS [[(p6, .cells #[.slice A41 t29.2.l.length c42] 108 (0, 0))], G43]) p6 t29.2 := ⟨_, S66.blk 0 rfl, KS_at 0 rfl (by simp [keys]), ⟨A41, c42, rfl, ((hO44.rd (fun b o hb => S66.grp 1 rfl hb)).mono (fun b hb => KS_at 1 rfl hb))⟩⟩
  refine WOps.call T.call31 (evs_cons rfl (evs_cons rfl (evs_cons rfl (evs_cons rfl (evs_cons rfl evs_nil))))) rfl ?_
  refine (sv_Run_calls k t29.2 7 2 1 ([] : List UInt8) hP67 (St.outN (Bs := []) (As := [[(p6, .cells #[.slice A41 t29.2.l.length c42] 108 (0, 0))], G43]) S66) hc64).mono ?_
  rintro _ w68 ⟨rfl, T69⟩
  have S70 := St.callN (As := []) S66 T69
  change St _ _ _ [[(p6, .cells #[.slice A41 t29.2.l.length c42] 108 (0, 0))], G43, [(b19, .cells #[.int .i64 1, .int .i64 4] 3 (0, 0))]] at S70
  refine ⟨_, rfl, ?_⟩
  refine WOps.p (G.move rfl) rfl ?_
  refine WOps.p (G.extract rfl rfl) rfl ?_
  refine WOps.p (G.extract rfl rfl) rfl ?_
  refine WOps.p (G.assign rfl) rfl ?_
  refine WOps.p (G.assign rfl) rfl ?_
  refine WOps.nil ?_
  refine WEx.then_ ?_
  refine WCode.forget (l' := [(2, .int .i64 t29.1), (3, .int .i64 t47.1), (6, .int .i64 t55.1), (7, .int .i64 t55.2.1), (8, .int .i64 t55.2.2), (9, .int .i64 t63.1), (10, .string (bs t63.2))]) ⟨rfl, rfl, rfl, rfl, rfl, rfl, rfl, trivial⟩ ?_
  refine WCode.seq ?_
  refine WCode.region ?_
  refine WOps.p (G.move rfl) rfl ?_
  refine WOps.p (G.eql rfl rfl rfl) rfl ?_
  refine WOps.p (G.move rfl) rfl ?_
  rcases ite_some hF with ⟨h71, hF⟩ | ⟨h71, hF⟩
  ·
    refine WOps.on rfl (kbl (b := decide (t29.1 = 0)) rfl (decide_eq_true h71)) ?_
    refine WOps.p (G.move rfl) rfl ?_
    refine WOps.on rfl (kbl (b := decide (t29.1 = 0)) rfl (decide_eq_true h71)) ?_
    refine WOps.p (G.eql rfl rfl rfl) rfl ?_
    refine WOps.p (G.pick_t (kb (b := decide (t29.1 = 0)) rfl (decide_eq_true h71)) rfl) rfl ?_
    refine WOps.p (G.move rfl) rfl ?_
    rcases ite_some hF with ⟨h72, hF⟩ | ⟨h72, hF⟩
    ·
      refine WOps.on rfl (kbl (b := decide (t47.1 = 0)) rfl (decide_eq_true h72)) ?_
      refine WOps.p (G.move rfl) rfl ?_
      refine WOps.on rfl (kbl (b := decide (t47.1 = 0)) rfl (decide_eq_true h72)) ?_
      refine WOps.p (G.eql rfl rfl rfl) rfl ?_
      refine WOps.p (G.pick_t (kb (b := decide (t47.1 = 0)) rfl (decide_eq_true h72)) rfl) rfl ?_
      refine WOps.p (G.move rfl) rfl ?_
      rcases ite_some hF with ⟨h73, hF⟩ | ⟨h73, hF⟩
      ·
        refine WOps.on rfl (kbl (b := decide (t55.1 = 2)) rfl (decide_eq_true h73)) ?_
        refine WOps.p (G.move rfl) rfl ?_
        refine WOps.on rfl (kbl (b := decide (t55.1 = 2)) rfl (decide_eq_true h73)) ?_
        refine WOps.p (G.eql rfl rfl rfl) rfl ?_
        refine WOps.p (G.pick_t (kb (b := decide (t55.1 = 2)) rfl (decide_eq_true h73)) rfl) rfl ?_
        refine WOps.p (G.move rfl) rfl ?_
        rcases ite_some hF with ⟨h74, hF⟩ | ⟨h74, hF⟩
        ·
          refine WOps.on rfl (kbl (b := decide (t55.2.1 = 2)) rfl (decide_eq_true h74)) ?_
          refine WOps.p (G.move rfl) rfl ?_
          refine WOps.on rfl (kbl (b := decide (t55.2.1 = 2)) rfl (decide_eq_true h74)) ?_
          refine WOps.p (G.eql rfl rfl rfl) rfl ?_
          refine WOps.p (G.pick_t (kb (b := decide (t55.2.1 = 2)) rfl (decide_eq_true h74)) rfl) rfl ?_
          refine WOps.p (G.move rfl) rfl ?_
          rcases ite_some hF with ⟨h75, hF⟩ | ⟨h75, hF⟩
          ·
            refine WOps.on rfl (kbl (b := decide (t55.2.2 = 2)) rfl (decide_eq_true h75)) ?_
            refine WOps.p (G.move rfl) rfl ?_
            refine WOps.on rfl (kbl (b := decide (t55.2.2 = 2)) rfl (decide_eq_true h75)) ?_
            refine WOps.p (G.eql rfl rfl rfl) rfl ?_
            refine WOps.p (G.pick_t (kb (b := decide (t55.2.2 = 2)) rfl (decide_eq_true h75)) rfl) rfl ?_
            refine WOps.p (G.move rfl) rfl ?_
            rcases ite_some hF with ⟨h76, hF⟩ | ⟨h76, hF⟩
            ·
              refine WOps.on rfl (kbl (b := decide (t63.1 = 0)) rfl (decide_eq_true h76)) ?_
              refine WOps.p (G.move rfl) rfl ?_
              refine WOps.on rfl (kbl (b := decide (t63.1 = 0)) rfl (decide_eq_true h76)) ?_
              refine WOps.p (G.eqlb' rfl rfl rfl) rfl ?_
              refine WOps.p (G.pick_t (kb (b := decide (t63.1 = 0)) rfl (decide_eq_true h76)) rfl) rfl ?_
              refine WOps.p (G.assign rfl) rfl ?_
              refine WOps.nil ?_
              refine WEx.then_ ?_
              refine WCode.forget (l' := [(0, .bool (decide (t63.2 = ([110, 111, 110, 101] : List UInt8))))]) ⟨rfl, trivial⟩ ?_
              refine WCode.ret ?_
              obtain rfl := some_eq hF
              refine WEx.ret1 rfl rfl ?_
              exact ⟨rfl, St.keep (As := []) S70⟩
            ·
              refine WOps.off rfl (kbl (b := decide (t63.1 = 0)) rfl (decide_eq_false h76)) rfl rfl ?_
              refine WOps.off rfl (kbl (b := decide (t63.1 = 0)) rfl (decide_eq_false h76)) rfl rfl ?_
              refine WOps.p (G.pick_f (kb (b := decide (t63.1 = 0)) rfl (decide_eq_false h76)) rfl) rfl ?_
              refine WOps.p (G.assign rfl) rfl ?_
              refine WOps.nil ?_
              refine WEx.then_ ?_
              refine WCode.forget (l' := [(0, .bool false)]) ⟨rfl, trivial⟩ ?_
              refine WCode.ret ?_
              obtain rfl := some_eq hF
              refine WEx.ret1 rfl rfl ?_
              exact ⟨rfl, St.keep (As := []) S70⟩
          ·
            refine WOps.off rfl (kbl (b := decide (t55.2.2 = 2)) rfl (decide_eq_false h75)) rfl rfl ?_
            refine WOps.off rfl (kbl (b := decide (t55.2.2 = 2)) rfl (decide_eq_false h75)) rfl rfl ?_
            refine WOps.p (G.pick_f (kb (b := decide (t55.2.2 = 2)) rfl (decide_eq_false h75)) rfl) rfl ?_
            refine WOps.p (G.move rfl) rfl ?_
            refine WOps.off rfl rfl rfl rfl ?_
            refine WOps.off rfl rfl rfl rfl ?_
            refine WOps.p (G.pick_f rfl rfl) rfl ?_
            refine WOps.p (G.assign rfl) rfl ?_
            refine WOps.nil ?_
            refine WEx.then_ ?_
            refine WCode.forget (l' := [(0, .bool false)]) ⟨rfl, trivial⟩ ?_
            refine WCode.ret ?_
            obtain rfl := some_eq hF
            refine WEx.ret1 rfl rfl ?_
            exact ⟨rfl, St.keep (As := []) S70⟩
        ·
          refine WOps.off rfl (kbl (b := decide (t55.2.1 = 2)) rfl (decide_eq_false h74)) rfl rfl ?_
          refine WOps.off rfl (kbl (b := decide (t55.2.1 = 2)) rfl (decide_eq_false h74)) rfl rfl ?_
          refine WOps.p (G.pick_f (kb (b := decide (t55.2.1 = 2)) rfl (decide_eq_false h74)) rfl) rfl ?_
          refine WOps.p (G.move rfl) rfl ?_
          refine WOps.off rfl rfl rfl rfl ?_
          refine WOps.off rfl rfl rfl rfl ?_
          refine WOps.p (G.pick_f rfl rfl) rfl ?_
          refine WOps.p (G.move rfl) rfl ?_
          refine WOps.off rfl rfl rfl rfl ?_
          refine WOps.off rfl rfl rfl rfl ?_
          refine WOps.p (G.pick_f rfl rfl) rfl ?_
          refine WOps.p (G.assign rfl) rfl ?_
          refine WOps.nil ?_
          refine WEx.then_ ?_
          refine WCode.forget (l' := [(0, .bool false)]) ⟨rfl, trivial⟩ ?_
          refine WCode.ret ?_
          obtain rfl := some_eq hF
          refine WEx.ret1 rfl rfl ?_
          exact ⟨rfl, St.keep (As := []) S70⟩
      ·
        refine WOps.off rfl (kbl (b := decide (t55.1 = 2)) rfl (decide_eq_false h73)) rfl rfl ?_
        refine WOps.off rfl (kbl (b := decide (t55.1 = 2)) rfl (decide_eq_false h73)) rfl rfl ?_
        refine WOps.p (G.pick_f (kb (b := decide (t55.1 = 2)) rfl (decide_eq_false h73)) rfl) rfl ?_
        refine WOps.p (G.move rfl) rfl ?_
        refine WOps.off rfl rfl rfl rfl ?_
        refine WOps.off rfl rfl rfl rfl ?_
        refine WOps.p (G.pick_f rfl rfl) rfl ?_
        refine WOps.p (G.move rfl) rfl ?_
        refine WOps.off rfl rfl rfl rfl ?_
        refine WOps.off rfl rfl rfl rfl ?_
        refine WOps.p (G.pick_f rfl rfl) rfl ?_
        refine WOps.p (G.move rfl) rfl ?_
        refine WOps.off rfl rfl rfl rfl ?_
        refine WOps.off rfl rfl rfl rfl ?_
        refine WOps.p (G.pick_f rfl rfl) rfl ?_
        refine WOps.p (G.assign rfl) rfl ?_
        refine WOps.nil ?_
        refine WEx.then_ ?_
        refine WCode.forget (l' := [(0, .bool false)]) ⟨rfl, trivial⟩ ?_
        refine WCode.ret ?_
        obtain rfl := some_eq hF
        refine WEx.ret1 rfl rfl ?_
        exact ⟨rfl, St.keep (As := []) S70⟩
    ·
      refine WOps.off rfl (kbl (b := decide (t47.1 = 0)) rfl (decide_eq_false h72)) rfl rfl ?_
      refine WOps.off rfl (kbl (b := decide (t47.1 = 0)) rfl (decide_eq_false h72)) rfl rfl ?_
      refine WOps.p (G.pick_f (kb (b := decide (t47.1 = 0)) rfl (decide_eq_false h72)) rfl) rfl ?_
      refine WOps.p (G.move rfl) rfl ?_
      refine WOps.off rfl rfl rfl rfl ?_
      refine WOps.off rfl rfl rfl rfl ?_
      refine WOps.p (G.pick_f rfl rfl) rfl ?_
      refine WOps.p (G.move rfl) rfl ?_
      refine WOps.off rfl rfl rfl rfl ?_
      refine WOps.off rfl rfl rfl rfl ?_
      refine WOps.p (G.pick_f rfl rfl) rfl ?_
      refine WOps.p (G.move rfl) rfl ?_
      refine WOps.off rfl rfl rfl rfl ?_
      refine WOps.off rfl rfl rfl rfl ?_
      refine WOps.p (G.pick_f rfl rfl) rfl ?_
      refine WOps.p (G.move rfl) rfl ?_
      refine WOps.off rfl rfl rfl rfl ?_
      refine WOps.off rfl rfl rfl rfl ?_
      refine WOps.p (G.pick_f rfl rfl) rfl ?_
      refine WOps.p (G.assign rfl) rfl ?_
      refine WOps.nil ?_
      refine WEx.then_ ?_
      refine WCode.forget (l' := [(0, .bool false)]) ⟨rfl, trivial⟩ ?_
      refine WCode.ret ?_
      obtain rfl := some_eq hF
      refine WEx.ret1 rfl rfl ?_
      exact ⟨rfl, St.keep (As := []) S70⟩
  ·
    refine WOps.off rfl (kbl (b := decide (t29.1 = 0)) rfl (decide_eq_false h71)) rfl rfl ?_
    refine WOps.off rfl (kbl (b := decide (t29.1 = 0)) rfl (decide_eq_false h71)) rfl rfl ?_
    refine WOps.p (G.pick_f (kb (b := decide (t29.1 = 0)) rfl (decide_eq_false h71)) rfl) rfl ?_
    refine WOps.p (G.move rfl) rfl ?_
    refine WOps.off rfl rfl rfl rfl ?_
    refine WOps.off rfl rfl rfl rfl ?_
    refine WOps.p (G.pick_f rfl rfl) rfl ?_
    refine WOps.p (G.move rfl) rfl ?_
    refine WOps.off rfl rfl rfl rfl ?_
    refine WOps.off rfl rfl rfl rfl ?_
    refine WOps.p (G.pick_f rfl rfl) rfl ?_
    refine WOps.p (G.move rfl) rfl ?_
    refine WOps.off rfl rfl rfl rfl ?_
    refine WOps.off rfl rfl rfl rfl ?_
    refine WOps.p (G.pick_f rfl rfl) rfl ?_
    refine WOps.p (G.move rfl) rfl ?_
    refine WOps.off rfl rfl rfl rfl ?_
    refine WOps.off rfl rfl rfl rfl ?_
    refine WOps.p (G.pick_f rfl rfl) rfl ?_
    refine WOps.p (G.move rfl) rfl ?_
    refine WOps.off rfl rfl rfl rfl ?_
    refine WOps.off rfl rfl rfl rfl ?_
    refine WOps.p (G.pick_f rfl rfl) rfl ?_
    refine WOps.p (G.assign rfl) rfl ?_
    refine WOps.nil ?_
    refine WEx.then_ ?_
    refine WCode.forget (l' := [(0, .bool false)]) ⟨rfl, trivial⟩ ?_
    refine WCode.ret ?_
    obtain rfl := some_eq hF
    refine WEx.ret1 rfl rfl ?_
    exact ⟨rfl, St.keep (As := []) S70⟩

end Go.Proofs.Ytpdpfiaediadgaa
