/- syntax.Parse: walked by hand over the walks of what it calls. -/
import Derived.Test.YtnhifhlbelogcaaDoorPH
set_option linter.unusedVariables false
set_option linter.unusedSimpArgs false
namespace Go.Proofs.YtnhifhlbelogcaaDoor
open Go Go.Eng
theorem U.call12 : Callable Tryd.prog 12 := Callable.mk Tryd.func12 (by kernel_rfl) (by kernel_rfl)
theorem U.call14 : Callable Tryd.prog 14 := Callable.mk Tryd.func14 (by kernel_rfl) (by kernel_rfl)
theorem U.call15 : Callable Tryd.prog 15 := Callable.mk Tryd.func15 (by kernel_rfl) (by kernel_rfl)
theorem U.zero29 : zeroOf Tryd.prog 24 = some (.agg noTree.toArray) := by kernel_rfl
theorem U.zero30 : zeroOf Tryd.prog 29 = some (.int .i64 0) := by kernel_rfl
theorem U.zero3 : zeroOf Tryd.prog 3 = some (.int .i64 0) := by kernel_rfl
theorem U.agg29 : isAggT Tryd.prog 24 5 = true := by kernel_rfl
/-- What a panic's value says. -/
def faultOf : Value → Option (Int × Int)
  | .iface T (.agg cs) => match T, cs.toList with
    | 51, [.int .i64 e, .int .i64 a] => some (e, a)
    | _, _ => none
  | _ => none
theorem faultOf_spec {v : Value} {f : Int × Int} (h : faultOf v = some f) : v = faultV f.1 f.2 := by
  unfold faultOf at h
  split at h
  · rename_i T cs
    split at h
    · rename_i e a hcs
      cases h
      show Value.iface 51 (.agg cs) = _
      have : cs = #[.int .i64 e, .int .i64 a] := by
        have := congrArg List.toArray hcs
        simpa using this
      rw [this]
    · cases h
  · cases h
def ps_Parse (k : Nat) (a0 : List UInt8) : Option (Tree × Int × Int) :=
  Option.bind (lx_Scan k a0) fun t => if t.2.1 = 0 then Option.bind (ps_source k (⟨t.1, 0, 0⟩ : ParK)) fun r => (if (r.1).isSome = true then Option.bind (r.1) fun v => Option.bind (faultOf v) fun f => some ((⟨0, [], 0, 0, []⟩ : Tree), f.1, f.2) else some (r.2.1, 0, 0)) else some ((⟨0, [], 0, 0, []⟩ : Tree), t.2.1, t.2.2)
theorem results9 {w : World} {N : FN} {l : Fr} {b2 b3 b4 : Nat} {cs : List Value} {x y : Int} (h2 : Go.Eng.look l 2 = some (.pointer (some ⟨b2, 0, none⟩))) (h3 : Go.Eng.look l 3 = some (.pointer (some ⟨b3, 0, none⟩))) (h4 : Go.Eng.look l 4 = some (.pointer (some ⟨b4, 0, none⟩)))
    (hl : cs.length = 5) (c2 : cellsAt w b2 0 cs) (c3 : w.heap[b3]? = some (.cells #[.int .i64 x] 29 (0, 0))) (c4 : w.heap[b4]? = some (.cells #[.int .i64 y] 3 (0, 0))) :
    ∀ a, Has N l a → (results Tryd.f10 a.tmps).run Tryd.prog w = .ok (.tuple #[.agg cs.toArray, .int .i64 x, .int .i64 y]) w := fun a ha => by
  have hres : Tryd.f10.results = #[.cell 2 24, .cell 3 29, .cell 4 3] := rfl
  have r1 := run_loadAgg (P := Tryd.prog) (t := 24) (b := b2) (off := 0) (cs := cs) (by rw [hl]; exact U.agg29) c2
  have r2 := (by simp [loadVar, isOne_run U.one30, cell_blk c3 (off := 0) rfl] : (loadVar 29 ⟨b3, 0, none⟩).run Tryd.prog w = .ok (.int .i64 x) w)
  have r3 := (by simp [loadVar, isOne_run U.one3, cell_blk c4 (off := 0) rfl] : (loadVar 3 ⟨b4, 0, none⟩).run Tryd.prog w = .ok (.int .i64 y) w)
  unfold results
  rw [hres]
  simp [(ha.at_ _ _ h2).2, (ha.at_ _ _ h3).2, (ha.at_ _ _ h4).2, asAddr, r1, r2, r3]
set_option maxRecDepth 100000 in
set_option maxHeartbeats 1000000 in
theorem ps_Parse_calls (k : Nat) (a0 : List UInt8) {FG : Nat → Prop} {w : World} (hGl : Glob FG w) (hFG : ∀ b, FG b → NK w [] b) {r_ : Tree × Int × Int} (h_ : ps_Parse k a0 = some r_) :
    Calls Tryd.prog 10 [.string (bs a0)].toArray w fun e w' => ∃ A0_1' : Option Addr, ∃ c0_1' : Nat, ∃ G0_1' : Grp, e = .returned (.tuple #[.agg #[.int .i64 r_.1.Kind, .string (bs r_.1.Name), .int .i64 r_.1.Number, .int .i64 r_.1.At, .slice A0_1' (r_.1.Kids).length c0_1'], .int .i64 r_.2.1, .int .i64 r_.2.2]) ∧ SlO 24 Tree.rp (.slice A0_1' (r_.1.Kids).length c0_1') (r_.1.Kids) G0_1' ∧ St w (KS []) w' [G0_1'] := by
  have hF := h_
  clear h_
  unfold ps_Parse at hF
  obtain ⟨t, hc, hF⟩ := bind_some hF
  have S := St.ofFalse (As := []) (St.init0 w)
  refine enterD 24 [(0, .string (bs a0))] Tryd.func10 rfl rfl rfl rfl ?_
  refine WCode.seq ?_
  refine WCode.region ?_
  obtain ⟨b2, w1, E1, S1, X1, L1⟩ := St.var S U.zero29
  refine WOps.e E1 rfl ?_
  obtain ⟨b3, w2, E2, S2, X2, L2⟩ := St.var S1 U.zero30
  refine WOps.e E2 rfl ?_
  obtain ⟨b4, w3, E3, S3, X3, L3⟩ := St.var S2 U.zero3
  refine WOps.e E3 rfl ?_
  refine WOps.nil ?_
  refine WEx.then_ ?_
  refine WCode.seq ?_
  refine WCode.region ?_
  refine WOps.p (G.move rfl) rfl ?_
  change St _ _ _ [[(b4, .cells #[.int .i64 0] 3 (0, 0))], [(b3, .cells #[.int .i64 0] 29 (0, 0))], [(b2, .cells noTree.toArray 24 (0, 0))]] at S3
  refine WOps.call U.call12 (evs_cons rfl evs_nil) rfl ?_
  refine (lx_Scan_calls k a0 (hGl.ext (S3.keepF hFG)) (St.outF (Bs := []) S3 hFG) hc).mono ?_
  rintro _ w4 ⟨A5, c5, G5, rfl, hO5, T4⟩
  refine ⟨_, rfl, ?_⟩
  have S4 := St.callN (As := []) S3 T4
  change St _ _ _ [G5, [(b4, .cells #[.int .i64 0] 3 (0, 0))], [(b3, .cells #[.int .i64 0] 29 (0, 0))], [(b2, .cells noTree.toArray 24 (0, 0))]] at S4
  refine WOps.p (G.move rfl) rfl ?_
  refine WOps.p (G.extract rfl rfl) rfl ?_
  refine WOps.p (G.extract rfl rfl) rfl ?_
  refine WOps.p (G.extract rfl rfl) rfl ?_
  refine WOps.p (G.assign rfl) rfl ?_
  obtain ⟨w5, E5, S5⟩ := St.store (P := Tryd.prog) S4 2 29 (.int .i64 t.2.1) (off := 0) (cur' := #[.int .i64 t.2.1]) rfl U.size30_1 rfl rfl rfl
  refine WOps.u (E5 rfl rfl) ?_
  obtain ⟨w6, E6, S6⟩ := St.store (P := Tryd.prog) S5 1 3 (.int .i64 t.2.2) (off := 0) (cur' := #[.int .i64 t.2.2]) rfl U.size3_1 rfl rfl rfl
  refine WOps.u (E6 rfl rfl) ?_
  change St _ _ _ [G5, [(b4, .cells #[.int .i64 t.2.2] 3 (0, 0))], [(b3, .cells #[.int .i64 t.2.1] 29 (0, 0))], [(b2, .cells noTree.toArray 24 (0, 0))]] at S6
  refine WOps.nil ?_
  refine WEx.then_ ?_
  refine WCode.seq ?_
  refine WCode.seq ?_
  refine WCode.region ?_
  refine WOps.r (G.load1 U.one30 rfl (cell_blk (S6.blk 2 rfl) rfl)) rfl ?_
  refine WOps.p (G.neq rfl rfl rfl) rfl ?_
  refine WOps.nil ?_
  refine WEx.then_ ?_
  rcases ite_some hF with ⟨h0, hF⟩ | ⟨h0, hF⟩
  · refine WCode.cond_f (kb (b := !decide (t.2.1 = 0)) rfl (by simp [h0])) ?_
    refine WCode.skip ?_
    refine WEx.then_ ?_
    obtain ⟨r, hc2, hF⟩ := bind_some hF
    refine WCode.seq ?_
    refine WCode.region ?_
    refine WOps.p (G.move rfl) rfl ?_
    refine WOps.p (G.build (cells := #[.slice A5 t.1.length c5, .int .i64 0, .int .i64 0]) (evp_spec (evp_cons rfl evp_nil)) (by kernel_rfl)) rfl ?_
    obtain ⟨b6, w7, E7, S7, X7, L7⟩ := St.box S6 Tryd.prog 49 (.agg #[.slice A5 t.1.length c5, .int .i64 0, .int .i64 0])
    refine WOps.e (E7 rfl) rfl ?_
    refine WOps.p (G.assign rfl) rfl ?_
    refine WOps.nil ?_
    refine WEx.then_ ?_
    refine WCode.seq ?_
    refine WCode.region ?_
    refine WOps.p (G.makeFunc (evs_cons rfl (evs_cons rfl (evs_cons rfl evs_nil)))) rfl ?_
    refine WOps.defer (exec_defer (xs := []) rfl evs_nil) ?_
    refine WOps.nil ?_
    refine WEx.then_ ?_
    refine WCode.seq ?_
    refine WCode.region ?_
    refine WOps.p (G.move rfl) rfl ?_
    have hO6 : ObjO 49 ParK.rp b6 (⟨t.1, 0, 0⟩ : ParK) ([(b6, .cells #[.slice A5 t.1.length c5, .int .i64 0, .int .i64 0] 49 (0, 0))] ++ G5) := ⟨_, _, ⟨A5, c5, G5, rfl, hO5, rfl⟩, rfl⟩
    change St _ _ _ [[(b6, .cells #[.slice A5 t.1.length c5, .int .i64 0, .int .i64 0] 49 (0, 0))], G5, [(b4, .cells #[.int .i64 t.2.2] 3 (0, 0))], [(b3, .cells #[.int .i64 t.2.1] 29 (0, 0))], [(b2, .cells noTree.toArray 24 (0, 0))]] at S7
    have S8 : St _ _ _ [[(b6, .cells #[.slice A5 t.1.length c5, .int .i64 0, .int .i64 0] 49 (0, 0))] ++ G5, [(b4, .cells #[.int .i64 t.2.2] 3 (0, 0))], [(b3, .cells #[.int .i64 t.2.1] 29 (0, 0))], [(b2, .cells noTree.toArray 24 (0, 0))]] := S7.objs (by simp)
    refine WOps.callp U.call15 (evs_cons rfl evs_nil) rfl ?_
    refine (ps_source_calls k (⟨t.1, 0, 0⟩ : ParK) hO6 hc2 (St.hpN (As := [[(b6, .cells #[.slice A5 t.1.length c5, .int .i64 0, .int .i64 0] 49 (0, 0))] ++ G5]) S8)).mono ?_
    rintro _ w9 ⟨A9, c9, G9, G10, rfl, hO9, hO10, T9⟩
    have S9 := St.callN (As := [[(b6, .cells #[.slice A5 t.1.length c5, .int .i64 0, .int .i64 0] 49 (0, 0))] ++ G5]) S8 T9
    change St _ _ _ [G9, G10, [(b4, .cells #[.int .i64 t.2.2] 3 (0, 0))], [(b3, .cells #[.int .i64 t.2.1] 29 (0, 0))], [(b2, .cells noTree.toArray 24 (0, 0))]] at S9
    rcases ite_some hF with ⟨h1, hF⟩ | ⟨h1, hF⟩
    · obtain ⟨v, hv, hF⟩ := bind_some hF
      obtain ⟨f, hf, hF⟩ := bind_some hF
      obtain rfl := some_eq hF
      obtain rfl := faultOf_spec hf
      refine .inr ⟨[{ v := faultV f.1 f.2, recovered := false }], by rw [hv]; rfl, ?_⟩
      repeat refine WEx.then_panic ?_
      refine WEx.panicD ?_
      refine WLv.cons (caps := [.pointer (some ⟨b2, 0, none⟩), .pointer (some ⟨b3, 0, none⟩), .pointer (some ⟨b4, 0, none⟩)].toArray) (vs := [].toArray) ?_ U.call14 ?_
      · exact fun h => nomatch h
      have S10 := ((S9.front 2 rfl).front 3 rfl).front 4 rfl
      change St _ _ _ ([(b2, .cells #[.int .i64 0, .string (bs ([] : List UInt8)), .int .i64 0, .int .i64 0, .slice none 0 0] 24 (0, 0))] :: [(b3, .cells #[.int .i64 t.2.1] 29 (0, 0))] :: [(b4, .cells #[.int .i64 t.2.2] 3 (0, 0))] :: [G9, G10]) at S10
      refine (sy_catch S10).mono ?_
      rintro _ _ w11 ⟨rfl, rfl, S11⟩
      refine .inl ⟨_, rfl, ?_⟩
      exact WLv.ret (fun N a ha => results9 rfl rfl rfl rfl (cellsAt.of_blk (S11.blk 0 rfl) rfl) (S11.blk 1 rfl) (S11.blk 2 rfl) a ha) ⟨none, 0, [], rfl, SlO.nil _ _, St.keep (As := [[]]) S11.emp⟩
    · obtain rfl := some_eq hF
      refine .inl ⟨_, endP_none h1 _, ?_⟩
      obtain ⟨w10, E10, S10⟩ := St.store (P := Tryd.prog) S9 4 24 (.agg #[.int .i64 r.2.1.Kind, .string (bs r.2.1.Name), .int .i64 r.2.1.Number, .int .i64 r.2.1.At, .slice A9 (r.2.1.Kids).length c9]) (off := 0) (cur' := #[.int .i64 r.2.1.Kind, .string (bs r.2.1.Name), .int .i64 r.2.1.Number, .int .i64 r.2.1.At, .slice A9 (r.2.1.Kids).length c9]) rfl U.size29_5 rfl rfl rfl
      refine WOps.u (E10 rfl rfl) ?_
      obtain ⟨w11, E11, S11⟩ := St.store (P := Tryd.prog) S10 3 29 (.int .i64 0) (off := 0) (cur' := #[.int .i64 0]) rfl U.size30_1 rfl rfl rfl
      refine WOps.u (E11 rfl rfl) ?_
      obtain ⟨w12, E12, S12⟩ := St.store (P := Tryd.prog) S11 2 3 (.int .i64 0) (off := 0) (cur' := #[.int .i64 0]) rfl U.size3_1 rfl rfl rfl
      refine WOps.u (E12 rfl rfl) ?_
      change St _ _ _ [G9, G10, [(b4, .cells #[.int .i64 0] 3 (0, 0))], [(b3, .cells #[.int .i64 0] 29 (0, 0))], [(b2, .cells #[.int .i64 r.2.1.Kind, .string (bs r.2.1.Name), .int .i64 r.2.1.Number, .int .i64 r.2.1.At, .slice A9 (r.2.1.Kids).length c9] 24 (0, 0))]] at S12
      refine WOps.nil ?_
      refine WEx.then_ ?_
      refine WCode.ret ?_
      repeat refine WEx.then_ret ?_
      refine WEx.retD ?_
      refine WLv.cons (caps := [.pointer (some ⟨b2, 0, none⟩), .pointer (some ⟨b3, 0, none⟩), .pointer (some ⟨b4, 0, none⟩)].toArray) (vs := [].toArray) ?_ U.call14 ?_
      · exact fun h => nomatch h
      refine (sy_idle S12 _ _ _).mono ?_
      rintro _ _ w13 ⟨rfl, rfl, S13⟩
      refine .inl ⟨_, rfl, ?_⟩
      exact WLv.ret (fun N a ha => results9 (cs := [.int .i64 r.2.1.Kind, .string (bs r.2.1.Name), .int .i64 r.2.1.Number, .int .i64 r.2.1.At, .slice A9 (r.2.1.Kids).length c9]) rfl rfl rfl rfl (cellsAt.of_blk (S13.blk 4 rfl) rfl) (S13.blk 3 rfl) (S13.blk 2 rfl) a ha) ⟨A9, c9, G9, rfl, hO9, St.keep (As := [G9]) S13⟩
  · refine WCode.cond_t (kb (b := !decide (t.2.1 = 0)) rfl (by simp [h0])) ?_
    obtain rfl := some_eq hF
    refine WCode.seq ?_
    refine WCode.noPanic ?_
    refine WCode.drawH (.one 0 0 (.one 1 1 (.one 2 1 (.one 3 2 (.one 4 2 (.one 5 2 .nil)))))) (fun W_ => cellsAt W_ b3 0 [.int .i64 t.2.1] ∧ cellsAt W_ b4 0 [.int .i64 t.2.2]) T.mixed (by kernel_rfl) (fun _ _ _ _ _ h => h.elim) rfl rfl (by kernel_rfl) ?_ ?_
    all_goals have S7 := S6.drew
    all_goals generalize w6.drew = w7 at *
    · exact ⟨cellsAt.of_blk (S7.blk 2 rfl) rfl, cellsAt.of_blk (S7.blk 1 rfl) rfl⟩
    refine WH.p rfl wants (G.build (cells := noTree.toArray) (evp_spec evp_nil) (by kernel_rfl)) rfl ?_
    refine WH.r rfl wants (fun _ h_ => G.load1 U.one30 rfl (cellsAt.at h_.1 0 rfl)) rfl ?_
    refine WH.r rfl wants (fun _ h_ => G.load1 U.one3 rfl (cellsAt.at h_.2 0 rfl)) rfl ?_
    obtain ⟨w8, E8, S8⟩ := St.store (P := Tryd.prog) S7 3 24 (.agg noTree.toArray) (off := 0) (cur' := noTree.toArray) rfl U.size29_5 rfl rfl rfl
    refine WH.u rfl wants (E8 rfl rfl) ⟨cellsAt.of_blk (S8.blk 2 rfl) rfl, cellsAt.of_blk (S8.blk 1 rfl) rfl⟩ ?_
    obtain ⟨w9, E9, S9⟩ := St.store (P := Tryd.prog) S8 2 29 (.int .i64 t.2.1) (off := 0) (cur' := #[.int .i64 t.2.1]) rfl U.size30_1 rfl rfl rfl
    refine WH.u rfl wants (E9 rfl rfl) ⟨cellsAt.of_blk (S9.blk 2 rfl) rfl, cellsAt.of_blk (S9.blk 1 rfl) rfl⟩ ?_
    obtain ⟨w10, E10, S10⟩ := St.store (P := Tryd.prog) S9 1 3 (.int .i64 t.2.2) (off := 0) (cur' := #[.int .i64 t.2.2]) rfl U.size3_1 rfl rfl rfl
    refine WH.u rfl wants (E10 rfl rfl) ⟨cellsAt.of_blk (S10.blk 2 rfl) rfl, cellsAt.of_blk (S10.blk 1 rfl) rfl⟩ ?_
    change St _ _ _ [G5, [(b4, .cells #[.int .i64 t.2.2] 3 (0, 0))], [(b3, .cells #[.int .i64 t.2.1] 29 (0, 0))], [(b2, .cells noTree.toArray 24 (0, 0))]] at S10
    refine WH.nil ?_
    refine WEx.no_normal ?_
    refine WEx.then_ ?_
    refine WCode.ret ?_
    repeat refine WEx.then_ret ?_
    refine WEx.retD ?_
    exact WLv.ret (fun N a ha => results9 rfl rfl rfl rfl (cellsAt.of_blk (S10.blk 3 rfl) rfl) (S10.blk 2 rfl) (S10.blk 1 rfl) a ha) ⟨none, 0, [], rfl, SlO.nil _ _, St.keep (As := [[]]) S10.emp⟩
end Go.Proofs.YtnhifhlbelogcaaDoor
