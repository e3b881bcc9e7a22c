/- Functions and their walks (printed by auto.py over the engine). -/
import Derived.Test.YtpdpfiaediadgaaProg
import Derived.Test.YtpdpfiaediadgaaCC
namespace Go.Proofs.Ytpdpfiaediadgaa
open Go Go.Eng
set_option linter.unusedSimpArgs false
set_option linter.unusedVariables false

theorem T.agg93_2 : isAggT Try.prog 93 2 = true := by kernel_rfl
theorem T.call57 : Callable Try.prog 57 := Callable.mk Try.func57 (by kernel_rfl) (by kernel_rfl)
theorem T.size3_1 : sizeT Try.prog 3 = some 1 := by kernel_rfl




set_option maxRecDepth 100000 in
set_option maxHeartbeats 1000000 in
theorem cr_rise_calls {w : World} {pc b p bk : Nat} {x0 x1 x2 x3 x5 x6 : Int} {wt : Int} {m : List (Int × Entry)} (wa : Int) {Gm : Grp} (hM : MapO M94.k M94.v bk m Gm) (hp_ : Hp w ([[(pc, .cells #[.int .i64 x0, .int .i64 x1, .int .i64 x2, .int .i64 x3, .map (some b), .int .i64 x5, .int .i64 x6] 89 (0, 0))], [(p, .cells #[.int .i64 wt, .map (some bk)] 96 (0, 0))], Gm] : List Grp).flatten) :
    Calls Try.prog 38 [.pointer (some ⟨pc, 0, none⟩), .pointer (some ⟨p, 0, none⟩), .int .i64 wa].toArray w fun e w' => ∃ Gm', e = .returned (.tuple #[]) ∧ MapO M94.k M94.v bk (keepM m wa) Gm' ∧ St w (KS [[(pc, .cells #[.int .i64 x0, .int .i64 x1, .int .i64 x2, .int .i64 x3, .map (some b), .int .i64 x5, .int .i64 x6] 89 (0, 0))], [(p, .cells #[.int .i64 wt, .map (some bk)] 96 (0, 0))], Gm]) w' [[(pc, .cells #[.int .i64 x0, .int .i64 x1, .int .i64 x2, .int .i64 x3, .map (some b), .int .i64 (subs ((outM m wa).map fun _ => (1 : Int)) x5), .int .i64 (subs ((outM m wa).map fun x => szE x3 x.2) x6)] 89 (0, 0))], [(p, .cells #[.int .i64 wa, .map (some bk)] 96 (0, 0))], Gm'] := by
 have S := St.initK [[(pc, .cells #[.int .i64 x0, .int .i64 x1, .int .i64 x2, .int .i64 x3, .map (some b), .int .i64 x5, .int .i64 x6] 89 (0, 0))], [(p, .cells #[.int .i64 wt, .map (some bk)] 96 (0, 0))], Gm] hp_
 refine enter 47 [(0, .pointer (some ⟨pc, 0, none⟩)), (1, .pointer (some ⟨p, 0, none⟩)), (2, .int .i64 wa)] Try.func38 rfl rfl rfl rfl ?_
 refine WCode.seq ?_
 refine WCode.region ?_
 refine WOps.p (G.move rfl) rfl ?_
 refine WOps.p (G.move rfl) rfl ?_
 refine WOps.p (G.nilp rfl) rfl ?_
 refine WOps.p (G.field T.fld96_0 rfl (show 0 + 0 = 0 from rfl)) rfl ?_
 obtain ⟨w1, E2, S3⟩ := St.store (P := Try.prog) S 1 3 (.int .i64 wa) (off := 0) (cur' := #[.int .i64 wa, .map (some bk)]) rfl T.size3_1 rfl rfl rfl
 change St _ _ _ [[(pc, .cells #[.int .i64 x0, .int .i64 x1, .int .i64 x2, .int .i64 x3, .map (some b), .int .i64 x5, .int .i64 x6] 89 (0, 0))], [(p, .cells #[.int .i64 wa, .map (some bk)] 96 (0, 0))], Gm] at S3
 refine WOps.u (E2 rfl rfl) ?_
 refine WOps.nil ?_
 refine WEx.then_ ?_
 refine WCode.seq ?_
 refine WCode.region ?_
 refine WOps.p (G.move rfl) rfl ?_
 refine WOps.p (G.nilp rfl) rfl ?_
 refine WOps.p (G.field T.fld96_1 rfl (show 0 + 1 = 1 from rfl)) rfl ?_
 refine WOps.r (G.load1 T.one94 rfl (cell_blk (S3.blk 1 rfl) rfl)) rfl ?_
 have S4 := S3.front 2 rfl
 change St _ _ _ [Gm, [(pc, .cells #[.int .i64 x0, .int .i64 x1, .int .i64 x2, .int .i64 x3, .map (some b), .int .i64 x5, .int .i64 x6] 89 (0, 0))], [(p, .cells #[.int .i64 wa, .map (some bk)] 96 (0, 0))]] at S4
 obtain ⟨r5, G6, w7, E8, hI9, S10⟩ := St.range (P := Try.prog) S4 Try.underlying94 hM
 change St _ _ _ [G6, Gm, [(pc, .cells #[.int .i64 x0, .int .i64 x1, .int .i64 x2, .int .i64 x3, .map (some b), .int .i64 x5, .int .i64 x6] 89 (0, 0))], [(p, .cells #[.int .i64 wa, .map (some bk)] 96 (0, 0))]] at S10
 refine WOps.e (E8 rfl) rfl ?_
 refine WOps.nil ?_
 refine WEx.then_ ?_
 refine WCode.block ?_
 refine WCode.forget (l' := [(0, .pointer (some ⟨pc, 0, none⟩)), (1, .pointer (some ⟨p, 0, none⟩)), (2, .int .i64 wa), (16, .pointer (some ⟨r5, 0, none⟩))]) ⟨rfl, rfl, rfl, rfl, trivial⟩ ?_
 have hn0 := hM.1
 refine WCode.loop (fun n_ l_ w_ => ∃ (D : List Int) (GI Gc : Grp), l_ = [(0, .pointer (some ⟨pc, 0, none⟩)), (1, .pointer (some ⟨p, 0, none⟩)), (2, .int .i64 wa), (16, .pointer (some ⟨r5, 0, none⟩))] ∧ n_ = mLeft m D ∧ IterO M94.k M94.v r5 bk (mC m wa D) D none GI Gc ∧ St w (KS [[(pc, .cells #[.int .i64 x0, .int .i64 x1, .int .i64 x2, .int .i64 x3, .map (some b), .int .i64 x5, .int .i64 x6] 89 (0, 0))], [(p, .cells #[.int .i64 wt, .map (some bk)] 96 (0, 0))], Gm]) w_ [GI, Gc, [(pc, .cells #[.int .i64 x0, .int .i64 x1, .int .i64 x2, .int .i64 x3, .map (some b), .int .i64 (subs ((mR m wa D).map fun _ => (1 : Int)) x5), .int .i64 (subs ((mR m wa D).map fun x => szE x3 x.2) x6)] 89 (0, 0))], [(p, .cells #[.int .i64 wa, .map (some bk)] 96 (0, 0))]]) _ ⟨[], G6, Gm, rfl, rfl, by rw [mC_nil]; exact hI9, by rw [mR_nil]; exact S10⟩ ?_
 rintro _ _ w11 ⟨D, GI, Gc, rfl, rfl, hI, S12⟩
 refine WCode.seq ?_
 refine WCode.region ?_
 rcases St.next (P := Try.prog) S12 hI with ⟨hall, wh13, Eh13, Sh13⟩ | ⟨q, hq, hqD, GIh13, wh13, Eh13, hIh13, Sh13⟩
 ·
  refine WOps.e (Eh13 rfl) rfl ?_
  refine WOps.p (G.extract rfl rfl) rfl ?_
  refine WOps.nil ?_
  refine WEx.then_ ?_
  refine WCode.seq ?_
  refine WCode.cond_f rfl ?_
  refine WCode.exit ?_
  refine WEx.then_exit ?_
  refine WEx.then_exit ?_
  refine WEx.in_exit ?_
  have S14 := ((Sh13.front 1 rfl).front 3 rfl).front 3 rfl
  change St _ _ _ [[(pc, .cells #[.int .i64 x0, .int .i64 x1, .int .i64 x2, .int .i64 x3, .map (some b), .int .i64 (subs ((mR m wa D).map fun _ => (1 : Int)) x5), .int .i64 (subs ((mR m wa D).map fun x => szE x3 x.2) x6)] 89 (0, 0))], [(p, .cells #[.int .i64 wa, .map (some bk)] 96 (0, 0))], Gc, GI] at S14
  have S15 := St.keep (As := [[(pc, .cells #[.int .i64 x0, .int .i64 x1, .int .i64 x2, .int .i64 x3, .map (some b), .int .i64 (subs ((mR m wa D).map fun _ => (1 : Int)) x5), .int .i64 (subs ((mR m wa D).map fun x => szE x3 x.2) x6)] 89 (0, 0))], [(p, .cells #[.int .i64 wa, .map (some bk)] 96 (0, 0))], Gc]) S14
  obtain ⟨e1, e2⟩ := all_out hall
  have hM' := hI.out
  rw [e1] at hM'
  rw [e2] at S15
  refine WEx.end0 rfl ?_
  exact ⟨_, rfl, hM', S15⟩
 ·
  refine WOps.e (Eh13 rfl) rfl ?_
  refine WOps.p (G.extract rfl rfl) rfl ?_
  refine WOps.nil ?_
  refine WEx.then_ ?_
  refine WCode.seq ?_
  refine WCode.cond_t rfl ?_
  refine WCode.skip ?_
  refine WEx.then_ ?_
  refine WCode.block ?_
  refine WCode.seq ?_
  refine WCode.region ?_
  refine WOps.r (G.entry Sh13 hIh13 rfl) rfl ?_
  refine WOps.p (G.extract rfl rfl) rfl ?_
  refine WOps.p (G.extract rfl rfl) rfl ?_
  obtain ⟨b16, w17, E18, S19, X20, L21⟩ := St.var Sh13 (z := .agg #[.bool false, .string (bs ([] : List UInt8))]) T.zero93
  change St _ _ _ [[(b16, .cells #[.bool false, .string (bs ([] : List UInt8))] 93 (0, 0))], GIh13, Gc, [(pc, .cells #[.int .i64 x0, .int .i64 x1, .int .i64 x2, .int .i64 x3, .map (some b), .int .i64 (subs ((mR m wa D).map fun _ => (1 : Int)) x5), .int .i64 (subs ((mR m wa D).map fun x => szE x3 x.2) x6)] 89 (0, 0))], [(p, .cells #[.int .i64 wa, .map (some bk)] 96 (0, 0))]] at S19
  refine WOps.e E18 rfl ?_
  refine WOps.p (G.assign rfl) rfl ?_
  obtain ⟨w22, E23, S24⟩ := St.store (P := Try.prog) S19 0 93 (.agg #[.bool q.2.done, .string (bs q.2.reply)]) (off := 0) (cur' := #[.bool q.2.done, .string (bs q.2.reply)]) rfl T.size93_2 rfl rfl rfl
  change St _ _ _ [[(b16, .cells #[.bool q.2.done, .string (bs q.2.reply)] 93 (0, 0))], GIh13, Gc, [(pc, .cells #[.int .i64 x0, .int .i64 x1, .int .i64 x2, .int .i64 x3, .map (some b), .int .i64 (subs ((mR m wa D).map fun _ => (1 : Int)) x5), .int .i64 (subs ((mR m wa D).map fun x => szE x3 x.2) x6)] 89 (0, 0))], [(p, .cells #[.int .i64 wa, .map (some bk)] 96 (0, 0))]] at S24
  refine WOps.u (E23 rfl rfl) ?_
  refine WOps.nil ?_
  refine WEx.then_ ?_
  refine WCode.seq ?_
  refine WCode.region ?_
  refine WOps.p (G.move rfl) rfl ?_
  refine WOps.p (G.move rfl) rfl ?_
  refine WOps.p (G.lss rfl rfl rfl) rfl ?_
  refine WOps.nil ?_
  refine WEx.then_ ?_
  by_cases h25 : q.1 < wa
  ·
   refine WCode.cond_t (kb (b := decide (q.1 < wa)) rfl (decide_eq_true h25)) ?_
   refine WCode.seq ?_
   refine WCode.region ?_
   refine WOps.p (G.move rfl) rfl ?_
   refine WOps.p (G.nilp rfl) rfl ?_
   refine WOps.p (G.field T.fld89_2 rfl (show 0 + 5 = 5 from rfl)) rfl ?_
   refine WOps.r (G.load1 T.one3 rfl (cell_blk (S24.blk 3 rfl) rfl)) rfl ?_
   refine WOps.p (G.sub rfl rfl (r := (w64 ((subs ((mR m wa D).map fun _ => (1 : Int)) x5) - 1))) rfl) rfl ?_
   refine WOps.p (G.nilp rfl) rfl ?_
   refine WOps.p (G.field T.fld89_2 rfl (show 0 + 5 = 5 from rfl)) rfl ?_
   obtain ⟨w26, E27, S28⟩ := St.store (P := Try.prog) S24 3 3 (.int .i64 (w64 ((subs ((mR m wa D).map fun _ => (1 : Int)) x5) - 1))) (off := 5) (cur' := #[.int .i64 x0, .int .i64 x1, .int .i64 x2, .int .i64 x3, .map (some b), .int .i64 (w64 ((subs ((mR m wa D).map fun _ => (1 : Int)) x5) - 1)), .int .i64 (subs ((mR m wa D).map fun x => szE x3 x.2) x6)]) rfl T.size3_1 rfl rfl rfl
   change St _ _ _ [[(b16, .cells #[.bool q.2.done, .string (bs q.2.reply)] 93 (0, 0))], GIh13, Gc, [(pc, .cells #[.int .i64 x0, .int .i64 x1, .int .i64 x2, .int .i64 x3, .map (some b), .int .i64 (w64 ((subs ((mR m wa D).map fun _ => (1 : Int)) x5) - 1)), .int .i64 (subs ((mR m wa D).map fun x => szE x3 x.2) x6)] 89 (0, 0))], [(p, .cells #[.int .i64 wa, .map (some bk)] 96 (0, 0))]] at S28
   refine WOps.u (E27 rfl rfl) ?_
   refine WOps.nil ?_
   refine WEx.then_ ?_
   refine WCode.forget (l' := [(0, .pointer (some ⟨pc, 0, none⟩)), (1, .pointer (some ⟨p, 0, none⟩)), (2, .int .i64 wa), (6, .int .i64 q.1), (7, .pointer (some ⟨b16, 0, none⟩)), (16, .pointer (some ⟨r5, 0, none⟩))]) ⟨rfl, rfl, rfl, rfl, rfl, rfl, trivial⟩ ?_
   refine WCode.seq ?_
   refine WCode.drawH (.one 0 0 (.one 1 0 (.one 2 0 (.one 4 0 (.one 5 1 (.fork 3 (.one 6 2 (.one 7 0 (.one 8 0 (.one 9 0 (.one 10 2 .nil))))) 6 (.one 3 2 (.one 7 0 (.one 8 0 (.one 9 0 (.one 10 2 .nil))))))))))) (fun W_ => cellsAt W_ b16 0 [.bool q.2.done, .string (bs q.2.reply)] ∧ True) T.mixed (by kernel_rfl) (by intro _ _ d _ _ h; cases d <;> exact h) rfl rfl (by kernel_rfl) ?_ ?_
   all_goals have S29 := S28.drew
   all_goals generalize w26.drew = w30 at *
   · exact ⟨cellsAt.of_blk (S29.blk 0 rfl) rfl, trivial⟩
   refine WH.p rfl wants (G.move rfl) rfl ?_
   refine WH.p rfl wants (G.nilp rfl) rfl ?_
   refine WH.p rfl wants (G.field T.fld89_3 rfl (show 0 + 6 = 6 from rfl)) rfl ?_
   refine WH.p rfl wants (G.move rfl) rfl ?_
   refine WH.r rfl wants (fun _ h_ => G.loada T.agg93_2 rfl (cs := [.bool q.2.done, .string (bs q.2.reply)]) (cellsAt.part h_.1 0 rfl)) rfl ?_
   refine WH.fork ?_ ?_
   ·
    refine WH.e rfl wants (GR.e (G.load1 T.one3 rfl (cell_blk (S29.blk 3 rfl) rfl))) rfl ⟨cellsAt.of_blk (S29.blk 0 rfl) rfl, trivial⟩ ?_
    refine WH.call rfl wants T.call57 (evs_cons rfl (evs_cons rfl evs_nil)) rfl ?_
    refine (cz_size_calls (S29.blk 3 rfl) q.2).mono ?_
    rintro _ w31 ⟨rfl, T32⟩
    have S33 := St.callN (As := []) S29 T32
    change St _ _ _ [[(b16, .cells #[.bool q.2.done, .string (bs q.2.reply)] 93 (0, 0))], GIh13, Gc, [(pc, .cells #[.int .i64 x0, .int .i64 x1, .int .i64 x2, .int .i64 x3, .map (some b), .int .i64 (w64 ((subs ((mR m wa D).map fun _ => (1 : Int)) x5) - 1)), .int .i64 (subs ((mR m wa D).map fun x => szE x3 x.2) x6)] 89 (0, 0))], [(p, .cells #[.int .i64 wa, .map (some bk)] 96 (0, 0))]] at S33
    refine ⟨_, rfl, ?_⟩
    refine ⟨⟨cellsAt.of_blk (S33.blk 0 rfl) rfl, trivial⟩, ?_⟩
    refine WH.p rfl wants (G.sub rfl rfl (r := (w64 ((subs ((mR m wa D).map fun x => szE x3 x.2) x6) - (szE x3 q.2)))) rfl) rfl ?_
    refine WH.p rfl wants (G.nilp rfl) rfl ?_
    refine WH.p rfl wants (G.field T.fld89_3 rfl (show 0 + 6 = 6 from rfl)) rfl ?_
    obtain ⟨w34, E35, S36⟩ := St.store (P := Try.prog) S33 3 3 (.int .i64 (w64 ((subs ((mR m wa D).map fun x => szE x3 x.2) x6) - (szE x3 q.2)))) (off := 6) (cur' := #[.int .i64 x0, .int .i64 x1, .int .i64 x2, .int .i64 x3, .map (some b), .int .i64 (w64 ((subs ((mR m wa D).map fun _ => (1 : Int)) x5) - 1)), .int .i64 (w64 ((subs ((mR m wa D).map fun x => szE x3 x.2) x6) - (szE x3 q.2)))]) rfl T.size3_1 rfl rfl rfl
    change St _ _ _ [[(b16, .cells #[.bool q.2.done, .string (bs q.2.reply)] 93 (0, 0))], GIh13, Gc, [(pc, .cells #[.int .i64 x0, .int .i64 x1, .int .i64 x2, .int .i64 x3, .map (some b), .int .i64 (w64 ((subs ((mR m wa D).map fun _ => (1 : Int)) x5) - 1)), .int .i64 (w64 ((subs ((mR m wa D).map fun x => szE x3 x.2) x6) - (szE x3 q.2)))] 89 (0, 0))], [(p, .cells #[.int .i64 wa, .map (some bk)] 96 (0, 0))]] at S36
    refine WH.u rfl wants (E35 rfl rfl) ⟨cellsAt.of_blk (S36.blk 0 rfl) rfl, trivial⟩ ?_
    refine WH.nil ?_
    refine WEx.then_ ?_
    refine WCode.forget (l' := [(0, .pointer (some ⟨pc, 0, none⟩)), (1, .pointer (some ⟨p, 0, none⟩)), (2, .int .i64 wa), (6, .int .i64 q.1), (16, .pointer (some ⟨r5, 0, none⟩))]) ⟨rfl, rfl, rfl, rfl, rfl, trivial⟩ ?_
    refine WCode.region ?_
    refine WOps.p (G.move rfl) rfl ?_
    refine WOps.p (G.nilp rfl) rfl ?_
    refine WOps.p (G.field T.fld96_1 rfl (show 0 + 1 = 1 from rfl)) rfl ?_
    refine WOps.r (G.load1 T.one94 rfl (cell_blk (S36.blk 4 rfl) rfl)) rfl ?_
    refine WOps.p (G.move rfl) rfl ?_
    have S37 := (S36.front 2 rfl).front 2 rfl
    change St _ _ _ [GIh13, Gc, [(b16, .cells #[.bool q.2.done, .string (bs q.2.reply)] 93 (0, 0))], [(pc, .cells #[.int .i64 x0, .int .i64 x1, .int .i64 x2, .int .i64 x3, .map (some b), .int .i64 (w64 ((subs ((mR m wa D).map fun _ => (1 : Int)) x5) - 1)), .int .i64 (w64 ((subs ((mR m wa D).map fun x => szE x3 x.2) x6) - (szE x3 q.2)))] 89 (0, 0))], [(p, .cells #[.int .i64 wa, .map (some bk)] 96 (0, 0))]] at S37
    obtain ⟨G38, w39, E40, hI41, S42⟩ := St.iterDel (P := Try.prog) S37 T.key94 Try.underlying94 hIh13 q.1
    change St _ _ _ [GIh13, G38, [(b16, .cells #[.bool q.2.done, .string (bs q.2.reply)] 93 (0, 0))], [(pc, .cells #[.int .i64 x0, .int .i64 x1, .int .i64 x2, .int .i64 x3, .map (some b), .int .i64 (w64 ((subs ((mR m wa D).map fun _ => (1 : Int)) x5) - 1)), .int .i64 (w64 ((subs ((mR m wa D).map fun x => szE x3 x.2) x6) - (szE x3 q.2)))] 89 (0, 0))], [(p, .cells #[.int .i64 wa, .map (some bk)] 96 (0, 0))]] at S42
    refine WOps.val0 (E40 rfl rfl) ?_
    refine WOps.nil ?_
    refine WEx.in_normal ?_
    have S43 := (((S42.front 4 rfl).front 4 rfl).front 3 rfl).front 3 rfl
    change St _ _ _ [GIh13, G38, [(pc, .cells #[.int .i64 x0, .int .i64 x1, .int .i64 x2, .int .i64 x3, .map (some b), .int .i64 (w64 ((subs ((mR m wa D).map fun _ => (1 : Int)) x5) - 1)), .int .i64 (w64 ((subs ((mR m wa D).map fun x => szE x3 x.2) x6) - (szE x3 q.2)))] 89 (0, 0))], [(p, .cells #[.int .i64 wa, .map (some bk)] 96 (0, 0))], [(b16, .cells #[.bool q.2.done, .string (bs q.2.reply)] 93 (0, 0))]] at S43
    have S44 := St.keep (As := [GIh13, G38, [(pc, .cells #[.int .i64 x0, .int .i64 x1, .int .i64 x2, .int .i64 x3, .map (some b), .int .i64 (w64 ((subs ((mR m wa D).map fun _ => (1 : Int)) x5) - 1)), .int .i64 (w64 ((subs ((mR m wa D).map fun x => szE x3 x.2) x6) - (szE x3 q.2)))] 89 (0, 0))], [(p, .cells #[.int .i64 wa, .map (some bk)] 96 (0, 0))]]) S43
    have hI45 := hI41.none
    have hqm := mem_mC hq
    have hlt : q.1 < wa := by assumption
    have hC := mC_del hn0 hqm hqD hlt
    have e1 := mR_add hn0 hqm hqD hlt (fun _ => (1 : Int)) x5
    have e2 := mR_add hn0 hqm hqD hlt (fun x => szE x3 x.2) x6
    rw [← hC] at hI45
    simp only [e1, e2] at S44
    refine WEx.again _ _ (left_lt hqm hqD) ?_ ⟨q.1 :: D, GIh13, G38, rfl, rfl, hI45, S44⟩
    exact ⟨rfl, rfl, rfl, rfl, trivial⟩
   ·
    refine WH.call rfl wants T.call57 (evs_cons rfl (evs_cons rfl evs_nil)) rfl ?_
    refine (cz_size_calls (S29.blk 3 rfl) q.2).mono ?_
    rintro _ w31 ⟨rfl, T32⟩
    have S33 := St.callN (As := []) S29 T32
    change St _ _ _ [[(b16, .cells #[.bool q.2.done, .string (bs q.2.reply)] 93 (0, 0))], GIh13, Gc, [(pc, .cells #[.int .i64 x0, .int .i64 x1, .int .i64 x2, .int .i64 x3, .map (some b), .int .i64 (w64 ((subs ((mR m wa D).map fun _ => (1 : Int)) x5) - 1)), .int .i64 (subs ((mR m wa D).map fun x => szE x3 x.2) x6)] 89 (0, 0))], [(p, .cells #[.int .i64 wa, .map (some bk)] 96 (0, 0))]] at S33
    refine ⟨_, rfl, ?_⟩
    refine ⟨⟨cellsAt.of_blk (S33.blk 0 rfl) rfl, trivial⟩, ?_⟩
    refine WH.e rfl wants (GR.e (G.load1 T.one3 rfl (cell_blk (S33.blk 3 rfl) rfl))) rfl ⟨cellsAt.of_blk (S33.blk 0 rfl) rfl, trivial⟩ ?_
    refine WH.p rfl wants (G.sub rfl rfl (r := (w64 ((subs ((mR m wa D).map fun x => szE x3 x.2) x6) - (szE x3 q.2)))) rfl) rfl ?_
    refine WH.p rfl wants (G.nilp rfl) rfl ?_
    refine WH.p rfl wants (G.field T.fld89_3 rfl (show 0 + 6 = 6 from rfl)) rfl ?_
    obtain ⟨w34, E35, S36⟩ := St.store (P := Try.prog) S33 3 3 (.int .i64 (w64 ((subs ((mR m wa D).map fun x => szE x3 x.2) x6) - (szE x3 q.2)))) (off := 6) (cur' := #[.int .i64 x0, .int .i64 x1, .int .i64 x2, .int .i64 x3, .map (some b), .int .i64 (w64 ((subs ((mR m wa D).map fun _ => (1 : Int)) x5) - 1)), .int .i64 (w64 ((subs ((mR m wa D).map fun x => szE x3 x.2) x6) - (szE x3 q.2)))]) rfl T.size3_1 rfl rfl rfl
    change St _ _ _ [[(b16, .cells #[.bool q.2.done, .string (bs q.2.reply)] 93 (0, 0))], GIh13, Gc, [(pc, .cells #[.int .i64 x0, .int .i64 x1, .int .i64 x2, .int .i64 x3, .map (some b), .int .i64 (w64 ((subs ((mR m wa D).map fun _ => (1 : Int)) x5) - 1)), .int .i64 (w64 ((subs ((mR m wa D).map fun x => szE x3 x.2) x6) - (szE x3 q.2)))] 89 (0, 0))], [(p, .cells #[.int .i64 wa, .map (some bk)] 96 (0, 0))]] at S36
    refine WH.u rfl wants (E35 rfl rfl) ⟨cellsAt.of_blk (S36.blk 0 rfl) rfl, trivial⟩ ?_
    refine WH.nil ?_
    refine WEx.then_ ?_
    refine WCode.forget (l' := [(0, .pointer (some ⟨pc, 0, none⟩)), (1, .pointer (some ⟨p, 0, none⟩)), (2, .int .i64 wa), (6, .int .i64 q.1), (16, .pointer (some ⟨r5, 0, none⟩))]) ⟨rfl, rfl, rfl, rfl, rfl, trivial⟩ ?_
    refine WCode.region ?_
    refine WOps.p (G.move rfl) rfl ?_
    refine WOps.p (G.nilp rfl) rfl ?_
    refine WOps.p (G.field T.fld96_1 rfl (show 0 + 1 = 1 from rfl)) rfl ?_
    refine WOps.r (G.load1 T.one94 rfl (cell_blk (S36.blk 4 rfl) rfl)) rfl ?_
    refine WOps.p (G.move rfl) rfl ?_
    have S37 := (S36.front 2 rfl).front 2 rfl
    change St _ _ _ [GIh13, Gc, [(b16, .cells #[.bool q.2.done, .string (bs q.2.reply)] 93 (0, 0))], [(pc, .cells #[.int .i64 x0, .int .i64 x1, .int .i64 x2, .int .i64 x3, .map (some b), .int .i64 (w64 ((subs ((mR m wa D).map fun _ => (1 : Int)) x5) - 1)), .int .i64 (w64 ((subs ((mR m wa D).map fun x => szE x3 x.2) x6) - (szE x3 q.2)))] 89 (0, 0))], [(p, .cells #[.int .i64 wa, .map (some bk)] 96 (0, 0))]] at S37
    obtain ⟨G38, w39, E40, hI41, S42⟩ := St.iterDel (P := Try.prog) S37 T.key94 Try.underlying94 hIh13 q.1
    change St _ _ _ [GIh13, G38, [(b16, .cells #[.bool q.2.done, .string (bs q.2.reply)] 93 (0, 0))], [(pc, .cells #[.int .i64 x0, .int .i64 x1, .int .i64 x2, .int .i64 x3, .map (some b), .int .i64 (w64 ((subs ((mR m wa D).map fun _ => (1 : Int)) x5) - 1)), .int .i64 (w64 ((subs ((mR m wa D).map fun x => szE x3 x.2) x6) - (szE x3 q.2)))] 89 (0, 0))], [(p, .cells #[.int .i64 wa, .map (some bk)] 96 (0, 0))]] at S42
    refine WOps.val0 (E40 rfl rfl) ?_
    refine WOps.nil ?_
    refine WEx.in_normal ?_
    have S43 := (((S42.front 4 rfl).front 4 rfl).front 3 rfl).front 3 rfl
    change St _ _ _ [GIh13, G38, [(pc, .cells #[.int .i64 x0, .int .i64 x1, .int .i64 x2, .int .i64 x3, .map (some b), .int .i64 (w64 ((subs ((mR m wa D).map fun _ => (1 : Int)) x5) - 1)), .int .i64 (w64 ((subs ((mR m wa D).map fun x => szE x3 x.2) x6) - (szE x3 q.2)))] 89 (0, 0))], [(p, .cells #[.int .i64 wa, .map (some bk)] 96 (0, 0))], [(b16, .cells #[.bool q.2.done, .string (bs q.2.reply)] 93 (0, 0))]] at S43
    have S44 := St.keep (As := [GIh13, G38, [(pc, .cells #[.int .i64 x0, .int .i64 x1, .int .i64 x2, .int .i64 x3, .map (some b), .int .i64 (w64 ((subs ((mR m wa D).map fun _ => (1 : Int)) x5) - 1)), .int .i64 (w64 ((subs ((mR m wa D).map fun x => szE x3 x.2) x6) - (szE x3 q.2)))] 89 (0, 0))], [(p, .cells #[.int .i64 wa, .map (some bk)] 96 (0, 0))]]) S43
    have hI45 := hI41.none
    have hqm := mem_mC hq
    have hlt : q.1 < wa := by assumption
    have hC := mC_del hn0 hqm hqD hlt
    have e1 := mR_add hn0 hqm hqD hlt (fun _ => (1 : Int)) x5
    have e2 := mR_add hn0 hqm hqD hlt (fun x => szE x3 x.2) x6
    rw [← hC] at hI45
    simp only [e1, e2] at S44
    refine WEx.again _ _ (left_lt hqm hqD) ?_ ⟨q.1 :: D, GIh13, G38, rfl, rfl, hI45, S44⟩
    exact ⟨rfl, rfl, rfl, rfl, trivial⟩
  ·
   refine WCode.cond_f (kb (b := decide (q.1 < wa)) rfl (decide_eq_false h25)) ?_
   refine WCode.skip ?_
   refine WEx.in_normal ?_
   have S46 := (((S24.front 4 rfl).front 4 rfl).front 4 rfl).front 4 rfl
   change St _ _ _ [GIh13, Gc, [(pc, .cells #[.int .i64 x0, .int .i64 x1, .int .i64 x2, .int .i64 x3, .map (some b), .int .i64 (subs ((mR m wa D).map fun _ => (1 : Int)) x5), .int .i64 (subs ((mR m wa D).map fun x => szE x3 x.2) x6)] 89 (0, 0))], [(p, .cells #[.int .i64 wa, .map (some bk)] 96 (0, 0))], [(b16, .cells #[.bool q.2.done, .string (bs q.2.reply)] 93 (0, 0))]] at S46
   have S47 := St.keep (As := [GIh13, Gc, [(pc, .cells #[.int .i64 x0, .int .i64 x1, .int .i64 x2, .int .i64 x3, .map (some b), .int .i64 (subs ((mR m wa D).map fun _ => (1 : Int)) x5), .int .i64 (subs ((mR m wa D).map fun x => szE x3 x.2) x6)] 89 (0, 0))], [(p, .cells #[.int .i64 wa, .map (some bk)] 96 (0, 0))]]) S46
   have hI48 := hIh13.none
   have hqm := mem_mC hq
   have hnl : ¬ q.1 < wa := by assumption
   rw [← mC_keep (D := D) hn0 hqm hnl] at hI48
   rw [← mR_keep (D := D) hn0 hqm hnl] at S47
   refine WEx.again _ _ (left_lt hqm hqD) ?_ ⟨q.1 :: D, GIh13, Gc, rfl, rfl, hI48, S47⟩
   exact ⟨rfl, rfl, rfl, rfl, trivial⟩

end Go.Proofs.Ytpdpfiaediadgaa
