/- What a handler tells, and what it breaks: caught. -/
import Derived.Test.YtpdpfiaediadgaaSC
set_option linter.unusedVariables false
set_option linter.unusedSimpArgs false
namespace Go.Proofs.Ytpdpfiaediadgaa
open Go Go.Eng
theorem T.call68 : Callable Try.prog 68 := Callable.mk Try.func68 (by kernel_rfl) (by kernel_rfl)
theorem U.one4 : isOneT Try.prog 4 = true := by kernel_rfl
theorem U.one3 : isOneT Try.prog 3 = true := by kernel_rfl
theorem U.one9 : isOneT Try.prog 9 = true := by kernel_rfl
theorem U.size3_1 : sizeT Try.prog 3 = some 1 := by kernel_rfl
theorem U.size9_1 : sizeT Try.prog 9 = some 1 := by kernel_rfl
theorem U.size4_1 : sizeT Try.prog 4 = some 1 := by kernel_rfl
theorem T.zeroB : zeroOf Try.prog 4 = some (.bool false) := by kernel_rfl
theorem T.zeroI : zeroOf Try.prog 3 = some (.int .i64 0) := by kernel_rfl
theorem T.zeroS : zeroOf Try.prog 9 = some (.string (bs ([] : List UInt8))) := by kernel_rfl
set_option maxRecDepth 100000 in
theorem el49 : Try.prog.underlying 49 = some (.slice (Try.prog.elem 49)) := by kernel_rfl
/-- An index that is out of range, above all that fits beneath 32. -/
theorem run_index_high {w : World} {A : Option Addr} {cap : Nat} {i : Int} (h : 200 ≤ i) (hi : i ≤ 255) (hA : A.isSome = true) :
    ∃ u pv, (Instr.indexAt 49 (.slice A 1 cap) (.int .i64 i)).run Try.prog w = .halt (.panic (.iface u pv)) w := by
  obtain ⟨a, rfl⟩ := Option.isSome_iff_exists.1 hA
  have e1 := run_indexAt_slice (P := Try.prog) (w := w) 49 a 1 cap .i64 i el49
  rw [if_neg (by omega)] at e1
  have h1 : ¬ (i ≤ 31) := by omega
  refine ⟨Try.prog.rt.boundsError, .agg #[.int .i64 (IntKind.i64.wrap i), .int .i64 1, .bool true, .int .u8 BoundsCode.index.toNat], e1.trans ?_⟩
  unfold boundsPanic
  simp [runtimePanic, goPanic, go_sem, h1]
/-- Where it breaks. -/
def breaks : List UInt8 → Bool
  | [] => false
  | c :: _ => decide (200 ≤ (c.toNat : Int)) && decide ((c.toNat : Int) < 255)
set_option maxRecDepth 100000 in
set_option maxHeartbeats 1000000 in
theorem tells_bad (a0 : Int) (a1 : List UInt8) {w : World} (hb : breaks a1 = true) :
    Calls Try.prog 35 [.int .i64 a0, .string (bs a1)].toArray w fun e w' => ∃ u pv, e = .panicked [{ v := .iface u pv, recovered := false }] ∧ St w (KS []) w' [] := by
  obtain ⟨c8, rest, rfl⟩ : ∃ c l, a1 = c :: l := by cases a1 with | nil => cases hb | cons c l => exact ⟨c, l, rfl⟩
  simp only [breaks, Bool.and_eq_true, decide_eq_true_eq] at hb
  obtain ⟨h14, h15⟩ := hb
  have h1 : ¬ (c8 :: rest = ([] : List UInt8)) := by simp
  have hc9 : idx (c8 :: rest) 0 = some c8 := rfl
  have S := St.ofFalse (As := []) (St.init0 w)
  refine enter 41 [(0, .int .i64 a0), (1, .string (bs (c8 :: rest)))] Try.func35 rfl rfl rfl rfl ?_
  refine WCode.seq ?_
  refine WCode.region ?_
  refine WOps.p (G.assign rfl) rfl ?_
  refine WOps.p (G.assign rfl) rfl ?_
  refine WOps.nil ?_
  refine WEx.then_ ?_
  refine WCode.seq ?_
  refine WCode.seq ?_
  refine WCode.region ?_
  refine WOps.p (G.move rfl) rfl ?_
  refine WOps.p (G.eqlb' rfl rfl rfl) rfl ?_
  refine WOps.nil ?_
  refine WEx.then_ ?_
  refine WCode.cond_f (kb (b := decide (c8 :: rest = ([] : List UInt8))) rfl (decide_eq_false h1)) ?_
  refine WCode.skip ?_
  refine WEx.then_ ?_
  refine WCode.seq ?_
  refine WCode.region ?_
  obtain ⟨b2, w3, E4, S5, X6, L7⟩ := St.lit S (P := Try.prog) (t := 49) (e := 3) (n := 1) (vs := [(0, .int .i64 0)]) (cs := #[.int .i64 0]) (by kernel_rfl)
  change St _ _ _ [[(b2, .cells #[.int .i64 0] 3 (0, 0))]] at S5
  refine WOps.e (E4 (evp_cons rfl evp_nil)) rfl ?_
  refine WOps.p (G.assign rfl) rfl ?_
  refine WOps.nil ?_
  refine WEx.then_ ?_
  refine WCode.seq ?_
  refine WCode.region ?_
  refine WOps.p (G.move rfl) rfl ?_
  refine WOps.p (G.idxb T.str9 rfl rfl hc9) rfl ?_
  refine WOps.p (G.convi (by kernel_rfl) Try.underlying3 rfl (r := ((c8).toNat : Int)) (u8_i64 _)) rfl ?_
  refine WOps.p (G.assign rfl) rfl ?_
  refine WOps.nil ?_
  refine WEx.then_ ?_
  refine WCode.seq ?_
  refine WCode.seq ?_
  refine WCode.region ?_
  refine WOps.p (G.move rfl) rfl ?_
  refine WOps.p (G.geq rfl rfl rfl) rfl ?_
  refine WOps.p (G.move rfl) rfl ?_
  refine WOps.on rfl (kbl (b := decide (200 ≤ ((c8).toNat : Int))) rfl (decide_eq_true h14)) ?_
  refine WOps.p (G.move rfl) rfl ?_
  refine WOps.on rfl (kbl (b := decide (200 ≤ ((c8).toNat : Int))) rfl (decide_eq_true h14)) ?_
  refine WOps.p (G.lss rfl rfl rfl) rfl ?_
  refine WOps.p (G.pick_t (kb (b := decide (200 ≤ ((c8).toNat : Int))) rfl (decide_eq_true h14)) rfl) rfl ?_
  refine WOps.nil ?_
  refine WEx.then_ ?_
  refine WCode.cond_t (kb (b := decide (((c8).toNat : Int) < 255)) rfl (decide_eq_true h15)) ?_
  refine WCode.seq ?_
  refine WCode.region ?_
  refine WOps.p (G.move rfl) rfl ?_
  refine WOps.p (G.move rfl) rfl ?_
  obtain ⟨u, pv, hp⟩ := run_index_high (w := w3) (A := some ⟨b2, 0, none⟩) (cap := 1) (i := (c8.toNat : Int)) h14 (by omega) rfl
  refine WOps.pan (v := .iface u pv) (w' := w3) (fun a ha => ?_) ?_
  · unfold execOp
    simp only [ha.ev (x := .tmp 21) rfl, ha.ev (x := .tmp 22) rfl, List.length_singleton, Sem.run_bind, hp]
    rfl
  · repeat (first | refine WEx.then_panic ?_ | refine WEx.in_panic ?_)
    exact WEx.panicked ⟨u, pv, rfl, St.keep (As := []) S5⟩
section
variable {w0 w : World} {K : Nat → Prop} {Gs : List Grp} {b8 b6 b7 : Nat} {x : Int} {s : List UInt8}
/-- The deferred closure where the body broke. -/
theorem catch_bad {d : Bool} (S : St w0 K w ([(b8, .cells #[.bool false] 4 (0, 0))] :: [(b6, .cells #[.int .i64 x] 3 (0, 0))] :: [(b7, .cells #[.string (bs s)] 9 (0, 0))] :: Gs)) {v : Value} :
    CallsD Try.prog 68 [.pointer (some ⟨b8, 0, none⟩), .pointer (some ⟨b6, 0, none⟩), .pointer (some ⟨b7, 0, none⟩)].toArray (.panicking [{ v, recovered := false }]) w fun e u' w' =>
      e = .returned (.tuple #[]) ∧ u' = .panicking [{ v, recovered := true }] ∧ St w0 K w' ([(b8, .cells #[.bool false] 4 (0, 0))] :: [(b6, .cells #[.int .i64 5] 3 (0, 0))] :: [(b7, .cells #[.string (bs ([] : List UInt8))] 9 (0, 0))] :: Gs) := by
  refine enterS 6 [(0, .pointer (some ⟨b8, 0, none⟩)), (1, .pointer (some ⟨b6, 0, none⟩)), (2, .pointer (some ⟨b7, 0, none⟩))] Try.func68 rfl rfl rfl rfl fun c₀ cs a hu ha => ?_
  refine recover_seq (.inl (recoverD_panicking hu)) rfl ?_ ha
  refine WCode.seq ?_
  refine WCode.region ?_
  refine WOps.r (G.load1 U.one4 rfl (cell_blk (S.blk 0 rfl) rfl)) rfl ?_
  refine WOps.p (G.not rfl rfl) rfl ?_
  refine WOps.nil ?_
  refine WEx.then_ ?_
  refine WCode.cond_t rfl ?_
  refine WCode.region ?_
  obtain ⟨w1, E1, S1⟩ := St.store (P := Try.prog) S 1 3 (.int .i64 5) (off := 0) (cur' := #[.int .i64 5]) rfl U.size3_1 rfl rfl rfl
  refine WOps.u (E1 rfl rfl) ?_
  obtain ⟨w2, E2, S2⟩ := St.store (P := Try.prog) S1 2 9 (.string (bs ([] : List UInt8))) (off := 0) (cur' := #[.string (bs ([] : List UInt8))]) rfl U.size9_1 rfl rfl rfl
  refine WOps.u (E2 rfl rfl) ?_
  refine WOps.nil ?_
  exact WEx.endS rfl ⟨rfl, rfl, S2⟩
theorem catch_idle (S : St w0 K w ([(b8, .cells #[.bool true] 4 (0, 0))] :: [(b6, .cells #[.int .i64 x] 3 (0, 0))] :: [(b7, .cells #[.string (bs s)] 9 (0, 0))] :: Gs)) :
    CallsD Try.prog 68 [.pointer (some ⟨b8, 0, none⟩), .pointer (some ⟨b6, 0, none⟩), .pointer (some ⟨b7, 0, none⟩)].toArray .returning w fun e u' w' =>
      e = .returned (.tuple #[]) ∧ u' = .returning ∧ St w0 K w' ([(b8, .cells #[.bool true] 4 (0, 0))] :: [(b6, .cells #[.int .i64 x] 3 (0, 0))] :: [(b7, .cells #[.string (bs s)] 9 (0, 0))] :: Gs) := by
  refine enterS 6 [(0, .pointer (some ⟨b8, 0, none⟩)), (1, .pointer (some ⟨b6, 0, none⟩)), (2, .pointer (some ⟨b7, 0, none⟩))] Try.func68 rfl rfl rfl rfl fun c₀ cs a hu ha => ?_
  refine recover_seq (.inr ⟨recoverD_returning hu, rfl, rfl⟩) rfl ?_ ha
  refine WCode.seq ?_
  refine WCode.region ?_
  refine WOps.r (G.load1 U.one4 rfl (cell_blk (S.blk 0 rfl) rfl)) rfl ?_
  refine WOps.p (G.not rfl rfl) rfl ?_
  refine WOps.nil ?_
  refine WEx.then_ ?_
  refine WCode.cond_f rfl ?_
  refine WCode.skip ?_
  exact WEx.endS0 rfl ⟨rfl, hu, S⟩
end
/-- What becomes of a handler's call. -/
def sv_handled (k : Nat) (b : Bool) (proc : Int) (args : List UInt8) : Option (Int × List UInt8) := if b = true then (if breaks args = true then some (5, []) else sv_tells k proc args) else none
theorem results52 {w : World} {N : FN} {l : Fr} {b6 b7 : Nat} {x : Int} {s : List UInt8} (h6 : Go.Eng.look l 6 = some (.pointer (some ⟨b6, 0, none⟩))) (h7 : Go.Eng.look l 7 = some (.pointer (some ⟨b7, 0, none⟩)))
    (c6 : w.heap[b6]? = some (.cells #[.int .i64 x] 3 (0, 0))) (c7 : w.heap[b7]? = some (.cells #[.string (bs s)] 9 (0, 0))) :
    ∀ a, Has N l a → (results Try.f52 a.tmps).run Try.prog w = .ok (.tuple #[.int .i64 x, .string (bs s)]) w := fun a ha => by
  have hres : Try.f52.results = #[.cell 6 3, .cell 7 9] := rfl
  have r1 := (by simp [loadVar, isOne_run U.one3, cell_blk c6 (off := 0) rfl] : (loadVar 3 ⟨b6, 0, none⟩).run Try.prog w = .ok (.int .i64 x) w)
  have r2 := (by simp [loadVar, isOne_run U.one9, cell_blk c7 (off := 0) rfl] : (loadVar 9 ⟨b7, 0, none⟩).run Try.prog w = .ok (.string (bs s)) w)
  unfold results
  rw [hres]
  simp [(ha.at_ _ _ h6).2, (ha.at_ _ _ h7).2, asAddr, r1, r2]
set_option maxRecDepth 100000 in
set_option maxHeartbeats 1000000 in
theorem sv_handled_calls (k : Nat) (a0 : Bool) (a1 : Int) (a2 : List UInt8) {w : World} {r_ : Int × (List UInt8)} (h_ : sv_handled k a0 a1 a2 = some r_) :
    Calls Try.prog 52 [fnv 35 a0, .int .i64 a1, .string (bs a2)].toArray w fun e w' => e = .returned (.tuple #[.int .i64 r_.1, .string (bs r_.2)]) ∧ St w (KS []) w' [] := by
  unfold sv_handled at h_
  obtain ⟨rfl, hF⟩ := guard_some h_
  have S := St.ofFalse (As := []) (St.init0 w)
  refine enterD 19 [(0, .func (.func 35) #[] #[]), (1, .int .i64 a1), (2, .string (bs a2))] Try.func52 rfl rfl rfl rfl ?_
  refine WCode.seq ?_
  refine WCode.region ?_
  obtain ⟨b6, w1, E1, S1, X1, L1⟩ := St.var S (z := .int .i64 0) T.zeroI
  refine WOps.e E1 rfl ?_
  obtain ⟨b7, w2, E2, S2, X2, L2⟩ := St.var S1 (z := .string (bs ([] : List UInt8))) T.zeroS
  refine WOps.e E2 rfl ?_
  refine WOps.nil ?_
  refine WEx.then_ ?_
  refine WCode.seq ?_
  refine WCode.region ?_
  obtain ⟨b8, w3, E3, S3, X3, L3⟩ := St.var S2 (z := .bool false) T.zeroB
  refine WOps.e E3 rfl ?_
  obtain ⟨w4, E4, S4⟩ := St.store (P := Try.prog) S3 0 4 (.bool false) (off := 0) (cur' := #[.bool false]) rfl U.size4_1 rfl rfl rfl
  refine WOps.u (E4 rfl rfl) ?_
  refine WOps.nil ?_
  refine WEx.then_ ?_
  refine WCode.seq ?_
  refine WCode.region ?_
  refine WOps.p (G.makeFunc (evs_cons rfl (evs_cons rfl (evs_cons rfl evs_nil)))) rfl ?_
  refine WOps.defer (exec_defer (xs := []) rfl evs_nil) ?_
  refine WOps.nil ?_
  refine WEx.then_ ?_
  refine WCode.seq ?_
  refine WCode.region ?_
  refine WOps.p (G.move rfl) rfl ?_
  refine WOps.p (G.move rfl) rfl ?_
  refine WOps.p (G.move rfl) rfl ?_
  change St w (KS []) w4 [[(b8, .cells #[.bool false] 4 (0, 0))], [(b7, .cells #[.string (bs ([] : List UInt8))] 9 (0, 0))], [(b6, .cells #[.int .i64 0] 3 (0, 0))]] at S4
  refine WOps.callvp (caps := []) T.call35 rfl (evs_cons rfl (evs_cons rfl evs_nil)) rfl ?_
  rcases ite_some hF with ⟨hb, hF⟩ | ⟨hb, hF⟩
  · obtain rfl := some_eq hF
    refine (tells_bad a1 a2 hb).mono ?_
    rintro _ w5 ⟨u, pv, rfl, T5⟩
    refine .inr ⟨_, rfl, ?_⟩
    have S5 := St.callN (As := []) S4 T5
    have S6 : St w (KS []) w5 [[(b8, .cells #[.bool false] 4 (0, 0))], [(b6, .cells #[.int .i64 0] 3 (0, 0))], [(b7, .cells #[.string (bs ([] : List UInt8))] 9 (0, 0))]] := (S5.front 2 rfl).front 1 rfl
    repeat refine WEx.then_panic ?_
    refine WEx.panicD ?_
    refine WLv.cons (caps := [_, _, _].toArray) (vs := [].toArray) (by simp) T.call68 ?_
    refine (catch_bad (d := false) S6).mono ?_
    rintro _ _ w7 ⟨rfl, rfl, S7⟩
    refine .inl ⟨_, rfl, ?_⟩
    exact WLv.ret (fun N a ha => results52 rfl rfl (S7.blk 1 rfl) (S7.blk 2 rfl) a ha) ⟨rfl, St.keep (As := []) S7⟩
  · refine (sv_tells_calls k a1 a2 hF).mono ?_
    rintro _ w5 ⟨rfl, T5⟩
    refine .inl ⟨_, rfl, ?_⟩
    have S5 := St.callN (As := []) S4 T5
    have S6 : St w (KS []) w5 [[(b8, .cells #[.bool false] 4 (0, 0))], [(b6, .cells #[.int .i64 0] 3 (0, 0))], [(b7, .cells #[.string (bs ([] : List UInt8))] 9 (0, 0))]] := (S5.front 2 rfl).front 1 rfl
    refine WOps.p (G.move rfl) rfl ?_
    refine WOps.p (G.extract rfl rfl) rfl ?_
    refine WOps.p (G.extract rfl rfl) rfl ?_
    obtain ⟨w7, E7, S7⟩ := St.store (P := Try.prog) S6 1 3 (.int .i64 r_.1) (off := 0) (cur' := #[.int .i64 r_.1]) rfl U.size3_1 rfl rfl rfl
    refine WOps.u (E7 rfl rfl) ?_
    obtain ⟨w8, E8, S8⟩ := St.store (P := Try.prog) S7 2 9 (.string (bs r_.2)) (off := 0) (cur' := #[.string (bs r_.2)]) rfl U.size9_1 rfl rfl rfl
    refine WOps.u (E8 rfl rfl) ?_
    refine WOps.nil ?_
    refine WEx.then_ ?_
    refine WCode.seq ?_
    refine WCode.region ?_
    obtain ⟨w9, E9, S9⟩ := St.store (P := Try.prog) S8 0 4 (.bool true) (off := 0) (cur' := #[.bool true]) rfl U.size4_1 rfl rfl rfl
    refine WOps.u (E9 rfl rfl) ?_
    refine WOps.nil ?_
    refine WEx.then_ ?_
    change St w (KS []) w9 [[(b8, .cells #[.bool true] 4 (0, 0))], [(b6, .cells #[.int .i64 r_.1] 3 (0, 0))], [(b7, .cells #[.string (bs r_.2)] 9 (0, 0))]] at S9
    refine WCode.seq ?_
    refine WCode.noPanic ?_
    refine WCode.drawH (.one 0 1 (.one 1 1 (.one 2 2 (.one 3 2 .nil)))) (fun W_ => cellsAt W_ b6 0 [.int .i64 r_.1] ∧ cellsAt W_ b7 0 [.string (bs r_.2)]) T.mixed (by kernel_rfl) (fun _ _ _ _ _ h => h.elim) rfl rfl (by kernel_rfl) ?_ ?_
    all_goals have S10 := S9.drew
    all_goals generalize w9.drew = w10 at *
    · exact ⟨cellsAt.of_blk (S10.blk 1 rfl) rfl, cellsAt.of_blk (S10.blk 2 rfl) rfl⟩
    refine WH.r rfl wants (fun _ h_ => G.load1 U.one3 rfl (cellsAt.at h_.1 0 rfl)) rfl ?_
    refine WH.r rfl wants (fun _ h_ => G.load1 U.one9 rfl (cellsAt.at h_.2 0 rfl)) rfl ?_
    have done : ∀ (w : World) (l : Fr), Go.Eng.look l 6 = some (.pointer (some ⟨b6, 0, none⟩)) → True := fun _ _ _ => trivial
    have fin : ∀ {w' : World} {W : World} {l : Fr}, Go.Eng.look l 6 = some (.pointer (some ⟨b6, 0, none⟩)) → Go.Eng.look l 7 = some (.pointer (some ⟨b7, 0, none⟩)) → St W (KS []) w' [[(b8, .cells #[.bool true] 4 (0, 0))], [(b6, .cells #[.int .i64 r_.1] 3 (0, 0))], [(b7, .cells #[.string (bs r_.2)] 9 (0, 0))]] →
        WEx ⟨19, [{ target := .fn (.func 68) #[.pointer (some ⟨b8, 0, none⟩), .pointer (some ⟨b6, 0, none⟩), .pointer (some ⟨b7, 0, none⟩)], args := #[] }]⟩ (bodyPostD Try.prog Try.f52 fun e w' => e = .returned (.tuple #[.int .i64 r_.1, .string (bs r_.2)]) ∧ St W (KS []) w' []) .ret l w' := by
      intro w' W l h6 h7 S
      refine WEx.retD ?_
      refine WLv.cons (by simp) T.call68 ?_
      refine (catch_idle S).mono ?_
      rintro _ _ w7 ⟨rfl, rfl, S7⟩
      refine .inl ⟨_, rfl, ?_⟩
      exact WLv.ret (fun N a ha => results52 h6 h7 (S7.blk 1 rfl) (S7.blk 2 rfl) a ha) ⟨rfl, St.keep (As := []) S7⟩
    obtain ⟨w11, E11, S11⟩ := St.store (P := Try.prog) S10 1 3 (.int .i64 r_.1) (off := 0) (cur' := #[.int .i64 r_.1]) rfl U.size3_1 rfl rfl rfl
    refine WH.u rfl wants (E11 rfl rfl) ⟨cellsAt.of_blk (S11.blk 1 rfl) rfl, cellsAt.of_blk (S11.blk 2 rfl) rfl⟩ ?_
    obtain ⟨w12, E12, S12⟩ := St.store (P := Try.prog) S11 2 9 (.string (bs r_.2)) (off := 0) (cur' := #[.string (bs r_.2)]) rfl U.size9_1 rfl rfl rfl
    refine WH.u rfl wants (E12 rfl rfl) ⟨cellsAt.of_blk (S12.blk 1 rfl) rfl, cellsAt.of_blk (S12.blk 2 rfl) rfl⟩ ?_
    refine WH.nil ?_
    refine WEx.no_normal ?_
    refine WEx.then_ ?_
    refine WCode.ret ?_
    repeat refine WEx.then_ret ?_
    exact fin rfl rfl S12
end Go.Proofs.Ytpdpfiaediadgaa
