/- Walks (printed by gen.py over the engine). -/
import Derived.Test.YtoahkjehjmbojaaAirE
namespace Go.Proofs.Ytoahkjehjmbojaa
open Go Go.Eng
set_option linter.unusedSimpArgs false
set_option linter.unusedVariables false
theorem T.agg39_7 : isAggT Try.prog 39 7 = true := by kernel_rfl
theorem T.call12 : Callable Try.prog 12 := Callable.mk Try.func12 (by kernel_rfl) (by kernel_rfl)
theorem T.call13 : Callable Try.prog 13 := Callable.mk Try.func13 (by kernel_rfl) (by kernel_rfl)
theorem T.fld37_1 : fldOff Try.prog 37 1 = some 1 := by kernel_rfl
theorem T.fld39_0 : fldOff Try.prog 39 0 = some 0 := by kernel_rfl
theorem T.fld39_2 : fldOff Try.prog 39 2 = some 2 := by kernel_rfl
theorem T.size39_7 : sizeT Try.prog 39 = some 7 := by kernel_rfl
theorem T.zero39 : zeroOf Try.prog 39 = some (.agg #[.int .i64 0, .int .i64 0, .int .i64 0, .int .i64 0, .int .i64 0, .int .i64 0, .string ⟨#[]⟩]) := by kernel_rfl

set_option maxRecDepth 100000 in
set_option maxHeartbeats 1000000 in
theorem law_counts {w : World} {A : Option Addr} {c : Nat} {L : List Stp} (hScr : Rd w A L.length 7 (cellsOf Stp.cs L)) (hok : ∀ o ∈ L, o.Ok) (hL : L.length ≤ 9223372036854775807) :
    Calls Try.prog 4 [.slice A L.length c].toArray w fun e w' => e = .returned (.bool true) ∧ St w (fun _ => False) w' [] := by
  have cs : (2147483647 < sizeZ 0 L) ∨ (sizeZ 0 L ≤ 2147483647) := by omega
  rcases cs with h | h
  · have S := St.init0 w
    refine enter 187 [(0, .slice A L.length c)] Try.func4 rfl rfl rfl rfl ?_
    refine WCode.seq ?_
    refine WCode.region ?_
    refine WOps.p (G.assign rfl) rfl ?_
    refine WOps.nil ?_
    refine WEx.then_ ?_
    refine WCode.seq ?_
    refine WCode.seq ?_
    refine WCode.region ?_
    refine WOps.p (G.move rfl) rfl ?_
    refine WOps.call T.call12 (evs_cons rfl evs_nil) rfl ?_
    refine (law_size hScr hok hL).mono ?_
    rintro _ w2 ⟨rfl, T1⟩
    have S3 := S.call0 T1
    have X4 := T1.ext0
    change St _ _ _ [] at S3
    refine ⟨_, rfl, ?_⟩
    refine WOps.p (G.gtr rfl rfl (b := true) (decide_eq_true (by omega))) rfl ?_
    refine WOps.nil ?_
    refine WEx.forget (l' := [(0, .slice A L.length c), (2, .bool false), (21, .bool true)]) ⟨rfl, rfl, rfl, trivial⟩ ?_
    refine WEx.then_ ?_
    refine WCode.cond_t rfl ?_
    refine WCode.seq ?_
    refine WCode.region ?_
    refine WOps.p (G.assign rfl) rfl ?_
    refine WOps.nil ?_
    refine WEx.forget (l' := [(0, .slice A L.length c), (2, .bool true)]) ⟨rfl, rfl, trivial⟩ ?_
    refine WEx.then_ ?_
    refine WCode.ret ?_
    refine WEx.then_ret ?_
    refine WEx.ret1 rfl rfl ?_
    exact ⟨rfl, S3⟩
  · have S := St.init0 w
    refine enter 187 [(0, .slice A L.length c)] Try.func4 rfl rfl rfl rfl ?_
    refine WCode.seq ?_
    refine WCode.region ?_
    refine WOps.p (G.assign rfl) rfl ?_
    refine WOps.nil ?_
    refine WEx.then_ ?_
    refine WCode.seq ?_
    refine WCode.seq ?_
    refine WCode.region ?_
    refine WOps.p (G.move rfl) rfl ?_
    refine WOps.call T.call12 (evs_cons rfl evs_nil) rfl ?_
    refine (law_size hScr hok hL).mono ?_
    rintro _ w2 ⟨rfl, T1⟩
    have S3 := S.call0 T1
    have X4 := T1.ext0
    change St _ _ _ [] at S3
    refine ⟨_, rfl, ?_⟩
    refine WOps.p (G.gtr rfl rfl (b := false) (decide_eq_false (by omega))) rfl ?_
    refine WOps.nil ?_
    refine WEx.forget (l' := [(0, .slice A L.length c), (2, .bool false), (21, .bool false)]) ⟨rfl, rfl, rfl, trivial⟩ ?_
    refine WEx.then_ ?_
    refine WCode.cond_f rfl ?_
    refine WCode.skip ?_
    refine WEx.then_ ?_
    refine WCode.forget (l' := [(0, .slice A L.length c), (2, .bool false)]) ⟨rfl, rfl, trivial⟩ ?_
    refine WCode.seq ?_
    refine WCode.region ?_
    refine WOps.call T.call13 evs_nil rfl ?_
    refine (law_awake).mono ?_
    rintro _ w6 ⟨rfl, T5⟩
    have S7 := S3.call0 T5
    have X8 := T5.ext0
    change St _ _ _ [] at S7
    refine ⟨_, rfl, ?_⟩
    refine WOps.p (G.assign rfl) rfl ?_
    refine WOps.nil ?_
    refine WEx.forget (l' := [(0, .slice A L.length c), (2, .bool false), (3, .bool true)]) ⟨rfl, rfl, rfl, trivial⟩ ?_
    refine WEx.then_ ?_
    refine WCode.seq ?_
    refine WCode.region ?_
    refine WOps.call T.call14 evs_nil rfl ?_
    refine air_New.mono ?_
    rintro _ w9 ⟨pA, GA, rfl, hA, T10⟩
    have S11 := S7.call0 T10
    change St _ _ _ [GA] at S11
    refine ⟨_, rfl, ?_⟩
    refine WOps.p (G.assign rfl) rfl ?_
    refine WOps.nil ?_
    refine WEx.forget (l' := [(0, .slice A L.length c), (2, .bool false), (3, .bool true), (4, .pointer (some ⟨pA, 0, none⟩))]) ⟨rfl, rfl, rfl, rfl, trivial⟩ ?_
    refine WEx.then_ ?_
    refine WCode.seq ?_
    refine WCode.seq ?_
    refine WCode.region ?_
    refine WOps.p (G.move rfl) rfl ?_
    refine WOps.p (G.not rfl rfl) rfl ?_
    refine WOps.p (G.move rfl) rfl ?_
    refine WOps.on rfl rfl ?_
    refine WOps.p (G.move rfl) rfl ?_
    refine WOps.on rfl rfl ?_
    refine WOps.p (G.eqp_nil Try.underlying25 rfl rfl (b := false) rfl) rfl ?_
    refine WOps.p (G.pick_f rfl rfl) rfl ?_
    refine WOps.nil ?_
    refine WEx.forget (l' := [(0, .slice A L.length c), (2, .bool false), (4, .pointer (some ⟨pA, 0, none⟩)), (29, .bool false)]) ⟨rfl, rfl, rfl, rfl, trivial⟩ ?_
    refine WEx.then_ ?_
    refine WCode.cond_f rfl ?_
    refine WCode.skip ?_
    refine WEx.then_ ?_
    refine WCode.forget (l' := [(0, .slice A L.length c), (2, .bool false), (4, .pointer (some ⟨pA, 0, none⟩))]) ⟨rfl, rfl, rfl, trivial⟩ ?_
    refine WCode.seq ?_
    refine WCode.region ?_
    refine WOps.p (G.assign rfl) rfl ?_
    refine WOps.nil ?_
    refine WEx.then_ ?_
    refine WCode.seq ?_
    refine WCode.region ?_
    refine WOps.p (G.assign rfl) rfl ?_
    refine WOps.nil ?_
    refine WEx.then_ ?_
    refine WCode.seq ?_
    refine WCode.seq ?_
    refine WCode.region ?_
    refine WOps.p (G.assign rfl) rfl ?_
    refine WOps.nil ?_
    refine WEx.then_ ?_
    refine WCode.block ?_
    have hA := hA
    have S12 := St.keep (As := [GA]) S11
    have S13 := S12.emp
    have S14 := S13.front 1 rfl
    change St _ _ _ [GA, []] at S14
    refine WCode.forget (l' := [(0, .slice A L.length c), (2, .bool false), (4, .pointer (some ⟨pA, 0, none⟩)), (5, .slice none 0 0), (6, .int .i64 0), (7, .int .i64 0)]) ⟨rfl, rfl, rfl, rfl, rfl, rfl, trivial⟩ ?_
    have S0_ := S14
    refine WCode.loop (fun n_ l_ w' => ∃ i : Nat, ∃ sent : Int, ∃ F : List Pk, ∃ GA5 : Grp, ∃ A5 : Option Addr, ∃ c5 : Nat, ∃ G5 : Grp, l_ = [(0, .slice A L.length c), (2, .bool false), (4, .pointer (some ⟨pA, 0, none⟩)), (5, .slice A5 F.length c5), (6, .int .i64 sent), (7, .int .i64 (i : Nat))] ∧ n_ = L.length - i ∧ (i ≤ L.length) ∧ (0 ≤ sent ∧ sent ≤ i) ∧ (F.length ≤ 1000) ∧ (AirG 133 pA F 0 GA5) ∧ (RowG 37 3 (.slice A5 F.length c5) F.length (cellsOf Pk.cs F) G5) ∧ St w (fun _ => False) w' [GA5, G5]) _ ⟨0, 0, [], GA, none, 0, [], rfl, rfl, Nat.zero_le _, (by omega), (by simp), hA, (RowG.nil 37 3), S14⟩ ?_
    rintro _ _ w15 ⟨i, sent, F, GA5, A5, c5, G5, rfl, rfl, hi, hs, hF, hA5, hR5, S16⟩
    have hle5 : F.length ≤ c5 := by
      have q := hR5.shape; obtain ⟨_, _, hv, hle5, _⟩ := q; cases hv; exact hle5
    have cs_ : (i = L.length) ∨ (i < L.length) := by omega
    rcases cs_ with h | h
    ·
      refine WCode.seq ?_
      refine WCode.seq ?_
      refine WCode.region ?_
      refine WOps.p (G.move rfl) rfl ?_
      refine WOps.p (G.move rfl) rfl ?_
      refine WOps.p (G.len T.el22 rfl) rfl ?_
      refine WOps.p (G.lss rfl rfl (b := false) (decide_eq_false (by omega))) rfl ?_
      refine WOps.nil ?_
      refine WEx.then_ ?_
      refine WCode.cond_f rfl ?_
      refine WCode.exit ?_
      refine WEx.then_exit ?_
      refine WEx.then_exit ?_
      refine WEx.in_exit ?_
      refine WEx.then_ ?_
      refine WCode.forget (l' := [(2, .bool false), (4, .pointer (some ⟨pA, 0, none⟩)), (5, .slice A5 F.length c5)]) ⟨rfl, rfl, rfl, trivial⟩ ?_
      refine WCode.seq ?_
      refine WCode.region ?_
      refine WOps.p (G.move rfl) rfl ?_
      refine WOps.call T.call24 (evs_cons rfl evs_nil) rfl ?_
      refine (air_Flying hA5 S16.hp1 hF).mono ?_
      rintro _ w17 ⟨A9, c9, F9, rfl, hF9, T18⟩
      have S19 := S16.call1 T18
      change St _ _ _ [GA5, F9, G5] at S19
      refine ⟨_, rfl, ?_⟩
      refine WOps.p (G.move rfl) rfl ?_
      refine WOps.call T.call23 (evs_cons rfl (evs_cons rfl evs_nil)) rfl ?_
      refine (law_same (L := F) (M := F) (hF9.rd (fun b o hb => S19.grp 1 rfl hb)).2 (hR5.rd (fun b o hb => S19.grp 2 rfl hb)).2 (by omega)).mono ?_
      rintro _ w21 ⟨rfl, T20⟩
      have S22 := S19.call0 T20
      have X23 := T20.ext0
      change St _ _ _ [GA5, F9, G5] at S22
      rw [decide_eq_true (rfl : F = F)]
      refine ⟨_, rfl, ?_⟩
      refine WOps.p (G.assign rfl) rfl ?_
      refine WOps.nil ?_
      refine WEx.forget (l' := [(2, .bool false), (4, .pointer (some ⟨pA, 0, none⟩)), (18, .bool true)]) ⟨rfl, rfl, rfl, trivial⟩ ?_
      refine WEx.then_ ?_
      refine WCode.seq ?_
      refine WCode.region ?_
      refine WOps.p (G.move rfl) rfl ?_
      refine WOps.p (G.move rfl) rfl ?_
      refine WOps.on rfl rfl ?_
      refine WOps.p (G.move rfl) rfl ?_
      refine WOps.on rfl rfl ?_
      refine WOps.call T.call25 (evs_cons rfl evs_nil) rfl ?_
      refine (air_Now hA5 S22.hp1 ).mono ?_
      rintro _ w24 ⟨rfl, T27⟩
      have S28 := S22.call1 T27
      change St _ _ _ [GA5, F9, G5] at S28
      refine ⟨_, rfl, ?_⟩
      refine WOps.on rfl rfl ?_
      refine WOps.p (G.eql rfl rfl (b := true) rfl) rfl ?_
      refine WOps.p (G.pick_t rfl rfl) rfl ?_
      refine WOps.p (G.assign rfl) rfl ?_
      refine WOps.nil ?_
      refine WEx.forget (l' := [(2, .bool true)]) ⟨rfl, trivial⟩ ?_
      refine WEx.then_ ?_
      refine WCode.ret ?_
      refine WEx.ret1 rfl rfl ?_
      exact ⟨rfl, St.keep (As := []) S28⟩
    ·
      have h0 := h
      obtain ⟨x, hx⟩ : ∃ x, L[i]? = some x := ⟨_, List.getElem?_eq_getElem (h)⟩
      have ox := hok x (List.mem_of_getElem? hx)
      have oxm := ox.many
      unfold i64 at oxm
      refine WCode.seq ?_
      refine WCode.seq ?_
      refine WCode.region ?_
      refine WOps.p (G.move rfl) rfl ?_
      refine WOps.p (G.move rfl) rfl ?_
      refine WOps.p (G.len T.el22 rfl) rfl ?_
      refine WOps.p (G.lss rfl rfl (b := true) (decide_eq_true (by omega))) rfl ?_
      refine WOps.nil ?_
      refine WEx.then_ ?_
      refine WCode.cond_t rfl ?_
      refine WCode.skip ?_
      refine WEx.then_ ?_
      refine WCode.seq ?_
      refine WCode.block ?_
      refine WCode.seq ?_
      refine WCode.region ?_
      refine WOps.p (G.move rfl) rfl ?_
      refine WOps.p (G.move rfl) rfl ?_
      obtain ⟨b29, o30, ea31, ca32⟩ := Rd.at_ Stp.len (hScr.ext S16.ext0) hx rfl
      cases ea31
      refine WOps.p (G.index T.el22 rfl rfl (j := i) h0 rfl) rfl ?_
      refine WOps.r (G.loada T.agg39_7 rfl (cs := [.int .i64 x.k, .int .i64 x.on, .int .i64 x.n, .int .i64 x.many, .int .i64 x.f, .int .i64 x.t, .string x.d]) ca32) rfl ?_
      obtain ⟨b33, w34, E35, S36, X37, L38⟩ := St.var S16 T.zero39
      have c39 := ca32.ext X37
      change St _ _ _ [[(b33, .cells #[.int .i64 0, .int .i64 0, .int .i64 0, .int .i64 0, .int .i64 0, .int .i64 0, .string ⟨#[]⟩] 39 (0, 0))], GA5, G5] at S36
      refine WOps.e E35 rfl ?_
      obtain ⟨w40, E41, S42⟩ := St.store (P := Try.prog) S36 0 39 (.agg #[.int .i64 x.k, .int .i64 x.on, .int .i64 x.n, .int .i64 x.many, .int .i64 x.f, .int .i64 x.t, .string x.d]) (off := 0) (cur' := #[.int .i64 x.k, .int .i64 x.on, .int .i64 x.n, .int .i64 x.many, .int .i64 x.f, .int .i64 x.t, .string x.d]) rfl T.size39_7 rfl rfl rfl
      change St _ _ _ [[(b33, .cells #[.int .i64 x.k, .int .i64 x.on, .int .i64 x.n, .int .i64 x.many, .int .i64 x.f, .int .i64 x.t, .string x.d] 39 (0, 0))], GA5, G5] at S42
      refine WOps.u (E41 rfl rfl) ?_
      refine WOps.nil ?_
      refine WEx.then_ ?_
      refine WCode.seq ?_
      refine WCode.region ?_
      refine WOps.p (G.field T.fld39_2 rfl (show 0 + 2 = 2 from rfl)) rfl ?_
      refine WOps.r (G.load1 T.one3 rfl (cell_blk (S42.blk 0 rfl) rfl)) rfl ?_
      refine WOps.p (G.assign rfl) rfl ?_
      refine WOps.nil ?_
      refine WEx.then_ ?_
      refine WCode.seq ?_
      refine WCode.cutseq (fun l_ w' => ∃ b : Bool, l_ = [(0, .slice (some ⟨b29, o30, none⟩) L.length c), (2, .bool false), (4, .pointer (some ⟨pA, 0, none⟩)), (5, .slice A5 F.length c5), (6, .int .i64 sent), (7, .int .i64 (i : Nat)), (8, .pointer (some ⟨b33, 0, none⟩)), (9, .int .i64 x.n), (30, .int .i64 (i : Nat)), (31, .slice (some ⟨b29, o30, none⟩) L.length c), (32, .int .i64 (L.length : Nat)), (33, .bool true), (36, .slice (some ⟨b29, o30, none⟩) L.length c), (37, .int .i64 (i : Nat)), (38, .pointer (some ⟨b29, o30 + i * 7, none⟩)), (39, .agg #[.int .i64 x.k, .int .i64 x.on, .int .i64 x.n, .int .i64 x.many, .int .i64 x.f, .int .i64 x.t, .string x.d]), (40, .pointer (some ⟨b33, 2, none⟩)), (41, .int .i64 x.n), (50, .bool b)] ∧ (b = true → 0 < F.length) ∧ St w (fun _ => False) w' [[(b33, .cells #[.int .i64 x.k, .int .i64 x.on, .int .i64 x.n, .int .i64 x.many, .int .i64 x.f, .int .i64 x.t, .string x.d] 39 (0, 0))], GA5, G5]) ?_ ?_
      ·
        have cs_ : (F.length = 0) ∨ (0 < F.length ∧ Int.tmod x.many 3 = 0) ∨ (0 < F.length ∧ ¬ Int.tmod x.many 3 = 0) := by omega
        rcases cs_ with h | h | h
        ·
          refine WCode.region ?_
          refine WOps.p (G.move rfl) rfl ?_
          refine WOps.p (G.len T.el43 rfl) rfl ?_
          refine WOps.p (G.gtr rfl rfl (b := false) (decide_eq_false (by omega))) rfl ?_
          refine WOps.p (G.move rfl) rfl ?_
          refine WOps.off rfl rfl rfl rfl ?_
          refine WOps.off rfl rfl rfl rfl ?_
          refine WOps.off rfl rfl rfl rfl ?_
          refine WOps.off rfl rfl rfl rfl ?_
          refine WOps.p (G.pick_f rfl rfl) rfl ?_
          refine WOps.nil ?_
          have S46 := S42.front 2 rfl
          change St _ _ _ [G5, [(b33, .cells #[.int .i64 x.k, .int .i64 x.on, .int .i64 x.n, .int .i64 x.many, .int .i64 x.f, .int .i64 x.t, .string x.d] 39 (0, 0))], GA5] at S46
          have S47 := S46.front 2 rfl
          change St _ _ _ [GA5, G5, [(b33, .cells #[.int .i64 x.k, .int .i64 x.on, .int .i64 x.n, .int .i64 x.many, .int .i64 x.f, .int .i64 x.t, .string x.d] 39 (0, 0))]] at S47
          have S48 := S47.front 2 rfl
          change St _ _ _ [[(b33, .cells #[.int .i64 x.k, .int .i64 x.on, .int .i64 x.n, .int .i64 x.many, .int .i64 x.f, .int .i64 x.t, .string x.d] 39 (0, 0))], GA5, G5] at S48
          refine WEx.cutend _ ?_ ⟨false, rfl, (fun q => by cases q), S48⟩
          exact ⟨rfl, rfl, rfl, rfl, rfl, rfl, rfl, rfl, rfl, rfl, rfl, rfl, rfl, rfl, rfl, rfl, rfl, rfl, rfl, trivial⟩
        ·
          refine WCode.region ?_
          refine WOps.p (G.move rfl) rfl ?_
          refine WOps.p (G.len T.el43 rfl) rfl ?_
          refine WOps.p (G.gtr rfl rfl (b := true) (decide_eq_true (by omega))) rfl ?_
          refine WOps.p (G.move rfl) rfl ?_
          refine WOps.on rfl rfl ?_
          refine WOps.p (G.field T.fld39_3 rfl (show 0 + 3 = 3 from rfl)) rfl ?_
          refine WOps.on rfl rfl ?_
          refine WOps.r (G.load1 T.one3 rfl (cell_blk (S42.blk 0 rfl) rfl)) rfl ?_
          refine WOps.on rfl rfl ?_
          refine WOps.p (G.rem rfl rfl (by omega) (show _ = Int.tmod x.many 3 from rfl)) rfl ?_
          refine WOps.on rfl rfl ?_
          refine WOps.p (G.neq rfl rfl (b := false) (by rw [decide_eq_true (by omega)]; rfl)) rfl ?_
          refine WOps.p (G.pick_t rfl rfl) rfl ?_
          refine WOps.nil ?_
          have S49 := S42.front 2 rfl
          change St _ _ _ [G5, [(b33, .cells #[.int .i64 x.k, .int .i64 x.on, .int .i64 x.n, .int .i64 x.many, .int .i64 x.f, .int .i64 x.t, .string x.d] 39 (0, 0))], GA5] at S49
          have S50 := S49.front 2 rfl
          change St _ _ _ [GA5, G5, [(b33, .cells #[.int .i64 x.k, .int .i64 x.on, .int .i64 x.n, .int .i64 x.many, .int .i64 x.f, .int .i64 x.t, .string x.d] 39 (0, 0))]] at S50
          have S51 := S50.front 2 rfl
          change St _ _ _ [[(b33, .cells #[.int .i64 x.k, .int .i64 x.on, .int .i64 x.n, .int .i64 x.many, .int .i64 x.f, .int .i64 x.t, .string x.d] 39 (0, 0))], GA5, G5] at S51
          refine WEx.cutend _ ?_ ⟨false, rfl, (fun q => by cases q), S51⟩
          exact ⟨rfl, rfl, rfl, rfl, rfl, rfl, rfl, rfl, rfl, rfl, rfl, rfl, rfl, rfl, rfl, rfl, rfl, rfl, rfl, trivial⟩
        ·
          refine WCode.region ?_
          refine WOps.p (G.move rfl) rfl ?_
          refine WOps.p (G.len T.el43 rfl) rfl ?_
          refine WOps.p (G.gtr rfl rfl (b := true) (decide_eq_true (by omega))) rfl ?_
          refine WOps.p (G.move rfl) rfl ?_
          refine WOps.on rfl rfl ?_
          refine WOps.p (G.field T.fld39_3 rfl (show 0 + 3 = 3 from rfl)) rfl ?_
          refine WOps.on rfl rfl ?_
          refine WOps.r (G.load1 T.one3 rfl (cell_blk (S42.blk 0 rfl) rfl)) rfl ?_
          refine WOps.on rfl rfl ?_
          refine WOps.p (G.rem rfl rfl (by omega) (show _ = Int.tmod x.many 3 from rfl)) rfl ?_
          refine WOps.on rfl rfl ?_
          refine WOps.p (G.neq rfl rfl (b := true) (by rw [decide_eq_false (by omega)]; rfl)) rfl ?_
          refine WOps.p (G.pick_t rfl rfl) rfl ?_
          refine WOps.nil ?_
          have S52 := S42.front 2 rfl
          change St _ _ _ [G5, [(b33, .cells #[.int .i64 x.k, .int .i64 x.on, .int .i64 x.n, .int .i64 x.many, .int .i64 x.f, .int .i64 x.t, .string x.d] 39 (0, 0))], GA5] at S52
          have S53 := S52.front 2 rfl
          change St _ _ _ [GA5, G5, [(b33, .cells #[.int .i64 x.k, .int .i64 x.on, .int .i64 x.n, .int .i64 x.many, .int .i64 x.f, .int .i64 x.t, .string x.d] 39 (0, 0))]] at S53
          have S54 := S53.front 2 rfl
          change St _ _ _ [[(b33, .cells #[.int .i64 x.k, .int .i64 x.on, .int .i64 x.n, .int .i64 x.many, .int .i64 x.f, .int .i64 x.t, .string x.d] 39 (0, 0))], GA5, G5] at S54
          refine WEx.cutend _ ?_ ⟨true, rfl, (fun _ => h.1), S54⟩
          exact ⟨rfl, rfl, rfl, rfl, rfl, rfl, rfl, rfl, rfl, rfl, rfl, rfl, rfl, rfl, rfl, rfl, rfl, rfl, rfl, trivial⟩
      ·
        rintro _ w44 ⟨b, rfl, hb, S45⟩
        refine WCode.cut (fun l_ w' => ∃ n : Int, l_ = [(0, .slice (some ⟨b29, o30, none⟩) L.length c), (2, .bool false), (4, .pointer (some ⟨pA, 0, none⟩)), (5, .slice A5 F.length c5), (6, .int .i64 sent), (7, .int .i64 (i : Nat)), (8, .pointer (some ⟨b33, 0, none⟩)), (9, .int .i64 n), (30, .int .i64 (i : Nat)), (31, .slice (some ⟨b29, o30, none⟩) L.length c), (32, .int .i64 (L.length : Nat)), (33, .bool true), (36, .slice (some ⟨b29, o30, none⟩) L.length c), (37, .int .i64 (i : Nat)), (38, .pointer (some ⟨b29, o30 + i * 7, none⟩)), (39, .agg #[.int .i64 x.k, .int .i64 x.on, .int .i64 x.n, .int .i64 x.many, .int .i64 x.f, .int .i64 x.t, .string x.d]), (40, .pointer (some ⟨b33, 2, none⟩)), (41, .int .i64 x.n), (50, .bool b)] ∧ (i64 n) ∧ St w (fun _ => False) w' [[(b33, .cells #[.int .i64 x.k, .int .i64 x.on, .int .i64 x.n, .int .i64 x.many, .int .i64 x.f, .int .i64 x.t, .string x.d] 39 (0, 0))], GA5, G5]) ?_ ?_
        ·
          have cs_ : (b = true) ∨ (b = false) := (by cases b <;> simp)
          rcases cs_ with h | h
          ·
            subst h
            have hp := pickZ_in x.n F.length (hb rfl)
            refine WCode.cond_t rfl ?_
            refine WCode.region ?_
            refine WOps.p (G.field T.fld39_2 rfl (show 0 + 2 = 2 from rfl)) rfl ?_
            refine WOps.r (G.load1 T.one3 rfl (cell_blk (S45.blk 0 rfl) rfl)) rfl ?_
            refine WOps.p (G.move rfl) rfl ?_
            refine WOps.p (G.len T.el43 rfl) rfl ?_
            refine WOps.call T.call16 (evs_cons rfl (evs_cons rfl evs_nil)) rfl ?_
            refine (law_pick x.n F.length ox.n (hb rfl) (by omega)).mono ?_
            rintro _ w58 ⟨rfl, T57⟩
            have S59 := S45.call0 T57
            have X60 := T57.ext0
            change St _ _ _ [[(b33, .cells #[.int .i64 x.k, .int .i64 x.on, .int .i64 x.n, .int .i64 x.many, .int .i64 x.f, .int .i64 x.t, .string x.d] 39 (0, 0))], GA5, G5] at S59
            refine ⟨_, rfl, ?_⟩
            refine WOps.p (G.assign rfl) rfl ?_
            refine WOps.nil ?_
            have S61 := S59.front 2 rfl
            change St _ _ _ [G5, [(b33, .cells #[.int .i64 x.k, .int .i64 x.on, .int .i64 x.n, .int .i64 x.many, .int .i64 x.f, .int .i64 x.t, .string x.d] 39 (0, 0))], GA5] at S61
            have S62 := S61.front 2 rfl
            change St _ _ _ [GA5, G5, [(b33, .cells #[.int .i64 x.k, .int .i64 x.on, .int .i64 x.n, .int .i64 x.many, .int .i64 x.f, .int .i64 x.t, .string x.d] 39 (0, 0))]] at S62
            have S63 := S62.front 2 rfl
            change St _ _ _ [[(b33, .cells #[.int .i64 x.k, .int .i64 x.on, .int .i64 x.n, .int .i64 x.many, .int .i64 x.f, .int .i64 x.t, .string x.d] 39 (0, 0))], GA5, G5] at S63
            refine WEx.cut ?_ ⟨pickZ x.n F.length, rfl, (by unfold i64; omega), S63⟩
            exact ⟨rfl, rfl, rfl, rfl, rfl, rfl, rfl, rfl, rfl, rfl, rfl, rfl, rfl, rfl, rfl, rfl, rfl, rfl, rfl, trivial⟩
          ·
            subst h
            refine WCode.cond_f rfl ?_
            refine WCode.skip ?_
            have S64 := S45.front 2 rfl
            change St _ _ _ [G5, [(b33, .cells #[.int .i64 x.k, .int .i64 x.on, .int .i64 x.n, .int .i64 x.many, .int .i64 x.f, .int .i64 x.t, .string x.d] 39 (0, 0))], GA5] at S64
            have S65 := S64.front 2 rfl
            change St _ _ _ [GA5, G5, [(b33, .cells #[.int .i64 x.k, .int .i64 x.on, .int .i64 x.n, .int .i64 x.many, .int .i64 x.f, .int .i64 x.t, .string x.d] 39 (0, 0))]] at S65
            have S66 := S65.front 2 rfl
            change St _ _ _ [[(b33, .cells #[.int .i64 x.k, .int .i64 x.on, .int .i64 x.n, .int .i64 x.many, .int .i64 x.f, .int .i64 x.t, .string x.d] 39 (0, 0))], GA5, G5] at S66
            refine WEx.cut ?_ ⟨x.n, rfl, ox.n, S66⟩
            exact ⟨rfl, rfl, rfl, rfl, rfl, rfl, rfl, rfl, rfl, rfl, rfl, rfl, rfl, rfl, rfl, rfl, rfl, rfl, rfl, trivial⟩
        ·
          rintro _ w55 ⟨n, rfl, hn, S56⟩
          refine WEx.then_ ?_
          refine WCode.cutseq (fun l_ w' => ∃ b2 : Bool, l_ = [(0, .slice (some ⟨b29, o30, none⟩) L.length c), (2, .bool false), (4, .pointer (some ⟨pA, 0, none⟩)), (5, .slice A5 F.length c5), (6, .int .i64 sent), (7, .int .i64 (i : Nat)), (8, .pointer (some ⟨b33, 0, none⟩)), (9, .int .i64 n), (10, .bool b2), (30, .int .i64 (i : Nat)), (31, .slice (some ⟨b29, o30, none⟩) L.length c), (32, .int .i64 (L.length : Nat)), (33, .bool true), (36, .slice (some ⟨b29, o30, none⟩) L.length c), (37, .int .i64 (i : Nat)), (38, .pointer (some ⟨b29, o30 + i * 7, none⟩)), (39, .agg #[.int .i64 x.k, .int .i64 x.on, .int .i64 x.n, .int .i64 x.many, .int .i64 x.f, .int .i64 x.t, .string x.d]), (40, .pointer (some ⟨b33, 2, none⟩)), (41, .int .i64 x.n), (50, .bool b)] ∧ (b2 = decide (isAt F n)) ∧ St w (fun _ => False) w' [[(b33, .cells #[.int .i64 x.k, .int .i64 x.on, .int .i64 x.n, .int .i64 x.many, .int .i64 x.f, .int .i64 x.t, .string x.d] 39 (0, 0))], GA5, G5]) ?_ ?_
          ·
            have cs_ : (n < 0) ∨ (0 ≤ n ∧ (F.length : Int) ≤ n) ∨ (isAt F n) := by unfold isAt; omega
            rcases cs_ with h | h | h
            ·
              refine WCode.region ?_
              refine WOps.p (G.move rfl) rfl ?_
              refine WOps.p (G.geq rfl rfl (b := false) (decide_eq_false (by omega))) rfl ?_
              refine WOps.p (G.move rfl) rfl ?_
              refine WOps.off rfl rfl rfl rfl ?_
              refine WOps.off rfl rfl rfl rfl ?_
              refine WOps.off rfl rfl rfl rfl ?_
              refine WOps.off rfl rfl rfl rfl ?_
              refine WOps.p (G.pick_f rfl rfl) rfl ?_
              refine WOps.p (G.assign rfl) rfl ?_
              refine WOps.nil ?_
              have S69 := S56.front 2 rfl
              change St _ _ _ [G5, [(b33, .cells #[.int .i64 x.k, .int .i64 x.on, .int .i64 x.n, .int .i64 x.many, .int .i64 x.f, .int .i64 x.t, .string x.d] 39 (0, 0))], GA5] at S69
              have S70 := S69.front 2 rfl
              change St _ _ _ [GA5, G5, [(b33, .cells #[.int .i64 x.k, .int .i64 x.on, .int .i64 x.n, .int .i64 x.many, .int .i64 x.f, .int .i64 x.t, .string x.d] 39 (0, 0))]] at S70
              have S71 := S70.front 2 rfl
              change St _ _ _ [[(b33, .cells #[.int .i64 x.k, .int .i64 x.on, .int .i64 x.n, .int .i64 x.many, .int .i64 x.f, .int .i64 x.t, .string x.d] 39 (0, 0))], GA5, G5] at S71
              refine WEx.cutend _ ?_ ⟨false, rfl, (decide_eq_false (fun q : isAt F n => by have := q.1; omega)).symm, S71⟩
              exact ⟨rfl, rfl, rfl, rfl, rfl, rfl, rfl, rfl, rfl, rfl, rfl, rfl, rfl, rfl, rfl, rfl, rfl, rfl, rfl, rfl, trivial⟩
            ·
              refine WCode.region ?_
              refine WOps.p (G.move rfl) rfl ?_
              refine WOps.p (G.geq rfl rfl (b := true) (decide_eq_true (by omega))) rfl ?_
              refine WOps.p (G.move rfl) rfl ?_
              refine WOps.on rfl rfl ?_
              refine WOps.p (G.move rfl) rfl ?_
              refine WOps.on rfl rfl ?_
              refine WOps.p (G.move rfl) rfl ?_
              refine WOps.on rfl rfl ?_
              refine WOps.p (G.len T.el43 rfl) rfl ?_
              refine WOps.on rfl rfl ?_
              refine WOps.p (G.lss rfl rfl (b := false) (decide_eq_false (by omega))) rfl ?_
              refine WOps.p (G.pick_t rfl rfl) rfl ?_
              refine WOps.p (G.assign rfl) rfl ?_
              refine WOps.nil ?_
              have S72 := S56.front 2 rfl
              change St _ _ _ [G5, [(b33, .cells #[.int .i64 x.k, .int .i64 x.on, .int .i64 x.n, .int .i64 x.many, .int .i64 x.f, .int .i64 x.t, .string x.d] 39 (0, 0))], GA5] at S72
              have S73 := S72.front 2 rfl
              change St _ _ _ [GA5, G5, [(b33, .cells #[.int .i64 x.k, .int .i64 x.on, .int .i64 x.n, .int .i64 x.many, .int .i64 x.f, .int .i64 x.t, .string x.d] 39 (0, 0))]] at S73
              have S74 := S73.front 2 rfl
              change St _ _ _ [[(b33, .cells #[.int .i64 x.k, .int .i64 x.on, .int .i64 x.n, .int .i64 x.many, .int .i64 x.f, .int .i64 x.t, .string x.d] 39 (0, 0))], GA5, G5] at S74
              refine WEx.cutend _ ?_ ⟨false, rfl, (decide_eq_false (fun q : isAt F n => by have := q.2; omega)).symm, S74⟩
              exact ⟨rfl, rfl, rfl, rfl, rfl, rfl, rfl, rfl, rfl, rfl, rfl, rfl, rfl, rfl, rfl, rfl, rfl, rfl, rfl, rfl, trivial⟩
            ·
              have h1_ := h.1; have h2_ := h.2
              refine WCode.region ?_
              refine WOps.p (G.move rfl) rfl ?_
              refine WOps.p (G.geq rfl rfl (b := true) (decide_eq_true (by omega))) rfl ?_
              refine WOps.p (G.move rfl) rfl ?_
              refine WOps.on rfl rfl ?_
              refine WOps.p (G.move rfl) rfl ?_
              refine WOps.on rfl rfl ?_
              refine WOps.p (G.move rfl) rfl ?_
              refine WOps.on rfl rfl ?_
              refine WOps.p (G.len T.el43 rfl) rfl ?_
              refine WOps.on rfl rfl ?_
              refine WOps.p (G.lss rfl rfl (b := true) (decide_eq_true (by omega))) rfl ?_
              refine WOps.p (G.pick_t rfl rfl) rfl ?_
              refine WOps.p (G.assign rfl) rfl ?_
              refine WOps.nil ?_
              have S75 := S56.front 2 rfl
              change St _ _ _ [G5, [(b33, .cells #[.int .i64 x.k, .int .i64 x.on, .int .i64 x.n, .int .i64 x.many, .int .i64 x.f, .int .i64 x.t, .string x.d] 39 (0, 0))], GA5] at S75
              have S76 := S75.front 2 rfl
              change St _ _ _ [GA5, G5, [(b33, .cells #[.int .i64 x.k, .int .i64 x.on, .int .i64 x.n, .int .i64 x.many, .int .i64 x.f, .int .i64 x.t, .string x.d] 39 (0, 0))]] at S76
              have S77 := S76.front 2 rfl
              change St _ _ _ [[(b33, .cells #[.int .i64 x.k, .int .i64 x.on, .int .i64 x.n, .int .i64 x.many, .int .i64 x.f, .int .i64 x.t, .string x.d] 39 (0, 0))], GA5, G5] at S77
              refine WEx.cutend _ ?_ ⟨true, rfl, (decide_eq_true h).symm, S77⟩
              exact ⟨rfl, rfl, rfl, rfl, rfl, rfl, rfl, rfl, rfl, rfl, rfl, rfl, rfl, rfl, rfl, rfl, rfl, rfl, rfl, rfl, trivial⟩
          ·
            rintro _ w67 ⟨b2, rfl, h2, S68⟩
            have cs_ : (isAt F n ∧ x.k = 2) ∨ (¬ isAt F n ∧ x.k = 2) ∨ (isAt F n ∧ x.k = 7) ∨ (¬ isAt F n ∧ x.k = 7) ∨ (isAt F n ∧ x.k = 3) ∨ (¬ isAt F n ∧ x.k = 3) ∨ (isAt F n ∧ x.k = 4 ∧ F.length < 1000) ∨ (isAt F n ∧ x.k = 4 ∧ 1000 ≤ F.length) ∨ (¬ isAt F n ∧ x.k = 4) ∨ (x.k ≠ 2 ∧ x.k ≠ 7 ∧ x.k ≠ 3 ∧ x.k ≠ 4 ∧ x.d.size ≤ 1500 ∧ F.length < 1000) ∨ (x.k ≠ 2 ∧ x.k ≠ 7 ∧ x.k ≠ 3 ∧ x.k ≠ 4 ∧ x.d.size ≤ 1500 ∧ 1000 ≤ F.length) ∨ (x.k ≠ 2 ∧ x.k ≠ 7 ∧ x.k ≠ 3 ∧ x.k ≠ 4 ∧ 1500 < x.d.size) := (by by_cases e : isAt F n <;> simp only [e, true_and, false_and, not_true_eq_false, not_false_eq_true, true_or, false_or, or_true, or_false] <;> omega)
            rcases cs_ with h | h | h | h | h | h | h | h | h | h | h | h
            ·
              obtain rfl : b2 = true := by rw [h2]; exact decide_eq_true h.1
              obtain ⟨j, y, rfl, hj⟩ := at_nat h.1
              have hjl : j < F.length := (List.getElem?_eq_some_iff.1 hj).1
              have hat := h.1
              refine WCode.seq ?_
              refine WCode.seq ?_
              refine WCode.region ?_
              refine WOps.p (G.field T.fld39_0 rfl (show 0 + 0 = 0 from rfl)) rfl ?_
              refine WOps.r (G.load1 T.one3 rfl (cell_blk (S68.blk 0 rfl) rfl)) rfl ?_
              refine WOps.nil ?_
              refine WEx.then_ ?_
              refine WCode.block ?_
              refine WCode.seq ?_
              refine WCode.seq ?_
              refine WCode.region ?_
              refine WOps.p (G.eql rfl rfl (b := true) (decide_eq_true (by omega))) rfl ?_
              refine WOps.p (G.assign rfl) rfl ?_
              refine WOps.nil ?_
              refine WEx.then_ ?_
              refine WCode.cond_t rfl ?_
              refine WCode.skip ?_
              refine WEx.then_ ?_
              refine WCode.cond_t rfl ?_
              refine WCode.seq ?_
              refine WCode.region ?_
              refine WOps.p (G.move rfl) rfl ?_
              refine WOps.p (G.move rfl) rfl ?_
              refine WOps.call T.call19 (evs_cons rfl (evs_cons rfl evs_nil)) rfl ?_
              have S78 := S68.front 1 rfl
              change St _ _ _ [GA5, [(b33, .cells #[.int .i64 x.k, .int .i64 x.on, .int .i64 x.n, .int .i64 x.many, .int .i64 x.f, .int .i64 x.t, .string x.d] 39 (0, 0))], G5] at S78
              refine (air_Deliver hA5 S78.hp1 hF (j : Int)).mono ?_
              rintro _ w79 ⟨rfl, G80, hA81, T83⟩
              have S84 := S78.call1 T83
              have hA82 : AirG 133 pA (F.eraseIdx j) 0 G80 := (by have q := hA81; rw [delL, if_pos hat, Int.toNat_natCast] at q; exact q)
              change St _ _ _ [G80, [(b33, .cells #[.int .i64 x.k, .int .i64 x.on, .int .i64 x.n, .int .i64 x.many, .int .i64 x.f, .int .i64 x.t, .string x.d] 39 (0, 0))], G5] at S84
              rw [show delP F (j : Int) = y from by rw [delP, if_pos hat, Int.toNat_natCast, hj]; rfl, show delE F (j : Int) = 0 from if_pos hat]
              refine ⟨_, rfl, ?_⟩
              refine WOps.p (G.move rfl) rfl ?_
              refine WOps.p (G.extract rfl rfl) rfl ?_
              refine WOps.p (G.extract rfl rfl) rfl ?_
              obtain ⟨b85, w86, E87, S88, X89, L90⟩ := St.var S84 T.zero37
              change St _ _ _ [[(b85, .cells #[.int .i64 0, .int .i64 0, .string ⟨#[]⟩] 37 (0, 0))], G80, [(b33, .cells #[.int .i64 x.k, .int .i64 x.on, .int .i64 x.n, .int .i64 x.many, .int .i64 x.f, .int .i64 x.t, .string x.d] 39 (0, 0))], G5] at S88
              refine WOps.e E87 rfl ?_
              obtain ⟨w91, E92, S93⟩ := St.store (P := Try.prog) S88 0 37 (.agg #[.int .i64 y.f, .int .i64 y.t, .string y.d]) (off := 0) (cur' := #[.int .i64 y.f, .int .i64 y.t, .string y.d]) rfl T.size37_3 rfl rfl rfl
              change St _ _ _ [[(b85, .cells #[.int .i64 y.f, .int .i64 y.t, .string y.d] 37 (0, 0))], G80, [(b33, .cells #[.int .i64 x.k, .int .i64 x.on, .int .i64 x.n, .int .i64 x.many, .int .i64 x.f, .int .i64 x.t, .string x.d] 39 (0, 0))], G5] at S93
              refine WOps.u (E92 rfl rfl) ?_
              refine WOps.p (G.assign rfl) rfl ?_
              refine WOps.nil ?_
              refine WEx.then_ ?_
              refine WCode.seq ?_
              refine WCode.drawH (.one 0 0 (.one 1 0 (.one 2 0 (.one 3 0 (.one 4 0 (.one 5 0 (.one 6 0 (.one 8 0 (.one 9 0 (.one 10 0 (.one 7 1 (.one 11 1 (.one 12 0 (.one 13 0 (.one 14 0 .nil))))))))))))))) (fun W => cellsAt W b85 0 [.int .i64 y.f, .int .i64 y.t, .string y.d] ∧ Rd W A5 F.length 3 (cellsOf Pk.cs F) ∧ True) T.mixed (by kernel_rfl) (by intro _ _ d _ _ h; cases d <;> exact h) rfl rfl (by kernel_rfl) ?_ ?_
              all_goals have S95 := S93.drew
              all_goals generalize w91.drew = w96 at *
              · exact ⟨cellsAt.of_blk (S95.blk 0 rfl) rfl, (hR5.rd (fun b o hb => S95.grp 3 rfl hb)).2, trivial⟩
              refine WH.p rfl wants (G.move rfl) rfl ?_
              refine WH.p rfl wants (G.move rfl) rfl ?_
              refine WH.p rfl wants (G.eql rfl rfl (b := true) rfl) rfl ?_
              refine WH.p rfl wants (G.neqb Try.underlying4 rfl rfl (b := false) rfl) rfl ?_
              refine WH.p rfl wants (G.move rfl) rfl ?_
              refine WH.p rfl (wants_on rfl rfl) (G.move rfl) rfl ?_
              refine WH.p rfl (wants_on rfl rfl) (G.move rfl) rfl ?_
              refine WH.p rfl (wants_on rfl rfl) (G.move rfl) rfl ?_
              refine WH.p rfl (wants_on rfl rfl) (G.move rfl) rfl ?_
              obtain ⟨b97, o98, ea99, ca100⟩ := Rd.at_ Pk.len (hR5.rd (fun b o hb => S95.grp 3 rfl hb)).2 hj rfl
              cases ea99
              refine WH.p rfl (wants_on rfl rfl) (G.index T.el43 rfl rfl (j := j) hjl rfl) rfl ?_
              refine WH.r rfl (wants_on rfl rfl) (fun _ h => G.loada T.agg37_3 rfl (cs := [.int .i64 y.f, .int .i64 y.t, .string y.d]) (cellsAt.part h.1 0 rfl)) rfl ?_
              refine WH.r rfl (wants_on rfl rfl) (fun _ h => G.loada T.agg37_3 rfl (cs := [.int .i64 y.f, .int .i64 y.t, .string y.d]) (cellsAt.part (Rd.cells Pk.len h.2.1 hj rfl) 0 rfl)) rfl ?_
              refine WH.p rfl (wants_on rfl rfl) (G.neqa rfl rfl (by kernel_rfl) (pk_eqIn y y) (show (!decide (y = y)) = false from by simp)) rfl ?_
              refine WH.p rfl (wants_on rfl rfl) (G.pick_t rfl rfl) rfl ?_
              refine WH.p rfl wants (G.pick_f rfl rfl) rfl ?_
              refine WH.nil ?_
              refine WEx.then_ ?_
              refine WCode.cond_f rfl ?_
              refine WCode.skip ?_
              refine WEx.in_normal ?_
              refine WEx.then_ ?_
              refine WCode.seq ?_
              refine WCode.region ?_
              refine WOps.p (G.move rfl) rfl ?_
              refine WOps.nil ?_
              refine WEx.then_ ?_
              refine WCode.cond_t rfl ?_
              refine WCode.seq ?_
              refine WCode.region ?_
              refine WOps.p (G.assign rfl) rfl ?_
              refine WOps.nil ?_
              refine WEx.then_ ?_
              refine WCode.seq ?_
              refine WCode.region ?_
              refine WOps.p (G.move rfl) rfl ?_
              refine WOps.p (G.move rfl) rfl ?_
              refine WOps.p (G.move rfl) rfl ?_
              refine WOps.p (G.slice_h T.el43 rfl (h := j) rfl (by omega)) rfl ?_
              have S101 := S95.emp
              have h0102 : RowG 37 3 (.slice none 0 0) 0 [] [] := ⟨by simp, .inl ⟨_, rfl, rfl, rfl⟩⟩
              obtain ⟨A103, c104, G105, w106, E107, hR108, S109⟩ := St.append (P := Try.prog) S101 0 rfl T.elt43 h0102 (Rd.take (hR5.rd (fun b o hb => S101.grp 4 rfl hb)).2 (m := j) (by omega)) (fun u hu => Pk.ones F u (List.mem_of_mem_take hu)) (by simp only [maxLen]; omega) (by omega)
              change St _ _ _ [G105, [(b85, .cells #[.int .i64 y.f, .int .i64 y.t, .string y.d] 37 (0, 0))], G80, [(b33, .cells #[.int .i64 x.k, .int .i64 x.on, .int .i64 x.n, .int .i64 x.many, .int .i64 x.f, .int .i64 x.t, .string x.d] 39 (0, 0))], G5] at S109
              refine WOps.e (E107 rfl rfl) rfl ?_
              refine WOps.p (G.assign rfl) rfl ?_
              refine WOps.nil ?_
              refine WEx.then_ ?_
              refine WCode.region ?_
              refine WOps.p (G.move rfl) rfl ?_
              refine WOps.p (G.move rfl) rfl ?_
              refine WOps.p (G.move rfl) rfl ?_
              refine WOps.p (G.add rfl rfl (show IntKind.i64.wrap ((j : Int) + 1) = ((j : Int) + 1) from IntWalk.i64_in _ (by omega))) rfl ?_
              refine WOps.p (G.slice_l T.el43 rfl (lo := j + 1) rfl (by omega)) rfl ?_
              obtain ⟨A110, c111, G112, w113, E114, hR115, S116⟩ := St.append (P := Try.prog) S109 0 rfl T.elt43 hR108 (Rd.drop (hR5.rd (fun b o hb => S109.grp 4 rfl hb)).2 (lo := j + 1) (by omega) hle5) (fun u hu => Pk.ones F u (List.mem_of_mem_drop hu)) (by simp only [maxLen]; omega) (by omega)
              change St _ _ _ [G112, [(b85, .cells #[.int .i64 y.f, .int .i64 y.t, .string y.d] 37 (0, 0))], G80, [(b33, .cells #[.int .i64 x.k, .int .i64 x.on, .int .i64 x.n, .int .i64 x.many, .int .i64 x.f, .int .i64 x.t, .string x.d] 39 (0, 0))], G5] at S116
              refine WOps.e (E114 rfl rfl) rfl ?_
              refine WOps.p (G.assign rfl) rfl ?_
              refine WOps.nil ?_
              refine WEx.in_normal ?_
              refine WEx.then_ ?_
              refine WCode.region ?_
              refine WOps.p (G.move rfl) rfl ?_
              refine WOps.p (G.add rfl rfl (show IntKind.i64.wrap ((i : Nat) + 1) = ((i : Nat) + 1) from IntWalk.i64_in _ (by omega))) rfl ?_
              refine WOps.p (G.assign rfl) rfl ?_
              refine WOps.nil ?_
              have hRn : RowG 37 3 (.slice A110 (F.eraseIdx j).length c111) (F.eraseIdx j).length (cellsOf Pk.cs (F.eraseIdx j)) G112 := by
                have e1 := erase_len hjl; have e2 := erase_cells F j
                have h := hR115; rw [Nat.zero_add, List.nil_append, e2, e1] at h; exact h
              have hlen : j + (F.length - (j + 1)) = (F.eraseIdx j).length := erase_len hjl
              have S117 := S116.front 2 rfl
              change St _ _ _ [G80, G112, [(b85, .cells #[.int .i64 y.f, .int .i64 y.t, .string y.d] 37 (0, 0))], [(b33, .cells #[.int .i64 x.k, .int .i64 x.on, .int .i64 x.n, .int .i64 x.many, .int .i64 x.f, .int .i64 x.t, .string x.d] 39 (0, 0))], G5] at S117
              have S118 := St.keep (As := [G80, G112]) S117
              refine WEx.again _ _ ?_ ?_ ⟨i + 1, sent, (F.eraseIdx j), G80, A110, c111, G112, rfl, rfl, h0, (by omega), (by have := List.length_eraseIdx_of_lt hjl; omega), hA82, hRn, S118⟩
              · have := h0; omega
              · exact ⟨rfl, rfl, rfl, (show some (Value.slice A110 (0 + j + (F.length - (j + 1))) c111) = _ from by rw [Nat.zero_add, hlen]), rfl, rfl, trivial⟩
            ·
              obtain rfl : b2 = false := by rw [h2]; exact decide_eq_false h.1
              have hat := h.1
              refine WCode.seq ?_
              refine WCode.seq ?_
              refine WCode.region ?_
              refine WOps.p (G.field T.fld39_0 rfl (show 0 + 0 = 0 from rfl)) rfl ?_
              refine WOps.r (G.load1 T.one3 rfl (cell_blk (S68.blk 0 rfl) rfl)) rfl ?_
              refine WOps.nil ?_
              refine WEx.then_ ?_
              refine WCode.block ?_
              refine WCode.seq ?_
              refine WCode.seq ?_
              refine WCode.region ?_
              refine WOps.p (G.eql rfl rfl (b := true) (decide_eq_true (by omega))) rfl ?_
              refine WOps.p (G.assign rfl) rfl ?_
              refine WOps.nil ?_
              refine WEx.then_ ?_
              refine WCode.cond_t rfl ?_
              refine WCode.skip ?_
              refine WEx.then_ ?_
              refine WCode.cond_t rfl ?_
              refine WCode.seq ?_
              refine WCode.region ?_
              refine WOps.p (G.move rfl) rfl ?_
              refine WOps.p (G.move rfl) rfl ?_
              refine WOps.call T.call19 (evs_cons rfl (evs_cons rfl evs_nil)) rfl ?_
              have S119 := S68.front 1 rfl
              change St _ _ _ [GA5, [(b33, .cells #[.int .i64 x.k, .int .i64 x.on, .int .i64 x.n, .int .i64 x.many, .int .i64 x.f, .int .i64 x.t, .string x.d] 39 (0, 0))], G5] at S119
              refine (air_Deliver hA5 S119.hp1 hF n).mono ?_
              rintro _ w120 ⟨rfl, G121, hA122, T124⟩
              have S125 := S119.call1 T124
              have hA123 : AirG 133 pA F 0 G121 := (by have q := hA122; rw [delL, if_neg hat] at q; exact q)
              change St _ _ _ [G121, [(b33, .cells #[.int .i64 x.k, .int .i64 x.on, .int .i64 x.n, .int .i64 x.many, .int .i64 x.f, .int .i64 x.t, .string x.d] 39 (0, 0))], G5] at S125
              rw [show delP F n = Pk.zero from if_neg hat, show delE F n = 130 from if_neg hat]
              refine ⟨_, rfl, ?_⟩
              refine WOps.p (G.move rfl) rfl ?_
              refine WOps.p (G.extract rfl rfl) rfl ?_
              refine WOps.p (G.extract rfl rfl) rfl ?_
              obtain ⟨b126, w127, E128, S129, X130, L131⟩ := St.var S125 T.zero37
              change St _ _ _ [[(b126, .cells #[.int .i64 0, .int .i64 0, .string ⟨#[]⟩] 37 (0, 0))], G121, [(b33, .cells #[.int .i64 x.k, .int .i64 x.on, .int .i64 x.n, .int .i64 x.many, .int .i64 x.f, .int .i64 x.t, .string x.d] 39 (0, 0))], G5] at S129
              refine WOps.e E128 rfl ?_
              obtain ⟨w132, E133, S134⟩ := St.store (P := Try.prog) S129 0 37 (.agg #[.int .i64 0, .int .i64 0, .string ⟨#[]⟩]) (off := 0) (cur' := #[.int .i64 0, .int .i64 0, .string ⟨#[]⟩]) rfl T.size37_3 rfl rfl rfl
              change St _ _ _ [[(b126, .cells #[.int .i64 0, .int .i64 0, .string ⟨#[]⟩] 37 (0, 0))], G121, [(b33, .cells #[.int .i64 x.k, .int .i64 x.on, .int .i64 x.n, .int .i64 x.many, .int .i64 x.f, .int .i64 x.t, .string x.d] 39 (0, 0))], G5] at S134
              refine WOps.u (E133 rfl rfl) ?_
              refine WOps.p (G.assign rfl) rfl ?_
              refine WOps.nil ?_
              refine WEx.then_ ?_
              refine WCode.seq ?_
              refine WCode.drawH (.one 0 0 (.one 1 0 (.one 2 0 (.one 3 0 (.one 4 0 (.one 5 0 (.one 6 0 (.one 8 0 (.one 9 0 (.one 10 0 (.one 7 1 (.one 11 1 (.one 12 0 (.one 13 0 (.one 14 0 .nil))))))))))))))) (fun W => True) T.mixed (by kernel_rfl) (by intro _ _ d _ _ h; cases d <;> exact h) rfl rfl (by kernel_rfl) ?_ ?_
              all_goals have S136 := S134.drew
              all_goals generalize w132.drew = w137 at *
              · exact trivial
              refine WH.p rfl wants (G.move rfl) rfl ?_
              refine WH.p rfl wants (G.move rfl) rfl ?_
              refine WH.p rfl wants (G.eql rfl rfl (b := false) rfl) rfl ?_
              refine WH.p rfl wants (G.neqb Try.underlying4 rfl rfl (b := false) rfl) rfl ?_
              refine WH.p rfl wants (G.move rfl) rfl ?_
              refine WH.p rfl (wants_on rfl rfl) (G.move rfl) rfl ?_
              refine WH.p rfl (wants_on rfl rfl) (G.move rfl) rfl ?_
              refine WH.off rfl rfl rfl rfl rfl rfl ?_
              refine WH.off rfl rfl rfl rfl rfl rfl ?_
              refine WH.off rfl rfl rfl rfl rfl rfl ?_
              refine WH.off rfl rfl rfl rfl rfl rfl ?_
              refine WH.off rfl rfl rfl rfl rfl rfl ?_
              refine WH.off rfl rfl rfl rfl rfl rfl ?_
              refine WH.p rfl (wants_on rfl rfl) (G.pick_f rfl rfl) rfl ?_
              refine WH.p rfl wants (G.pick_f rfl rfl) rfl ?_
              refine WH.nil ?_
              refine WEx.then_ ?_
              refine WCode.cond_f rfl ?_
              refine WCode.skip ?_
              refine WEx.in_normal ?_
              refine WEx.then_ ?_
              refine WCode.seq ?_
              refine WCode.region ?_
              refine WOps.p (G.move rfl) rfl ?_
              refine WOps.nil ?_
              refine WEx.then_ ?_
              refine WCode.cond_f rfl ?_
              refine WCode.skip ?_
              refine WEx.in_normal ?_
              refine WEx.then_ ?_
              refine WCode.region ?_
              refine WOps.p (G.move rfl) rfl ?_
              refine WOps.p (G.add rfl rfl (show IntKind.i64.wrap ((i : Nat) + 1) = ((i : Nat) + 1) from IntWalk.i64_in _ (by omega))) rfl ?_
              refine WOps.p (G.assign rfl) rfl ?_
              refine WOps.nil ?_
              have S138 := S136.front 3 rfl
              change St _ _ _ [G5, [(b126, .cells #[.int .i64 0, .int .i64 0, .string ⟨#[]⟩] 37 (0, 0))], G121, [(b33, .cells #[.int .i64 x.k, .int .i64 x.on, .int .i64 x.n, .int .i64 x.many, .int .i64 x.f, .int .i64 x.t, .string x.d] 39 (0, 0))]] at S138
              have S139 := S138.front 2 rfl
              change St _ _ _ [G121, G5, [(b126, .cells #[.int .i64 0, .int .i64 0, .string ⟨#[]⟩] 37 (0, 0))], [(b33, .cells #[.int .i64 x.k, .int .i64 x.on, .int .i64 x.n, .int .i64 x.many, .int .i64 x.f, .int .i64 x.t, .string x.d] 39 (0, 0))]] at S139
              have S140 := St.keep (As := [G121, G5]) S139
              refine WEx.again _ _ ?_ ?_ ⟨i + 1, sent, F, G121, A5, c5, G5, rfl, rfl, h0, (by omega), hF, hA123, hR5, S140⟩
              · have := h0; omega
              · exact ⟨rfl, rfl, rfl, rfl, rfl, rfl, trivial⟩
            ·
              obtain rfl : b2 = true := by rw [h2]; exact decide_eq_true h.1
              obtain ⟨j, y, rfl, hj⟩ := at_nat h.1
              have hjl : j < F.length := (List.getElem?_eq_some_iff.1 hj).1
              have hat := h.1
              refine WCode.seq ?_
              refine WCode.seq ?_
              refine WCode.region ?_
              refine WOps.p (G.field T.fld39_0 rfl (show 0 + 0 = 0 from rfl)) rfl ?_
              refine WOps.r (G.load1 T.one3 rfl (cell_blk (S68.blk 0 rfl) rfl)) rfl ?_
              refine WOps.nil ?_
              refine WEx.then_ ?_
              refine WCode.block ?_
              refine WCode.seq ?_
              refine WCode.seq ?_
              refine WCode.region ?_
              refine WOps.p (G.eql rfl rfl (b := false) (decide_eq_false (by omega))) rfl ?_
              refine WOps.p (G.assign rfl) rfl ?_
              refine WOps.nil ?_
              refine WEx.then_ ?_
              refine WCode.cond_f rfl ?_
              refine WCode.region ?_
              refine WOps.p (G.eql rfl rfl (b := true) (decide_eq_true (by omega))) rfl ?_
              refine WOps.p (G.assign rfl) rfl ?_
              refine WOps.nil ?_
              refine WEx.then_ ?_
              refine WCode.cond_t rfl ?_
              refine WCode.seq ?_
              refine WCode.region ?_
              refine WOps.p (G.move rfl) rfl ?_
              refine WOps.p (G.move rfl) rfl ?_
              refine WOps.call T.call19 (evs_cons rfl (evs_cons rfl evs_nil)) rfl ?_
              have S141 := S68.front 1 rfl
              change St _ _ _ [GA5, [(b33, .cells #[.int .i64 x.k, .int .i64 x.on, .int .i64 x.n, .int .i64 x.many, .int .i64 x.f, .int .i64 x.t, .string x.d] 39 (0, 0))], G5] at S141
              refine (air_Deliver hA5 S141.hp1 hF (j : Int)).mono ?_
              rintro _ w142 ⟨rfl, G143, hA144, T146⟩
              have S147 := S141.call1 T146
              have hA145 : AirG 133 pA (F.eraseIdx j) 0 G143 := (by have q := hA144; rw [delL, if_pos hat, Int.toNat_natCast] at q; exact q)
              change St _ _ _ [G143, [(b33, .cells #[.int .i64 x.k, .int .i64 x.on, .int .i64 x.n, .int .i64 x.many, .int .i64 x.f, .int .i64 x.t, .string x.d] 39 (0, 0))], G5] at S147
              rw [show delP F (j : Int) = y from by rw [delP, if_pos hat, Int.toNat_natCast, hj]; rfl, show delE F (j : Int) = 0 from if_pos hat]
              refine ⟨_, rfl, ?_⟩
              refine WOps.p (G.move rfl) rfl ?_
              refine WOps.p (G.extract rfl rfl) rfl ?_
              refine WOps.p (G.extract rfl rfl) rfl ?_
              obtain ⟨b148, w149, E150, S151, X152, L153⟩ := St.var S147 T.zero37
              change St _ _ _ [[(b148, .cells #[.int .i64 0, .int .i64 0, .string ⟨#[]⟩] 37 (0, 0))], G143, [(b33, .cells #[.int .i64 x.k, .int .i64 x.on, .int .i64 x.n, .int .i64 x.many, .int .i64 x.f, .int .i64 x.t, .string x.d] 39 (0, 0))], G5] at S151
              refine WOps.e E150 rfl ?_
              obtain ⟨w154, E155, S156⟩ := St.store (P := Try.prog) S151 0 37 (.agg #[.int .i64 y.f, .int .i64 y.t, .string y.d]) (off := 0) (cur' := #[.int .i64 y.f, .int .i64 y.t, .string y.d]) rfl T.size37_3 rfl rfl rfl
              change St _ _ _ [[(b148, .cells #[.int .i64 y.f, .int .i64 y.t, .string y.d] 37 (0, 0))], G143, [(b33, .cells #[.int .i64 x.k, .int .i64 x.on, .int .i64 x.n, .int .i64 x.many, .int .i64 x.f, .int .i64 x.t, .string x.d] 39 (0, 0))], G5] at S156
              refine WOps.u (E155 rfl rfl) ?_
              refine WOps.p (G.assign rfl) rfl ?_
              refine WOps.nil ?_
              refine WEx.then_ ?_
              refine WCode.seq ?_
              refine WCode.drawH (.one 0 0 (.one 1 0 (.one 2 0 (.one 3 0 (.one 4 0 (.one 5 0 (.one 6 0 (.one 8 0 (.one 9 0 (.one 10 0 (.one 7 1 (.one 11 1 (.one 12 0 (.one 13 0 (.one 14 0 .nil))))))))))))))) (fun W => cellsAt W b148 0 [.int .i64 y.f, .int .i64 y.t, .string y.d] ∧ Rd W A5 F.length 3 (cellsOf Pk.cs F) ∧ True) T.mixed (by kernel_rfl) (by intro _ _ d _ _ h; cases d <;> exact h) rfl rfl (by kernel_rfl) ?_ ?_
              all_goals have S158 := S156.drew
              all_goals generalize w154.drew = w159 at *
              · exact ⟨cellsAt.of_blk (S158.blk 0 rfl) rfl, (hR5.rd (fun b o hb => S158.grp 3 rfl hb)).2, trivial⟩
              refine WH.p rfl wants (G.move rfl) rfl ?_
              refine WH.p rfl wants (G.move rfl) rfl ?_
              refine WH.p rfl wants (G.eql rfl rfl (b := true) rfl) rfl ?_
              refine WH.p rfl wants (G.neqb Try.underlying4 rfl rfl (b := false) rfl) rfl ?_
              refine WH.p rfl wants (G.move rfl) rfl ?_
              refine WH.p rfl (wants_on rfl rfl) (G.move rfl) rfl ?_
              refine WH.p rfl (wants_on rfl rfl) (G.move rfl) rfl ?_
              refine WH.p rfl (wants_on rfl rfl) (G.move rfl) rfl ?_
              refine WH.p rfl (wants_on rfl rfl) (G.move rfl) rfl ?_
              obtain ⟨b160, o161, ea162, ca163⟩ := Rd.at_ Pk.len (hR5.rd (fun b o hb => S158.grp 3 rfl hb)).2 hj rfl
              cases ea162
              refine WH.p rfl (wants_on rfl rfl) (G.index T.el43 rfl rfl (j := j) hjl rfl) rfl ?_
              refine WH.r rfl (wants_on rfl rfl) (fun _ h => G.loada T.agg37_3 rfl (cs := [.int .i64 y.f, .int .i64 y.t, .string y.d]) (cellsAt.part h.1 0 rfl)) rfl ?_
              refine WH.r rfl (wants_on rfl rfl) (fun _ h => G.loada T.agg37_3 rfl (cs := [.int .i64 y.f, .int .i64 y.t, .string y.d]) (cellsAt.part (Rd.cells Pk.len h.2.1 hj rfl) 0 rfl)) rfl ?_
              refine WH.p rfl (wants_on rfl rfl) (G.neqa rfl rfl (by kernel_rfl) (pk_eqIn y y) (show (!decide (y = y)) = false from by simp)) rfl ?_
              refine WH.p rfl (wants_on rfl rfl) (G.pick_t rfl rfl) rfl ?_
              refine WH.p rfl wants (G.pick_f rfl rfl) rfl ?_
              refine WH.nil ?_
              refine WEx.then_ ?_
              refine WCode.cond_f rfl ?_
              refine WCode.skip ?_
              refine WEx.in_normal ?_
              refine WEx.then_ ?_
              refine WCode.seq ?_
              refine WCode.region ?_
              refine WOps.p (G.move rfl) rfl ?_
              refine WOps.nil ?_
              refine WEx.then_ ?_
              refine WCode.cond_t rfl ?_
              refine WCode.seq ?_
              refine WCode.region ?_
              refine WOps.p (G.assign rfl) rfl ?_
              refine WOps.nil ?_
              refine WEx.then_ ?_
              refine WCode.seq ?_
              refine WCode.region ?_
              refine WOps.p (G.move rfl) rfl ?_
              refine WOps.p (G.move rfl) rfl ?_
              refine WOps.p (G.move rfl) rfl ?_
              refine WOps.p (G.slice_h T.el43 rfl (h := j) rfl (by omega)) rfl ?_
              have S164 := S158.emp
              have h0165 : RowG 37 3 (.slice none 0 0) 0 [] [] := ⟨by simp, .inl ⟨_, rfl, rfl, rfl⟩⟩
              obtain ⟨A166, c167, G168, w169, E170, hR171, S172⟩ := St.append (P := Try.prog) S164 0 rfl T.elt43 h0165 (Rd.take (hR5.rd (fun b o hb => S164.grp 4 rfl hb)).2 (m := j) (by omega)) (fun u hu => Pk.ones F u (List.mem_of_mem_take hu)) (by simp only [maxLen]; omega) (by omega)
              change St _ _ _ [G168, [(b148, .cells #[.int .i64 y.f, .int .i64 y.t, .string y.d] 37 (0, 0))], G143, [(b33, .cells #[.int .i64 x.k, .int .i64 x.on, .int .i64 x.n, .int .i64 x.many, .int .i64 x.f, .int .i64 x.t, .string x.d] 39 (0, 0))], G5] at S172
              refine WOps.e (E170 rfl rfl) rfl ?_
              refine WOps.p (G.assign rfl) rfl ?_
              refine WOps.nil ?_
              refine WEx.then_ ?_
              refine WCode.region ?_
              refine WOps.p (G.move rfl) rfl ?_
              refine WOps.p (G.move rfl) rfl ?_
              refine WOps.p (G.move rfl) rfl ?_
              refine WOps.p (G.add rfl rfl (show IntKind.i64.wrap ((j : Int) + 1) = ((j : Int) + 1) from IntWalk.i64_in _ (by omega))) rfl ?_
              refine WOps.p (G.slice_l T.el43 rfl (lo := j + 1) rfl (by omega)) rfl ?_
              obtain ⟨A173, c174, G175, w176, E177, hR178, S179⟩ := St.append (P := Try.prog) S172 0 rfl T.elt43 hR171 (Rd.drop (hR5.rd (fun b o hb => S172.grp 4 rfl hb)).2 (lo := j + 1) (by omega) hle5) (fun u hu => Pk.ones F u (List.mem_of_mem_drop hu)) (by simp only [maxLen]; omega) (by omega)
              change St _ _ _ [G175, [(b148, .cells #[.int .i64 y.f, .int .i64 y.t, .string y.d] 37 (0, 0))], G143, [(b33, .cells #[.int .i64 x.k, .int .i64 x.on, .int .i64 x.n, .int .i64 x.many, .int .i64 x.f, .int .i64 x.t, .string x.d] 39 (0, 0))], G5] at S179
              refine WOps.e (E177 rfl rfl) rfl ?_
              refine WOps.p (G.assign rfl) rfl ?_
              refine WOps.nil ?_
              refine WEx.in_normal ?_
              refine WEx.then_ ?_
              refine WCode.region ?_
              refine WOps.p (G.move rfl) rfl ?_
              refine WOps.p (G.add rfl rfl (show IntKind.i64.wrap ((i : Nat) + 1) = ((i : Nat) + 1) from IntWalk.i64_in _ (by omega))) rfl ?_
              refine WOps.p (G.assign rfl) rfl ?_
              refine WOps.nil ?_
              have hRn : RowG 37 3 (.slice A173 (F.eraseIdx j).length c174) (F.eraseIdx j).length (cellsOf Pk.cs (F.eraseIdx j)) G175 := by
                have e1 := erase_len hjl; have e2 := erase_cells F j
                have h := hR178; rw [Nat.zero_add, List.nil_append, e2, e1] at h; exact h
              have hlen : j + (F.length - (j + 1)) = (F.eraseIdx j).length := erase_len hjl
              have S180 := S179.front 2 rfl
              change St _ _ _ [G143, G175, [(b148, .cells #[.int .i64 y.f, .int .i64 y.t, .string y.d] 37 (0, 0))], [(b33, .cells #[.int .i64 x.k, .int .i64 x.on, .int .i64 x.n, .int .i64 x.many, .int .i64 x.f, .int .i64 x.t, .string x.d] 39 (0, 0))], G5] at S180
              have S181 := St.keep (As := [G143, G175]) S180
              refine WEx.again _ _ ?_ ?_ ⟨i + 1, sent, (F.eraseIdx j), G143, A173, c174, G175, rfl, rfl, h0, (by omega), (by have := List.length_eraseIdx_of_lt hjl; omega), hA145, hRn, S181⟩
              · have := h0; omega
              · exact ⟨rfl, rfl, rfl, (show some (Value.slice A173 (0 + j + (F.length - (j + 1))) c174) = _ from by rw [Nat.zero_add, hlen]), rfl, rfl, trivial⟩
            ·
              obtain rfl : b2 = false := by rw [h2]; exact decide_eq_false h.1
              have hat := h.1
              refine WCode.seq ?_
              refine WCode.seq ?_
              refine WCode.region ?_
              refine WOps.p (G.field T.fld39_0 rfl (show 0 + 0 = 0 from rfl)) rfl ?_
              refine WOps.r (G.load1 T.one3 rfl (cell_blk (S68.blk 0 rfl) rfl)) rfl ?_
              refine WOps.nil ?_
              refine WEx.then_ ?_
              refine WCode.block ?_
              refine WCode.seq ?_
              refine WCode.seq ?_
              refine WCode.region ?_
              refine WOps.p (G.eql rfl rfl (b := false) (decide_eq_false (by omega))) rfl ?_
              refine WOps.p (G.assign rfl) rfl ?_
              refine WOps.nil ?_
              refine WEx.then_ ?_
              refine WCode.cond_f rfl ?_
              refine WCode.region ?_
              refine WOps.p (G.eql rfl rfl (b := true) (decide_eq_true (by omega))) rfl ?_
              refine WOps.p (G.assign rfl) rfl ?_
              refine WOps.nil ?_
              refine WEx.then_ ?_
              refine WCode.cond_t rfl ?_
              refine WCode.seq ?_
              refine WCode.region ?_
              refine WOps.p (G.move rfl) rfl ?_
              refine WOps.p (G.move rfl) rfl ?_
              refine WOps.call T.call19 (evs_cons rfl (evs_cons rfl evs_nil)) rfl ?_
              have S182 := S68.front 1 rfl
              change St _ _ _ [GA5, [(b33, .cells #[.int .i64 x.k, .int .i64 x.on, .int .i64 x.n, .int .i64 x.many, .int .i64 x.f, .int .i64 x.t, .string x.d] 39 (0, 0))], G5] at S182
              refine (air_Deliver hA5 S182.hp1 hF n).mono ?_
              rintro _ w183 ⟨rfl, G184, hA185, T187⟩
              have S188 := S182.call1 T187
              have hA186 : AirG 133 pA F 0 G184 := (by have q := hA185; rw [delL, if_neg hat] at q; exact q)
              change St _ _ _ [G184, [(b33, .cells #[.int .i64 x.k, .int .i64 x.on, .int .i64 x.n, .int .i64 x.many, .int .i64 x.f, .int .i64 x.t, .string x.d] 39 (0, 0))], G5] at S188
              rw [show delP F n = Pk.zero from if_neg hat, show delE F n = 130 from if_neg hat]
              refine ⟨_, rfl, ?_⟩
              refine WOps.p (G.move rfl) rfl ?_
              refine WOps.p (G.extract rfl rfl) rfl ?_
              refine WOps.p (G.extract rfl rfl) rfl ?_
              obtain ⟨b189, w190, E191, S192, X193, L194⟩ := St.var S188 T.zero37
              change St _ _ _ [[(b189, .cells #[.int .i64 0, .int .i64 0, .string ⟨#[]⟩] 37 (0, 0))], G184, [(b33, .cells #[.int .i64 x.k, .int .i64 x.on, .int .i64 x.n, .int .i64 x.many, .int .i64 x.f, .int .i64 x.t, .string x.d] 39 (0, 0))], G5] at S192
              refine WOps.e E191 rfl ?_
              obtain ⟨w195, E196, S197⟩ := St.store (P := Try.prog) S192 0 37 (.agg #[.int .i64 0, .int .i64 0, .string ⟨#[]⟩]) (off := 0) (cur' := #[.int .i64 0, .int .i64 0, .string ⟨#[]⟩]) rfl T.size37_3 rfl rfl rfl
              change St _ _ _ [[(b189, .cells #[.int .i64 0, .int .i64 0, .string ⟨#[]⟩] 37 (0, 0))], G184, [(b33, .cells #[.int .i64 x.k, .int .i64 x.on, .int .i64 x.n, .int .i64 x.many, .int .i64 x.f, .int .i64 x.t, .string x.d] 39 (0, 0))], G5] at S197
              refine WOps.u (E196 rfl rfl) ?_
              refine WOps.p (G.assign rfl) rfl ?_
              refine WOps.nil ?_
              refine WEx.then_ ?_
              refine WCode.seq ?_
              refine WCode.drawH (.one 0 0 (.one 1 0 (.one 2 0 (.one 3 0 (.one 4 0 (.one 5 0 (.one 6 0 (.one 8 0 (.one 9 0 (.one 10 0 (.one 7 1 (.one 11 1 (.one 12 0 (.one 13 0 (.one 14 0 .nil))))))))))))))) (fun W => True) T.mixed (by kernel_rfl) (by intro _ _ d _ _ h; cases d <;> exact h) rfl rfl (by kernel_rfl) ?_ ?_
              all_goals have S199 := S197.drew
              all_goals generalize w195.drew = w200 at *
              · exact trivial
              refine WH.p rfl wants (G.move rfl) rfl ?_
              refine WH.p rfl wants (G.move rfl) rfl ?_
              refine WH.p rfl wants (G.eql rfl rfl (b := false) rfl) rfl ?_
              refine WH.p rfl wants (G.neqb Try.underlying4 rfl rfl (b := false) rfl) rfl ?_
              refine WH.p rfl wants (G.move rfl) rfl ?_
              refine WH.p rfl (wants_on rfl rfl) (G.move rfl) rfl ?_
              refine WH.p rfl (wants_on rfl rfl) (G.move rfl) rfl ?_
              refine WH.off rfl rfl rfl rfl rfl rfl ?_
              refine WH.off rfl rfl rfl rfl rfl rfl ?_
              refine WH.off rfl rfl rfl rfl rfl rfl ?_
              refine WH.off rfl rfl rfl rfl rfl rfl ?_
              refine WH.off rfl rfl rfl rfl rfl rfl ?_
              refine WH.off rfl rfl rfl rfl rfl rfl ?_
              refine WH.p rfl (wants_on rfl rfl) (G.pick_f rfl rfl) rfl ?_
              refine WH.p rfl wants (G.pick_f rfl rfl) rfl ?_
              refine WH.nil ?_
              refine WEx.then_ ?_
              refine WCode.cond_f rfl ?_
              refine WCode.skip ?_
              refine WEx.in_normal ?_
              refine WEx.then_ ?_
              refine WCode.seq ?_
              refine WCode.region ?_
              refine WOps.p (G.move rfl) rfl ?_
              refine WOps.nil ?_
              refine WEx.then_ ?_
              refine WCode.cond_f rfl ?_
              refine WCode.skip ?_
              refine WEx.in_normal ?_
              refine WEx.then_ ?_
              refine WCode.region ?_
              refine WOps.p (G.move rfl) rfl ?_
              refine WOps.p (G.add rfl rfl (show IntKind.i64.wrap ((i : Nat) + 1) = ((i : Nat) + 1) from IntWalk.i64_in _ (by omega))) rfl ?_
              refine WOps.p (G.assign rfl) rfl ?_
              refine WOps.nil ?_
              have S201 := S199.front 3 rfl
              change St _ _ _ [G5, [(b189, .cells #[.int .i64 0, .int .i64 0, .string ⟨#[]⟩] 37 (0, 0))], G184, [(b33, .cells #[.int .i64 x.k, .int .i64 x.on, .int .i64 x.n, .int .i64 x.many, .int .i64 x.f, .int .i64 x.t, .string x.d] 39 (0, 0))]] at S201
              have S202 := S201.front 2 rfl
              change St _ _ _ [G184, G5, [(b189, .cells #[.int .i64 0, .int .i64 0, .string ⟨#[]⟩] 37 (0, 0))], [(b33, .cells #[.int .i64 x.k, .int .i64 x.on, .int .i64 x.n, .int .i64 x.many, .int .i64 x.f, .int .i64 x.t, .string x.d] 39 (0, 0))]] at S202
              have S203 := St.keep (As := [G184, G5]) S202
              refine WEx.again _ _ ?_ ?_ ⟨i + 1, sent, F, G184, A5, c5, G5, rfl, rfl, h0, (by omega), hF, hA186, hR5, S203⟩
              · have := h0; omega
              · exact ⟨rfl, rfl, rfl, rfl, rfl, rfl, trivial⟩
            ·
              obtain rfl : b2 = true := by rw [h2]; exact decide_eq_true h.1
              obtain ⟨j, y, rfl, hj⟩ := at_nat h.1
              have hjl : j < F.length := (List.getElem?_eq_some_iff.1 hj).1
              have hat := h.1
              refine WCode.seq ?_
              refine WCode.seq ?_
              refine WCode.region ?_
              refine WOps.p (G.field T.fld39_0 rfl (show 0 + 0 = 0 from rfl)) rfl ?_
              refine WOps.r (G.load1 T.one3 rfl (cell_blk (S68.blk 0 rfl) rfl)) rfl ?_
              refine WOps.nil ?_
              refine WEx.then_ ?_
              refine WCode.block ?_
              refine WCode.seq ?_
              refine WCode.seq ?_
              refine WCode.region ?_
              refine WOps.p (G.eql rfl rfl (b := false) (decide_eq_false (by omega))) rfl ?_
              refine WOps.p (G.assign rfl) rfl ?_
              refine WOps.nil ?_
              refine WEx.then_ ?_
              refine WCode.cond_f rfl ?_
              refine WCode.region ?_
              refine WOps.p (G.eql rfl rfl (b := false) (decide_eq_false (by omega))) rfl ?_
              refine WOps.p (G.assign rfl) rfl ?_
              refine WOps.nil ?_
              refine WEx.then_ ?_
              refine WCode.cond_f rfl ?_
              refine WCode.seq ?_
              refine WCode.region ?_
              refine WOps.p (G.eql rfl rfl (b := true) (decide_eq_true (by omega))) rfl ?_
              refine WOps.p (G.assign rfl) rfl ?_
              refine WOps.nil ?_
              refine WEx.then_ ?_
              refine WCode.cond_t rfl ?_
              refine WCode.seq ?_
              refine WCode.region ?_
              refine WOps.p (G.move rfl) rfl ?_
              refine WOps.p (G.move rfl) rfl ?_
              refine WOps.call T.call20 (evs_cons rfl (evs_cons rfl evs_nil)) rfl ?_
              have S204 := S68.front 1 rfl
              change St _ _ _ [GA5, [(b33, .cells #[.int .i64 x.k, .int .i64 x.on, .int .i64 x.n, .int .i64 x.many, .int .i64 x.f, .int .i64 x.t, .string x.d] 39 (0, 0))], G5] at S204
              refine (air_Drop hA5 S204.hp1 hF (j : Int)).mono ?_
              rintro _ w205 ⟨rfl, G206, hA207, T209⟩
              have S210 := S204.call1 T209
              have hA208 : AirG 133 pA (F.eraseIdx j) 0 G206 := (by have q := hA207; rw [delL, if_pos hat, Int.toNat_natCast] at q; exact q)
              change St _ _ _ [G206, [(b33, .cells #[.int .i64 x.k, .int .i64 x.on, .int .i64 x.n, .int .i64 x.many, .int .i64 x.f, .int .i64 x.t, .string x.d] 39 (0, 0))], G5] at S210
              rw [show delE F (j : Int) = 0 from if_pos hat]
              refine ⟨_, rfl, ?_⟩
              refine WOps.p (G.assign rfl) rfl ?_
              refine WOps.nil ?_
              refine WEx.then_ ?_
              refine WCode.seq ?_
              refine WCode.region ?_
              refine WOps.p (G.move rfl) rfl ?_
              refine WOps.p (G.move rfl) rfl ?_
              refine WOps.p (G.eql rfl rfl (b := true) rfl) rfl ?_
              refine WOps.p (G.neqb Try.underlying4 rfl rfl (b := false) rfl) rfl ?_
              refine WOps.nil ?_
              refine WEx.then_ ?_
              refine WCode.cond_f rfl ?_
              refine WCode.skip ?_
              refine WEx.in_normal ?_
              refine WEx.then_ ?_
              refine WCode.seq ?_
              refine WCode.region ?_
              refine WOps.p (G.move rfl) rfl ?_
              refine WOps.nil ?_
              refine WEx.then_ ?_
              refine WCode.cond_t rfl ?_
              refine WCode.seq ?_
              refine WCode.region ?_
              refine WOps.p (G.assign rfl) rfl ?_
              refine WOps.nil ?_
              refine WEx.then_ ?_
              refine WCode.seq ?_
              refine WCode.region ?_
              refine WOps.p (G.move rfl) rfl ?_
              refine WOps.p (G.move rfl) rfl ?_
              refine WOps.p (G.move rfl) rfl ?_
              refine WOps.p (G.slice_h T.el43 rfl (h := j) rfl (by omega)) rfl ?_
              have S211 := S210.emp
              have h0212 : RowG 37 3 (.slice none 0 0) 0 [] [] := ⟨by simp, .inl ⟨_, rfl, rfl, rfl⟩⟩
              obtain ⟨A213, c214, G215, w216, E217, hR218, S219⟩ := St.append (P := Try.prog) S211 0 rfl T.elt43 h0212 (Rd.take (hR5.rd (fun b o hb => S211.grp 3 rfl hb)).2 (m := j) (by omega)) (fun u hu => Pk.ones F u (List.mem_of_mem_take hu)) (by simp only [maxLen]; omega) (by omega)
              change St _ _ _ [G215, G206, [(b33, .cells #[.int .i64 x.k, .int .i64 x.on, .int .i64 x.n, .int .i64 x.many, .int .i64 x.f, .int .i64 x.t, .string x.d] 39 (0, 0))], G5] at S219
              refine WOps.e (E217 rfl rfl) rfl ?_
              refine WOps.p (G.assign rfl) rfl ?_
              refine WOps.nil ?_
              refine WEx.then_ ?_
              refine WCode.region ?_
              refine WOps.p (G.move rfl) rfl ?_
              refine WOps.p (G.move rfl) rfl ?_
              refine WOps.p (G.move rfl) rfl ?_
              refine WOps.p (G.add rfl rfl (show IntKind.i64.wrap ((j : Int) + 1) = ((j : Int) + 1) from IntWalk.i64_in _ (by omega))) rfl ?_
              refine WOps.p (G.slice_l T.el43 rfl (lo := j + 1) rfl (by omega)) rfl ?_
              obtain ⟨A220, c221, G222, w223, E224, hR225, S226⟩ := St.append (P := Try.prog) S219 0 rfl T.elt43 hR218 (Rd.drop (hR5.rd (fun b o hb => S219.grp 3 rfl hb)).2 (lo := j + 1) (by omega) hle5) (fun u hu => Pk.ones F u (List.mem_of_mem_drop hu)) (by simp only [maxLen]; omega) (by omega)
              change St _ _ _ [G222, G206, [(b33, .cells #[.int .i64 x.k, .int .i64 x.on, .int .i64 x.n, .int .i64 x.many, .int .i64 x.f, .int .i64 x.t, .string x.d] 39 (0, 0))], G5] at S226
              refine WOps.e (E224 rfl rfl) rfl ?_
              refine WOps.p (G.assign rfl) rfl ?_
              refine WOps.nil ?_
              refine WEx.in_normal ?_
              refine WEx.then_ ?_
              refine WCode.region ?_
              refine WOps.p (G.move rfl) rfl ?_
              refine WOps.p (G.add rfl rfl (show IntKind.i64.wrap ((i : Nat) + 1) = ((i : Nat) + 1) from IntWalk.i64_in _ (by omega))) rfl ?_
              refine WOps.p (G.assign rfl) rfl ?_
              refine WOps.nil ?_
              have hRn : RowG 37 3 (.slice A220 (F.eraseIdx j).length c221) (F.eraseIdx j).length (cellsOf Pk.cs (F.eraseIdx j)) G222 := by
                have e1 := erase_len hjl; have e2 := erase_cells F j
                have h := hR225; rw [Nat.zero_add, List.nil_append, e2, e1] at h; exact h
              have hlen : j + (F.length - (j + 1)) = (F.eraseIdx j).length := erase_len hjl
              have S227 := S226.front 1 rfl
              change St _ _ _ [G206, G222, [(b33, .cells #[.int .i64 x.k, .int .i64 x.on, .int .i64 x.n, .int .i64 x.many, .int .i64 x.f, .int .i64 x.t, .string x.d] 39 (0, 0))], G5] at S227
              have S228 := St.keep (As := [G206, G222]) S227
              refine WEx.again _ _ ?_ ?_ ⟨i + 1, sent, (F.eraseIdx j), G206, A220, c221, G222, rfl, rfl, h0, (by omega), (by have := List.length_eraseIdx_of_lt hjl; omega), hA208, hRn, S228⟩
              · have := h0; omega
              · exact ⟨rfl, rfl, rfl, (show some (Value.slice A220 (0 + j + (F.length - (j + 1))) c221) = _ from by rw [Nat.zero_add, hlen]), rfl, rfl, trivial⟩
            ·
              obtain rfl : b2 = false := by rw [h2]; exact decide_eq_false h.1
              have hat := h.1
              refine WCode.seq ?_
              refine WCode.seq ?_
              refine WCode.region ?_
              refine WOps.p (G.field T.fld39_0 rfl (show 0 + 0 = 0 from rfl)) rfl ?_
              refine WOps.r (G.load1 T.one3 rfl (cell_blk (S68.blk 0 rfl) rfl)) rfl ?_
              refine WOps.nil ?_
              refine WEx.then_ ?_
              refine WCode.block ?_
              refine WCode.seq ?_
              refine WCode.seq ?_
              refine WCode.region ?_
              refine WOps.p (G.eql rfl rfl (b := false) (decide_eq_false (by omega))) rfl ?_
              refine WOps.p (G.assign rfl) rfl ?_
              refine WOps.nil ?_
              refine WEx.then_ ?_
              refine WCode.cond_f rfl ?_
              refine WCode.region ?_
              refine WOps.p (G.eql rfl rfl (b := false) (decide_eq_false (by omega))) rfl ?_
              refine WOps.p (G.assign rfl) rfl ?_
              refine WOps.nil ?_
              refine WEx.then_ ?_
              refine WCode.cond_f rfl ?_
              refine WCode.seq ?_
              refine WCode.region ?_
              refine WOps.p (G.eql rfl rfl (b := true) (decide_eq_true (by omega))) rfl ?_
              refine WOps.p (G.assign rfl) rfl ?_
              refine WOps.nil ?_
              refine WEx.then_ ?_
              refine WCode.cond_t rfl ?_
              refine WCode.seq ?_
              refine WCode.region ?_
              refine WOps.p (G.move rfl) rfl ?_
              refine WOps.p (G.move rfl) rfl ?_
              refine WOps.call T.call20 (evs_cons rfl (evs_cons rfl evs_nil)) rfl ?_
              have S229 := S68.front 1 rfl
              change St _ _ _ [GA5, [(b33, .cells #[.int .i64 x.k, .int .i64 x.on, .int .i64 x.n, .int .i64 x.many, .int .i64 x.f, .int .i64 x.t, .string x.d] 39 (0, 0))], G5] at S229
              refine (air_Drop hA5 S229.hp1 hF n).mono ?_
              rintro _ w230 ⟨rfl, G231, hA232, T234⟩
              have S235 := S229.call1 T234
              have hA233 : AirG 133 pA F 0 G231 := (by have q := hA232; rw [delL, if_neg hat] at q; exact q)
              change St _ _ _ [G231, [(b33, .cells #[.int .i64 x.k, .int .i64 x.on, .int .i64 x.n, .int .i64 x.many, .int .i64 x.f, .int .i64 x.t, .string x.d] 39 (0, 0))], G5] at S235
              rw [show delE F n = 130 from if_neg hat]
              refine ⟨_, rfl, ?_⟩
              refine WOps.p (G.assign rfl) rfl ?_
              refine WOps.nil ?_
              refine WEx.then_ ?_
              refine WCode.seq ?_
              refine WCode.region ?_
              refine WOps.p (G.move rfl) rfl ?_
              refine WOps.p (G.move rfl) rfl ?_
              refine WOps.p (G.eql rfl rfl (b := false) rfl) rfl ?_
              refine WOps.p (G.neqb Try.underlying4 rfl rfl (b := false) rfl) rfl ?_
              refine WOps.nil ?_
              refine WEx.then_ ?_
              refine WCode.cond_f rfl ?_
              refine WCode.skip ?_
              refine WEx.in_normal ?_
              refine WEx.then_ ?_
              refine WCode.seq ?_
              refine WCode.region ?_
              refine WOps.p (G.move rfl) rfl ?_
              refine WOps.nil ?_
              refine WEx.then_ ?_
              refine WCode.cond_f rfl ?_
              refine WCode.skip ?_
              refine WEx.in_normal ?_
              refine WEx.then_ ?_
              refine WCode.region ?_
              refine WOps.p (G.move rfl) rfl ?_
              refine WOps.p (G.add rfl rfl (show IntKind.i64.wrap ((i : Nat) + 1) = ((i : Nat) + 1) from IntWalk.i64_in _ (by omega))) rfl ?_
              refine WOps.p (G.assign rfl) rfl ?_
              refine WOps.nil ?_
              have S236 := S235.front 2 rfl
              change St _ _ _ [G5, G231, [(b33, .cells #[.int .i64 x.k, .int .i64 x.on, .int .i64 x.n, .int .i64 x.many, .int .i64 x.f, .int .i64 x.t, .string x.d] 39 (0, 0))]] at S236
              have S237 := S236.front 1 rfl
              change St _ _ _ [G231, G5, [(b33, .cells #[.int .i64 x.k, .int .i64 x.on, .int .i64 x.n, .int .i64 x.many, .int .i64 x.f, .int .i64 x.t, .string x.d] 39 (0, 0))]] at S237
              have S238 := St.keep (As := [G231, G5]) S237
              refine WEx.again _ _ ?_ ?_ ⟨i + 1, sent, F, G231, A5, c5, G5, rfl, rfl, h0, (by omega), hF, hA233, hR5, S238⟩
              · have := h0; omega
              · exact ⟨rfl, rfl, rfl, rfl, rfl, rfl, trivial⟩
            ·
              obtain rfl : b2 = true := by rw [h2]; exact decide_eq_true h.1
              obtain ⟨j, y, rfl, hj⟩ := at_nat h.1
              have hjl : j < F.length := (List.getElem?_eq_some_iff.1 hj).1
              have hat := h.1
              refine WCode.seq ?_
              refine WCode.seq ?_
              refine WCode.region ?_
              refine WOps.p (G.field T.fld39_0 rfl (show 0 + 0 = 0 from rfl)) rfl ?_
              refine WOps.r (G.load1 T.one3 rfl (cell_blk (S68.blk 0 rfl) rfl)) rfl ?_
              refine WOps.nil ?_
              refine WEx.then_ ?_
              refine WCode.block ?_
              refine WCode.seq ?_
              refine WCode.seq ?_
              refine WCode.region ?_
              refine WOps.p (G.eql rfl rfl (b := false) (decide_eq_false (by omega))) rfl ?_
              refine WOps.p (G.assign rfl) rfl ?_
              refine WOps.nil ?_
              refine WEx.then_ ?_
              refine WCode.cond_f rfl ?_
              refine WCode.region ?_
              refine WOps.p (G.eql rfl rfl (b := false) (decide_eq_false (by omega))) rfl ?_
              refine WOps.p (G.assign rfl) rfl ?_
              refine WOps.nil ?_
              refine WEx.then_ ?_
              refine WCode.cond_f rfl ?_
              refine WCode.seq ?_
              refine WCode.region ?_
              refine WOps.p (G.eql rfl rfl (b := false) (decide_eq_false (by omega))) rfl ?_
              refine WOps.p (G.assign rfl) rfl ?_
              refine WOps.nil ?_
              refine WEx.then_ ?_
              refine WCode.cond_f rfl ?_
              refine WCode.seq ?_
              refine WCode.region ?_
              refine WOps.p (G.eql rfl rfl (b := true) (decide_eq_true (by omega))) rfl ?_
              refine WOps.p (G.assign rfl) rfl ?_
              refine WOps.nil ?_
              refine WEx.then_ ?_
              refine WCode.cond_t rfl ?_
              refine WCode.seq ?_
              refine WCode.region ?_
              refine WOps.p (G.move rfl) rfl ?_
              refine WOps.p (G.move rfl) rfl ?_
              refine WOps.call T.call21 (evs_cons rfl (evs_cons rfl evs_nil)) rfl ?_
              have S239 := S68.front 1 rfl
              change St _ _ _ [GA5, [(b33, .cells #[.int .i64 x.k, .int .i64 x.on, .int .i64 x.n, .int .i64 x.many, .int .i64 x.f, .int .i64 x.t, .string x.d] 39 (0, 0))], G5] at S239
              refine (air_Double hA5 S239.hp1 hF (j : Int)).mono ?_
              rintro _ w240 ⟨rfl, G241, hA242, T244⟩
              have S245 := S239.call1 T244
              have hA243 : AirG 133 pA (F ++ [y]) 0 G241 := (by have q := hA242; rw [dblL, if_pos hat, Int.toNat_natCast, hj, Option.getD_some, putL, if_neg (by omega)] at q; exact q)
              change St _ _ _ [G241, [(b33, .cells #[.int .i64 x.k, .int .i64 x.on, .int .i64 x.n, .int .i64 x.many, .int .i64 x.f, .int .i64 x.t, .string x.d] 39 (0, 0))], G5] at S245
              rw [show dblE F (j : Int) = 0 from by rw [dblE, if_pos hat, putE, if_neg (by omega)]]
              refine ⟨_, rfl, ?_⟩
              refine WOps.p (G.assign rfl) rfl ?_
              refine WOps.nil ?_
              refine WEx.then_ ?_
              refine WCode.seq ?_
              refine WCode.seq ?_
              refine WCode.region ?_
              refine WOps.p (G.move rfl) rfl ?_
              refine WOps.p (G.move rfl) rfl ?_
              refine WOps.on rfl rfl ?_
              refine WOps.p (G.move rfl) rfl ?_
              refine WOps.on rfl rfl ?_
              refine WOps.p (G.len T.el43 rfl) rfl ?_
              refine WOps.on rfl rfl ?_
              refine WOps.p (G.lss rfl rfl (b := true) (decide_eq_true (by omega))) rfl ?_
              refine WOps.p (G.pick_t rfl rfl) rfl ?_
              refine WOps.p (G.move rfl) rfl ?_
              refine WOps.p (G.eql rfl rfl (b := true) rfl) rfl ?_
              refine WOps.p (G.neqb Try.underlying4 rfl rfl (b := false) rfl) rfl ?_
              refine WOps.p (G.move rfl) rfl ?_
              refine WOps.on rfl rfl ?_
              refine WOps.p (G.move rfl) rfl ?_
              refine WOps.on rfl rfl ?_
              refine WOps.p (G.move rfl) rfl ?_
              refine WOps.on rfl rfl ?_
              refine WOps.p (G.move rfl) rfl ?_
              refine WOps.on rfl rfl ?_
              refine WOps.p (G.len T.el43 rfl) rfl ?_
              refine WOps.on rfl rfl ?_
              refine WOps.p (G.geq rfl rfl (b := false) (decide_eq_false (by omega))) rfl ?_
              refine WOps.on rfl rfl ?_
              refine WOps.p (G.pick_t rfl rfl) rfl ?_
              refine WOps.on rfl rfl ?_
              refine WOps.p (G.move rfl) rfl ?_
              refine WOps.off rfl rfl rfl rfl ?_
              refine WOps.off rfl rfl rfl rfl ?_
              refine WOps.on rfl rfl ?_
              refine WOps.p (G.pick_f rfl rfl) rfl ?_
              refine WOps.p (G.pick_f rfl rfl) rfl ?_
              refine WOps.nil ?_
              refine WEx.then_ ?_
              refine WCode.cond_f rfl ?_
              refine WCode.skip ?_
              refine WEx.then_ ?_
              refine WCode.seq ?_
              refine WCode.seq ?_
              refine WCode.region ?_
              refine WOps.p (G.move rfl) rfl ?_
              refine WOps.p (G.eql rfl rfl (b := true) rfl) rfl ?_
              refine WOps.nil ?_
              refine WEx.then_ ?_
              refine WCode.cond_t rfl ?_
              refine WCode.region ?_
              refine WOps.p (G.move rfl) rfl ?_
              refine WOps.p (G.move rfl) rfl ?_
              refine WOps.p (G.move rfl) rfl ?_
              obtain ⟨b246, o247, ea248, ca249⟩ := Rd.at_ Pk.len (hR5.rd (fun b o hb => S245.grp 2 rfl hb)).2 hj rfl
              cases ea248
              refine WOps.p (G.index T.el43 rfl rfl (j := j) hjl rfl) rfl ?_
              refine WOps.r (G.loada T.agg37_3 rfl (cs := [.int .i64 y.f, .int .i64 y.t, .string y.d]) ca249) rfl ?_
              obtain ⟨b250, w251, E252, S253, X254, L255⟩ := St.lit S245 (P := Try.prog) (t := 43) (e := 37) (n := 1) (vs := [(0, .agg #[.int .i64 y.f, .int .i64 y.t, .string y.d])]) (cs := #[.int .i64 y.f, .int .i64 y.t, .string y.d]) (by kernel_rfl)
              have c256 := ca249.ext X254
              change St _ _ _ [[(b250, .cells #[.int .i64 y.f, .int .i64 y.t, .string y.d] 37 (0, 0))], G241, [(b33, .cells #[.int .i64 x.k, .int .i64 x.on, .int .i64 x.n, .int .i64 x.many, .int .i64 x.f, .int .i64 x.t, .string x.d] 39 (0, 0))], G5] at S253
              refine WOps.e (E252 (evp_cons rfl evp_nil)) rfl ?_
              obtain ⟨A257, c258, G259, w260, E261, hR262, S263⟩ := St.append (P := Try.prog) S253 3 rfl T.elt43 hR5 (Rd.of_blk (S253.blk 0 rfl) (n := 1) (sz := 3) rfl) (one_of_all rfl) (by simp only [maxLen]; omega) (by omega)
              change St _ _ _ [[(b250, .cells #[.int .i64 y.f, .int .i64 y.t, .string y.d] 37 (0, 0))], G241, [(b33, .cells #[.int .i64 x.k, .int .i64 x.on, .int .i64 x.n, .int .i64 x.many, .int .i64 x.f, .int .i64 x.t, .string x.d] 39 (0, 0))], G259] at S263
              refine WOps.e (E261 rfl rfl) rfl ?_
              refine WOps.p (G.assign rfl) rfl ?_
              refine WOps.nil ?_
              refine WEx.then_ ?_
              refine WCode.exit ?_
              refine WEx.in_other rfl ?_
              refine WEx.then_exit ?_
              refine WEx.in_exit ?_
              refine WEx.then_ ?_
              refine WCode.region ?_
              refine WOps.p (G.move rfl) rfl ?_
              refine WOps.p (G.add rfl rfl (show IntKind.i64.wrap ((i : Nat) + 1) = ((i : Nat) + 1) from IntWalk.i64_in _ (by omega))) rfl ?_
              refine WOps.p (G.assign rfl) rfl ?_
              refine WOps.nil ?_
              have hRn : RowG 37 3 (.slice A257 (F ++ [y]).length c258) (F ++ [y]).length (cellsOf Pk.cs (F ++ [y])) G259 := by
                rw [cellsOf_append, cellsOf_one, List.length_append]; exact hR262
              have S264 := S263.front 3 rfl
              change St _ _ _ [G259, [(b250, .cells #[.int .i64 y.f, .int .i64 y.t, .string y.d] 37 (0, 0))], G241, [(b33, .cells #[.int .i64 x.k, .int .i64 x.on, .int .i64 x.n, .int .i64 x.many, .int .i64 x.f, .int .i64 x.t, .string x.d] 39 (0, 0))]] at S264
              have S265 := S264.front 2 rfl
              change St _ _ _ [G241, G259, [(b250, .cells #[.int .i64 y.f, .int .i64 y.t, .string y.d] 37 (0, 0))], [(b33, .cells #[.int .i64 x.k, .int .i64 x.on, .int .i64 x.n, .int .i64 x.many, .int .i64 x.f, .int .i64 x.t, .string x.d] 39 (0, 0))]] at S265
              have S266 := St.keep (As := [G241, G259]) S265
              refine WEx.again _ _ ?_ ?_ ⟨i + 1, sent, (F ++ [y]), G241, A257, c258, G259, rfl, rfl, h0, (by omega), (by simp; omega), hA243, hRn, S266⟩
              · have := h0; omega
              · exact ⟨rfl, rfl, rfl, (show some (Value.slice A257 (F.length + 1) c258) = _ from by rw [List.length_append, List.length_singleton]), rfl, rfl, trivial⟩
            ·
              obtain rfl : b2 = true := by rw [h2]; exact decide_eq_true h.1
              obtain ⟨j, y, rfl, hj⟩ := at_nat h.1
              have hjl : j < F.length := (List.getElem?_eq_some_iff.1 hj).1
              have hat := h.1
              refine WCode.seq ?_
              refine WCode.seq ?_
              refine WCode.region ?_
              refine WOps.p (G.field T.fld39_0 rfl (show 0 + 0 = 0 from rfl)) rfl ?_
              refine WOps.r (G.load1 T.one3 rfl (cell_blk (S68.blk 0 rfl) rfl)) rfl ?_
              refine WOps.nil ?_
              refine WEx.then_ ?_
              refine WCode.block ?_
              refine WCode.seq ?_
              refine WCode.seq ?_
              refine WCode.region ?_
              refine WOps.p (G.eql rfl rfl (b := false) (decide_eq_false (by omega))) rfl ?_
              refine WOps.p (G.assign rfl) rfl ?_
              refine WOps.nil ?_
              refine WEx.then_ ?_
              refine WCode.cond_f rfl ?_
              refine WCode.region ?_
              refine WOps.p (G.eql rfl rfl (b := false) (decide_eq_false (by omega))) rfl ?_
              refine WOps.p (G.assign rfl) rfl ?_
              refine WOps.nil ?_
              refine WEx.then_ ?_
              refine WCode.cond_f rfl ?_
              refine WCode.seq ?_
              refine WCode.region ?_
              refine WOps.p (G.eql rfl rfl (b := false) (decide_eq_false (by omega))) rfl ?_
              refine WOps.p (G.assign rfl) rfl ?_
              refine WOps.nil ?_
              refine WEx.then_ ?_
              refine WCode.cond_f rfl ?_
              refine WCode.seq ?_
              refine WCode.region ?_
              refine WOps.p (G.eql rfl rfl (b := true) (decide_eq_true (by omega))) rfl ?_
              refine WOps.p (G.assign rfl) rfl ?_
              refine WOps.nil ?_
              refine WEx.then_ ?_
              refine WCode.cond_t rfl ?_
              refine WCode.seq ?_
              refine WCode.region ?_
              refine WOps.p (G.move rfl) rfl ?_
              refine WOps.p (G.move rfl) rfl ?_
              refine WOps.call T.call21 (evs_cons rfl (evs_cons rfl evs_nil)) rfl ?_
              have S267 := S68.front 1 rfl
              change St _ _ _ [GA5, [(b33, .cells #[.int .i64 x.k, .int .i64 x.on, .int .i64 x.n, .int .i64 x.many, .int .i64 x.f, .int .i64 x.t, .string x.d] 39 (0, 0))], G5] at S267
              refine (air_Double hA5 S267.hp1 hF (j : Int)).mono ?_
              rintro _ w268 ⟨rfl, G269, hA270, T272⟩
              have S273 := S267.call1 T272
              have hA271 : AirG 133 pA F 0 G269 := (by have q := hA270; rw [dblL, if_pos hat, Int.toNat_natCast, hj, Option.getD_some, putL, if_pos (by omega)] at q; exact q)
              change St _ _ _ [G269, [(b33, .cells #[.int .i64 x.k, .int .i64 x.on, .int .i64 x.n, .int .i64 x.many, .int .i64 x.f, .int .i64 x.t, .string x.d] 39 (0, 0))], G5] at S273
              rw [show dblE F (j : Int) = 132 from by rw [dblE, if_pos hat, putE, if_pos (by omega)]]
              refine ⟨_, rfl, ?_⟩
              refine WOps.p (G.assign rfl) rfl ?_
              refine WOps.nil ?_
              refine WEx.then_ ?_
              refine WCode.seq ?_
              refine WCode.seq ?_
              refine WCode.region ?_
              refine WOps.p (G.move rfl) rfl ?_
              refine WOps.p (G.move rfl) rfl ?_
              refine WOps.on rfl rfl ?_
              refine WOps.p (G.move rfl) rfl ?_
              refine WOps.on rfl rfl ?_
              refine WOps.p (G.len T.el43 rfl) rfl ?_
              refine WOps.on rfl rfl ?_
              refine WOps.p (G.lss rfl rfl (b := false) (decide_eq_false (by omega))) rfl ?_
              refine WOps.p (G.pick_t rfl rfl) rfl ?_
              refine WOps.p (G.move rfl) rfl ?_
              refine WOps.p (G.eql rfl rfl (b := false) rfl) rfl ?_
              refine WOps.p (G.neqb Try.underlying4 rfl rfl (b := false) rfl) rfl ?_
              refine WOps.p (G.move rfl) rfl ?_
              refine WOps.on rfl rfl ?_
              refine WOps.p (G.move rfl) rfl ?_
              refine WOps.on rfl rfl ?_
              refine WOps.p (G.move rfl) rfl ?_
              refine WOps.on rfl rfl ?_
              refine WOps.p (G.move rfl) rfl ?_
              refine WOps.on rfl rfl ?_
              refine WOps.p (G.len T.el43 rfl) rfl ?_
              refine WOps.on rfl rfl ?_
              refine WOps.p (G.geq rfl rfl (b := true) (decide_eq_true (by omega))) rfl ?_
              refine WOps.on rfl rfl ?_
              refine WOps.p (G.pick_t rfl rfl) rfl ?_
              refine WOps.on rfl rfl ?_
              refine WOps.p (G.move rfl) rfl ?_
              refine WOps.on rfl rfl ?_
              refine WOps.p (G.move rfl) rfl ?_
              refine WOps.on rfl rfl ?_
              refine WOps.p (G.neq rfl rfl (b := false) rfl) rfl ?_
              refine WOps.on rfl rfl ?_
              refine WOps.p (G.pick_t rfl rfl) rfl ?_
              refine WOps.p (G.pick_f rfl rfl) rfl ?_
              refine WOps.nil ?_
              refine WEx.then_ ?_
              refine WCode.cond_f rfl ?_
              refine WCode.skip ?_
              refine WEx.then_ ?_
              refine WCode.seq ?_
              refine WCode.seq ?_
              refine WCode.region ?_
              refine WOps.p (G.move rfl) rfl ?_
              refine WOps.p (G.eql rfl rfl (b := false) rfl) rfl ?_
              refine WOps.nil ?_
              refine WEx.then_ ?_
              refine WCode.cond_f rfl ?_
              refine WCode.skip ?_
              refine WEx.then_ ?_
              refine WCode.exit ?_
              refine WEx.in_other rfl ?_
              refine WEx.then_exit ?_
              refine WEx.in_exit ?_
              refine WEx.then_ ?_
              refine WCode.region ?_
              refine WOps.p (G.move rfl) rfl ?_
              refine WOps.p (G.add rfl rfl (show IntKind.i64.wrap ((i : Nat) + 1) = ((i : Nat) + 1) from IntWalk.i64_in _ (by omega))) rfl ?_
              refine WOps.p (G.assign rfl) rfl ?_
              refine WOps.nil ?_
              have S274 := S273.front 2 rfl
              change St _ _ _ [G5, G269, [(b33, .cells #[.int .i64 x.k, .int .i64 x.on, .int .i64 x.n, .int .i64 x.many, .int .i64 x.f, .int .i64 x.t, .string x.d] 39 (0, 0))]] at S274
              have S275 := S274.front 1 rfl
              change St _ _ _ [G269, G5, [(b33, .cells #[.int .i64 x.k, .int .i64 x.on, .int .i64 x.n, .int .i64 x.many, .int .i64 x.f, .int .i64 x.t, .string x.d] 39 (0, 0))]] at S275
              have S276 := St.keep (As := [G269, G5]) S275
              refine WEx.again _ _ ?_ ?_ ⟨i + 1, sent, F, G269, A5, c5, G5, rfl, rfl, h0, (by omega), hF, hA271, hR5, S276⟩
              · have := h0; omega
              · exact ⟨rfl, rfl, rfl, rfl, rfl, rfl, trivial⟩
            ·
              obtain rfl : b2 = false := by rw [h2]; exact decide_eq_false h.1
              have hat := h.1
              refine WCode.seq ?_
              refine WCode.seq ?_
              refine WCode.region ?_
              refine WOps.p (G.field T.fld39_0 rfl (show 0 + 0 = 0 from rfl)) rfl ?_
              refine WOps.r (G.load1 T.one3 rfl (cell_blk (S68.blk 0 rfl) rfl)) rfl ?_
              refine WOps.nil ?_
              refine WEx.then_ ?_
              refine WCode.block ?_
              refine WCode.seq ?_
              refine WCode.seq ?_
              refine WCode.region ?_
              refine WOps.p (G.eql rfl rfl (b := false) (decide_eq_false (by omega))) rfl ?_
              refine WOps.p (G.assign rfl) rfl ?_
              refine WOps.nil ?_
              refine WEx.then_ ?_
              refine WCode.cond_f rfl ?_
              refine WCode.region ?_
              refine WOps.p (G.eql rfl rfl (b := false) (decide_eq_false (by omega))) rfl ?_
              refine WOps.p (G.assign rfl) rfl ?_
              refine WOps.nil ?_
              refine WEx.then_ ?_
              refine WCode.cond_f rfl ?_
              refine WCode.seq ?_
              refine WCode.region ?_
              refine WOps.p (G.eql rfl rfl (b := false) (decide_eq_false (by omega))) rfl ?_
              refine WOps.p (G.assign rfl) rfl ?_
              refine WOps.nil ?_
              refine WEx.then_ ?_
              refine WCode.cond_f rfl ?_
              refine WCode.seq ?_
              refine WCode.region ?_
              refine WOps.p (G.eql rfl rfl (b := true) (decide_eq_true (by omega))) rfl ?_
              refine WOps.p (G.assign rfl) rfl ?_
              refine WOps.nil ?_
              refine WEx.then_ ?_
              refine WCode.cond_t rfl ?_
              refine WCode.seq ?_
              refine WCode.region ?_
              refine WOps.p (G.move rfl) rfl ?_
              refine WOps.p (G.move rfl) rfl ?_
              refine WOps.call T.call21 (evs_cons rfl (evs_cons rfl evs_nil)) rfl ?_
              have S277 := S68.front 1 rfl
              change St _ _ _ [GA5, [(b33, .cells #[.int .i64 x.k, .int .i64 x.on, .int .i64 x.n, .int .i64 x.many, .int .i64 x.f, .int .i64 x.t, .string x.d] 39 (0, 0))], G5] at S277
              refine (air_Double hA5 S277.hp1 hF n).mono ?_
              rintro _ w278 ⟨rfl, G279, hA280, T282⟩
              have S283 := S277.call1 T282
              have hA281 : AirG 133 pA F 0 G279 := (by have q := hA280; rw [dblL, if_neg hat] at q; exact q)
              change St _ _ _ [G279, [(b33, .cells #[.int .i64 x.k, .int .i64 x.on, .int .i64 x.n, .int .i64 x.many, .int .i64 x.f, .int .i64 x.t, .string x.d] 39 (0, 0))], G5] at S283
              rw [show dblE F n = 130 from if_neg hat]
              refine ⟨_, rfl, ?_⟩
              refine WOps.p (G.assign rfl) rfl ?_
              refine WOps.nil ?_
              refine WEx.then_ ?_
              refine WCode.seq ?_
              refine WCode.seq ?_
              refine WCode.region ?_
              refine WOps.p (G.move rfl) rfl ?_
              refine WOps.p (G.move rfl) rfl ?_
              refine WOps.off rfl rfl rfl rfl ?_
              refine WOps.off rfl rfl rfl rfl ?_
              refine WOps.off rfl rfl rfl rfl ?_
              refine WOps.p (G.pick_f rfl rfl) rfl ?_
              refine WOps.p (G.move rfl) rfl ?_
              refine WOps.p (G.eql rfl rfl (b := false) rfl) rfl ?_
              refine WOps.p (G.neqb Try.underlying4 rfl rfl (b := false) rfl) rfl ?_
              refine WOps.p (G.move rfl) rfl ?_
              refine WOps.on rfl rfl ?_
              refine WOps.p (G.move rfl) rfl ?_
              refine WOps.on rfl rfl ?_
              refine WOps.p (G.move rfl) rfl ?_
              refine WOps.off rfl rfl rfl rfl ?_
              refine WOps.off rfl rfl rfl rfl ?_
              refine WOps.off rfl rfl rfl rfl ?_
              refine WOps.on rfl rfl ?_
              refine WOps.p (G.pick_f rfl rfl) rfl ?_
              refine WOps.on rfl rfl ?_
              refine WOps.p (G.move rfl) rfl ?_
              refine WOps.off rfl rfl rfl rfl ?_
              refine WOps.off rfl rfl rfl rfl ?_
              refine WOps.on rfl rfl ?_
              refine WOps.p (G.pick_f rfl rfl) rfl ?_
              refine WOps.p (G.pick_f rfl rfl) rfl ?_
              refine WOps.nil ?_
              refine WEx.then_ ?_
              refine WCode.cond_f rfl ?_
              refine WCode.skip ?_
              refine WEx.then_ ?_
              refine WCode.seq ?_
              refine WCode.seq ?_
              refine WCode.region ?_
              refine WOps.p (G.move rfl) rfl ?_
              refine WOps.p (G.eql rfl rfl (b := false) rfl) rfl ?_
              refine WOps.nil ?_
              refine WEx.then_ ?_
              refine WCode.cond_f rfl ?_
              refine WCode.skip ?_
              refine WEx.then_ ?_
              refine WCode.exit ?_
              refine WEx.in_other rfl ?_
              refine WEx.then_exit ?_
              refine WEx.in_exit ?_
              refine WEx.then_ ?_
              refine WCode.region ?_
              refine WOps.p (G.move rfl) rfl ?_
              refine WOps.p (G.add rfl rfl (show IntKind.i64.wrap ((i : Nat) + 1) = ((i : Nat) + 1) from IntWalk.i64_in _ (by omega))) rfl ?_
              refine WOps.p (G.assign rfl) rfl ?_
              refine WOps.nil ?_
              have S284 := S283.front 2 rfl
              change St _ _ _ [G5, G279, [(b33, .cells #[.int .i64 x.k, .int .i64 x.on, .int .i64 x.n, .int .i64 x.many, .int .i64 x.f, .int .i64 x.t, .string x.d] 39 (0, 0))]] at S284
              have S285 := S284.front 1 rfl
              change St _ _ _ [G279, G5, [(b33, .cells #[.int .i64 x.k, .int .i64 x.on, .int .i64 x.n, .int .i64 x.many, .int .i64 x.f, .int .i64 x.t, .string x.d] 39 (0, 0))]] at S285
              have S286 := St.keep (As := [G279, G5]) S285
              refine WEx.again _ _ ?_ ?_ ⟨i + 1, sent, F, G279, A5, c5, G5, rfl, rfl, h0, (by omega), hF, hA281, hR5, S286⟩
              · have := h0; omega
              · exact ⟨rfl, rfl, rfl, rfl, rfl, rfl, trivial⟩
            ·
              refine WCode.seq ?_
              refine WCode.seq ?_
              refine WCode.region ?_
              refine WOps.p (G.field T.fld39_0 rfl (show 0 + 0 = 0 from rfl)) rfl ?_
              refine WOps.r (G.load1 T.one3 rfl (cell_blk (S68.blk 0 rfl) rfl)) rfl ?_
              refine WOps.nil ?_
              refine WEx.then_ ?_
              refine WCode.block ?_
              refine WCode.seq ?_
              refine WCode.seq ?_
              refine WCode.region ?_
              refine WOps.p (G.eql rfl rfl (b := false) (decide_eq_false (by omega))) rfl ?_
              refine WOps.p (G.assign rfl) rfl ?_
              refine WOps.nil ?_
              refine WEx.then_ ?_
              refine WCode.cond_f rfl ?_
              refine WCode.region ?_
              refine WOps.p (G.eql rfl rfl (b := false) (decide_eq_false (by omega))) rfl ?_
              refine WOps.p (G.assign rfl) rfl ?_
              refine WOps.nil ?_
              refine WEx.then_ ?_
              refine WCode.cond_f rfl ?_
              refine WCode.seq ?_
              refine WCode.region ?_
              refine WOps.p (G.eql rfl rfl (b := false) (decide_eq_false (by omega))) rfl ?_
              refine WOps.p (G.assign rfl) rfl ?_
              refine WOps.nil ?_
              refine WEx.then_ ?_
              refine WCode.cond_f rfl ?_
              refine WCode.seq ?_
              refine WCode.region ?_
              refine WOps.p (G.eql rfl rfl (b := false) (decide_eq_false (by omega))) rfl ?_
              refine WOps.p (G.assign rfl) rfl ?_
              refine WOps.nil ?_
              refine WEx.then_ ?_
              refine WCode.cond_f rfl ?_
              refine WCode.seq ?_
              refine WCode.region ?_
              refine WOps.p (G.move rfl) rfl ?_
              refine WOps.p (G.field T.fld39_4 rfl (show 0 + 4 = 4 from rfl)) rfl ?_
              refine WOps.p (G.field T.fld37_1 rfl (show 4 + 1 = 5 from rfl)) rfl ?_
              refine WOps.r (G.load1 T.one3 rfl (cell_blk (S68.blk 0 rfl) rfl)) rfl ?_
              refine WOps.p (G.field T.fld39_4 rfl (show 0 + 4 = 4 from rfl)) rfl ?_
              refine WOps.p (G.field T.fld37_2 rfl (show 4 + 2 = 6 from rfl)) rfl ?_
              refine WOps.r (G.load1 T.one9 rfl (cell_blk (S68.blk 0 rfl) rfl)) rfl ?_
              refine WOps.p (G.build (cells := #[.int .i64 sent, .int .i64 x.t, .string x.d]) (evp_spec (evp_cons rfl (evp_cons rfl (evp_cons rfl evp_nil)))) (by kernel_rfl)) rfl ?_
              obtain ⟨b287, w288, E289, S290, X291, L292⟩ := St.var S68 T.zero37
              change St _ _ _ [[(b287, .cells #[.int .i64 0, .int .i64 0, .string ⟨#[]⟩] 37 (0, 0))], [(b33, .cells #[.int .i64 x.k, .int .i64 x.on, .int .i64 x.n, .int .i64 x.many, .int .i64 x.f, .int .i64 x.t, .string x.d] 39 (0, 0))], GA5, G5] at S290
              refine WOps.e E289 rfl ?_
              obtain ⟨w293, E294, S295⟩ := St.store (P := Try.prog) S290 0 37 (.agg #[.int .i64 sent, .int .i64 x.t, .string x.d]) (off := 0) (cur' := #[.int .i64 sent, .int .i64 x.t, .string x.d]) rfl T.size37_3 rfl rfl rfl
              change St _ _ _ [[(b287, .cells #[.int .i64 sent, .int .i64 x.t, .string x.d] 37 (0, 0))], [(b33, .cells #[.int .i64 x.k, .int .i64 x.on, .int .i64 x.n, .int .i64 x.many, .int .i64 x.f, .int .i64 x.t, .string x.d] 39 (0, 0))], GA5, G5] at S295
              refine WOps.u (E294 rfl rfl) ?_
              refine WOps.nil ?_
              refine WEx.then_ ?_
              refine WCode.seq ?_
              refine WCode.region ?_
              refine WOps.p (G.move rfl) rfl ?_
              refine WOps.p (G.add rfl rfl (show IntKind.i64.wrap (sent + 1) = (sent + 1) from IntWalk.i64_in _ (by omega))) rfl ?_
              refine WOps.p (G.assign rfl) rfl ?_
              refine WOps.nil ?_
              refine WEx.then_ ?_
              refine WCode.seq ?_
              refine WCode.region ?_
              refine WOps.p (G.move rfl) rfl ?_
              refine WOps.r (G.loada T.agg37_3 rfl (cs := [.int .i64 sent, .int .i64 x.t, .string x.d]) (cellsAt.of_blk (S295.blk 0 rfl) rfl)) rfl ?_
              refine WOps.call T.call22 (evs_cons rfl (evs_cons rfl evs_nil)) rfl ?_
              have S297 := S295.front 2 rfl
              change St _ _ _ [GA5, [(b287, .cells #[.int .i64 sent, .int .i64 x.t, .string x.d] 37 (0, 0))], [(b33, .cells #[.int .i64 x.k, .int .i64 x.on, .int .i64 x.n, .int .i64 x.many, .int .i64 x.f, .int .i64 x.t, .string x.d] 39 (0, 0))], G5] at S297
              refine (air_Send hA5 S297.hp1 (⟨sent, x.t, x.d⟩ : Pk) ox.d).mono ?_
              rintro _ w298 ⟨rfl, G299, hA300, T302⟩
              have S303 := S297.call1 T302
              have hA301 : AirG 133 pA (F ++ [(⟨sent, x.t, x.d⟩ : Pk)]) 0 G299 := (by have q := hA300; rw [sendL, if_neg (show ¬ x.d.size > 1500 by omega), putL, if_neg (by omega)] at q; exact q)
              change St _ _ _ [G299, [(b287, .cells #[.int .i64 sent, .int .i64 x.t, .string x.d] 37 (0, 0))], [(b33, .cells #[.int .i64 x.k, .int .i64 x.on, .int .i64 x.n, .int .i64 x.many, .int .i64 x.f, .int .i64 x.t, .string x.d] 39 (0, 0))], G5] at S303
              rw [show sendE F (⟨sent, x.t, x.d⟩ : Pk) = 0 from by rw [sendE, if_neg (show ¬ x.d.size > 1500 by omega), putE, if_neg (by omega)]]
              refine ⟨_, rfl, ?_⟩
              refine WOps.p (G.assign rfl) rfl ?_
              refine WOps.nil ?_
              refine WEx.then_ ?_
              refine WCode.seq ?_
              refine WCode.seq ?_
              refine WCode.region ?_
              refine WOps.p (G.field T.fld37_2 rfl (show 0 + 2 = 2 from rfl)) rfl ?_
              refine WOps.r (G.load1 T.one9 rfl (cell_blk (S303.blk 1 rfl) rfl)) rfl ?_
              refine WOps.p (G.lens T.str9 rfl) rfl ?_
              refine WOps.p (G.leq rfl rfl (b := true) (decide_eq_true (by omega))) rfl ?_
              refine WOps.p (G.move rfl) rfl ?_
              refine WOps.on rfl rfl ?_
              refine WOps.p (G.move rfl) rfl ?_
              refine WOps.on rfl rfl ?_
              refine WOps.p (G.len T.el43 rfl) rfl ?_
              refine WOps.on rfl rfl ?_
              refine WOps.p (G.lss rfl rfl (b := true) (decide_eq_true (by omega))) rfl ?_
              refine WOps.p (G.pick_t rfl rfl) rfl ?_
              refine WOps.p (G.move rfl) rfl ?_
              refine WOps.p (G.eql rfl rfl (b := true) rfl) rfl ?_
              refine WOps.p (G.neqb Try.underlying4 rfl rfl (b := false) rfl) rfl ?_
              refine WOps.nil ?_
              refine WEx.then_ ?_
              refine WCode.cond_f rfl ?_
              refine WCode.skip ?_
              refine WEx.then_ ?_
              refine WCode.seq ?_
              refine WCode.seq ?_
              refine WCode.region ?_
              refine WOps.p (G.move rfl) rfl ?_
              refine WOps.p (G.eql rfl rfl (b := true) rfl) rfl ?_
              refine WOps.nil ?_
              refine WEx.then_ ?_
              refine WCode.cond_t rfl ?_
              refine WCode.region ?_
              refine WOps.p (G.move rfl) rfl ?_
              refine WOps.r (G.loada T.agg37_3 rfl (cs := [.int .i64 sent, .int .i64 x.t, .string x.d]) (cellsAt.of_blk (S303.blk 1 rfl) rfl)) rfl ?_
              obtain ⟨b304, w305, E306, S307, X308, L309⟩ := St.lit S303 (P := Try.prog) (t := 43) (e := 37) (n := 1) (vs := [(0, .agg #[.int .i64 sent, .int .i64 x.t, .string x.d])]) (cs := #[.int .i64 sent, .int .i64 x.t, .string x.d]) (by kernel_rfl)
              change St _ _ _ [[(b304, .cells #[.int .i64 sent, .int .i64 x.t, .string x.d] 37 (0, 0))], G299, [(b287, .cells #[.int .i64 sent, .int .i64 x.t, .string x.d] 37 (0, 0))], [(b33, .cells #[.int .i64 x.k, .int .i64 x.on, .int .i64 x.n, .int .i64 x.many, .int .i64 x.f, .int .i64 x.t, .string x.d] 39 (0, 0))], G5] at S307
              refine WOps.e (E306 (evp_cons rfl evp_nil)) rfl ?_
              obtain ⟨A310, c311, G312, w313, E314, hR315, S316⟩ := St.append (P := Try.prog) S307 4 rfl T.elt43 hR5 (Rd.of_blk (S307.blk 0 rfl) (n := 1) (sz := 3) rfl) (one_of_all rfl) (by simp only [maxLen]; omega) (by omega)
              change St _ _ _ [[(b304, .cells #[.int .i64 sent, .int .i64 x.t, .string x.d] 37 (0, 0))], G299, [(b287, .cells #[.int .i64 sent, .int .i64 x.t, .string x.d] 37 (0, 0))], [(b33, .cells #[.int .i64 x.k, .int .i64 x.on, .int .i64 x.n, .int .i64 x.many, .int .i64 x.f, .int .i64 x.t, .string x.d] 39 (0, 0))], G312] at S316
              refine WOps.e (E314 rfl rfl) rfl ?_
              refine WOps.p (G.assign rfl) rfl ?_
              refine WOps.nil ?_
              refine WEx.then_ ?_
              refine WCode.exit ?_
              refine WEx.in_other rfl ?_
              refine WEx.then_exit ?_
              refine WEx.in_exit ?_
              refine WEx.then_ ?_
              refine WCode.region ?_
              refine WOps.p (G.move rfl) rfl ?_
              refine WOps.p (G.add rfl rfl (show IntKind.i64.wrap ((i : Nat) + 1) = ((i : Nat) + 1) from IntWalk.i64_in _ (by omega))) rfl ?_
              refine WOps.p (G.assign rfl) rfl ?_
              refine WOps.nil ?_
              have hRn : RowG 37 3 (.slice A310 (F ++ [(⟨sent, x.t, x.d⟩ : Pk)]).length c311) (F ++ [(⟨sent, x.t, x.d⟩ : Pk)]).length (cellsOf Pk.cs (F ++ [(⟨sent, x.t, x.d⟩ : Pk)])) G312 := by
                rw [cellsOf_append, cellsOf_one, List.length_append]; exact hR315
              have S317 := S316.front 4 rfl
              change St _ _ _ [G312, [(b304, .cells #[.int .i64 sent, .int .i64 x.t, .string x.d] 37 (0, 0))], G299, [(b287, .cells #[.int .i64 sent, .int .i64 x.t, .string x.d] 37 (0, 0))], [(b33, .cells #[.int .i64 x.k, .int .i64 x.on, .int .i64 x.n, .int .i64 x.many, .int .i64 x.f, .int .i64 x.t, .string x.d] 39 (0, 0))]] at S317
              have S318 := S317.front 2 rfl
              change St _ _ _ [G299, G312, [(b304, .cells #[.int .i64 sent, .int .i64 x.t, .string x.d] 37 (0, 0))], [(b287, .cells #[.int .i64 sent, .int .i64 x.t, .string x.d] 37 (0, 0))], [(b33, .cells #[.int .i64 x.k, .int .i64 x.on, .int .i64 x.n, .int .i64 x.many, .int .i64 x.f, .int .i64 x.t, .string x.d] 39 (0, 0))]] at S318
              have S319 := St.keep (As := [G299, G312]) S318
              refine WEx.again _ _ ?_ ?_ ⟨i + 1, (sent + 1), (F ++ [(⟨sent, x.t, x.d⟩ : Pk)]), G299, A310, c311, G312, rfl, rfl, h0, (by omega), (by simp; omega), hA301, hRn, S319⟩
              · have := h0; omega
              · exact ⟨rfl, rfl, rfl, (show some (Value.slice A310 (F.length + 1) c311) = _ from by rw [List.length_append, List.length_singleton]), rfl, rfl, trivial⟩
            ·
              refine WCode.seq ?_
              refine WCode.seq ?_
              refine WCode.region ?_
              refine WOps.p (G.field T.fld39_0 rfl (show 0 + 0 = 0 from rfl)) rfl ?_
              refine WOps.r (G.load1 T.one3 rfl (cell_blk (S68.blk 0 rfl) rfl)) rfl ?_
              refine WOps.nil ?_
              refine WEx.then_ ?_
              refine WCode.block ?_
              refine WCode.seq ?_
              refine WCode.seq ?_
              refine WCode.region ?_
              refine WOps.p (G.eql rfl rfl (b := false) (decide_eq_false (by omega))) rfl ?_
              refine WOps.p (G.assign rfl) rfl ?_
              refine WOps.nil ?_
              refine WEx.then_ ?_
              refine WCode.cond_f rfl ?_
              refine WCode.region ?_
              refine WOps.p (G.eql rfl rfl (b := false) (decide_eq_false (by omega))) rfl ?_
              refine WOps.p (G.assign rfl) rfl ?_
              refine WOps.nil ?_
              refine WEx.then_ ?_
              refine WCode.cond_f rfl ?_
              refine WCode.seq ?_
              refine WCode.region ?_
              refine WOps.p (G.eql rfl rfl (b := false) (decide_eq_false (by omega))) rfl ?_
              refine WOps.p (G.assign rfl) rfl ?_
              refine WOps.nil ?_
              refine WEx.then_ ?_
              refine WCode.cond_f rfl ?_
              refine WCode.seq ?_
              refine WCode.region ?_
              refine WOps.p (G.eql rfl rfl (b := false) (decide_eq_false (by omega))) rfl ?_
              refine WOps.p (G.assign rfl) rfl ?_
              refine WOps.nil ?_
              refine WEx.then_ ?_
              refine WCode.cond_f rfl ?_
              refine WCode.seq ?_
              refine WCode.region ?_
              refine WOps.p (G.move rfl) rfl ?_
              refine WOps.p (G.field T.fld39_4 rfl (show 0 + 4 = 4 from rfl)) rfl ?_
              refine WOps.p (G.field T.fld37_1 rfl (show 4 + 1 = 5 from rfl)) rfl ?_
              refine WOps.r (G.load1 T.one3 rfl (cell_blk (S68.blk 0 rfl) rfl)) rfl ?_
              refine WOps.p (G.field T.fld39_4 rfl (show 0 + 4 = 4 from rfl)) rfl ?_
              refine WOps.p (G.field T.fld37_2 rfl (show 4 + 2 = 6 from rfl)) rfl ?_
              refine WOps.r (G.load1 T.one9 rfl (cell_blk (S68.blk 0 rfl) rfl)) rfl ?_
              refine WOps.p (G.build (cells := #[.int .i64 sent, .int .i64 x.t, .string x.d]) (evp_spec (evp_cons rfl (evp_cons rfl (evp_cons rfl evp_nil)))) (by kernel_rfl)) rfl ?_
              obtain ⟨b320, w321, E322, S323, X324, L325⟩ := St.var S68 T.zero37
              change St _ _ _ [[(b320, .cells #[.int .i64 0, .int .i64 0, .string ⟨#[]⟩] 37 (0, 0))], [(b33, .cells #[.int .i64 x.k, .int .i64 x.on, .int .i64 x.n, .int .i64 x.many, .int .i64 x.f, .int .i64 x.t, .string x.d] 39 (0, 0))], GA5, G5] at S323
              refine WOps.e E322 rfl ?_
              obtain ⟨w326, E327, S328⟩ := St.store (P := Try.prog) S323 0 37 (.agg #[.int .i64 sent, .int .i64 x.t, .string x.d]) (off := 0) (cur' := #[.int .i64 sent, .int .i64 x.t, .string x.d]) rfl T.size37_3 rfl rfl rfl
              change St _ _ _ [[(b320, .cells #[.int .i64 sent, .int .i64 x.t, .string x.d] 37 (0, 0))], [(b33, .cells #[.int .i64 x.k, .int .i64 x.on, .int .i64 x.n, .int .i64 x.many, .int .i64 x.f, .int .i64 x.t, .string x.d] 39 (0, 0))], GA5, G5] at S328
              refine WOps.u (E327 rfl rfl) ?_
              refine WOps.nil ?_
              refine WEx.then_ ?_
              refine WCode.seq ?_
              refine WCode.region ?_
              refine WOps.p (G.move rfl) rfl ?_
              refine WOps.p (G.add rfl rfl (show IntKind.i64.wrap (sent + 1) = (sent + 1) from IntWalk.i64_in _ (by omega))) rfl ?_
              refine WOps.p (G.assign rfl) rfl ?_
              refine WOps.nil ?_
              refine WEx.then_ ?_
              refine WCode.seq ?_
              refine WCode.region ?_
              refine WOps.p (G.move rfl) rfl ?_
              refine WOps.r (G.loada T.agg37_3 rfl (cs := [.int .i64 sent, .int .i64 x.t, .string x.d]) (cellsAt.of_blk (S328.blk 0 rfl) rfl)) rfl ?_
              refine WOps.call T.call22 (evs_cons rfl (evs_cons rfl evs_nil)) rfl ?_
              have S330 := S328.front 2 rfl
              change St _ _ _ [GA5, [(b320, .cells #[.int .i64 sent, .int .i64 x.t, .string x.d] 37 (0, 0))], [(b33, .cells #[.int .i64 x.k, .int .i64 x.on, .int .i64 x.n, .int .i64 x.many, .int .i64 x.f, .int .i64 x.t, .string x.d] 39 (0, 0))], G5] at S330
              refine (air_Send hA5 S330.hp1 (⟨sent, x.t, x.d⟩ : Pk) ox.d).mono ?_
              rintro _ w331 ⟨rfl, G332, hA333, T335⟩
              have S336 := S330.call1 T335
              have hA334 : AirG 133 pA F 0 G332 := (by have q := hA333; rw [sendL, if_neg (show ¬ x.d.size > 1500 by omega), putL, if_pos (by omega)] at q; exact q)
              change St _ _ _ [G332, [(b320, .cells #[.int .i64 sent, .int .i64 x.t, .string x.d] 37 (0, 0))], [(b33, .cells #[.int .i64 x.k, .int .i64 x.on, .int .i64 x.n, .int .i64 x.many, .int .i64 x.f, .int .i64 x.t, .string x.d] 39 (0, 0))], G5] at S336
              rw [show sendE F (⟨sent, x.t, x.d⟩ : Pk) = 132 from by rw [sendE, if_neg (show ¬ x.d.size > 1500 by omega), putE, if_pos (by omega)]]
              refine ⟨_, rfl, ?_⟩
              refine WOps.p (G.assign rfl) rfl ?_
              refine WOps.nil ?_
              refine WEx.then_ ?_
              refine WCode.seq ?_
              refine WCode.seq ?_
              refine WCode.region ?_
              refine WOps.p (G.field T.fld37_2 rfl (show 0 + 2 = 2 from rfl)) rfl ?_
              refine WOps.r (G.load1 T.one9 rfl (cell_blk (S336.blk 1 rfl) rfl)) rfl ?_
              refine WOps.p (G.lens T.str9 rfl) rfl ?_
              refine WOps.p (G.leq rfl rfl (b := true) (decide_eq_true (by omega))) rfl ?_
              refine WOps.p (G.move rfl) rfl ?_
              refine WOps.on rfl rfl ?_
              refine WOps.p (G.move rfl) rfl ?_
              refine WOps.on rfl rfl ?_
              refine WOps.p (G.len T.el43 rfl) rfl ?_
              refine WOps.on rfl rfl ?_
              refine WOps.p (G.lss rfl rfl (b := false) (decide_eq_false (by omega))) rfl ?_
              refine WOps.p (G.pick_t rfl rfl) rfl ?_
              refine WOps.p (G.move rfl) rfl ?_
              refine WOps.p (G.eql rfl rfl (b := false) rfl) rfl ?_
              refine WOps.p (G.neqb Try.underlying4 rfl rfl (b := false) rfl) rfl ?_
              refine WOps.nil ?_
              refine WEx.then_ ?_
              refine WCode.cond_f rfl ?_
              refine WCode.skip ?_
              refine WEx.then_ ?_
              refine WCode.seq ?_
              refine WCode.seq ?_
              refine WCode.region ?_
              refine WOps.p (G.move rfl) rfl ?_
              refine WOps.p (G.eql rfl rfl (b := false) rfl) rfl ?_
              refine WOps.nil ?_
              refine WEx.then_ ?_
              refine WCode.cond_f rfl ?_
              refine WCode.skip ?_
              refine WEx.then_ ?_
              refine WCode.exit ?_
              refine WEx.in_other rfl ?_
              refine WEx.then_exit ?_
              refine WEx.in_exit ?_
              refine WEx.then_ ?_
              refine WCode.region ?_
              refine WOps.p (G.move rfl) rfl ?_
              refine WOps.p (G.add rfl rfl (show IntKind.i64.wrap ((i : Nat) + 1) = ((i : Nat) + 1) from IntWalk.i64_in _ (by omega))) rfl ?_
              refine WOps.p (G.assign rfl) rfl ?_
              refine WOps.nil ?_
              have S337 := S336.front 3 rfl
              change St _ _ _ [G5, G332, [(b320, .cells #[.int .i64 sent, .int .i64 x.t, .string x.d] 37 (0, 0))], [(b33, .cells #[.int .i64 x.k, .int .i64 x.on, .int .i64 x.n, .int .i64 x.many, .int .i64 x.f, .int .i64 x.t, .string x.d] 39 (0, 0))]] at S337
              have S338 := S337.front 1 rfl
              change St _ _ _ [G332, G5, [(b320, .cells #[.int .i64 sent, .int .i64 x.t, .string x.d] 37 (0, 0))], [(b33, .cells #[.int .i64 x.k, .int .i64 x.on, .int .i64 x.n, .int .i64 x.many, .int .i64 x.f, .int .i64 x.t, .string x.d] 39 (0, 0))]] at S338
              have S339 := St.keep (As := [G332, G5]) S338
              refine WEx.again _ _ ?_ ?_ ⟨i + 1, (sent + 1), F, G332, A5, c5, G5, rfl, rfl, h0, (by omega), hF, hA334, hR5, S339⟩
              · have := h0; omega
              · exact ⟨rfl, rfl, rfl, rfl, rfl, rfl, trivial⟩
            ·
              refine WCode.seq ?_
              refine WCode.seq ?_
              refine WCode.region ?_
              refine WOps.p (G.field T.fld39_0 rfl (show 0 + 0 = 0 from rfl)) rfl ?_
              refine WOps.r (G.load1 T.one3 rfl (cell_blk (S68.blk 0 rfl) rfl)) rfl ?_
              refine WOps.nil ?_
              refine WEx.then_ ?_
              refine WCode.block ?_
              refine WCode.seq ?_
              refine WCode.seq ?_
              refine WCode.region ?_
              refine WOps.p (G.eql rfl rfl (b := false) (decide_eq_false (by omega))) rfl ?_
              refine WOps.p (G.assign rfl) rfl ?_
              refine WOps.nil ?_
              refine WEx.then_ ?_
              refine WCode.cond_f rfl ?_
              refine WCode.region ?_
              refine WOps.p (G.eql rfl rfl (b := false) (decide_eq_false (by omega))) rfl ?_
              refine WOps.p (G.assign rfl) rfl ?_
              refine WOps.nil ?_
              refine WEx.then_ ?_
              refine WCode.cond_f rfl ?_
              refine WCode.seq ?_
              refine WCode.region ?_
              refine WOps.p (G.eql rfl rfl (b := false) (decide_eq_false (by omega))) rfl ?_
              refine WOps.p (G.assign rfl) rfl ?_
              refine WOps.nil ?_
              refine WEx.then_ ?_
              refine WCode.cond_f rfl ?_
              refine WCode.seq ?_
              refine WCode.region ?_
              refine WOps.p (G.eql rfl rfl (b := false) (decide_eq_false (by omega))) rfl ?_
              refine WOps.p (G.assign rfl) rfl ?_
              refine WOps.nil ?_
              refine WEx.then_ ?_
              refine WCode.cond_f rfl ?_
              refine WCode.seq ?_
              refine WCode.region ?_
              refine WOps.p (G.move rfl) rfl ?_
              refine WOps.p (G.field T.fld39_4 rfl (show 0 + 4 = 4 from rfl)) rfl ?_
              refine WOps.p (G.field T.fld37_1 rfl (show 4 + 1 = 5 from rfl)) rfl ?_
              refine WOps.r (G.load1 T.one3 rfl (cell_blk (S68.blk 0 rfl) rfl)) rfl ?_
              refine WOps.p (G.field T.fld39_4 rfl (show 0 + 4 = 4 from rfl)) rfl ?_
              refine WOps.p (G.field T.fld37_2 rfl (show 4 + 2 = 6 from rfl)) rfl ?_
              refine WOps.r (G.load1 T.one9 rfl (cell_blk (S68.blk 0 rfl) rfl)) rfl ?_
              refine WOps.p (G.build (cells := #[.int .i64 sent, .int .i64 x.t, .string x.d]) (evp_spec (evp_cons rfl (evp_cons rfl (evp_cons rfl evp_nil)))) (by kernel_rfl)) rfl ?_
              obtain ⟨b340, w341, E342, S343, X344, L345⟩ := St.var S68 T.zero37
              change St _ _ _ [[(b340, .cells #[.int .i64 0, .int .i64 0, .string ⟨#[]⟩] 37 (0, 0))], [(b33, .cells #[.int .i64 x.k, .int .i64 x.on, .int .i64 x.n, .int .i64 x.many, .int .i64 x.f, .int .i64 x.t, .string x.d] 39 (0, 0))], GA5, G5] at S343
              refine WOps.e E342 rfl ?_
              obtain ⟨w346, E347, S348⟩ := St.store (P := Try.prog) S343 0 37 (.agg #[.int .i64 sent, .int .i64 x.t, .string x.d]) (off := 0) (cur' := #[.int .i64 sent, .int .i64 x.t, .string x.d]) rfl T.size37_3 rfl rfl rfl
              change St _ _ _ [[(b340, .cells #[.int .i64 sent, .int .i64 x.t, .string x.d] 37 (0, 0))], [(b33, .cells #[.int .i64 x.k, .int .i64 x.on, .int .i64 x.n, .int .i64 x.many, .int .i64 x.f, .int .i64 x.t, .string x.d] 39 (0, 0))], GA5, G5] at S348
              refine WOps.u (E347 rfl rfl) ?_
              refine WOps.nil ?_
              refine WEx.then_ ?_
              refine WCode.seq ?_
              refine WCode.region ?_
              refine WOps.p (G.move rfl) rfl ?_
              refine WOps.p (G.add rfl rfl (show IntKind.i64.wrap (sent + 1) = (sent + 1) from IntWalk.i64_in _ (by omega))) rfl ?_
              refine WOps.p (G.assign rfl) rfl ?_
              refine WOps.nil ?_
              refine WEx.then_ ?_
              refine WCode.seq ?_
              refine WCode.region ?_
              refine WOps.p (G.move rfl) rfl ?_
              refine WOps.r (G.loada T.agg37_3 rfl (cs := [.int .i64 sent, .int .i64 x.t, .string x.d]) (cellsAt.of_blk (S348.blk 0 rfl) rfl)) rfl ?_
              refine WOps.call T.call22 (evs_cons rfl (evs_cons rfl evs_nil)) rfl ?_
              have S350 := S348.front 2 rfl
              change St _ _ _ [GA5, [(b340, .cells #[.int .i64 sent, .int .i64 x.t, .string x.d] 37 (0, 0))], [(b33, .cells #[.int .i64 x.k, .int .i64 x.on, .int .i64 x.n, .int .i64 x.many, .int .i64 x.f, .int .i64 x.t, .string x.d] 39 (0, 0))], G5] at S350
              refine (air_Send hA5 S350.hp1 (⟨sent, x.t, x.d⟩ : Pk) ox.d).mono ?_
              rintro _ w351 ⟨rfl, G352, hA353, T355⟩
              have S356 := S350.call1 T355
              have hA354 : AirG 133 pA F 0 G352 := (by have q := hA353; rw [sendL, if_pos (show x.d.size > 1500 by omega)] at q; exact q)
              change St _ _ _ [G352, [(b340, .cells #[.int .i64 sent, .int .i64 x.t, .string x.d] 37 (0, 0))], [(b33, .cells #[.int .i64 x.k, .int .i64 x.on, .int .i64 x.n, .int .i64 x.many, .int .i64 x.f, .int .i64 x.t, .string x.d] 39 (0, 0))], G5] at S356
              rw [show sendE F (⟨sent, x.t, x.d⟩ : Pk) = 131 from by rw [sendE, if_pos (show x.d.size > 1500 by omega)]]
              refine ⟨_, rfl, ?_⟩
              refine WOps.p (G.assign rfl) rfl ?_
              refine WOps.nil ?_
              refine WEx.then_ ?_
              refine WCode.seq ?_
              refine WCode.seq ?_
              refine WCode.region ?_
              refine WOps.p (G.field T.fld37_2 rfl (show 0 + 2 = 2 from rfl)) rfl ?_
              refine WOps.r (G.load1 T.one9 rfl (cell_blk (S356.blk 1 rfl) rfl)) rfl ?_
              refine WOps.p (G.lens T.str9 rfl) rfl ?_
              refine WOps.p (G.leq rfl rfl (b := false) (decide_eq_false (by omega))) rfl ?_
              refine WOps.p (G.move rfl) rfl ?_
              refine WOps.off rfl rfl rfl rfl ?_
              refine WOps.off rfl rfl rfl rfl ?_
              refine WOps.off rfl rfl rfl rfl ?_
              refine WOps.p (G.pick_f rfl rfl) rfl ?_
              refine WOps.p (G.move rfl) rfl ?_
              refine WOps.p (G.eql rfl rfl (b := false) rfl) rfl ?_
              refine WOps.p (G.neqb Try.underlying4 rfl rfl (b := false) rfl) rfl ?_
              refine WOps.nil ?_
              refine WEx.then_ ?_
              refine WCode.cond_f rfl ?_
              refine WCode.skip ?_
              refine WEx.then_ ?_
              refine WCode.seq ?_
              refine WCode.seq ?_
              refine WCode.region ?_
              refine WOps.p (G.move rfl) rfl ?_
              refine WOps.p (G.eql rfl rfl (b := false) rfl) rfl ?_
              refine WOps.nil ?_
              refine WEx.then_ ?_
              refine WCode.cond_f rfl ?_
              refine WCode.skip ?_
              refine WEx.then_ ?_
              refine WCode.exit ?_
              refine WEx.in_other rfl ?_
              refine WEx.then_exit ?_
              refine WEx.in_exit ?_
              refine WEx.then_ ?_
              refine WCode.region ?_
              refine WOps.p (G.move rfl) rfl ?_
              refine WOps.p (G.add rfl rfl (show IntKind.i64.wrap ((i : Nat) + 1) = ((i : Nat) + 1) from IntWalk.i64_in _ (by omega))) rfl ?_
              refine WOps.p (G.assign rfl) rfl ?_
              refine WOps.nil ?_
              have S357 := S356.front 3 rfl
              change St _ _ _ [G5, G352, [(b340, .cells #[.int .i64 sent, .int .i64 x.t, .string x.d] 37 (0, 0))], [(b33, .cells #[.int .i64 x.k, .int .i64 x.on, .int .i64 x.n, .int .i64 x.many, .int .i64 x.f, .int .i64 x.t, .string x.d] 39 (0, 0))]] at S357
              have S358 := S357.front 1 rfl
              change St _ _ _ [G352, G5, [(b340, .cells #[.int .i64 sent, .int .i64 x.t, .string x.d] 37 (0, 0))], [(b33, .cells #[.int .i64 x.k, .int .i64 x.on, .int .i64 x.n, .int .i64 x.many, .int .i64 x.f, .int .i64 x.t, .string x.d] 39 (0, 0))]] at S358
              have S359 := St.keep (As := [G352, G5]) S358
              refine WEx.again _ _ ?_ ?_ ⟨i + 1, (sent + 1), F, G352, A5, c5, G5, rfl, rfl, h0, (by omega), hF, hA354, hR5, S359⟩
              · have := h0; omega
              · exact ⟨rfl, rfl, rfl, rfl, rfl, rfl, trivial⟩

end Go.Proofs.Ytoahkjehjmbojaa
