/- Functions and their walks (printed by auto.py over the engine). -/
import Derived.Test.YtpdpfiaediadgaaProg
import Derived.Test.YtpdpfiaediadgaaCD
namespace Go.Proofs.Ytpdpfiaediadgaa
open Go Go.Eng
set_option linter.unusedSimpArgs false
set_option linter.unusedVariables false

theorem T.call36 : Callable Try.prog 36 := Callable.mk Try.func36 (by kernel_rfl) (by kernel_rfl)
theorem T.call37 : Callable Try.prog 37 := Callable.mk Try.func37 (by kernel_rfl) (by kernel_rfl)
theorem T.call38 : Callable Try.prog 38 := Callable.mk Try.func38 (by kernel_rfl) (by kernel_rfl)
theorem T.fld34_0 : fldOff Try.prog 34 0 = some 0 := by kernel_rfl
theorem T.fld34_1 : fldOff Try.prog 34 1 = some 1 := by kernel_rfl



def ca_Busy (k : Nat) (a0 : Cache) (a1 : WhoC) (a2 : Int) : Option Bool := (if (mget a0.clients a1).isSome = true then (Option.bind (mget a0.clients a1) fun x18 => (Option.bind (cu_hit k x18.calls a2) fun t32 => (if t32 = true then (some true) else (some false)))) else (some false))
set_option maxRecDepth 100000 in
set_option maxHeartbeats 1000000 in
theorem ca_Busy_calls (k : Nat) (a0 : Cache) {p0 : Nat} {F0 : Nat → Prop} (a1 : WhoC) (a2 : Int) {w : World} (hP0 : PtR 89 Cache.rp w F0 p0 a0) (hF0 : ∀ b, F0 b → NK w [] b) {r_ : Bool} (h_ : ca_Busy k a0 a1 a2 = some r_) :
    Calls Try.prog 41 [.pointer (some ⟨p0, 0, none⟩), .agg #[.int .i64 a1.Address, .int .i64 a1.Instance], .int .i64 a2].toArray w fun e w' => e = .returned (.bool r_) ∧ St w (KS []) w' [] := by
  have hF := h_
  clear h_
  unfold ca_Busy at hF
  have S := St.ofFalse (As := []) (St.init0 w)
  have hPq5 := hP0
  obtain ⟨cs1, hB2, hf3, b6, hq4, hR7⟩ := hPq5
  subst hq4
  change _ = some (Obj.cells #[.int .i64 a0.config.Clients, .int .i64 a0.config.Entries, .int .i64 a0.config.Bytes, .int .i64 a0.config.Reserve, .map (some b6), .int .i64 a0.entries, .int .i64 a0.bytes] 89 (0, 0)) at hB2
  refine enter 12 [(0, .pointer (some ⟨p0, 0, none⟩)), (1, .agg #[.int .i64 a1.Address, .int .i64 a1.Instance]), (2, .int .i64 a2)] Try.func41 rfl rfl rfl rfl ?_
  refine WCode.seq ?_
  refine WCode.region ?_
  obtain ⟨b8, w9, E10, S11, X12, L13⟩ := St.box S Try.prog 34 (.agg #[.int .i64 a1.Address, .int .i64 a1.Instance])
  change St _ _ _ [[(b8, .cells #[.int .i64 a1.Address, .int .i64 a1.Instance] 34 (0, 0))]] at S11
  refine WOps.e (E10 rfl) rfl ?_
  refine WOps.p (G.assign rfl) rfl ?_
  refine WOps.nil ?_
  refine WEx.then_ ?_
  refine WCode.seq ?_
  refine WCode.region ?_
  refine WOps.p (G.move rfl) rfl ?_
  refine WOps.r (G.loada T.agg34_2 rfl (cs := [.int .i64 a1.Address, .int .i64 a1.Instance]) (cellsAt.of_blk (S11.blk 0 rfl) rfl)) rfl ?_
  refine WOps.p (G.move rfl) rfl ?_
  rcases ite_some hF with ⟨h14, hF⟩ | ⟨h14, hF⟩
  ·
    obtain ⟨x18, hc19, hF⟩ := bind_some hF
    obtain ⟨Y20, p21, hM22, hY23, hP24⟩ := CliR.hit hR7 hc19
    have hPq29 := hP24
    obtain ⟨cs25, hB26, hf27, b30, hq28, hR31⟩ := hPq29
    subst hq28
    change _ = some (Obj.cells #[.int .i64 x18.water, .map (some b30)] 96 (0, 0)) at hB26
    obtain ⟨t32, hc33, hF⟩ := bind_some hF
    refine WOps.call T.call36 (evs_cons rfl (evs_cons rfl (evs_cons rfl evs_nil))) rfl ?_
    refine (cu_hit_calls k _ _ a2 ((S11.fr p0 (lt_of_blk hB2) (hF0 p0 hf3).1).trans hB2) (hM22.move (S11.keepF hF0 _ hR7.1)) hY23 ((S11.fr p21 (lt_of_blk hB26) (hF0 p21 hf27).1).trans hB26) (hR31.2.move (S11.keepF hF0 _ hR31.1)) hc33).mono ?_
    rintro _ w15 ⟨rfl, T16⟩
    have S17 := St.callN (As := []) S11 T16
    change St _ _ _ [[(b8, .cells #[.int .i64 a1.Address, .int .i64 a1.Instance] 34 (0, 0))]] at S17
    refine ⟨_, rfl, ?_⟩
    generalize hv35 : (if t32 = true then ptv p21 else Value.pointer none) = v34
    rcases ite_some hF with ⟨h36, hF⟩ | ⟨h36, hF⟩
    ·
      rw [if_pos h36] at hv35
      subst hv35
      refine WOps.p (G.neqp_nil Try.underlying90 rfl rfl rfl) rfl ?_
      refine WOps.p (G.assign rfl) rfl ?_
      refine WOps.nil ?_
      refine WEx.then_ ?_
      refine WCode.ret ?_
      obtain rfl := some_eq hF
      refine WEx.ret1 rfl rfl ?_
      exact ⟨rfl, St.keep (As := []) S17⟩
    ·
      rw [if_neg h36] at hv35
      subst hv35
      refine WOps.p (G.neqp_nil Try.underlying90 rfl rfl rfl) rfl ?_
      refine WOps.p (G.assign rfl) rfl ?_
      refine WOps.nil ?_
      refine WEx.then_ ?_
      refine WCode.ret ?_
      obtain rfl := some_eq hF
      refine WEx.ret1 rfl rfl ?_
      exact ⟨rfl, St.keep (As := []) S17⟩
  ·
    have hn40 := Option.not_isSome_iff_eq_none.1 h14
    obtain ⟨Y41, hM42, hY43⟩ := CliR.miss (hR7.ext (S11.keepF hF0)) hn40
    refine WOps.call T.call36 (evs_cons rfl (evs_cons rfl (evs_cons rfl evs_nil))) rfl ?_
    refine (cu_miss_calls (p := 0) (bk := 0) (wt := 0) 0 [] _ a2 ((S11.fr p0 (lt_of_blk hB2) (hF0 p0 hf3).1).trans hB2) hM42 hY43 rfl).mono ?_
    rintro _ w37 ⟨rfl, T38⟩
    have S39 := St.callN (As := []) S11 T38
    change St _ _ _ [[(b8, .cells #[.int .i64 a1.Address, .int .i64 a1.Instance] 34 (0, 0))]] at S39
    refine ⟨_, rfl, ?_⟩
    refine WOps.p (G.neqp_nil Try.underlying90 rfl rfl rfl) rfl ?_
    refine WOps.p (G.assign rfl) rfl ?_
    refine WOps.nil ?_
    refine WEx.then_ ?_
    refine WCode.ret ?_
    obtain rfl := some_eq hF
    refine WEx.ret1 rfl rfl ?_
    exact ⟨rfl, St.keep (As := []) S39⟩

def ca_Done (k : Nat) (a0 : Cache) (a1 : WhoC) (a2 : Int) (a3 : List UInt8) : Option (Int × Cache) := (if (mget a0.clients a1).isSome = true then (Option.bind (mget a0.clients a1) fun x20 => (Option.bind (cu_hit k x20.calls a2) fun t41 => (if t41 = true then (if a0.config.Reserve < (a3.length : Int) then (some (152, (⟨a0.config, (mput a0.clients a1 x20), a0.entries, a0.bytes⟩ : Cache))) else (some (0, (⟨a0.config, (mput a0.clients a1 (⟨x20.water, (mput x20.calls a2 (⟨true, a3⟩ : Entry))⟩ : Known)), a0.entries, w64 (a0.bytes + (w64 ((a3.length : Int) - a0.config.Reserve)))⟩ : Cache)))) else (some (151, (⟨a0.config, (mput a0.clients a1 x20), a0.entries, a0.bytes⟩ : Cache)))))) else (some (151, a0)))
set_option maxRecDepth 100000 in
set_option maxHeartbeats 1000000 in
theorem ca_Done_calls (k : Nat) (a0 : Cache) {p0 : Nat} {G0 : Grp} (a1 : WhoC) (a2 : Int) (a3 : List UInt8) {w : World} (hO0 : ObjO 89 Cache.rp p0 a0 G0) {r_ : Int × Cache} (h_ : ca_Done k a0 a1 a2 a3 = some r_) (hp_ : Hp w ([G0]).flatten) :
    Calls Try.prog 15 [.pointer (some ⟨p0, 0, none⟩), .agg #[.int .i64 a1.Address, .int .i64 a1.Instance], .int .i64 a2, .string (bs a3)].toArray w fun e w' => ∃ Go0' : Grp, e = .returned (.int .i64 r_.1) ∧ ObjO 89 Cache.rp p0 (r_.2) Go0' ∧ St w (KS [G0]) w' [Go0'] := by
  have hF := h_
  clear h_
  unfold ca_Done at hF
  have S := St.initK [G0] hp_
  obtain ⟨cs1, G2, ho3, hg4⟩ := hO0
  obtain ⟨b5, G6, rfl, hO7, hq8⟩ := ho3
  have S9 : St _ _ _ [[(p0, .cells #[.int .i64 a0.config.Clients, .int .i64 a0.config.Entries, .int .i64 a0.config.Bytes, .int .i64 a0.config.Reserve, .map (some b5), .int .i64 a0.entries, .int .i64 a0.bytes] 89 (0, 0))], G6] := S.objs (by rw [hg4, hq8]; simp)
  refine enter 48 [(0, .pointer (some ⟨p0, 0, none⟩)), (1, .agg #[.int .i64 a1.Address, .int .i64 a1.Instance]), (2, .int .i64 a2), (3, .string (bs a3))] Try.func15 rfl rfl rfl rfl ?_
  refine WCode.seq ?_
  refine WCode.region ?_
  obtain ⟨b10, w11, E12, S13, X14, L15⟩ := St.box S9 Try.prog 34 (.agg #[.int .i64 a1.Address, .int .i64 a1.Instance])
  change St _ _ _ [[(b10, .cells #[.int .i64 a1.Address, .int .i64 a1.Instance] 34 (0, 0))], [(p0, .cells #[.int .i64 a0.config.Clients, .int .i64 a0.config.Entries, .int .i64 a0.config.Bytes, .int .i64 a0.config.Reserve, .map (some b5), .int .i64 a0.entries, .int .i64 a0.bytes] 89 (0, 0))], G6] at S13
  refine WOps.e (E12 rfl) rfl ?_
  refine WOps.p (G.assign rfl) rfl ?_
  refine WOps.nil ?_
  refine WEx.then_ ?_
  refine WCode.seq ?_
  refine WCode.region ?_
  refine WOps.p (G.move rfl) rfl ?_
  refine WOps.r (G.loada T.agg34_2 rfl (cs := [.int .i64 a1.Address, .int .i64 a1.Instance]) (cellsAt.of_blk (S13.blk 0 rfl) rfl)) rfl ?_
  refine WOps.p (G.move rfl) rfl ?_
  rcases ite_some hF with ⟨h16, hF⟩ | ⟨h16, hF⟩
  ·
    obtain ⟨x20, hc21, hF⟩ := bind_some hF
    have S22 := S13.front 2 rfl
    change St _ _ _ [G6, [(b10, .cells #[.int .i64 a1.Address, .int .i64 a1.Instance] 34 (0, 0))], [(p0, .cells #[.int .i64 a0.config.Clients, .int .i64 a0.config.Entries, .int .i64 a0.config.Bytes, .int .i64 a0.config.Reserve, .map (some b5), .int .i64 a0.entries, .int .i64 a0.bytes] 89 (0, 0))]] at S22
    obtain ⟨p23, G24, G25, hO26, hF27, S28⟩ := St.focus S22 hO7 hc21
    change St _ _ _ [G24, G25, [(b10, .cells #[.int .i64 a1.Address, .int .i64 a1.Instance] 34 (0, 0))], [(p0, .cells #[.int .i64 a0.config.Clients, .int .i64 a0.config.Entries, .int .i64 a0.config.Bytes, .int .i64 a0.config.Reserve, .map (some b5), .int .i64 a0.entries, .int .i64 a0.bytes] 89 (0, 0))]] at S28
    obtain ⟨Y29, hM30, hY31⟩ := CliF.look (w := w11) hF27 (fun b o hb => S28.grp 1 rfl hb)
    obtain ⟨cs32, G33, ho34, hg35⟩ := hO26
    obtain ⟨b36, G37, rfl, hO38, hq39⟩ := ho34
    have S40 : St _ _ _ [[(p23, .cells #[.int .i64 x20.water, .map (some b36)] 96 (0, 0))], G37, G25, [(b10, .cells #[.int .i64 a1.Address, .int .i64 a1.Instance] 34 (0, 0))], [(p0, .cells #[.int .i64 a0.config.Clients, .int .i64 a0.config.Entries, .int .i64 a0.config.Bytes, .int .i64 a0.config.Reserve, .map (some b5), .int .i64 a0.entries, .int .i64 a0.bytes] 89 (0, 0))]] := S28.objs (by rw [hg35, hq39]; simp)
    obtain ⟨t41, hc42, hF⟩ := bind_some hF
    refine WOps.call T.call36 (evs_cons rfl (evs_cons rfl (evs_cons rfl evs_nil))) rfl ?_
    refine (cu_hit_calls k _ _ a2 (S40.blk 4 rfl) hM30 hY31 (S40.blk 0 rfl) (MapO.rd hO38 (fun b o hb => S40.grp 1 rfl hb)) hc42).mono ?_
    rintro _ w17 ⟨rfl, T18⟩
    have S19 := St.callN (As := []) S40 T18
    change St _ _ _ [[(p23, .cells #[.int .i64 x20.water, .map (some b36)] 96 (0, 0))], G37, G25, [(b10, .cells #[.int .i64 a1.Address, .int .i64 a1.Instance] 34 (0, 0))], [(p0, .cells #[.int .i64 a0.config.Clients, .int .i64 a0.config.Entries, .int .i64 a0.config.Bytes, .int .i64 a0.config.Reserve, .map (some b5), .int .i64 a0.entries, .int .i64 a0.bytes] 89 (0, 0))]] at S19
    refine ⟨_, rfl, ?_⟩
    generalize hv44 : (if t41 = true then ptv p23 else Value.pointer none) = v43
    refine WOps.p (G.assign rfl) rfl ?_
    refine WOps.nil ?_
    refine WEx.then_ ?_
    refine WCode.seq ?_
    refine WCode.block ?_
    refine WCode.seq ?_
    refine WCode.region ?_
    refine WOps.p (G.move rfl) rfl ?_
    rcases ite_some hF with ⟨h45, hF⟩ | ⟨h45, hF⟩
    ·
      rw [if_pos h45] at hv44
      subst hv44
      refine WOps.p (G.eqp_nil Try.underlying90 rfl rfl rfl) rfl ?_
      refine WOps.p (G.assign rfl) rfl ?_
      refine WOps.nil ?_
      refine WEx.then_ ?_
      refine WCode.cond_f rfl ?_
      refine WCode.seq ?_
      refine WCode.region ?_
      refine WOps.p (G.move rfl) rfl ?_
      refine WOps.p (G.lenb T.str9 rfl) rfl ?_
      refine WOps.p (G.move rfl) rfl ?_
      refine WOps.p (G.nilp rfl) rfl ?_
      refine WOps.p (G.field T.fld89_0 rfl (show 0 + 0 = 0 from rfl)) rfl ?_
      refine WOps.p (G.field T.fld26_3 rfl (show 0 + 3 = 3 from rfl)) rfl ?_
      refine WOps.r (G.load1 T.one3 rfl (cell_blk (S19.blk 4 rfl) rfl)) rfl ?_
      refine WOps.p (G.gtr rfl rfl rfl) rfl ?_
      refine WOps.p (G.assign rfl) rfl ?_
      refine WOps.nil ?_
      refine WEx.then_ ?_
      refine WCode.forget (l' := [(0, .pointer (some ⟨p0, 0, none⟩)), (2, .int .i64 a2), (3, .string (bs a3)), (9, .pointer (some ⟨p23, 0, none⟩)), (17, .bool (decide (a0.config.Reserve < (a3.length : Int))))]) ⟨rfl, rfl, rfl, rfl, rfl, trivial⟩ ?_
      rcases ite_some hF with ⟨h46, hF⟩ | ⟨h46, hF⟩
      ·
        refine WCode.cond_t (kb (b := decide (a0.config.Reserve < (a3.length : Int))) rfl (decide_eq_true h46)) ?_
        refine WCode.seq ?_
        refine WCode.region ?_
        refine WOps.p (G.assign rfl) rfl ?_
        refine WOps.nil ?_
        refine WEx.then_ ?_
        refine WCode.ret ?_
        refine WEx.in_ret ?_
        refine WEx.then_ret ?_
        obtain rfl := some_eq hF
        refine WEx.ret1 rfl rfl ?_
        have hO47 : ObjO 96 Known.rp p23 x20 ([(p23, .cells #[.int .i64 x20.water, .map (some b36)] 96 (0, 0))] ++ (G37)) := ⟨_, _, ⟨b36, G37, rfl, hO38, rfl⟩, rfl⟩
        have S48 : St _ _ _ [[(p23, .cells #[.int .i64 x20.water, .map (some b36)] 96 (0, 0))] ++ (G37), G25, [(b10, .cells #[.int .i64 a1.Address, .int .i64 a1.Instance] 34 (0, 0))], [(p0, .cells #[.int .i64 a0.config.Clients, .int .i64 a0.config.Entries, .int .i64 a0.config.Bytes, .int .i64 a0.config.Reserve, .map (some b5), .int .i64 a0.entries, .int .i64 a0.bytes] 89 (0, 0))]] := S19.objs (by simp)
        obtain ⟨G49, hO50, S51⟩ := St.unfocus S48 hF27 hO47
        change St _ _ _ [G49, [(b10, .cells #[.int .i64 a1.Address, .int .i64 a1.Instance] 34 (0, 0))], [(p0, .cells #[.int .i64 a0.config.Clients, .int .i64 a0.config.Entries, .int .i64 a0.config.Bytes, .int .i64 a0.config.Reserve, .map (some b5), .int .i64 a0.entries, .int .i64 a0.bytes] 89 (0, 0))]] at S51
        have S52 := S51.front 2 rfl
        change St _ _ _ [[(p0, .cells #[.int .i64 a0.config.Clients, .int .i64 a0.config.Entries, .int .i64 a0.config.Bytes, .int .i64 a0.config.Reserve, .map (some b5), .int .i64 a0.entries, .int .i64 a0.bytes] 89 (0, 0))], G49, [(b10, .cells #[.int .i64 a1.Address, .int .i64 a1.Instance] 34 (0, 0))]] at S52
        have hO53 : ObjO 89 Cache.rp p0 (⟨a0.config, (mput a0.clients a1 x20), a0.entries, a0.bytes⟩ : Cache) ([(p0, .cells #[.int .i64 a0.config.Clients, .int .i64 a0.config.Entries, .int .i64 a0.config.Bytes, .int .i64 a0.config.Reserve, .map (some b5), .int .i64 a0.entries, .int .i64 a0.bytes] 89 (0, 0))] ++ (G49)) := ⟨_, _, ⟨b5, G49, rfl, hO50, rfl⟩, rfl⟩
        have S54 : St _ _ _ [[(p0, .cells #[.int .i64 a0.config.Clients, .int .i64 a0.config.Entries, .int .i64 a0.config.Bytes, .int .i64 a0.config.Reserve, .map (some b5), .int .i64 a0.entries, .int .i64 a0.bytes] 89 (0, 0))] ++ (G49), [(b10, .cells #[.int .i64 a1.Address, .int .i64 a1.Instance] 34 (0, 0))]] := S52.objs (by simp)
        exact ⟨[(p0, .cells #[.int .i64 a0.config.Clients, .int .i64 a0.config.Entries, .int .i64 a0.config.Bytes, .int .i64 a0.config.Reserve, .map (some b5), .int .i64 a0.entries, .int .i64 a0.bytes] 89 (0, 0))] ++ (G49), rfl, hO53, St.keep (As := [[(p0, .cells #[.int .i64 a0.config.Clients, .int .i64 a0.config.Entries, .int .i64 a0.config.Bytes, .int .i64 a0.config.Reserve, .map (some b5), .int .i64 a0.entries, .int .i64 a0.bytes] 89 (0, 0))] ++ (G49)]) S54⟩
      ·
        refine WCode.cond_f (kb (b := decide (a0.config.Reserve < (a3.length : Int))) rfl (decide_eq_false h46)) ?_
        refine WCode.skip ?_
        refine WEx.in_normal ?_
        refine WEx.then_ ?_
        refine WCode.seq ?_
        refine WCode.region ?_
        refine WOps.p (G.move rfl) rfl ?_
        refine WOps.p (G.nilp rfl) rfl ?_
        refine WOps.p (G.field T.fld96_1 rfl (show 0 + 1 = 1 from rfl)) rfl ?_
        refine WOps.r (G.load1 T.one94 rfl (cell_blk (S19.blk 0 rfl) rfl)) rfl ?_
        refine WOps.p (G.move rfl) rfl ?_
        refine WOps.p (G.move rfl) rfl ?_
        refine WOps.p (G.build (cells := #[.bool true, .string (bs a3)]) (evp_spec (evp_cons rfl (evp_cons rfl evp_nil))) (by kernel_rfl)) rfl ?_
        have S55 := S19.front 1 rfl
        change St _ _ _ [G37, [(p23, .cells #[.int .i64 x20.water, .map (some b36)] 96 (0, 0))], G25, [(b10, .cells #[.int .i64 a1.Address, .int .i64 a1.Instance] 34 (0, 0))], [(p0, .cells #[.int .i64 a0.config.Clients, .int .i64 a0.config.Entries, .int .i64 a0.config.Bytes, .int .i64 a0.config.Reserve, .map (some b5), .int .i64 a0.entries, .int .i64 a0.bytes] 89 (0, 0))]] at S55
        obtain ⟨G56, w57, U58, hM59, S60⟩ := St.mapPut (P := Try.prog) S55 T.key94 Try.underlying94 hO38 a2 (⟨true, a3⟩ : Entry)
        change St _ _ _ [G56, [(p23, .cells #[.int .i64 x20.water, .map (some b36)] 96 (0, 0))], G25, [(b10, .cells #[.int .i64 a1.Address, .int .i64 a1.Instance] 34 (0, 0))], [(p0, .cells #[.int .i64 a0.config.Clients, .int .i64 a0.config.Entries, .int .i64 a0.config.Bytes, .int .i64 a0.config.Reserve, .map (some b5), .int .i64 a0.entries, .int .i64 a0.bytes] 89 (0, 0))]] at S60
        refine WOps.u (U58 rfl rfl rfl) ?_
        refine WOps.nil ?_
        refine WEx.then_ ?_
        refine WCode.forget (l' := [(0, .pointer (some ⟨p0, 0, none⟩)), (3, .string (bs a3))]) ⟨rfl, rfl, trivial⟩ ?_
        refine WCode.seq ?_
        refine WCode.draw [⟨0, 0, []⟩, ⟨1, 0, []⟩, ⟨2, 0, []⟩, ⟨4, 0, []⟩, ⟨5, 0, []⟩, ⟨6, 0, []⟩, ⟨7, 0, []⟩, ⟨8, 0, []⟩, ⟨9, 0, []⟩, ⟨10, 1, [11, 12, 13, 14, 15]⟩, ⟨11, 0, []⟩, ⟨3, 1, [12, 13, 14, 15]⟩, ⟨12, 0, []⟩, ⟨13, 0, []⟩, ⟨14, 0, []⟩, ⟨15, 2, []⟩] T.mixed (by kernel_rfl) (by intro _ _ d _ _ h; cases d <;> exact h) rfl (by kernel_rfl) ?_
        have S61 := S60.drew
        generalize w57.drew = w62 at *
        refine WD.p rfl (G.move rfl) rfl ?_
        refine WD.p rfl (G.nilp rfl) rfl ?_
        refine WD.p rfl (G.field T.fld89_3 rfl (show 0 + 6 = 6 from rfl)) rfl ?_
        refine WD.p rfl (G.move rfl) rfl ?_
        refine WD.p rfl (G.lenb T.str9 rfl) rfl ?_
        refine WD.p rfl (G.move rfl) rfl ?_
        refine WD.p rfl (G.nilp rfl) rfl ?_
        refine WD.p rfl (G.field T.fld89_0 rfl (show 0 + 0 = 0 from rfl)) rfl ?_
        refine WD.p rfl (G.field T.fld26_3 rfl (show 0 + 3 = 3 from rfl)) rfl ?_
        refine WD.r rfl (G.load1 T.one3 rfl (cell_blk (S61.blk 4 rfl) rfl)) rfl ?_
        refine WD.p rfl (G.sub rfl rfl (r := (w64 ((a3.length : Int) - a0.config.Reserve))) rfl) rfl ?_
        refine WD.r rfl (G.load1 T.one3 rfl (cell_blk (S61.blk 4 rfl) rfl)) rfl ?_
        refine WD.p rfl (G.add rfl rfl (r := (w64 (a0.bytes + (w64 ((a3.length : Int) - a0.config.Reserve))))) rfl) rfl ?_
        refine WD.p rfl (G.nilp rfl) rfl ?_
        refine WD.p rfl (G.field T.fld89_3 rfl (show 0 + 6 = 6 from rfl)) rfl ?_
        obtain ⟨w63, E64, S65⟩ := St.store (P := Try.prog) S61 4 3 (.int .i64 (w64 (a0.bytes + (w64 ((a3.length : Int) - a0.config.Reserve))))) (off := 6) (cur' := #[.int .i64 a0.config.Clients, .int .i64 a0.config.Entries, .int .i64 a0.config.Bytes, .int .i64 a0.config.Reserve, .map (some b5), .int .i64 a0.entries, .int .i64 (w64 (a0.bytes + (w64 ((a3.length : Int) - a0.config.Reserve))))]) rfl T.size3_1 rfl rfl rfl
        change St _ _ _ [G56, [(p23, .cells #[.int .i64 x20.water, .map (some b36)] 96 (0, 0))], G25, [(b10, .cells #[.int .i64 a1.Address, .int .i64 a1.Instance] 34 (0, 0))], [(p0, .cells #[.int .i64 a0.config.Clients, .int .i64 a0.config.Entries, .int .i64 a0.config.Bytes, .int .i64 a0.config.Reserve, .map (some b5), .int .i64 a0.entries, .int .i64 (w64 (a0.bytes + (w64 ((a3.length : Int) - a0.config.Reserve))))] 89 (0, 0))]] at S65
        refine WD.u rfl (E64 rfl rfl) ?_
        refine WD.nil ?_
        refine WEx.then_ ?_
        refine WCode.forget (l' := []) trivial ?_
        refine WCode.seq ?_
        refine WCode.region ?_
        refine WOps.p (G.assign rfl) rfl ?_
        refine WOps.nil ?_
        refine WEx.then_ ?_
        refine WCode.ret ?_
        obtain rfl := some_eq hF
        refine WEx.ret1 rfl rfl ?_
        have S66 := S65.front 1 rfl
        change St _ _ _ [[(p23, .cells #[.int .i64 x20.water, .map (some b36)] 96 (0, 0))], G56, G25, [(b10, .cells #[.int .i64 a1.Address, .int .i64 a1.Instance] 34 (0, 0))], [(p0, .cells #[.int .i64 a0.config.Clients, .int .i64 a0.config.Entries, .int .i64 a0.config.Bytes, .int .i64 a0.config.Reserve, .map (some b5), .int .i64 a0.entries, .int .i64 (w64 (a0.bytes + (w64 ((a3.length : Int) - a0.config.Reserve))))] 89 (0, 0))]] at S66
        have hO67 : ObjO 96 Known.rp p23 (⟨x20.water, (mput x20.calls a2 (⟨true, a3⟩ : Entry))⟩ : Known) ([(p23, .cells #[.int .i64 x20.water, .map (some b36)] 96 (0, 0))] ++ (G56)) := ⟨_, _, ⟨b36, G56, rfl, hM59, rfl⟩, rfl⟩
        have S68 : St _ _ _ [[(p23, .cells #[.int .i64 x20.water, .map (some b36)] 96 (0, 0))] ++ (G56), G25, [(b10, .cells #[.int .i64 a1.Address, .int .i64 a1.Instance] 34 (0, 0))], [(p0, .cells #[.int .i64 a0.config.Clients, .int .i64 a0.config.Entries, .int .i64 a0.config.Bytes, .int .i64 a0.config.Reserve, .map (some b5), .int .i64 a0.entries, .int .i64 (w64 (a0.bytes + (w64 ((a3.length : Int) - a0.config.Reserve))))] 89 (0, 0))]] := S66.objs (by simp)
        obtain ⟨G69, hO70, S71⟩ := St.unfocus S68 hF27 hO67
        change St _ _ _ [G69, [(b10, .cells #[.int .i64 a1.Address, .int .i64 a1.Instance] 34 (0, 0))], [(p0, .cells #[.int .i64 a0.config.Clients, .int .i64 a0.config.Entries, .int .i64 a0.config.Bytes, .int .i64 a0.config.Reserve, .map (some b5), .int .i64 a0.entries, .int .i64 (w64 (a0.bytes + (w64 ((a3.length : Int) - a0.config.Reserve))))] 89 (0, 0))]] at S71
        have S72 := S71.front 2 rfl
        change St _ _ _ [[(p0, .cells #[.int .i64 a0.config.Clients, .int .i64 a0.config.Entries, .int .i64 a0.config.Bytes, .int .i64 a0.config.Reserve, .map (some b5), .int .i64 a0.entries, .int .i64 (w64 (a0.bytes + (w64 ((a3.length : Int) - a0.config.Reserve))))] 89 (0, 0))], G69, [(b10, .cells #[.int .i64 a1.Address, .int .i64 a1.Instance] 34 (0, 0))]] at S72
        have hO73 : ObjO 89 Cache.rp p0 (⟨a0.config, (mput a0.clients a1 (⟨x20.water, (mput x20.calls a2 (⟨true, a3⟩ : Entry))⟩ : Known)), a0.entries, w64 (a0.bytes + (w64 ((a3.length : Int) - a0.config.Reserve)))⟩ : Cache) ([(p0, .cells #[.int .i64 a0.config.Clients, .int .i64 a0.config.Entries, .int .i64 a0.config.Bytes, .int .i64 a0.config.Reserve, .map (some b5), .int .i64 a0.entries, .int .i64 (w64 (a0.bytes + (w64 ((a3.length : Int) - a0.config.Reserve))))] 89 (0, 0))] ++ (G69)) := ⟨_, _, ⟨b5, G69, rfl, hO70, rfl⟩, rfl⟩
        have S74 : St _ _ _ [[(p0, .cells #[.int .i64 a0.config.Clients, .int .i64 a0.config.Entries, .int .i64 a0.config.Bytes, .int .i64 a0.config.Reserve, .map (some b5), .int .i64 a0.entries, .int .i64 (w64 (a0.bytes + (w64 ((a3.length : Int) - a0.config.Reserve))))] 89 (0, 0))] ++ (G69), [(b10, .cells #[.int .i64 a1.Address, .int .i64 a1.Instance] 34 (0, 0))]] := S72.objs (by simp)
        exact ⟨[(p0, .cells #[.int .i64 a0.config.Clients, .int .i64 a0.config.Entries, .int .i64 a0.config.Bytes, .int .i64 a0.config.Reserve, .map (some b5), .int .i64 a0.entries, .int .i64 (w64 (a0.bytes + (w64 ((a3.length : Int) - a0.config.Reserve))))] 89 (0, 0))] ++ (G69), rfl, hO73, St.keep (As := [[(p0, .cells #[.int .i64 a0.config.Clients, .int .i64 a0.config.Entries, .int .i64 a0.config.Bytes, .int .i64 a0.config.Reserve, .map (some b5), .int .i64 a0.entries, .int .i64 (w64 (a0.bytes + (w64 ((a3.length : Int) - a0.config.Reserve))))] 89 (0, 0))] ++ (G69)]) S74⟩
    ·
      rw [if_neg h45] at hv44
      subst hv44
      refine WOps.p (G.eqp_nil Try.underlying90 rfl rfl rfl) rfl ?_
      refine WOps.p (G.assign rfl) rfl ?_
      refine WOps.nil ?_
      refine WEx.then_ ?_
      refine WCode.cond_t rfl ?_
      refine WCode.seq ?_
      refine WCode.region ?_
      refine WOps.p (G.assign rfl) rfl ?_
      refine WOps.nil ?_
      refine WEx.then_ ?_
      refine WCode.forget (l' := [(8, .int .i64 151)]) ⟨rfl, trivial⟩ ?_
      refine WCode.ret ?_
      refine WEx.in_ret ?_
      refine WEx.then_ret ?_
      obtain rfl := some_eq hF
      refine WEx.ret1 rfl rfl ?_
      have hO75 : ObjO 96 Known.rp p23 x20 ([(p23, .cells #[.int .i64 x20.water, .map (some b36)] 96 (0, 0))] ++ (G37)) := ⟨_, _, ⟨b36, G37, rfl, hO38, rfl⟩, rfl⟩
      have S76 : St _ _ _ [[(p23, .cells #[.int .i64 x20.water, .map (some b36)] 96 (0, 0))] ++ (G37), G25, [(b10, .cells #[.int .i64 a1.Address, .int .i64 a1.Instance] 34 (0, 0))], [(p0, .cells #[.int .i64 a0.config.Clients, .int .i64 a0.config.Entries, .int .i64 a0.config.Bytes, .int .i64 a0.config.Reserve, .map (some b5), .int .i64 a0.entries, .int .i64 a0.bytes] 89 (0, 0))]] := S19.objs (by simp)
      obtain ⟨G77, hO78, S79⟩ := St.unfocus S76 hF27 hO75
      change St _ _ _ [G77, [(b10, .cells #[.int .i64 a1.Address, .int .i64 a1.Instance] 34 (0, 0))], [(p0, .cells #[.int .i64 a0.config.Clients, .int .i64 a0.config.Entries, .int .i64 a0.config.Bytes, .int .i64 a0.config.Reserve, .map (some b5), .int .i64 a0.entries, .int .i64 a0.bytes] 89 (0, 0))]] at S79
      have S80 := S79.front 2 rfl
      change St _ _ _ [[(p0, .cells #[.int .i64 a0.config.Clients, .int .i64 a0.config.Entries, .int .i64 a0.config.Bytes, .int .i64 a0.config.Reserve, .map (some b5), .int .i64 a0.entries, .int .i64 a0.bytes] 89 (0, 0))], G77, [(b10, .cells #[.int .i64 a1.Address, .int .i64 a1.Instance] 34 (0, 0))]] at S80
      have hO81 : ObjO 89 Cache.rp p0 (⟨a0.config, (mput a0.clients a1 x20), a0.entries, a0.bytes⟩ : Cache) ([(p0, .cells #[.int .i64 a0.config.Clients, .int .i64 a0.config.Entries, .int .i64 a0.config.Bytes, .int .i64 a0.config.Reserve, .map (some b5), .int .i64 a0.entries, .int .i64 a0.bytes] 89 (0, 0))] ++ (G77)) := ⟨_, _, ⟨b5, G77, rfl, hO78, rfl⟩, rfl⟩
      have S82 : St _ _ _ [[(p0, .cells #[.int .i64 a0.config.Clients, .int .i64 a0.config.Entries, .int .i64 a0.config.Bytes, .int .i64 a0.config.Reserve, .map (some b5), .int .i64 a0.entries, .int .i64 a0.bytes] 89 (0, 0))] ++ (G77), [(b10, .cells #[.int .i64 a1.Address, .int .i64 a1.Instance] 34 (0, 0))]] := S80.objs (by simp)
      exact ⟨[(p0, .cells #[.int .i64 a0.config.Clients, .int .i64 a0.config.Entries, .int .i64 a0.config.Bytes, .int .i64 a0.config.Reserve, .map (some b5), .int .i64 a0.entries, .int .i64 a0.bytes] 89 (0, 0))] ++ (G77), rfl, hO81, St.keep (As := [[(p0, .cells #[.int .i64 a0.config.Clients, .int .i64 a0.config.Entries, .int .i64 a0.config.Bytes, .int .i64 a0.config.Reserve, .map (some b5), .int .i64 a0.entries, .int .i64 a0.bytes] 89 (0, 0))] ++ (G77)]) S82⟩
  ·
    have hn86 := Option.not_isSome_iff_eq_none.1 h16
    obtain ⟨Y87, hM88, _, hY89⟩ := CliO.look (w := w11) hO7 (fun b o hb => S13.grp 2 rfl hb)
    refine WOps.call T.call36 (evs_cons rfl (evs_cons rfl (evs_cons rfl evs_nil))) rfl ?_
    refine (cu_miss_calls (p := 0) (bk := 0) (wt := 0) 0 [] _ a2 (S13.blk 1 rfl) hM88 (hY89 _ hn86) rfl).mono ?_
    rintro _ w83 ⟨rfl, T84⟩
    have S85 := St.callN (As := []) S13 T84
    change St _ _ _ [[(b10, .cells #[.int .i64 a1.Address, .int .i64 a1.Instance] 34 (0, 0))], [(p0, .cells #[.int .i64 a0.config.Clients, .int .i64 a0.config.Entries, .int .i64 a0.config.Bytes, .int .i64 a0.config.Reserve, .map (some b5), .int .i64 a0.entries, .int .i64 a0.bytes] 89 (0, 0))], G6] at S85
    refine ⟨_, rfl, ?_⟩
    refine WOps.p (G.assign rfl) rfl ?_
    refine WOps.nil ?_
    refine WEx.then_ ?_
    refine WCode.seq ?_
    refine WCode.block ?_
    refine WCode.seq ?_
    refine WCode.region ?_
    refine WOps.p (G.move rfl) rfl ?_
    refine WOps.p (G.eqp_nil Try.underlying90 rfl rfl rfl) rfl ?_
    refine WOps.p (G.assign rfl) rfl ?_
    refine WOps.nil ?_
    refine WEx.then_ ?_
    refine WCode.cond_t rfl ?_
    refine WCode.seq ?_
    refine WCode.region ?_
    refine WOps.p (G.assign rfl) rfl ?_
    refine WOps.nil ?_
    refine WEx.then_ ?_
    refine WCode.forget (l' := [(8, .int .i64 151)]) ⟨rfl, trivial⟩ ?_
    refine WCode.ret ?_
    refine WEx.in_ret ?_
    refine WEx.then_ret ?_
    obtain rfl := some_eq hF
    refine WEx.ret1 rfl rfl ?_
    have S90 := S85.front 2 rfl
    change St _ _ _ [G6, [(b10, .cells #[.int .i64 a1.Address, .int .i64 a1.Instance] 34 (0, 0))], [(p0, .cells #[.int .i64 a0.config.Clients, .int .i64 a0.config.Entries, .int .i64 a0.config.Bytes, .int .i64 a0.config.Reserve, .map (some b5), .int .i64 a0.entries, .int .i64 a0.bytes] 89 (0, 0))]] at S90
    have S91 := S90.front 2 rfl
    change St _ _ _ [[(p0, .cells #[.int .i64 a0.config.Clients, .int .i64 a0.config.Entries, .int .i64 a0.config.Bytes, .int .i64 a0.config.Reserve, .map (some b5), .int .i64 a0.entries, .int .i64 a0.bytes] 89 (0, 0))], G6, [(b10, .cells #[.int .i64 a1.Address, .int .i64 a1.Instance] 34 (0, 0))]] at S91
    have hO92 : ObjO 89 Cache.rp p0 a0 ([(p0, .cells #[.int .i64 a0.config.Clients, .int .i64 a0.config.Entries, .int .i64 a0.config.Bytes, .int .i64 a0.config.Reserve, .map (some b5), .int .i64 a0.entries, .int .i64 a0.bytes] 89 (0, 0))] ++ (G6)) := ⟨_, _, ⟨b5, G6, rfl, hO7, rfl⟩, rfl⟩
    have S93 : St _ _ _ [[(p0, .cells #[.int .i64 a0.config.Clients, .int .i64 a0.config.Entries, .int .i64 a0.config.Bytes, .int .i64 a0.config.Reserve, .map (some b5), .int .i64 a0.entries, .int .i64 a0.bytes] 89 (0, 0))] ++ (G6), [(b10, .cells #[.int .i64 a1.Address, .int .i64 a1.Instance] 34 (0, 0))]] := S91.objs (by simp)
    exact ⟨[(p0, .cells #[.int .i64 a0.config.Clients, .int .i64 a0.config.Entries, .int .i64 a0.config.Bytes, .int .i64 a0.config.Reserve, .map (some b5), .int .i64 a0.entries, .int .i64 a0.bytes] 89 (0, 0))] ++ (G6), rfl, hO92, St.keep (As := [[(p0, .cells #[.int .i64 a0.config.Clients, .int .i64 a0.config.Entries, .int .i64 a0.config.Bytes, .int .i64 a0.config.Reserve, .map (some b5), .int .i64 a0.entries, .int .i64 a0.bytes] 89 (0, 0))] ++ (G6)]) S93⟩

def ca_Ask (k : Nat) (a0 : Cache) (a1 : WhoC) (a2 : Int) (a3 : Int) : Option (Int × (List UInt8) × Cache) := (if a1.Address < 1 then (some (4, ([] : List UInt8), a0)) else (if 16777215 < a1.Address then (some (4, ([] : List UInt8), a0)) else (if a1.Instance < 1 then (some (4, ([] : List UInt8), a0)) else (if 4611686018427387904 < a1.Instance then (some (4, ([] : List UInt8), a0)) else (Option.bind (ca_word k a2) fun t36 => (if t36 = true then (Option.bind (ca_word k a3) fun t42 => (if t42 = true then (if (mget a0.clients a1).isSome = true then (Option.bind (mget a0.clients a1) fun x51 => (if x51.water < a3 then (if a2 < a3 then (some (4, ([] : List UInt8), (⟨a0.config, (mput a0.clients a1 (⟨a3, (keepM x51.calls a3)⟩ : Known)), subs ((outM x51.calls a3).map fun _ => (1 : Int)) a0.entries, subs ((outM x51.calls a3).map fun x => szE a0.config.Reserve x.2) a0.bytes⟩ : Cache))) else (if (mget (keepM x51.calls a3) a2).isSome = true then (Option.bind (mget (keepM x51.calls a3) a2) fun x95 => (if x95.done = true then (some (3, x95.reply, (⟨a0.config, (mput a0.clients a1 (⟨a3, (keepM x51.calls a3)⟩ : Known)), subs ((outM x51.calls a3).map fun _ => (1 : Int)) a0.entries, subs ((outM x51.calls a3).map fun x => szE a0.config.Reserve x.2) a0.bytes⟩ : Cache))) else (some (2, ([] : List UInt8), (⟨a0.config, (mput a0.clients a1 (⟨a3, (keepM x51.calls a3)⟩ : Known)), subs ((outM x51.calls a3).map fun _ => (1 : Int)) a0.entries, subs ((outM x51.calls a3).map fun x => szE a0.config.Reserve x.2) a0.bytes⟩ : Cache))))) else (if a0.config.Bytes < (w64 ((subs ((outM x51.calls a3).map fun x => szE a0.config.Reserve x.2) a0.bytes) + a0.config.Reserve)) then (some (5, ([] : List UInt8), (⟨a0.config, (mput a0.clients a1 (⟨a3, (keepM x51.calls a3)⟩ : Known)), subs ((outM x51.calls a3).map fun _ => (1 : Int)) a0.entries, subs ((outM x51.calls a3).map fun x => szE a0.config.Reserve x.2) a0.bytes⟩ : Cache))) else (if a0.config.Entries ≤ ((keepM x51.calls a3).length : Int) then (some (5, ([] : List UInt8), (⟨a0.config, (mput a0.clients a1 (⟨a3, (keepM x51.calls a3)⟩ : Known)), subs ((outM x51.calls a3).map fun _ => (1 : Int)) a0.entries, subs ((outM x51.calls a3).map fun x => szE a0.config.Reserve x.2) a0.bytes⟩ : Cache))) else (some (1, ([] : List UInt8), (⟨a0.config, (mput a0.clients a1 (⟨a3, (mput (keepM x51.calls a3) a2 (⟨false, ([] : List UInt8)⟩ : Entry))⟩ : Known)), w64 ((subs ((outM x51.calls a3).map fun _ => (1 : Int)) a0.entries) + 1), w64 ((subs ((outM x51.calls a3).map fun x => szE a0.config.Reserve x.2) a0.bytes) + a0.config.Reserve)⟩ : Cache))))))) else (if a2 < x51.water then (some (4, ([] : List UInt8), (⟨a0.config, (mput a0.clients a1 x51), a0.entries, a0.bytes⟩ : Cache))) else (if (mget x51.calls a2).isSome = true then (Option.bind (mget x51.calls a2) fun x206 => (if x206.done = true then (some (3, x206.reply, (⟨a0.config, (mput a0.clients a1 x51), a0.entries, a0.bytes⟩ : Cache))) else (some (2, ([] : List UInt8), (⟨a0.config, (mput a0.clients a1 x51), a0.entries, a0.bytes⟩ : Cache))))) else (if a0.config.Bytes < (w64 (a0.bytes + a0.config.Reserve)) then (some (5, ([] : List UInt8), (⟨a0.config, (mput a0.clients a1 x51), a0.entries, a0.bytes⟩ : Cache))) else (if a0.config.Entries ≤ (x51.calls.length : Int) then (some (5, ([] : List UInt8), (⟨a0.config, (mput a0.clients a1 x51), a0.entries, a0.bytes⟩ : Cache))) else (some (1, ([] : List UInt8), (⟨a0.config, (mput a0.clients a1 (⟨x51.water, (mput x51.calls a2 (⟨false, ([] : List UInt8)⟩ : Entry))⟩ : Known)), w64 (a0.entries + 1), w64 (a0.bytes + a0.config.Reserve)⟩ : Cache))))))))) else (if a2 < a3 then (some (4, ([] : List UInt8), a0)) else (if a0.config.Bytes < (w64 (a0.bytes + a0.config.Reserve)) then (some (5, ([] : List UInt8), a0)) else (if a0.config.Clients ≤ (a0.clients.length : Int) then (some (5, ([] : List UInt8), a0)) else (some (1, ([] : List UInt8), (⟨a0.config, (mput a0.clients a1 (⟨a3, (mput ([] : List (Int × Entry)) a2 (⟨false, ([] : List UInt8)⟩ : Entry))⟩ : Known)), w64 (a0.entries + 1), w64 (a0.bytes + a0.config.Reserve)⟩ : Cache))))))) else (some (4, ([] : List UInt8), a0)))) else (some (4, ([] : List UInt8), a0))))))))
set_option maxRecDepth 100000 in
set_option maxHeartbeats 1000000 in
theorem ca_Ask_calls (k : Nat) (a0 : Cache) {p0 : Nat} {G0 : Grp} (a1 : WhoC) (a2 : Int) (a3 : Int) {w : World} (hO0 : ObjO 89 Cache.rp p0 a0 G0) {r_ : Int × (List UInt8) × Cache} (h_ : ca_Ask k a0 a1 a2 a3 = some r_) (hp_ : Hp w ([G0]).flatten) :
    Calls Try.prog 17 [.pointer (some ⟨p0, 0, none⟩), .agg #[.int .i64 a1.Address, .int .i64 a1.Instance], .int .i64 a2, .int .i64 a3].toArray w fun e w' => ∃ Go0' : Grp, e = .returned (.tuple #[.int .i64 r_.1, .string (bs r_.2.1)]) ∧ ObjO 89 Cache.rp p0 (r_.2.2) Go0' ∧ St w (KS [G0]) w' [Go0'] := by
  have hF := h_
  clear h_
  unfold ca_Ask at hF
  have S := St.initK [G0] hp_
  obtain ⟨cs1, G2, ho3, hg4⟩ := hO0
  obtain ⟨b5, G6, rfl, hO7, hq8⟩ := ho3
  have S9 : St _ _ _ [[(p0, .cells #[.int .i64 a0.config.Clients, .int .i64 a0.config.Entries, .int .i64 a0.config.Bytes, .int .i64 a0.config.Reserve, .map (some b5), .int .i64 a0.entries, .int .i64 a0.bytes] 89 (0, 0))], G6] := S.objs (by rw [hg4, hq8]; simp)
  refine enter 176 [(0, .pointer (some ⟨p0, 0, none⟩)), (1, .agg #[.int .i64 a1.Address, .int .i64 a1.Instance]), (2, .int .i64 a2), (3, .int .i64 a3)] Try.func17 rfl rfl rfl rfl ?_
  refine WCode.seq ?_
  refine WCode.region ?_
  obtain ⟨b10, w11, E12, S13, X14, L15⟩ := St.box S9 Try.prog 34 (.agg #[.int .i64 a1.Address, .int .i64 a1.Instance])
  change St _ _ _ [[(b10, .cells #[.int .i64 a1.Address, .int .i64 a1.Instance] 34 (0, 0))], [(p0, .cells #[.int .i64 a0.config.Clients, .int .i64 a0.config.Entries, .int .i64 a0.config.Bytes, .int .i64 a0.config.Reserve, .map (some b5), .int .i64 a0.entries, .int .i64 a0.bytes] 89 (0, 0))], G6] at S13
  refine WOps.e (E12 rfl) rfl ?_
  refine WOps.p (G.assign rfl) rfl ?_
  refine WOps.p (G.assign rfl) rfl ?_
  refine WOps.nil ?_
  refine WEx.then_ ?_
  refine WCode.seq ?_
  refine WCode.seq ?_
  refine WCode.region ?_
  refine WOps.p (G.field T.fld34_0 rfl (show 0 + 0 = 0 from rfl)) rfl ?_
  refine WOps.r (G.load1 T.one3 rfl (cell_blk (S13.blk 0 rfl) rfl)) rfl ?_
  refine WOps.p (G.lss rfl rfl rfl) rfl ?_
  refine WOps.p (G.move rfl) rfl ?_
  rcases ite_some hF with ⟨h16, hF⟩ | ⟨h16, hF⟩
  ·
    refine WOps.off rfl (kbl (b := decide (a1.Address < 1)) rfl (decide_eq_true h16)) rfl rfl ?_
    refine WOps.off rfl (kbl (b := decide (a1.Address < 1)) rfl (decide_eq_true h16)) rfl rfl ?_
    refine WOps.off rfl (kbl (b := decide (a1.Address < 1)) rfl (decide_eq_true h16)) rfl rfl ?_
    refine WOps.p (G.pick_t (kb (b := decide (a1.Address < 1)) rfl (decide_eq_true h16)) rfl) rfl ?_
    refine WOps.p (G.move rfl) rfl ?_
    refine WOps.off rfl rfl rfl rfl ?_
    refine WOps.off rfl rfl rfl rfl ?_
    refine WOps.off rfl rfl rfl rfl ?_
    refine WOps.p (G.pick_t rfl rfl) rfl ?_
    refine WOps.p (G.move rfl) rfl ?_
    refine WOps.off rfl rfl rfl rfl ?_
    refine WOps.off rfl rfl rfl rfl ?_
    refine WOps.off rfl rfl rfl rfl ?_
    refine WOps.p (G.pick_t rfl rfl) rfl ?_
    refine WOps.p (G.move rfl) rfl ?_
    refine WOps.off rfl rfl rfl rfl ?_
    refine WOps.off rfl rfl rfl rfl ?_
    refine WOps.off rfl rfl rfl rfl ?_
    refine WOps.p (G.pick_t rfl rfl) rfl ?_
    refine WOps.p (G.move rfl) rfl ?_
    refine WOps.off rfl rfl rfl rfl ?_
    refine WOps.off rfl rfl rfl rfl ?_
    refine WOps.off rfl rfl rfl rfl ?_
    refine WOps.p (G.pick_t rfl rfl) rfl ?_
    refine WOps.nil ?_
    refine WEx.then_ ?_
    refine WCode.forget (l' := [(0, .pointer (some ⟨p0, 0, none⟩)), (2, .int .i64 a2), (3, .int .i64 a3), (5, .pointer (some ⟨b10, 0, none⟩)), (41, .bool true)]) ⟨rfl, rfl, rfl, rfl, rfl, trivial⟩ ?_
    refine WCode.cond_t rfl ?_
    refine WCode.seq ?_
    refine WCode.region ?_
    refine WOps.p (G.assign rfl) rfl ?_
    refine WOps.p (G.assign rfl) rfl ?_
    refine WOps.nil ?_
    refine WEx.then_ ?_
    refine WCode.ret ?_
    refine WEx.then_ret ?_
    obtain rfl := some_eq hF
    refine WEx.ret2 rfl rfl rfl ?_
    have S17 := S13.front 2 rfl
    change St _ _ _ [G6, [(b10, .cells #[.int .i64 a1.Address, .int .i64 a1.Instance] 34 (0, 0))], [(p0, .cells #[.int .i64 a0.config.Clients, .int .i64 a0.config.Entries, .int .i64 a0.config.Bytes, .int .i64 a0.config.Reserve, .map (some b5), .int .i64 a0.entries, .int .i64 a0.bytes] 89 (0, 0))]] at S17
    have S18 := S17.front 2 rfl
    change St _ _ _ [[(p0, .cells #[.int .i64 a0.config.Clients, .int .i64 a0.config.Entries, .int .i64 a0.config.Bytes, .int .i64 a0.config.Reserve, .map (some b5), .int .i64 a0.entries, .int .i64 a0.bytes] 89 (0, 0))], G6, [(b10, .cells #[.int .i64 a1.Address, .int .i64 a1.Instance] 34 (0, 0))]] at S18
    have hO19 : ObjO 89 Cache.rp p0 a0 ([(p0, .cells #[.int .i64 a0.config.Clients, .int .i64 a0.config.Entries, .int .i64 a0.config.Bytes, .int .i64 a0.config.Reserve, .map (some b5), .int .i64 a0.entries, .int .i64 a0.bytes] 89 (0, 0))] ++ (G6)) := ⟨_, _, ⟨b5, G6, rfl, hO7, rfl⟩, rfl⟩
    have S20 : St _ _ _ [[(p0, .cells #[.int .i64 a0.config.Clients, .int .i64 a0.config.Entries, .int .i64 a0.config.Bytes, .int .i64 a0.config.Reserve, .map (some b5), .int .i64 a0.entries, .int .i64 a0.bytes] 89 (0, 0))] ++ (G6), [(b10, .cells #[.int .i64 a1.Address, .int .i64 a1.Instance] 34 (0, 0))]] := S18.objs (by simp)
    exact ⟨[(p0, .cells #[.int .i64 a0.config.Clients, .int .i64 a0.config.Entries, .int .i64 a0.config.Bytes, .int .i64 a0.config.Reserve, .map (some b5), .int .i64 a0.entries, .int .i64 a0.bytes] 89 (0, 0))] ++ (G6), rfl, hO19, St.keep (As := [[(p0, .cells #[.int .i64 a0.config.Clients, .int .i64 a0.config.Entries, .int .i64 a0.config.Bytes, .int .i64 a0.config.Reserve, .map (some b5), .int .i64 a0.entries, .int .i64 a0.bytes] 89 (0, 0))] ++ (G6)]) S20⟩
  ·
    refine WOps.on rfl (kbl (b := decide (a1.Address < 1)) rfl (decide_eq_false h16)) ?_
    refine WOps.p (G.field T.fld34_0 rfl (show 0 + 0 = 0 from rfl)) rfl ?_
    refine WOps.on rfl (kbl (b := decide (a1.Address < 1)) rfl (decide_eq_false h16)) ?_
    refine WOps.r (G.load1 T.one3 rfl (cell_blk (S13.blk 0 rfl) rfl)) rfl ?_
    refine WOps.on rfl (kbl (b := decide (a1.Address < 1)) rfl (decide_eq_false h16)) ?_
    refine WOps.p (G.gtr rfl rfl rfl) rfl ?_
    refine WOps.p (G.pick_f (kb (b := decide (a1.Address < 1)) rfl (decide_eq_false h16)) rfl) rfl ?_
    refine WOps.p (G.move rfl) rfl ?_
    rcases ite_some hF with ⟨h21, hF⟩ | ⟨h21, hF⟩
    ·
      refine WOps.off rfl (kbl (b := decide (16777215 < a1.Address)) rfl (decide_eq_true h21)) rfl rfl ?_
      refine WOps.off rfl (kbl (b := decide (16777215 < a1.Address)) rfl (decide_eq_true h21)) rfl rfl ?_
      refine WOps.off rfl (kbl (b := decide (16777215 < a1.Address)) rfl (decide_eq_true h21)) rfl rfl ?_
      refine WOps.p (G.pick_t (kb (b := decide (16777215 < a1.Address)) rfl (decide_eq_true h21)) rfl) rfl ?_
      refine WOps.p (G.move rfl) rfl ?_
      refine WOps.off rfl rfl rfl rfl ?_
      refine WOps.off rfl rfl rfl rfl ?_
      refine WOps.off rfl rfl rfl rfl ?_
      refine WOps.p (G.pick_t rfl rfl) rfl ?_
      refine WOps.p (G.move rfl) rfl ?_
      refine WOps.off rfl rfl rfl rfl ?_
      refine WOps.off rfl rfl rfl rfl ?_
      refine WOps.off rfl rfl rfl rfl ?_
      refine WOps.p (G.pick_t rfl rfl) rfl ?_
      refine WOps.p (G.move rfl) rfl ?_
      refine WOps.off rfl rfl rfl rfl ?_
      refine WOps.off rfl rfl rfl rfl ?_
      refine WOps.off rfl rfl rfl rfl ?_
      refine WOps.p (G.pick_t rfl rfl) rfl ?_
      refine WOps.nil ?_
      refine WEx.then_ ?_
      refine WCode.forget (l' := [(0, .pointer (some ⟨p0, 0, none⟩)), (2, .int .i64 a2), (3, .int .i64 a3), (5, .pointer (some ⟨b10, 0, none⟩)), (41, .bool true)]) ⟨rfl, rfl, rfl, rfl, rfl, trivial⟩ ?_
      refine WCode.cond_t rfl ?_
      refine WCode.seq ?_
      refine WCode.region ?_
      refine WOps.p (G.assign rfl) rfl ?_
      refine WOps.p (G.assign rfl) rfl ?_
      refine WOps.nil ?_
      refine WEx.then_ ?_
      refine WCode.ret ?_
      refine WEx.then_ret ?_
      obtain rfl := some_eq hF
      refine WEx.ret2 rfl rfl rfl ?_
      have S22 := S13.front 2 rfl
      change St _ _ _ [G6, [(b10, .cells #[.int .i64 a1.Address, .int .i64 a1.Instance] 34 (0, 0))], [(p0, .cells #[.int .i64 a0.config.Clients, .int .i64 a0.config.Entries, .int .i64 a0.config.Bytes, .int .i64 a0.config.Reserve, .map (some b5), .int .i64 a0.entries, .int .i64 a0.bytes] 89 (0, 0))]] at S22
      have S23 := S22.front 2 rfl
      change St _ _ _ [[(p0, .cells #[.int .i64 a0.config.Clients, .int .i64 a0.config.Entries, .int .i64 a0.config.Bytes, .int .i64 a0.config.Reserve, .map (some b5), .int .i64 a0.entries, .int .i64 a0.bytes] 89 (0, 0))], G6, [(b10, .cells #[.int .i64 a1.Address, .int .i64 a1.Instance] 34 (0, 0))]] at S23
      have hO24 : ObjO 89 Cache.rp p0 a0 ([(p0, .cells #[.int .i64 a0.config.Clients, .int .i64 a0.config.Entries, .int .i64 a0.config.Bytes, .int .i64 a0.config.Reserve, .map (some b5), .int .i64 a0.entries, .int .i64 a0.bytes] 89 (0, 0))] ++ (G6)) := ⟨_, _, ⟨b5, G6, rfl, hO7, rfl⟩, rfl⟩
      have S25 : St _ _ _ [[(p0, .cells #[.int .i64 a0.config.Clients, .int .i64 a0.config.Entries, .int .i64 a0.config.Bytes, .int .i64 a0.config.Reserve, .map (some b5), .int .i64 a0.entries, .int .i64 a0.bytes] 89 (0, 0))] ++ (G6), [(b10, .cells #[.int .i64 a1.Address, .int .i64 a1.Instance] 34 (0, 0))]] := S23.objs (by simp)
      exact ⟨[(p0, .cells #[.int .i64 a0.config.Clients, .int .i64 a0.config.Entries, .int .i64 a0.config.Bytes, .int .i64 a0.config.Reserve, .map (some b5), .int .i64 a0.entries, .int .i64 a0.bytes] 89 (0, 0))] ++ (G6), rfl, hO24, St.keep (As := [[(p0, .cells #[.int .i64 a0.config.Clients, .int .i64 a0.config.Entries, .int .i64 a0.config.Bytes, .int .i64 a0.config.Reserve, .map (some b5), .int .i64 a0.entries, .int .i64 a0.bytes] 89 (0, 0))] ++ (G6)]) S25⟩
    ·
      refine WOps.on rfl (kbl (b := decide (16777215 < a1.Address)) rfl (decide_eq_false h21)) ?_
      refine WOps.p (G.field T.fld34_1 rfl (show 0 + 1 = 1 from rfl)) rfl ?_
      refine WOps.on rfl (kbl (b := decide (16777215 < a1.Address)) rfl (decide_eq_false h21)) ?_
      refine WOps.r (G.load1 T.one3 rfl (cell_blk (S13.blk 0 rfl) rfl)) rfl ?_
      refine WOps.on rfl (kbl (b := decide (16777215 < a1.Address)) rfl (decide_eq_false h21)) ?_
      refine WOps.p (G.lss rfl rfl rfl) rfl ?_
      refine WOps.p (G.pick_f (kb (b := decide (16777215 < a1.Address)) rfl (decide_eq_false h21)) rfl) rfl ?_
      refine WOps.p (G.move rfl) rfl ?_
      rcases ite_some hF with ⟨h26, hF⟩ | ⟨h26, hF⟩
      ·
        refine WOps.off rfl (kbl (b := decide (a1.Instance < 1)) rfl (decide_eq_true h26)) rfl rfl ?_
        refine WOps.off rfl (kbl (b := decide (a1.Instance < 1)) rfl (decide_eq_true h26)) rfl rfl ?_
        refine WOps.off rfl (kbl (b := decide (a1.Instance < 1)) rfl (decide_eq_true h26)) rfl rfl ?_
        refine WOps.p (G.pick_t (kb (b := decide (a1.Instance < 1)) rfl (decide_eq_true h26)) rfl) rfl ?_
        refine WOps.p (G.move rfl) rfl ?_
        refine WOps.off rfl rfl rfl rfl ?_
        refine WOps.off rfl rfl rfl rfl ?_
        refine WOps.off rfl rfl rfl rfl ?_
        refine WOps.p (G.pick_t rfl rfl) rfl ?_
        refine WOps.p (G.move rfl) rfl ?_
        refine WOps.off rfl rfl rfl rfl ?_
        refine WOps.off rfl rfl rfl rfl ?_
        refine WOps.off rfl rfl rfl rfl ?_
        refine WOps.p (G.pick_t rfl rfl) rfl ?_
        refine WOps.nil ?_
        refine WEx.then_ ?_
        refine WCode.forget (l' := [(0, .pointer (some ⟨p0, 0, none⟩)), (2, .int .i64 a2), (3, .int .i64 a3), (5, .pointer (some ⟨b10, 0, none⟩)), (41, .bool true)]) ⟨rfl, rfl, rfl, rfl, rfl, trivial⟩ ?_
        refine WCode.cond_t rfl ?_
        refine WCode.seq ?_
        refine WCode.region ?_
        refine WOps.p (G.assign rfl) rfl ?_
        refine WOps.p (G.assign rfl) rfl ?_
        refine WOps.nil ?_
        refine WEx.then_ ?_
        refine WCode.ret ?_
        refine WEx.then_ret ?_
        obtain rfl := some_eq hF
        refine WEx.ret2 rfl rfl rfl ?_
        have S27 := S13.front 2 rfl
        change St _ _ _ [G6, [(b10, .cells #[.int .i64 a1.Address, .int .i64 a1.Instance] 34 (0, 0))], [(p0, .cells #[.int .i64 a0.config.Clients, .int .i64 a0.config.Entries, .int .i64 a0.config.Bytes, .int .i64 a0.config.Reserve, .map (some b5), .int .i64 a0.entries, .int .i64 a0.bytes] 89 (0, 0))]] at S27
        have S28 := S27.front 2 rfl
        change St _ _ _ [[(p0, .cells #[.int .i64 a0.config.Clients, .int .i64 a0.config.Entries, .int .i64 a0.config.Bytes, .int .i64 a0.config.Reserve, .map (some b5), .int .i64 a0.entries, .int .i64 a0.bytes] 89 (0, 0))], G6, [(b10, .cells #[.int .i64 a1.Address, .int .i64 a1.Instance] 34 (0, 0))]] at S28
        have hO29 : ObjO 89 Cache.rp p0 a0 ([(p0, .cells #[.int .i64 a0.config.Clients, .int .i64 a0.config.Entries, .int .i64 a0.config.Bytes, .int .i64 a0.config.Reserve, .map (some b5), .int .i64 a0.entries, .int .i64 a0.bytes] 89 (0, 0))] ++ (G6)) := ⟨_, _, ⟨b5, G6, rfl, hO7, rfl⟩, rfl⟩
        have S30 : St _ _ _ [[(p0, .cells #[.int .i64 a0.config.Clients, .int .i64 a0.config.Entries, .int .i64 a0.config.Bytes, .int .i64 a0.config.Reserve, .map (some b5), .int .i64 a0.entries, .int .i64 a0.bytes] 89 (0, 0))] ++ (G6), [(b10, .cells #[.int .i64 a1.Address, .int .i64 a1.Instance] 34 (0, 0))]] := S28.objs (by simp)
        exact ⟨[(p0, .cells #[.int .i64 a0.config.Clients, .int .i64 a0.config.Entries, .int .i64 a0.config.Bytes, .int .i64 a0.config.Reserve, .map (some b5), .int .i64 a0.entries, .int .i64 a0.bytes] 89 (0, 0))] ++ (G6), rfl, hO29, St.keep (As := [[(p0, .cells #[.int .i64 a0.config.Clients, .int .i64 a0.config.Entries, .int .i64 a0.config.Bytes, .int .i64 a0.config.Reserve, .map (some b5), .int .i64 a0.entries, .int .i64 a0.bytes] 89 (0, 0))] ++ (G6)]) S30⟩
      ·
        refine WOps.on rfl (kbl (b := decide (a1.Instance < 1)) rfl (decide_eq_false h26)) ?_
        refine WOps.p (G.field T.fld34_1 rfl (show 0 + 1 = 1 from rfl)) rfl ?_
        refine WOps.on rfl (kbl (b := decide (a1.Instance < 1)) rfl (decide_eq_false h26)) ?_
        refine WOps.r (G.load1 T.one3 rfl (cell_blk (S13.blk 0 rfl) rfl)) rfl ?_
        refine WOps.on rfl (kbl (b := decide (a1.Instance < 1)) rfl (decide_eq_false h26)) ?_
        refine WOps.p (G.gtr rfl rfl rfl) rfl ?_
        refine WOps.p (G.pick_f (kb (b := decide (a1.Instance < 1)) rfl (decide_eq_false h26)) rfl) rfl ?_
        refine WOps.p (G.move rfl) rfl ?_
        rcases ite_some hF with ⟨h31, hF⟩ | ⟨h31, hF⟩
        ·
          refine WOps.off rfl (kbl (b := decide (4611686018427387904 < a1.Instance)) rfl (decide_eq_true h31)) rfl rfl ?_
          refine WOps.off rfl (kbl (b := decide (4611686018427387904 < a1.Instance)) rfl (decide_eq_true h31)) rfl rfl ?_
          refine WOps.off rfl (kbl (b := decide (4611686018427387904 < a1.Instance)) rfl (decide_eq_true h31)) rfl rfl ?_
          refine WOps.p (G.pick_t (kb (b := decide (4611686018427387904 < a1.Instance)) rfl (decide_eq_true h31)) rfl) rfl ?_
          refine WOps.p (G.move rfl) rfl ?_
          refine WOps.off rfl rfl rfl rfl ?_
          refine WOps.off rfl rfl rfl rfl ?_
          refine WOps.off rfl rfl rfl rfl ?_
          refine WOps.p (G.pick_t rfl rfl) rfl ?_
          refine WOps.nil ?_
          refine WEx.then_ ?_
          refine WCode.forget (l' := [(0, .pointer (some ⟨p0, 0, none⟩)), (2, .int .i64 a2), (3, .int .i64 a3), (5, .pointer (some ⟨b10, 0, none⟩)), (41, .bool true)]) ⟨rfl, rfl, rfl, rfl, rfl, trivial⟩ ?_
          refine WCode.cond_t rfl ?_
          refine WCode.seq ?_
          refine WCode.region ?_
          refine WOps.p (G.assign rfl) rfl ?_
          refine WOps.p (G.assign rfl) rfl ?_
          refine WOps.nil ?_
          refine WEx.then_ ?_
          refine WCode.ret ?_
          refine WEx.then_ret ?_
          obtain rfl := some_eq hF
          refine WEx.ret2 rfl rfl rfl ?_
          have S32 := S13.front 2 rfl
          change St _ _ _ [G6, [(b10, .cells #[.int .i64 a1.Address, .int .i64 a1.Instance] 34 (0, 0))], [(p0, .cells #[.int .i64 a0.config.Clients, .int .i64 a0.config.Entries, .int .i64 a0.config.Bytes, .int .i64 a0.config.Reserve, .map (some b5), .int .i64 a0.entries, .int .i64 a0.bytes] 89 (0, 0))]] at S32
          have S33 := S32.front 2 rfl
          change St _ _ _ [[(p0, .cells #[.int .i64 a0.config.Clients, .int .i64 a0.config.Entries, .int .i64 a0.config.Bytes, .int .i64 a0.config.Reserve, .map (some b5), .int .i64 a0.entries, .int .i64 a0.bytes] 89 (0, 0))], G6, [(b10, .cells #[.int .i64 a1.Address, .int .i64 a1.Instance] 34 (0, 0))]] at S33
          have hO34 : ObjO 89 Cache.rp p0 a0 ([(p0, .cells #[.int .i64 a0.config.Clients, .int .i64 a0.config.Entries, .int .i64 a0.config.Bytes, .int .i64 a0.config.Reserve, .map (some b5), .int .i64 a0.entries, .int .i64 a0.bytes] 89 (0, 0))] ++ (G6)) := ⟨_, _, ⟨b5, G6, rfl, hO7, rfl⟩, rfl⟩
          have S35 : St _ _ _ [[(p0, .cells #[.int .i64 a0.config.Clients, .int .i64 a0.config.Entries, .int .i64 a0.config.Bytes, .int .i64 a0.config.Reserve, .map (some b5), .int .i64 a0.entries, .int .i64 a0.bytes] 89 (0, 0))] ++ (G6), [(b10, .cells #[.int .i64 a1.Address, .int .i64 a1.Instance] 34 (0, 0))]] := S33.objs (by simp)
          exact ⟨[(p0, .cells #[.int .i64 a0.config.Clients, .int .i64 a0.config.Entries, .int .i64 a0.config.Bytes, .int .i64 a0.config.Reserve, .map (some b5), .int .i64 a0.entries, .int .i64 a0.bytes] 89 (0, 0))] ++ (G6), rfl, hO34, St.keep (As := [[(p0, .cells #[.int .i64 a0.config.Clients, .int .i64 a0.config.Entries, .int .i64 a0.config.Bytes, .int .i64 a0.config.Reserve, .map (some b5), .int .i64 a0.entries, .int .i64 a0.bytes] 89 (0, 0))] ++ (G6)]) S35⟩
        ·
          refine WOps.on rfl (kbl (b := decide (4611686018427387904 < a1.Instance)) rfl (decide_eq_false h31)) ?_
          refine WOps.p (G.move rfl) rfl ?_
          refine WOps.on rfl (kbl (b := decide (4611686018427387904 < a1.Instance)) rfl (decide_eq_false h31)) ?_
          obtain ⟨t36, hc37, hF⟩ := bind_some hF
          refine WOps.call T.call37 (evs_cons rfl evs_nil) rfl ?_
          refine (ca_word_calls k a2 hc37).mono ?_
          rintro _ w38 ⟨rfl, T39⟩
          have S40 := St.callN (As := []) S13 T39
          change St _ _ _ [[(b10, .cells #[.int .i64 a1.Address, .int .i64 a1.Instance] 34 (0, 0))], [(p0, .cells #[.int .i64 a0.config.Clients, .int .i64 a0.config.Entries, .int .i64 a0.config.Bytes, .int .i64 a0.config.Reserve, .map (some b5), .int .i64 a0.entries, .int .i64 a0.bytes] 89 (0, 0))], G6] at S40
          refine ⟨_, rfl, ?_⟩
          refine WOps.on rfl (kbl (b := decide (4611686018427387904 < a1.Instance)) rfl (decide_eq_false h31)) ?_
          refine WOps.p (G.not rfl rfl) rfl ?_
          refine WOps.p (G.pick_f (kb (b := decide (4611686018427387904 < a1.Instance)) rfl (decide_eq_false h31)) rfl) rfl ?_
          refine WOps.p (G.move rfl) rfl ?_
          rcases ite_some hF with ⟨h41, hF⟩ | ⟨h41, hF⟩
          ·
            refine WOps.on rfl (kbl (b := !t36) rfl (show (!t36) = false from by rw [h41]; rfl)) ?_
            refine WOps.p (G.move rfl) rfl ?_
            refine WOps.on rfl (kbl (b := !t36) rfl (show (!t36) = false from by rw [h41]; rfl)) ?_
            obtain ⟨t42, hc43, hF⟩ := bind_some hF
            refine WOps.call T.call37 (evs_cons rfl evs_nil) rfl ?_
            refine (ca_word_calls k a3 hc43).mono ?_
            rintro _ w44 ⟨rfl, T45⟩
            have S46 := St.callN (As := []) S40 T45
            change St _ _ _ [[(b10, .cells #[.int .i64 a1.Address, .int .i64 a1.Instance] 34 (0, 0))], [(p0, .cells #[.int .i64 a0.config.Clients, .int .i64 a0.config.Entries, .int .i64 a0.config.Bytes, .int .i64 a0.config.Reserve, .map (some b5), .int .i64 a0.entries, .int .i64 a0.bytes] 89 (0, 0))], G6] at S46
            refine ⟨_, rfl, ?_⟩
            refine WOps.on rfl (kbl (b := !t36) rfl (show (!t36) = false from by rw [h41]; rfl)) ?_
            refine WOps.p (G.not rfl rfl) rfl ?_
            refine WOps.p (G.pick_f (kb (b := !t36) rfl (show (!t36) = false from by rw [h41]; rfl)) rfl) rfl ?_
            refine WOps.nil ?_
            refine WEx.then_ ?_
            refine WCode.forget (l' := [(0, .pointer (some ⟨p0, 0, none⟩)), (2, .int .i64 a2), (3, .int .i64 a3), (5, .pointer (some ⟨b10, 0, none⟩)), (41, .bool (!t42))]) ⟨rfl, rfl, rfl, rfl, rfl, trivial⟩ ?_
            rcases ite_some hF with ⟨h47, hF⟩ | ⟨h47, hF⟩
            ·
              refine WCode.cond_f (kb (b := !t42) rfl (show (!t42) = false from by rw [h47]; rfl)) ?_
              refine WCode.skip ?_
              refine WEx.then_ ?_
              refine WCode.seq ?_
              refine WCode.draw [⟨0, 0, []⟩, ⟨1, 0, []⟩, ⟨2, 0, []⟩, ⟨3, 1, [5, 6, 7, 8, 9, 10]⟩, ⟨4, 1, [5, 6, 7, 8, 9, 10]⟩, ⟨5, 2, []⟩, ⟨6, 0, []⟩, ⟨7, 0, []⟩, ⟨8, 0, []⟩, ⟨9, 0, []⟩, ⟨10, 0, []⟩] T.mixed (by kernel_rfl) (by intro _ _ d _ _ h; cases d <;> exact h) rfl (by kernel_rfl) ?_
              have S48 := S46.drew
              generalize w44.drew = w49 at *
              refine WD.p rfl (G.move rfl) rfl ?_
              refine WD.p rfl (G.nilp rfl) rfl ?_
              refine WD.p rfl (G.field T.fld89_1 rfl (show 0 + 4 = 4 from rfl)) rfl ?_
              refine WD.r rfl (G.load1 T.one87 rfl (cell_blk (S48.blk 1 rfl) rfl)) rfl ?_
              refine WD.r rfl (G.loada T.agg34_2 rfl (cs := [.int .i64 a1.Address, .int .i64 a1.Instance]) (cellsAt.of_blk (S48.blk 0 rfl) rfl)) rfl ?_
              rcases ite_some hF with ⟨h50, hF⟩ | ⟨h50, hF⟩
              ·
                obtain ⟨x51, hc52, hF⟩ := bind_some hF
                have S53 := S48.front 2 rfl
                change St _ _ _ [G6, [(b10, .cells #[.int .i64 a1.Address, .int .i64 a1.Instance] 34 (0, 0))], [(p0, .cells #[.int .i64 a0.config.Clients, .int .i64 a0.config.Entries, .int .i64 a0.config.Bytes, .int .i64 a0.config.Reserve, .map (some b5), .int .i64 a0.entries, .int .i64 a0.bytes] 89 (0, 0))]] at S53
                obtain ⟨p54, G55, G56, hO57, hF58, S59⟩ := St.focus S53 hO7 hc52
                change St _ _ _ [G55, G56, [(b10, .cells #[.int .i64 a1.Address, .int .i64 a1.Instance] 34 (0, 0))], [(p0, .cells #[.int .i64 a0.config.Clients, .int .i64 a0.config.Entries, .int .i64 a0.config.Bytes, .int .i64 a0.config.Reserve, .map (some b5), .int .i64 a0.entries, .int .i64 a0.bytes] 89 (0, 0))]] at S59
                obtain ⟨Y60, hM61, hY62⟩ := CliF.look (w := w49) hF58 (fun b o hb => S59.grp 1 rfl hb)
                obtain ⟨cs63, G64, ho65, hg66⟩ := hO57
                obtain ⟨b67, G68, rfl, hO69, hq70⟩ := ho65
                have S71 : St _ _ _ [[(p54, .cells #[.int .i64 x51.water, .map (some b67)] 96 (0, 0))], G68, G56, [(b10, .cells #[.int .i64 a1.Address, .int .i64 a1.Instance] 34 (0, 0))], [(p0, .cells #[.int .i64 a0.config.Clients, .int .i64 a0.config.Entries, .int .i64 a0.config.Bytes, .int .i64 a0.config.Reserve, .map (some b5), .int .i64 a0.entries, .int .i64 a0.bytes] 89 (0, 0))]] := S59.objs (by rw [hg66, hq70]; simp)
                refine WD.e rfl (GR.e (G.mapget1 T.key87 Try.underlying87 hM61 rfl rfl hY62)) rfl ?_
                refine WD.p rfl (G.move rfl) rfl ?_
                refine WD.p rfl (G.extract rfl rfl) rfl ?_
                refine WD.p rfl (G.extract rfl rfl) rfl ?_
                refine WD.p rfl (G.assign rfl) rfl ?_
                refine WD.p rfl (G.assign rfl) rfl ?_
                refine WD.nil ?_
                refine WEx.then_ ?_
                refine WCode.forget (l' := [(0, .pointer (some ⟨p0, 0, none⟩)), (2, .int .i64 a2), (3, .int .i64 a3), (5, .pointer (some ⟨b10, 0, none⟩)), (10, .pointer (some ⟨p54, 0, none⟩)), (11, .bool true)]) ⟨rfl, rfl, rfl, rfl, rfl, rfl, trivial⟩ ?_
                refine WCode.seq ?_
                refine WCode.seq ?_
                refine WCode.region ?_
                refine WOps.p (G.move rfl) rfl ?_
                refine WOps.p (G.move rfl) rfl ?_
                refine WOps.on rfl rfl ?_
                refine WOps.p (G.move rfl) rfl ?_
                refine WOps.on rfl rfl ?_
                refine WOps.p (G.move rfl) rfl ?_
                refine WOps.on rfl rfl ?_
                refine WOps.p (G.nilp rfl) rfl ?_
                refine WOps.on rfl rfl ?_
                refine WOps.p (G.field T.fld96_0 rfl (show 0 + 0 = 0 from rfl)) rfl ?_
                refine WOps.on rfl rfl ?_
                refine WOps.r (G.load1 T.one3 rfl (cell_blk (S71.blk 0 rfl) rfl)) rfl ?_
                refine WOps.on rfl rfl ?_
                refine WOps.p (G.gtr rfl rfl rfl) rfl ?_
                refine WOps.p (G.pick_t rfl rfl) rfl ?_
                refine WOps.nil ?_
                refine WEx.then_ ?_
                rcases ite_some hF with ⟨h72, hF⟩ | ⟨h72, hF⟩
                ·
                  refine WCode.cond_t (kb (b := decide (x51.water < a3)) rfl (decide_eq_true h72)) ?_
                  refine WCode.region ?_
                  refine WOps.p (G.move rfl) rfl ?_
                  refine WOps.p (G.move rfl) rfl ?_
                  refine WOps.p (G.move rfl) rfl ?_
                  have S73 := S71.front 1 rfl
                  change St _ _ _ [G68, [(p54, .cells #[.int .i64 x51.water, .map (some b67)] 96 (0, 0))], G56, [(b10, .cells #[.int .i64 a1.Address, .int .i64 a1.Instance] 34 (0, 0))], [(p0, .cells #[.int .i64 a0.config.Clients, .int .i64 a0.config.Entries, .int .i64 a0.config.Bytes, .int .i64 a0.config.Reserve, .map (some b5), .int .i64 a0.entries, .int .i64 a0.bytes] 89 (0, 0))]] at S73
                  have S74 := S73.front 1 rfl
                  change St _ _ _ [[(p54, .cells #[.int .i64 x51.water, .map (some b67)] 96 (0, 0))], G68, G56, [(b10, .cells #[.int .i64 a1.Address, .int .i64 a1.Instance] 34 (0, 0))], [(p0, .cells #[.int .i64 a0.config.Clients, .int .i64 a0.config.Entries, .int .i64 a0.config.Bytes, .int .i64 a0.config.Reserve, .map (some b5), .int .i64 a0.entries, .int .i64 a0.bytes] 89 (0, 0))]] at S74
                  have S75 := S74.front 4 rfl
                  change St _ _ _ [[(p0, .cells #[.int .i64 a0.config.Clients, .int .i64 a0.config.Entries, .int .i64 a0.config.Bytes, .int .i64 a0.config.Reserve, .map (some b5), .int .i64 a0.entries, .int .i64 a0.bytes] 89 (0, 0))], [(p54, .cells #[.int .i64 x51.water, .map (some b67)] 96 (0, 0))], G68, G56, [(b10, .cells #[.int .i64 a1.Address, .int .i64 a1.Instance] 34 (0, 0))]] at S75
                  refine WOps.call T.call38 (evs_cons rfl (evs_cons rfl (evs_cons rfl evs_nil))) rfl ?_
                  refine (cr_rise_calls a3 hO69 (St.hpN (As := [[(p0, .cells #[.int .i64 a0.config.Clients, .int .i64 a0.config.Entries, .int .i64 a0.config.Bytes, .int .i64 a0.config.Reserve, .map (some b5), .int .i64 a0.entries, .int .i64 a0.bytes] 89 (0, 0))], [(p54, .cells #[.int .i64 x51.water, .map (some b67)] 96 (0, 0))], G68]) S75)).mono ?_
                  rintro _ w76 ⟨G79, rfl, hM80, T77⟩
                  have S78 := St.callN (As := [[(p0, .cells #[.int .i64 a0.config.Clients, .int .i64 a0.config.Entries, .int .i64 a0.config.Bytes, .int .i64 a0.config.Reserve, .map (some b5), .int .i64 a0.entries, .int .i64 a0.bytes] 89 (0, 0))], [(p54, .cells #[.int .i64 x51.water, .map (some b67)] 96 (0, 0))], G68]) S75 T77
                  change St _ _ _ [[(p0, .cells #[.int .i64 a0.config.Clients, .int .i64 a0.config.Entries, .int .i64 a0.config.Bytes, .int .i64 a0.config.Reserve, .map (some b5), .int .i64 (subs ((outM x51.calls a3).map fun _ => (1 : Int)) a0.entries), .int .i64 (subs ((outM x51.calls a3).map fun x => szE a0.config.Reserve x.2) a0.bytes)] 89 (0, 0))], [(p54, .cells #[.int .i64 a3, .map (some b67)] 96 (0, 0))], G79, G56, [(b10, .cells #[.int .i64 a1.Address, .int .i64 a1.Instance] 34 (0, 0))]] at S78
                  refine ⟨_, rfl, ?_⟩
                  refine WOps.nil ?_
                  refine WEx.then_ ?_
                  refine WCode.forget (l' := [(0, .pointer (some ⟨p0, 0, none⟩)), (2, .int .i64 a2), (3, .int .i64 a3), (5, .pointer (some ⟨b10, 0, none⟩)), (10, .pointer (some ⟨p54, 0, none⟩)), (11, .bool true)]) ⟨rfl, rfl, rfl, rfl, rfl, rfl, trivial⟩ ?_
                  refine WCode.seq ?_
                  refine WCode.seq ?_
                  refine WCode.region ?_
                  refine WOps.p (G.move rfl) rfl ?_
                  refine WOps.nil ?_
                  refine WEx.then_ ?_
                  refine WCode.cond_t rfl ?_
                  refine WCode.region ?_
                  refine WOps.p (G.move rfl) rfl ?_
                  refine WOps.p (G.nilp rfl) rfl ?_
                  refine WOps.p (G.field T.fld96_0 rfl (show 0 + 0 = 0 from rfl)) rfl ?_
                  refine WOps.r (G.load1 T.one3 rfl (cell_blk (S78.blk 1 rfl) rfl)) rfl ?_
                  refine WOps.p (G.assign rfl) rfl ?_
                  refine WOps.nil ?_
                  refine WEx.then_ ?_
                  refine WCode.seq ?_
                  refine WCode.seq ?_
                  refine WCode.region ?_
                  refine WOps.p (G.move rfl) rfl ?_
                  refine WOps.p (G.move rfl) rfl ?_
                  refine WOps.p (G.lss rfl rfl rfl) rfl ?_
                  refine WOps.nil ?_
                  refine WEx.then_ ?_
                  rcases ite_some hF with ⟨h81, hF⟩ | ⟨h81, hF⟩
                  ·
                    refine WCode.cond_t (kb (b := decide (a2 < a3)) rfl (decide_eq_true h81)) ?_
                    refine WCode.seq ?_
                    refine WCode.region ?_
                    refine WOps.p (G.assign rfl) rfl ?_
                    refine WOps.p (G.assign rfl) rfl ?_
                    refine WOps.nil ?_
                    refine WEx.then_ ?_
                    refine WCode.forget (l' := [(8, .int .i64 4), (9, .string (bs ([] : List UInt8)))]) ⟨rfl, rfl, trivial⟩ ?_
                    refine WCode.ret ?_
                    refine WEx.then_ret ?_
                    obtain rfl := some_eq hF
                    refine WEx.ret2 rfl rfl rfl ?_
                    have S82 := S78.front 2 rfl
                    change St _ _ _ [G79, [(p0, .cells #[.int .i64 a0.config.Clients, .int .i64 a0.config.Entries, .int .i64 a0.config.Bytes, .int .i64 a0.config.Reserve, .map (some b5), .int .i64 (subs ((outM x51.calls a3).map fun _ => (1 : Int)) a0.entries), .int .i64 (subs ((outM x51.calls a3).map fun x => szE a0.config.Reserve x.2) a0.bytes)] 89 (0, 0))], [(p54, .cells #[.int .i64 a3, .map (some b67)] 96 (0, 0))], G56, [(b10, .cells #[.int .i64 a1.Address, .int .i64 a1.Instance] 34 (0, 0))]] at S82
                    have S83 := S82.front 2 rfl
                    change St _ _ _ [[(p54, .cells #[.int .i64 a3, .map (some b67)] 96 (0, 0))], G79, [(p0, .cells #[.int .i64 a0.config.Clients, .int .i64 a0.config.Entries, .int .i64 a0.config.Bytes, .int .i64 a0.config.Reserve, .map (some b5), .int .i64 (subs ((outM x51.calls a3).map fun _ => (1 : Int)) a0.entries), .int .i64 (subs ((outM x51.calls a3).map fun x => szE a0.config.Reserve x.2) a0.bytes)] 89 (0, 0))], G56, [(b10, .cells #[.int .i64 a1.Address, .int .i64 a1.Instance] 34 (0, 0))]] at S83
                    have hO84 : ObjO 96 Known.rp p54 (⟨a3, (keepM x51.calls a3)⟩ : Known) ([(p54, .cells #[.int .i64 a3, .map (some b67)] 96 (0, 0))] ++ (G79)) := ⟨_, _, ⟨b67, G79, rfl, hM80, rfl⟩, rfl⟩
                    have S85 : St _ _ _ [[(p54, .cells #[.int .i64 a3, .map (some b67)] 96 (0, 0))] ++ (G79), [(p0, .cells #[.int .i64 a0.config.Clients, .int .i64 a0.config.Entries, .int .i64 a0.config.Bytes, .int .i64 a0.config.Reserve, .map (some b5), .int .i64 (subs ((outM x51.calls a3).map fun _ => (1 : Int)) a0.entries), .int .i64 (subs ((outM x51.calls a3).map fun x => szE a0.config.Reserve x.2) a0.bytes)] 89 (0, 0))], G56, [(b10, .cells #[.int .i64 a1.Address, .int .i64 a1.Instance] 34 (0, 0))]] := S83.objs (by simp)
                    have S86 := S85.front 2 rfl
                    change St _ _ _ [G56, [(p54, .cells #[.int .i64 a3, .map (some b67)] 96 (0, 0))] ++ (G79), [(p0, .cells #[.int .i64 a0.config.Clients, .int .i64 a0.config.Entries, .int .i64 a0.config.Bytes, .int .i64 a0.config.Reserve, .map (some b5), .int .i64 (subs ((outM x51.calls a3).map fun _ => (1 : Int)) a0.entries), .int .i64 (subs ((outM x51.calls a3).map fun x => szE a0.config.Reserve x.2) a0.bytes)] 89 (0, 0))], [(b10, .cells #[.int .i64 a1.Address, .int .i64 a1.Instance] 34 (0, 0))]] at S86
                    have S87 := S86.front 1 rfl
                    change St _ _ _ [[(p54, .cells #[.int .i64 a3, .map (some b67)] 96 (0, 0))] ++ (G79), G56, [(p0, .cells #[.int .i64 a0.config.Clients, .int .i64 a0.config.Entries, .int .i64 a0.config.Bytes, .int .i64 a0.config.Reserve, .map (some b5), .int .i64 (subs ((outM x51.calls a3).map fun _ => (1 : Int)) a0.entries), .int .i64 (subs ((outM x51.calls a3).map fun x => szE a0.config.Reserve x.2) a0.bytes)] 89 (0, 0))], [(b10, .cells #[.int .i64 a1.Address, .int .i64 a1.Instance] 34 (0, 0))]] at S87
                    obtain ⟨G88, hO89, S90⟩ := St.unfocus S87 hF58 hO84
                    change St _ _ _ [G88, [(p0, .cells #[.int .i64 a0.config.Clients, .int .i64 a0.config.Entries, .int .i64 a0.config.Bytes, .int .i64 a0.config.Reserve, .map (some b5), .int .i64 (subs ((outM x51.calls a3).map fun _ => (1 : Int)) a0.entries), .int .i64 (subs ((outM x51.calls a3).map fun x => szE a0.config.Reserve x.2) a0.bytes)] 89 (0, 0))], [(b10, .cells #[.int .i64 a1.Address, .int .i64 a1.Instance] 34 (0, 0))]] at S90
                    have S91 := S90.front 1 rfl
                    change St _ _ _ [[(p0, .cells #[.int .i64 a0.config.Clients, .int .i64 a0.config.Entries, .int .i64 a0.config.Bytes, .int .i64 a0.config.Reserve, .map (some b5), .int .i64 (subs ((outM x51.calls a3).map fun _ => (1 : Int)) a0.entries), .int .i64 (subs ((outM x51.calls a3).map fun x => szE a0.config.Reserve x.2) a0.bytes)] 89 (0, 0))], G88, [(b10, .cells #[.int .i64 a1.Address, .int .i64 a1.Instance] 34 (0, 0))]] at S91
                    have hO92 : ObjO 89 Cache.rp p0 (⟨a0.config, (mput a0.clients a1 (⟨a3, (keepM x51.calls a3)⟩ : Known)), subs ((outM x51.calls a3).map fun _ => (1 : Int)) a0.entries, subs ((outM x51.calls a3).map fun x => szE a0.config.Reserve x.2) a0.bytes⟩ : Cache) ([(p0, .cells #[.int .i64 a0.config.Clients, .int .i64 a0.config.Entries, .int .i64 a0.config.Bytes, .int .i64 a0.config.Reserve, .map (some b5), .int .i64 (subs ((outM x51.calls a3).map fun _ => (1 : Int)) a0.entries), .int .i64 (subs ((outM x51.calls a3).map fun x => szE a0.config.Reserve x.2) a0.bytes)] 89 (0, 0))] ++ (G88)) := ⟨_, _, ⟨b5, G88, rfl, hO89, rfl⟩, rfl⟩
                    have S93 : St _ _ _ [[(p0, .cells #[.int .i64 a0.config.Clients, .int .i64 a0.config.Entries, .int .i64 a0.config.Bytes, .int .i64 a0.config.Reserve, .map (some b5), .int .i64 (subs ((outM x51.calls a3).map fun _ => (1 : Int)) a0.entries), .int .i64 (subs ((outM x51.calls a3).map fun x => szE a0.config.Reserve x.2) a0.bytes)] 89 (0, 0))] ++ (G88), [(b10, .cells #[.int .i64 a1.Address, .int .i64 a1.Instance] 34 (0, 0))]] := S91.objs (by simp)
                    exact ⟨[(p0, .cells #[.int .i64 a0.config.Clients, .int .i64 a0.config.Entries, .int .i64 a0.config.Bytes, .int .i64 a0.config.Reserve, .map (some b5), .int .i64 (subs ((outM x51.calls a3).map fun _ => (1 : Int)) a0.entries), .int .i64 (subs ((outM x51.calls a3).map fun x => szE a0.config.Reserve x.2) a0.bytes)] 89 (0, 0))] ++ (G88), rfl, hO92, St.keep (As := [[(p0, .cells #[.int .i64 a0.config.Clients, .int .i64 a0.config.Entries, .int .i64 a0.config.Bytes, .int .i64 a0.config.Reserve, .map (some b5), .int .i64 (subs ((outM x51.calls a3).map fun _ => (1 : Int)) a0.entries), .int .i64 (subs ((outM x51.calls a3).map fun x => szE a0.config.Reserve x.2) a0.bytes)] 89 (0, 0))] ++ (G88)]) S93⟩
                  ·
                    refine WCode.cond_f (kb (b := decide (a2 < a3)) rfl (decide_eq_false h81)) ?_
                    refine WCode.skip ?_
                    refine WEx.then_ ?_
                    refine WCode.seq ?_
                    refine WCode.seq ?_
                    refine WCode.region ?_
                    refine WOps.p (G.move rfl) rfl ?_
                    refine WOps.nil ?_
                    refine WEx.then_ ?_
                    refine WCode.cond_t rfl ?_
                    refine WCode.seq ?_
                    refine WCode.region ?_
                    refine WOps.p (G.move rfl) rfl ?_
                    refine WOps.p (G.nilp rfl) rfl ?_
                    refine WOps.p (G.field T.fld96_1 rfl (show 0 + 1 = 1 from rfl)) rfl ?_
                    refine WOps.r (G.load1 T.one94 rfl (cell_blk (S78.blk 1 rfl) rfl)) rfl ?_
                    refine WOps.p (G.move rfl) rfl ?_
                    rcases ite_some hF with ⟨h94, hF⟩ | ⟨h94, hF⟩
                    ·
                      obtain ⟨x95, hc96, hF⟩ := bind_some hF
                      refine WOps.r (G.mapget1 T.key94 Try.underlying94 (MapO.rd hM80 (fun b o hb => S78.grp 2 rfl hb)) rfl rfl hc96) rfl ?_
                      refine WOps.p (G.move rfl) rfl ?_
                      refine WOps.p (G.extract rfl rfl) rfl ?_
                      refine WOps.p (G.extract rfl rfl) rfl ?_
                      obtain ⟨b97, w98, E99, S100, X101, L102⟩ := St.var S78 (z := .agg #[.bool false, .string (bs ([] : List UInt8))]) T.zero93
                      change St _ _ _ [[(b97, .cells #[.bool false, .string (bs ([] : List UInt8))] 93 (0, 0))], [(p0, .cells #[.int .i64 a0.config.Clients, .int .i64 a0.config.Entries, .int .i64 a0.config.Bytes, .int .i64 a0.config.Reserve, .map (some b5), .int .i64 (subs ((outM x51.calls a3).map fun _ => (1 : Int)) a0.entries), .int .i64 (subs ((outM x51.calls a3).map fun x => szE a0.config.Reserve x.2) a0.bytes)] 89 (0, 0))], [(p54, .cells #[.int .i64 a3, .map (some b67)] 96 (0, 0))], G79, G56, [(b10, .cells #[.int .i64 a1.Address, .int .i64 a1.Instance] 34 (0, 0))]] at S100
                      refine WOps.e E99 rfl ?_
                      obtain ⟨w103, E104, S105⟩ := St.store (P := Try.prog) S100 0 93 (.agg #[.bool x95.done, .string (bs x95.reply)]) (off := 0) (cur' := #[.bool x95.done, .string (bs x95.reply)]) rfl T.size93_2 rfl rfl rfl
                      change St _ _ _ [[(b97, .cells #[.bool x95.done, .string (bs x95.reply)] 93 (0, 0))], [(p0, .cells #[.int .i64 a0.config.Clients, .int .i64 a0.config.Entries, .int .i64 a0.config.Bytes, .int .i64 a0.config.Reserve, .map (some b5), .int .i64 (subs ((outM x51.calls a3).map fun _ => (1 : Int)) a0.entries), .int .i64 (subs ((outM x51.calls a3).map fun x => szE a0.config.Reserve x.2) a0.bytes)] 89 (0, 0))], [(p54, .cells #[.int .i64 a3, .map (some b67)] 96 (0, 0))], G79, G56, [(b10, .cells #[.int .i64 a1.Address, .int .i64 a1.Instance] 34 (0, 0))]] at S105
                      refine WOps.u (E104 rfl rfl) ?_
                      refine WOps.p (G.assign rfl) rfl ?_
                      refine WOps.nil ?_
                      refine WEx.then_ ?_
                      refine WCode.forget (l' := [(0, .pointer (some ⟨p0, 0, none⟩)), (2, .int .i64 a2), (3, .int .i64 a3), (5, .pointer (some ⟨b10, 0, none⟩)), (10, .pointer (some ⟨p54, 0, none⟩)), (11, .bool true), (12, .pointer (some ⟨b97, 0, none⟩)), (13, .bool true)]) ⟨rfl, rfl, rfl, rfl, rfl, rfl, rfl, rfl, trivial⟩ ?_
                      refine WCode.seq ?_
                      refine WCode.region ?_
                      refine WOps.p (G.move rfl) rfl ?_
                      refine WOps.p (G.move rfl) rfl ?_
                      refine WOps.on rfl rfl ?_
                      refine WOps.p (G.field T.fld93_0 rfl (show 0 + 0 = 0 from rfl)) rfl ?_
                      refine WOps.on rfl rfl ?_
                      refine WOps.r (G.load1 T.one4 rfl (cell_blk (S105.blk 0 rfl) rfl)) rfl ?_
                      refine WOps.p (G.pick_t rfl rfl) rfl ?_
                      refine WOps.nil ?_
                      refine WEx.then_ ?_
                      rcases ite_some hF with ⟨h106, hF⟩ | ⟨h106, hF⟩
                      ·
                        refine WCode.cond_t (kb (b := x95.done) rfl h106) ?_
                        refine WCode.seq ?_
                        refine WCode.draw [⟨0, 0, []⟩, ⟨2, 0, []⟩, ⟨1, 1, [3]⟩, ⟨3, 0, []⟩] T.mixed (by kernel_rfl) (by intro _ _ d _ _ h; cases d <;> exact h) rfl (by kernel_rfl) ?_
                        have S107 := S105.drew
                        generalize w103.drew = w108 at *
                        refine WD.p rfl (G.field T.fld93_1 rfl (show 0 + 1 = 1 from rfl)) rfl ?_
                        refine WD.p rfl (G.assign rfl) rfl ?_
                        refine WD.r rfl (G.load1 T.one9 rfl (cell_blk (S107.blk 0 rfl) rfl)) rfl ?_
                        refine WD.p rfl (G.assign rfl) rfl ?_
                        refine WD.nil ?_
                        refine WEx.then_ ?_
                        refine WCode.forget (l' := [(8, .int .i64 3), (9, .string (bs x95.reply))]) ⟨rfl, rfl, trivial⟩ ?_
                        refine WCode.ret ?_
                        refine WEx.then_ret ?_
                        obtain rfl := some_eq hF
                        refine WEx.ret2 rfl rfl rfl ?_
                        have S109 := S107.front 3 rfl
                        change St _ _ _ [G79, [(b97, .cells #[.bool x95.done, .string (bs x95.reply)] 93 (0, 0))], [(p0, .cells #[.int .i64 a0.config.Clients, .int .i64 a0.config.Entries, .int .i64 a0.config.Bytes, .int .i64 a0.config.Reserve, .map (some b5), .int .i64 (subs ((outM x51.calls a3).map fun _ => (1 : Int)) a0.entries), .int .i64 (subs ((outM x51.calls a3).map fun x => szE a0.config.Reserve x.2) a0.bytes)] 89 (0, 0))], [(p54, .cells #[.int .i64 a3, .map (some b67)] 96 (0, 0))], G56, [(b10, .cells #[.int .i64 a1.Address, .int .i64 a1.Instance] 34 (0, 0))]] at S109
                        have S110 := S109.front 3 rfl
                        change St _ _ _ [[(p54, .cells #[.int .i64 a3, .map (some b67)] 96 (0, 0))], G79, [(b97, .cells #[.bool x95.done, .string (bs x95.reply)] 93 (0, 0))], [(p0, .cells #[.int .i64 a0.config.Clients, .int .i64 a0.config.Entries, .int .i64 a0.config.Bytes, .int .i64 a0.config.Reserve, .map (some b5), .int .i64 (subs ((outM x51.calls a3).map fun _ => (1 : Int)) a0.entries), .int .i64 (subs ((outM x51.calls a3).map fun x => szE a0.config.Reserve x.2) a0.bytes)] 89 (0, 0))], G56, [(b10, .cells #[.int .i64 a1.Address, .int .i64 a1.Instance] 34 (0, 0))]] at S110
                        have hO111 : ObjO 96 Known.rp p54 (⟨a3, (keepM x51.calls a3)⟩ : Known) ([(p54, .cells #[.int .i64 a3, .map (some b67)] 96 (0, 0))] ++ (G79)) := ⟨_, _, ⟨b67, G79, rfl, hM80, rfl⟩, rfl⟩
                        have S112 : St _ _ _ [[(p54, .cells #[.int .i64 a3, .map (some b67)] 96 (0, 0))] ++ (G79), [(b97, .cells #[.bool x95.done, .string (bs x95.reply)] 93 (0, 0))], [(p0, .cells #[.int .i64 a0.config.Clients, .int .i64 a0.config.Entries, .int .i64 a0.config.Bytes, .int .i64 a0.config.Reserve, .map (some b5), .int .i64 (subs ((outM x51.calls a3).map fun _ => (1 : Int)) a0.entries), .int .i64 (subs ((outM x51.calls a3).map fun x => szE a0.config.Reserve x.2) a0.bytes)] 89 (0, 0))], G56, [(b10, .cells #[.int .i64 a1.Address, .int .i64 a1.Instance] 34 (0, 0))]] := S110.objs (by simp)
                        have S113 := S112.front 3 rfl
                        change St _ _ _ [G56, [(p54, .cells #[.int .i64 a3, .map (some b67)] 96 (0, 0))] ++ (G79), [(b97, .cells #[.bool x95.done, .string (bs x95.reply)] 93 (0, 0))], [(p0, .cells #[.int .i64 a0.config.Clients, .int .i64 a0.config.Entries, .int .i64 a0.config.Bytes, .int .i64 a0.config.Reserve, .map (some b5), .int .i64 (subs ((outM x51.calls a3).map fun _ => (1 : Int)) a0.entries), .int .i64 (subs ((outM x51.calls a3).map fun x => szE a0.config.Reserve x.2) a0.bytes)] 89 (0, 0))], [(b10, .cells #[.int .i64 a1.Address, .int .i64 a1.Instance] 34 (0, 0))]] at S113
                        have S114 := S113.front 1 rfl
                        change St _ _ _ [[(p54, .cells #[.int .i64 a3, .map (some b67)] 96 (0, 0))] ++ (G79), G56, [(b97, .cells #[.bool x95.done, .string (bs x95.reply)] 93 (0, 0))], [(p0, .cells #[.int .i64 a0.config.Clients, .int .i64 a0.config.Entries, .int .i64 a0.config.Bytes, .int .i64 a0.config.Reserve, .map (some b5), .int .i64 (subs ((outM x51.calls a3).map fun _ => (1 : Int)) a0.entries), .int .i64 (subs ((outM x51.calls a3).map fun x => szE a0.config.Reserve x.2) a0.bytes)] 89 (0, 0))], [(b10, .cells #[.int .i64 a1.Address, .int .i64 a1.Instance] 34 (0, 0))]] at S114
                        obtain ⟨G115, hO116, S117⟩ := St.unfocus S114 hF58 hO111
                        change St _ _ _ [G115, [(b97, .cells #[.bool x95.done, .string (bs x95.reply)] 93 (0, 0))], [(p0, .cells #[.int .i64 a0.config.Clients, .int .i64 a0.config.Entries, .int .i64 a0.config.Bytes, .int .i64 a0.config.Reserve, .map (some b5), .int .i64 (subs ((outM x51.calls a3).map fun _ => (1 : Int)) a0.entries), .int .i64 (subs ((outM x51.calls a3).map fun x => szE a0.config.Reserve x.2) a0.bytes)] 89 (0, 0))], [(b10, .cells #[.int .i64 a1.Address, .int .i64 a1.Instance] 34 (0, 0))]] at S117
                        have S118 := S117.front 2 rfl
                        change St _ _ _ [[(p0, .cells #[.int .i64 a0.config.Clients, .int .i64 a0.config.Entries, .int .i64 a0.config.Bytes, .int .i64 a0.config.Reserve, .map (some b5), .int .i64 (subs ((outM x51.calls a3).map fun _ => (1 : Int)) a0.entries), .int .i64 (subs ((outM x51.calls a3).map fun x => szE a0.config.Reserve x.2) a0.bytes)] 89 (0, 0))], G115, [(b97, .cells #[.bool x95.done, .string (bs x95.reply)] 93 (0, 0))], [(b10, .cells #[.int .i64 a1.Address, .int .i64 a1.Instance] 34 (0, 0))]] at S118
                        have hO119 : ObjO 89 Cache.rp p0 (⟨a0.config, (mput a0.clients a1 (⟨a3, (keepM x51.calls a3)⟩ : Known)), subs ((outM x51.calls a3).map fun _ => (1 : Int)) a0.entries, subs ((outM x51.calls a3).map fun x => szE a0.config.Reserve x.2) a0.bytes⟩ : Cache) ([(p0, .cells #[.int .i64 a0.config.Clients, .int .i64 a0.config.Entries, .int .i64 a0.config.Bytes, .int .i64 a0.config.Reserve, .map (some b5), .int .i64 (subs ((outM x51.calls a3).map fun _ => (1 : Int)) a0.entries), .int .i64 (subs ((outM x51.calls a3).map fun x => szE a0.config.Reserve x.2) a0.bytes)] 89 (0, 0))] ++ (G115)) := ⟨_, _, ⟨b5, G115, rfl, hO116, rfl⟩, rfl⟩
                        have S120 : St _ _ _ [[(p0, .cells #[.int .i64 a0.config.Clients, .int .i64 a0.config.Entries, .int .i64 a0.config.Bytes, .int .i64 a0.config.Reserve, .map (some b5), .int .i64 (subs ((outM x51.calls a3).map fun _ => (1 : Int)) a0.entries), .int .i64 (subs ((outM x51.calls a3).map fun x => szE a0.config.Reserve x.2) a0.bytes)] 89 (0, 0))] ++ (G115), [(b97, .cells #[.bool x95.done, .string (bs x95.reply)] 93 (0, 0))], [(b10, .cells #[.int .i64 a1.Address, .int .i64 a1.Instance] 34 (0, 0))]] := S118.objs (by simp)
                        exact ⟨[(p0, .cells #[.int .i64 a0.config.Clients, .int .i64 a0.config.Entries, .int .i64 a0.config.Bytes, .int .i64 a0.config.Reserve, .map (some b5), .int .i64 (subs ((outM x51.calls a3).map fun _ => (1 : Int)) a0.entries), .int .i64 (subs ((outM x51.calls a3).map fun x => szE a0.config.Reserve x.2) a0.bytes)] 89 (0, 0))] ++ (G115), rfl, hO119, St.keep (As := [[(p0, .cells #[.int .i64 a0.config.Clients, .int .i64 a0.config.Entries, .int .i64 a0.config.Bytes, .int .i64 a0.config.Reserve, .map (some b5), .int .i64 (subs ((outM x51.calls a3).map fun _ => (1 : Int)) a0.entries), .int .i64 (subs ((outM x51.calls a3).map fun x => szE a0.config.Reserve x.2) a0.bytes)] 89 (0, 0))] ++ (G115)]) S120⟩
                      ·
                        refine WCode.cond_f (kb (b := x95.done) rfl (Bool.eq_false_iff.2 h106)) ?_
                        refine WCode.seq ?_
                        refine WCode.region ?_
                        refine WOps.p (G.move rfl) rfl ?_
                        refine WOps.nil ?_
                        refine WEx.then_ ?_
                        refine WCode.cond_t rfl ?_
                        refine WCode.seq ?_
                        refine WCode.region ?_
                        refine WOps.p (G.assign rfl) rfl ?_
                        refine WOps.p (G.assign rfl) rfl ?_
                        refine WOps.nil ?_
                        refine WEx.then_ ?_
                        refine WCode.forget (l' := [(8, .int .i64 2), (9, .string (bs ([] : List UInt8)))]) ⟨rfl, rfl, trivial⟩ ?_
                        refine WCode.ret ?_
                        refine WEx.then_ret ?_
                        obtain rfl := some_eq hF
                        refine WEx.ret2 rfl rfl rfl ?_
                        have S121 := S105.front 3 rfl
                        change St _ _ _ [G79, [(b97, .cells #[.bool x95.done, .string (bs x95.reply)] 93 (0, 0))], [(p0, .cells #[.int .i64 a0.config.Clients, .int .i64 a0.config.Entries, .int .i64 a0.config.Bytes, .int .i64 a0.config.Reserve, .map (some b5), .int .i64 (subs ((outM x51.calls a3).map fun _ => (1 : Int)) a0.entries), .int .i64 (subs ((outM x51.calls a3).map fun x => szE a0.config.Reserve x.2) a0.bytes)] 89 (0, 0))], [(p54, .cells #[.int .i64 a3, .map (some b67)] 96 (0, 0))], G56, [(b10, .cells #[.int .i64 a1.Address, .int .i64 a1.Instance] 34 (0, 0))]] at S121
                        have S122 := S121.front 3 rfl
                        change St _ _ _ [[(p54, .cells #[.int .i64 a3, .map (some b67)] 96 (0, 0))], G79, [(b97, .cells #[.bool x95.done, .string (bs x95.reply)] 93 (0, 0))], [(p0, .cells #[.int .i64 a0.config.Clients, .int .i64 a0.config.Entries, .int .i64 a0.config.Bytes, .int .i64 a0.config.Reserve, .map (some b5), .int .i64 (subs ((outM x51.calls a3).map fun _ => (1 : Int)) a0.entries), .int .i64 (subs ((outM x51.calls a3).map fun x => szE a0.config.Reserve x.2) a0.bytes)] 89 (0, 0))], G56, [(b10, .cells #[.int .i64 a1.Address, .int .i64 a1.Instance] 34 (0, 0))]] at S122
                        have hO123 : ObjO 96 Known.rp p54 (⟨a3, (keepM x51.calls a3)⟩ : Known) ([(p54, .cells #[.int .i64 a3, .map (some b67)] 96 (0, 0))] ++ (G79)) := ⟨_, _, ⟨b67, G79, rfl, hM80, rfl⟩, rfl⟩
                        have S124 : St _ _ _ [[(p54, .cells #[.int .i64 a3, .map (some b67)] 96 (0, 0))] ++ (G79), [(b97, .cells #[.bool x95.done, .string (bs x95.reply)] 93 (0, 0))], [(p0, .cells #[.int .i64 a0.config.Clients, .int .i64 a0.config.Entries, .int .i64 a0.config.Bytes, .int .i64 a0.config.Reserve, .map (some b5), .int .i64 (subs ((outM x51.calls a3).map fun _ => (1 : Int)) a0.entries), .int .i64 (subs ((outM x51.calls a3).map fun x => szE a0.config.Reserve x.2) a0.bytes)] 89 (0, 0))], G56, [(b10, .cells #[.int .i64 a1.Address, .int .i64 a1.Instance] 34 (0, 0))]] := S122.objs (by simp)
                        have S125 := S124.front 3 rfl
                        change St _ _ _ [G56, [(p54, .cells #[.int .i64 a3, .map (some b67)] 96 (0, 0))] ++ (G79), [(b97, .cells #[.bool x95.done, .string (bs x95.reply)] 93 (0, 0))], [(p0, .cells #[.int .i64 a0.config.Clients, .int .i64 a0.config.Entries, .int .i64 a0.config.Bytes, .int .i64 a0.config.Reserve, .map (some b5), .int .i64 (subs ((outM x51.calls a3).map fun _ => (1 : Int)) a0.entries), .int .i64 (subs ((outM x51.calls a3).map fun x => szE a0.config.Reserve x.2) a0.bytes)] 89 (0, 0))], [(b10, .cells #[.int .i64 a1.Address, .int .i64 a1.Instance] 34 (0, 0))]] at S125
                        have S126 := S125.front 1 rfl
                        change St _ _ _ [[(p54, .cells #[.int .i64 a3, .map (some b67)] 96 (0, 0))] ++ (G79), G56, [(b97, .cells #[.bool x95.done, .string (bs x95.reply)] 93 (0, 0))], [(p0, .cells #[.int .i64 a0.config.Clients, .int .i64 a0.config.Entries, .int .i64 a0.config.Bytes, .int .i64 a0.config.Reserve, .map (some b5), .int .i64 (subs ((outM x51.calls a3).map fun _ => (1 : Int)) a0.entries), .int .i64 (subs ((outM x51.calls a3).map fun x => szE a0.config.Reserve x.2) a0.bytes)] 89 (0, 0))], [(b10, .cells #[.int .i64 a1.Address, .int .i64 a1.Instance] 34 (0, 0))]] at S126
                        obtain ⟨G127, hO128, S129⟩ := St.unfocus S126 hF58 hO123
                        change St _ _ _ [G127, [(b97, .cells #[.bool x95.done, .string (bs x95.reply)] 93 (0, 0))], [(p0, .cells #[.int .i64 a0.config.Clients, .int .i64 a0.config.Entries, .int .i64 a0.config.Bytes, .int .i64 a0.config.Reserve, .map (some b5), .int .i64 (subs ((outM x51.calls a3).map fun _ => (1 : Int)) a0.entries), .int .i64 (subs ((outM x51.calls a3).map fun x => szE a0.config.Reserve x.2) a0.bytes)] 89 (0, 0))], [(b10, .cells #[.int .i64 a1.Address, .int .i64 a1.Instance] 34 (0, 0))]] at S129
                        have S130 := S129.front 2 rfl
                        change St _ _ _ [[(p0, .cells #[.int .i64 a0.config.Clients, .int .i64 a0.config.Entries, .int .i64 a0.config.Bytes, .int .i64 a0.config.Reserve, .map (some b5), .int .i64 (subs ((outM x51.calls a3).map fun _ => (1 : Int)) a0.entries), .int .i64 (subs ((outM x51.calls a3).map fun x => szE a0.config.Reserve x.2) a0.bytes)] 89 (0, 0))], G127, [(b97, .cells #[.bool x95.done, .string (bs x95.reply)] 93 (0, 0))], [(b10, .cells #[.int .i64 a1.Address, .int .i64 a1.Instance] 34 (0, 0))]] at S130
                        have hO131 : ObjO 89 Cache.rp p0 (⟨a0.config, (mput a0.clients a1 (⟨a3, (keepM x51.calls a3)⟩ : Known)), subs ((outM x51.calls a3).map fun _ => (1 : Int)) a0.entries, subs ((outM x51.calls a3).map fun x => szE a0.config.Reserve x.2) a0.bytes⟩ : Cache) ([(p0, .cells #[.int .i64 a0.config.Clients, .int .i64 a0.config.Entries, .int .i64 a0.config.Bytes, .int .i64 a0.config.Reserve, .map (some b5), .int .i64 (subs ((outM x51.calls a3).map fun _ => (1 : Int)) a0.entries), .int .i64 (subs ((outM x51.calls a3).map fun x => szE a0.config.Reserve x.2) a0.bytes)] 89 (0, 0))] ++ (G127)) := ⟨_, _, ⟨b5, G127, rfl, hO128, rfl⟩, rfl⟩
                        have S132 : St _ _ _ [[(p0, .cells #[.int .i64 a0.config.Clients, .int .i64 a0.config.Entries, .int .i64 a0.config.Bytes, .int .i64 a0.config.Reserve, .map (some b5), .int .i64 (subs ((outM x51.calls a3).map fun _ => (1 : Int)) a0.entries), .int .i64 (subs ((outM x51.calls a3).map fun x => szE a0.config.Reserve x.2) a0.bytes)] 89 (0, 0))] ++ (G127), [(b97, .cells #[.bool x95.done, .string (bs x95.reply)] 93 (0, 0))], [(b10, .cells #[.int .i64 a1.Address, .int .i64 a1.Instance] 34 (0, 0))]] := S130.objs (by simp)
                        exact ⟨[(p0, .cells #[.int .i64 a0.config.Clients, .int .i64 a0.config.Entries, .int .i64 a0.config.Bytes, .int .i64 a0.config.Reserve, .map (some b5), .int .i64 (subs ((outM x51.calls a3).map fun _ => (1 : Int)) a0.entries), .int .i64 (subs ((outM x51.calls a3).map fun x => szE a0.config.Reserve x.2) a0.bytes)] 89 (0, 0))] ++ (G127), rfl, hO131, St.keep (As := [[(p0, .cells #[.int .i64 a0.config.Clients, .int .i64 a0.config.Entries, .int .i64 a0.config.Bytes, .int .i64 a0.config.Reserve, .map (some b5), .int .i64 (subs ((outM x51.calls a3).map fun _ => (1 : Int)) a0.entries), .int .i64 (subs ((outM x51.calls a3).map fun x => szE a0.config.Reserve x.2) a0.bytes)] 89 (0, 0))] ++ (G127)]) S132⟩
                    ·
                      have hn133 := Option.not_isSome_iff_eq_none.1 h94
                      refine WOps.r (G.mapget0 T.key94 Try.underlying94 T.zero93 (MapO.rd hM80 (fun b o hb => S78.grp 2 rfl hb)) rfl rfl hn133) rfl ?_
                      refine WOps.p (G.move rfl) rfl ?_
                      refine WOps.p (G.extract rfl rfl) rfl ?_
                      refine WOps.p (G.extract rfl rfl) rfl ?_
                      obtain ⟨b134, w135, E136, S137, X138, L139⟩ := St.var S78 (z := .agg #[.bool false, .string (bs ([] : List UInt8))]) T.zero93
                      change St _ _ _ [[(b134, .cells #[.bool false, .string (bs ([] : List UInt8))] 93 (0, 0))], [(p0, .cells #[.int .i64 a0.config.Clients, .int .i64 a0.config.Entries, .int .i64 a0.config.Bytes, .int .i64 a0.config.Reserve, .map (some b5), .int .i64 (subs ((outM x51.calls a3).map fun _ => (1 : Int)) a0.entries), .int .i64 (subs ((outM x51.calls a3).map fun x => szE a0.config.Reserve x.2) a0.bytes)] 89 (0, 0))], [(p54, .cells #[.int .i64 a3, .map (some b67)] 96 (0, 0))], G79, G56, [(b10, .cells #[.int .i64 a1.Address, .int .i64 a1.Instance] 34 (0, 0))]] at S137
                      refine WOps.e E136 rfl ?_
                      obtain ⟨w140, E141, S142⟩ := St.store (P := Try.prog) S137 0 93 (.agg #[.bool false, .string (bs ([] : List UInt8))]) (off := 0) (cur' := #[.bool false, .string (bs ([] : List UInt8))]) rfl T.size93_2 rfl rfl rfl
                      change St _ _ _ [[(b134, .cells #[.bool false, .string (bs ([] : List UInt8))] 93 (0, 0))], [(p0, .cells #[.int .i64 a0.config.Clients, .int .i64 a0.config.Entries, .int .i64 a0.config.Bytes, .int .i64 a0.config.Reserve, .map (some b5), .int .i64 (subs ((outM x51.calls a3).map fun _ => (1 : Int)) a0.entries), .int .i64 (subs ((outM x51.calls a3).map fun x => szE a0.config.Reserve x.2) a0.bytes)] 89 (0, 0))], [(p54, .cells #[.int .i64 a3, .map (some b67)] 96 (0, 0))], G79, G56, [(b10, .cells #[.int .i64 a1.Address, .int .i64 a1.Instance] 34 (0, 0))]] at S142
                      refine WOps.u (E141 rfl rfl) ?_
                      refine WOps.p (G.assign rfl) rfl ?_
                      refine WOps.nil ?_
                      refine WEx.then_ ?_
                      refine WCode.forget (l' := [(0, .pointer (some ⟨p0, 0, none⟩)), (2, .int .i64 a2), (3, .int .i64 a3), (5, .pointer (some ⟨b10, 0, none⟩)), (10, .pointer (some ⟨p54, 0, none⟩)), (11, .bool true), (12, .pointer (some ⟨b134, 0, none⟩)), (13, .bool false)]) ⟨rfl, rfl, rfl, rfl, rfl, rfl, rfl, rfl, trivial⟩ ?_
                      refine WCode.seq ?_
                      refine WCode.region ?_
                      refine WOps.p (G.move rfl) rfl ?_
                      refine WOps.p (G.move rfl) rfl ?_
                      refine WOps.off rfl rfl rfl rfl ?_
                      refine WOps.off rfl rfl rfl rfl ?_
                      refine WOps.p (G.pick_f rfl rfl) rfl ?_
                      refine WOps.nil ?_
                      refine WEx.then_ ?_
                      refine WCode.cond_f rfl ?_
                      refine WCode.seq ?_
                      refine WCode.region ?_
                      refine WOps.p (G.move rfl) rfl ?_
                      refine WOps.nil ?_
                      refine WEx.then_ ?_
                      refine WCode.cond_f rfl ?_
                      refine WCode.skip ?_
                      refine WEx.then_ ?_
                      refine WCode.seq ?_
                      refine WCode.seq ?_
                      refine WCode.drawH (.one 0 0 (.one 1 0 (.one 2 0 (.one 4 0 (.one 5 0 (.one 6 0 (.one 7 0 (.one 10 0 (.one 11 0 (.one 12 0 (.one 13 0 (.one 3 1 (.one 8 1 (.one 9 0 (.one 14 1 (.one 15 0 (.one 16 0 (.one 17 0 (.one 18 0 (.one 19 0 (.one 20 0 (.one 21 0 (.one 24 0 (.one 25 0 (.one 26 0 (.one 27 0 (.one 22 1 (.one 28 1 (.one 23 2 (.one 29 0 (.one 30 0 (.one 31 0 (.one 32 0 (.one 33 0 (.one 34 0 (.one 35 0 (.one 36 0 (.one 37 0 (.one 38 0 (.one 41 0 (.one 42 0 (.one 43 0 (.one 44 0 (.one 39 1 (.one 45 1 (.one 40 2 (.one 46 0 (.one 47 0 (.one 48 0 .nil))))))))))))))))))))))))))))))))))))))))))))))))) (fun W_ => cellsAt W_ p0 0 [.int .i64 a0.config.Clients, .int .i64 a0.config.Entries, .int .i64 a0.config.Bytes, .int .i64 a0.config.Reserve, .map (some b5), .int .i64 (subs ((outM x51.calls a3).map fun _ => (1 : Int)) a0.entries), .int .i64 (subs ((outM x51.calls a3).map fun x => szE a0.config.Reserve x.2) a0.bytes)] ∧ cellsAt W_ p54 0 [.int .i64 a3, .map (some b67)] ∧ True) T.mixed (by kernel_rfl) (by intro _ _ d _ _ h; cases d <;> exact h) rfl rfl (by kernel_rfl) ?_ ?_
                      all_goals have S143 := S142.drew
                      all_goals generalize w140.drew = w144 at *
                      · exact ⟨cellsAt.of_blk (S143.blk 1 rfl) rfl, cellsAt.of_blk (S143.blk 2 rfl) rfl, trivial⟩
                      refine WH.p rfl wants (G.move rfl) rfl ?_
                      refine WH.p rfl wants (G.nilp rfl) rfl ?_
                      refine WH.p rfl wants (G.field T.fld89_3 rfl (show 0 + 6 = 6 from rfl)) rfl ?_
                      refine WH.p rfl wants (G.move rfl) rfl ?_
                      refine WH.p rfl wants (G.nilp rfl) rfl ?_
                      refine WH.p rfl wants (G.field T.fld89_0 rfl (show 0 + 0 = 0 from rfl)) rfl ?_
                      refine WH.p rfl wants (G.field T.fld26_3 rfl (show 0 + 3 = 3 from rfl)) rfl ?_
                      refine WH.p rfl wants (G.move rfl) rfl ?_
                      refine WH.p rfl wants (G.nilp rfl) rfl ?_
                      refine WH.p rfl wants (G.field T.fld89_0 rfl (show 0 + 0 = 0 from rfl)) rfl ?_
                      refine WH.p rfl wants (G.field T.fld26_2 rfl (show 0 + 2 = 2 from rfl)) rfl ?_
                      refine WH.r rfl wants (fun _ h_ => G.load1 T.one3 rfl (cellsAt.at h_.1 6 rfl)) rfl ?_
                      refine WH.r rfl wants (fun _ h_ => G.load1 T.one3 rfl (cellsAt.at h_.1 3 rfl)) rfl ?_
                      refine WH.p rfl wants (G.add rfl rfl (r := (w64 ((subs ((outM x51.calls a3).map fun x => szE a0.config.Reserve x.2) a0.bytes) + a0.config.Reserve))) rfl) rfl ?_
                      refine WH.r rfl wants (fun _ h_ => G.load1 T.one3 rfl (cellsAt.at h_.1 2 rfl)) rfl ?_
                      refine WH.p rfl wants (G.gtr rfl rfl rfl) rfl ?_
                      refine WH.p rfl wants (G.move rfl) rfl ?_
                      rcases ite_some hF with ⟨h145, hF⟩ | ⟨h145, hF⟩
                      ·
                        refine WH.off rfl rfl (kbl (b := decide (a0.config.Bytes < (w64 ((subs ((outM x51.calls a3).map fun x => szE a0.config.Reserve x.2) a0.bytes) + a0.config.Reserve)))) rfl (decide_eq_true h145)) rfl rfl rfl ?_
                        refine WH.off rfl rfl (kbl (b := decide (a0.config.Bytes < (w64 ((subs ((outM x51.calls a3).map fun x => szE a0.config.Reserve x.2) a0.bytes) + a0.config.Reserve)))) rfl (decide_eq_true h145)) rfl rfl rfl ?_
                        refine WH.off rfl rfl rfl rfl rfl rfl ?_
                        refine WH.off rfl rfl rfl rfl rfl rfl ?_
                        refine WH.off rfl rfl rfl rfl rfl rfl ?_
                        refine WH.off rfl rfl rfl rfl rfl rfl ?_
                        refine WH.off rfl rfl rfl rfl rfl rfl ?_
                        refine WH.off rfl rfl rfl rfl rfl rfl ?_
                        refine WH.off rfl rfl rfl rfl rfl rfl ?_
                        refine WH.off rfl rfl rfl rfl rfl rfl ?_
                        refine WH.off rfl rfl rfl rfl rfl rfl ?_
                        refine WH.off2 rfl rfl rfl rfl rfl ⟨cellsAt.of_blk (S143.blk 1 rfl) rfl, cellsAt.of_blk (S143.blk 2 rfl) rfl, trivial⟩ ?_
                        refine WH.off rfl rfl rfl rfl rfl rfl ?_
                        refine WH.off rfl rfl (kbl (b := decide (a0.config.Bytes < (w64 ((subs ((outM x51.calls a3).map fun x => szE a0.config.Reserve x.2) a0.bytes) + a0.config.Reserve)))) rfl (decide_eq_true h145)) rfl rfl rfl ?_
                        refine WH.p rfl wants (G.pick_t (kb (b := decide (a0.config.Bytes < (w64 ((subs ((outM x51.calls a3).map fun x => szE a0.config.Reserve x.2) a0.bytes) + a0.config.Reserve)))) rfl (decide_eq_true h145)) rfl) rfl ?_
                        refine WH.p rfl wants (G.move rfl) rfl ?_
                        refine WH.off rfl rfl rfl rfl rfl rfl ?_
                        refine WH.off rfl rfl rfl rfl rfl rfl ?_
                        refine WH.off rfl rfl rfl rfl rfl rfl ?_
                        refine WH.off rfl rfl rfl rfl rfl rfl ?_
                        refine WH.off rfl rfl rfl rfl rfl rfl ?_
                        refine WH.off rfl rfl rfl rfl rfl rfl ?_
                        refine WH.off rfl rfl rfl rfl rfl rfl ?_
                        refine WH.off rfl rfl rfl rfl rfl rfl ?_
                        refine WH.off rfl rfl rfl rfl rfl rfl ?_
                        refine WH.off rfl rfl rfl rfl rfl rfl ?_
                        refine WH.off rfl rfl rfl rfl rfl rfl ?_
                        refine WH.off rfl rfl rfl rfl rfl rfl ?_
                        refine WH.off2 rfl rfl rfl rfl rfl ⟨cellsAt.of_blk (S143.blk 1 rfl) rfl, cellsAt.of_blk (S143.blk 2 rfl) rfl, trivial⟩ ?_
                        refine WH.off rfl rfl rfl rfl rfl rfl ?_
                        refine WH.off rfl rfl rfl rfl rfl rfl ?_
                        refine WH.p rfl wants (G.pick_t rfl rfl) rfl ?_
                        refine WH.nil ?_
                        refine WEx.then_ ?_
                        refine WCode.forget (l' := [(0, .pointer (some ⟨p0, 0, none⟩)), (2, .int .i64 a2), (3, .int .i64 a3), (5, .pointer (some ⟨b10, 0, none⟩)), (10, .pointer (some ⟨p54, 0, none⟩)), (11, .bool true), (138, .bool true)]) ⟨rfl, rfl, rfl, rfl, rfl, rfl, rfl, trivial⟩ ?_
                        refine WCode.cond_t rfl ?_
                        refine WCode.seq ?_
                        refine WCode.region ?_
                        refine WOps.p (G.assign rfl) rfl ?_
                        refine WOps.p (G.assign rfl) rfl ?_
                        refine WOps.nil ?_
                        refine WEx.then_ ?_
                        refine WCode.ret ?_
                        refine WEx.then_ret ?_
                        obtain rfl := some_eq hF
                        refine WEx.ret2 rfl rfl rfl ?_
                        have S146 := S143.front 3 rfl
                        change St _ _ _ [G79, [(b134, .cells #[.bool false, .string (bs ([] : List UInt8))] 93 (0, 0))], [(p0, .cells #[.int .i64 a0.config.Clients, .int .i64 a0.config.Entries, .int .i64 a0.config.Bytes, .int .i64 a0.config.Reserve, .map (some b5), .int .i64 (subs ((outM x51.calls a3).map fun _ => (1 : Int)) a0.entries), .int .i64 (subs ((outM x51.calls a3).map fun x => szE a0.config.Reserve x.2) a0.bytes)] 89 (0, 0))], [(p54, .cells #[.int .i64 a3, .map (some b67)] 96 (0, 0))], G56, [(b10, .cells #[.int .i64 a1.Address, .int .i64 a1.Instance] 34 (0, 0))]] at S146
                        have S147 := S146.front 3 rfl
                        change St _ _ _ [[(p54, .cells #[.int .i64 a3, .map (some b67)] 96 (0, 0))], G79, [(b134, .cells #[.bool false, .string (bs ([] : List UInt8))] 93 (0, 0))], [(p0, .cells #[.int .i64 a0.config.Clients, .int .i64 a0.config.Entries, .int .i64 a0.config.Bytes, .int .i64 a0.config.Reserve, .map (some b5), .int .i64 (subs ((outM x51.calls a3).map fun _ => (1 : Int)) a0.entries), .int .i64 (subs ((outM x51.calls a3).map fun x => szE a0.config.Reserve x.2) a0.bytes)] 89 (0, 0))], G56, [(b10, .cells #[.int .i64 a1.Address, .int .i64 a1.Instance] 34 (0, 0))]] at S147
                        have hO148 : ObjO 96 Known.rp p54 (⟨a3, (keepM x51.calls a3)⟩ : Known) ([(p54, .cells #[.int .i64 a3, .map (some b67)] 96 (0, 0))] ++ (G79)) := ⟨_, _, ⟨b67, G79, rfl, hM80, rfl⟩, rfl⟩
                        have S149 : St _ _ _ [[(p54, .cells #[.int .i64 a3, .map (some b67)] 96 (0, 0))] ++ (G79), [(b134, .cells #[.bool false, .string (bs ([] : List UInt8))] 93 (0, 0))], [(p0, .cells #[.int .i64 a0.config.Clients, .int .i64 a0.config.Entries, .int .i64 a0.config.Bytes, .int .i64 a0.config.Reserve, .map (some b5), .int .i64 (subs ((outM x51.calls a3).map fun _ => (1 : Int)) a0.entries), .int .i64 (subs ((outM x51.calls a3).map fun x => szE a0.config.Reserve x.2) a0.bytes)] 89 (0, 0))], G56, [(b10, .cells #[.int .i64 a1.Address, .int .i64 a1.Instance] 34 (0, 0))]] := S147.objs (by simp)
                        have S150 := S149.front 3 rfl
                        change St _ _ _ [G56, [(p54, .cells #[.int .i64 a3, .map (some b67)] 96 (0, 0))] ++ (G79), [(b134, .cells #[.bool false, .string (bs ([] : List UInt8))] 93 (0, 0))], [(p0, .cells #[.int .i64 a0.config.Clients, .int .i64 a0.config.Entries, .int .i64 a0.config.Bytes, .int .i64 a0.config.Reserve, .map (some b5), .int .i64 (subs ((outM x51.calls a3).map fun _ => (1 : Int)) a0.entries), .int .i64 (subs ((outM x51.calls a3).map fun x => szE a0.config.Reserve x.2) a0.bytes)] 89 (0, 0))], [(b10, .cells #[.int .i64 a1.Address, .int .i64 a1.Instance] 34 (0, 0))]] at S150
                        have S151 := S150.front 1 rfl
                        change St _ _ _ [[(p54, .cells #[.int .i64 a3, .map (some b67)] 96 (0, 0))] ++ (G79), G56, [(b134, .cells #[.bool false, .string (bs ([] : List UInt8))] 93 (0, 0))], [(p0, .cells #[.int .i64 a0.config.Clients, .int .i64 a0.config.Entries, .int .i64 a0.config.Bytes, .int .i64 a0.config.Reserve, .map (some b5), .int .i64 (subs ((outM x51.calls a3).map fun _ => (1 : Int)) a0.entries), .int .i64 (subs ((outM x51.calls a3).map fun x => szE a0.config.Reserve x.2) a0.bytes)] 89 (0, 0))], [(b10, .cells #[.int .i64 a1.Address, .int .i64 a1.Instance] 34 (0, 0))]] at S151
                        obtain ⟨G152, hO153, S154⟩ := St.unfocus S151 hF58 hO148
                        change St _ _ _ [G152, [(b134, .cells #[.bool false, .string (bs ([] : List UInt8))] 93 (0, 0))], [(p0, .cells #[.int .i64 a0.config.Clients, .int .i64 a0.config.Entries, .int .i64 a0.config.Bytes, .int .i64 a0.config.Reserve, .map (some b5), .int .i64 (subs ((outM x51.calls a3).map fun _ => (1 : Int)) a0.entries), .int .i64 (subs ((outM x51.calls a3).map fun x => szE a0.config.Reserve x.2) a0.bytes)] 89 (0, 0))], [(b10, .cells #[.int .i64 a1.Address, .int .i64 a1.Instance] 34 (0, 0))]] at S154
                        have S155 := S154.front 2 rfl
                        change St _ _ _ [[(p0, .cells #[.int .i64 a0.config.Clients, .int .i64 a0.config.Entries, .int .i64 a0.config.Bytes, .int .i64 a0.config.Reserve, .map (some b5), .int .i64 (subs ((outM x51.calls a3).map fun _ => (1 : Int)) a0.entries), .int .i64 (subs ((outM x51.calls a3).map fun x => szE a0.config.Reserve x.2) a0.bytes)] 89 (0, 0))], G152, [(b134, .cells #[.bool false, .string (bs ([] : List UInt8))] 93 (0, 0))], [(b10, .cells #[.int .i64 a1.Address, .int .i64 a1.Instance] 34 (0, 0))]] at S155
                        have hO156 : ObjO 89 Cache.rp p0 (⟨a0.config, (mput a0.clients a1 (⟨a3, (keepM x51.calls a3)⟩ : Known)), subs ((outM x51.calls a3).map fun _ => (1 : Int)) a0.entries, subs ((outM x51.calls a3).map fun x => szE a0.config.Reserve x.2) a0.bytes⟩ : Cache) ([(p0, .cells #[.int .i64 a0.config.Clients, .int .i64 a0.config.Entries, .int .i64 a0.config.Bytes, .int .i64 a0.config.Reserve, .map (some b5), .int .i64 (subs ((outM x51.calls a3).map fun _ => (1 : Int)) a0.entries), .int .i64 (subs ((outM x51.calls a3).map fun x => szE a0.config.Reserve x.2) a0.bytes)] 89 (0, 0))] ++ (G152)) := ⟨_, _, ⟨b5, G152, rfl, hO153, rfl⟩, rfl⟩
                        have S157 : St _ _ _ [[(p0, .cells #[.int .i64 a0.config.Clients, .int .i64 a0.config.Entries, .int .i64 a0.config.Bytes, .int .i64 a0.config.Reserve, .map (some b5), .int .i64 (subs ((outM x51.calls a3).map fun _ => (1 : Int)) a0.entries), .int .i64 (subs ((outM x51.calls a3).map fun x => szE a0.config.Reserve x.2) a0.bytes)] 89 (0, 0))] ++ (G152), [(b134, .cells #[.bool false, .string (bs ([] : List UInt8))] 93 (0, 0))], [(b10, .cells #[.int .i64 a1.Address, .int .i64 a1.Instance] 34 (0, 0))]] := S155.objs (by simp)
                        exact ⟨[(p0, .cells #[.int .i64 a0.config.Clients, .int .i64 a0.config.Entries, .int .i64 a0.config.Bytes, .int .i64 a0.config.Reserve, .map (some b5), .int .i64 (subs ((outM x51.calls a3).map fun _ => (1 : Int)) a0.entries), .int .i64 (subs ((outM x51.calls a3).map fun x => szE a0.config.Reserve x.2) a0.bytes)] 89 (0, 0))] ++ (G152), rfl, hO156, St.keep (As := [[(p0, .cells #[.int .i64 a0.config.Clients, .int .i64 a0.config.Entries, .int .i64 a0.config.Bytes, .int .i64 a0.config.Reserve, .map (some b5), .int .i64 (subs ((outM x51.calls a3).map fun _ => (1 : Int)) a0.entries), .int .i64 (subs ((outM x51.calls a3).map fun x => szE a0.config.Reserve x.2) a0.bytes)] 89 (0, 0))] ++ (G152)]) S157⟩
                      ·
                        refine WH.p rfl (wants_on rfl (kbl (b := decide (a0.config.Bytes < (w64 ((subs ((outM x51.calls a3).map fun x => szE a0.config.Reserve x.2) a0.bytes) + a0.config.Reserve)))) rfl (decide_eq_false h145))) (G.move rfl) rfl ?_
                        refine WH.p rfl (wants_on rfl (kbl (b := decide (a0.config.Bytes < (w64 ((subs ((outM x51.calls a3).map fun x => szE a0.config.Reserve x.2) a0.bytes) + a0.config.Reserve)))) rfl (decide_eq_false h145))) (G.move rfl) rfl ?_
                        refine WH.p rfl (wants_on rfl rfl) (G.move rfl) rfl ?_
                        refine WH.p rfl (wants_on rfl rfl) (G.nilp rfl) rfl ?_
                        refine WH.p rfl (wants_on rfl rfl) (G.field T.fld96_1 rfl (show 0 + 1 = 1 from rfl)) rfl ?_
                        refine WH.p rfl (wants_on rfl rfl) (G.move rfl) rfl ?_
                        refine WH.p rfl (wants_on rfl rfl) (G.nilp rfl) rfl ?_
                        refine WH.p rfl (wants_on rfl rfl) (G.field T.fld89_0 rfl (show 0 + 0 = 0 from rfl)) rfl ?_
                        refine WH.p rfl (wants_on rfl rfl) (G.field T.fld26_1 rfl (show 0 + 1 = 1 from rfl)) rfl ?_
                        refine WH.r rfl (wants_on rfl rfl) (fun _ h_ => G.load1 T.one94 rfl (cellsAt.at h_.2.1 1 rfl)) rfl ?_
                        refine WH.r rfl (wants_on rfl rfl) (fun _ h_ => G.load1 T.one3 rfl (cellsAt.at h_.1 1 rfl)) rfl ?_
                        refine WH.e rfl (wants_on rfl rfl) (GR.e (G.maplen Try.underlying94 (MapO.rd hM80 (fun b o hb => S143.grp 3 rfl hb)) rfl)) rfl ⟨cellsAt.of_blk (S143.blk 1 rfl) rfl, cellsAt.of_blk (S143.blk 2 rfl) rfl, trivial⟩ ?_
                        refine WH.p rfl (wants_on rfl rfl) (G.geq rfl rfl rfl) rfl ?_
                        refine WH.p rfl (wants_on rfl (kbl (b := decide (a0.config.Bytes < (w64 ((subs ((outM x51.calls a3).map fun x => szE a0.config.Reserve x.2) a0.bytes) + a0.config.Reserve)))) rfl (decide_eq_false h145))) (G.pick_t rfl rfl) rfl ?_
                        refine WH.p rfl wants (G.pick_f (kb (b := decide (a0.config.Bytes < (w64 ((subs ((outM x51.calls a3).map fun x => szE a0.config.Reserve x.2) a0.bytes) + a0.config.Reserve)))) rfl (decide_eq_false h145)) rfl) rfl ?_
                        refine WH.p rfl wants (G.move rfl) rfl ?_
                        rcases ite_some hF with ⟨h158, hF⟩ | ⟨h158, hF⟩
                        ·
                          refine WH.off rfl rfl (kbl (b := decide (a0.config.Entries ≤ ((keepM x51.calls a3).length : Int))) rfl (decide_eq_true h158)) rfl rfl rfl ?_
                          refine WH.off rfl rfl (kbl (b := decide (a0.config.Entries ≤ ((keepM x51.calls a3).length : Int))) rfl (decide_eq_true h158)) rfl rfl rfl ?_
                          refine WH.off rfl rfl (kbl (b := decide (a0.config.Entries ≤ ((keepM x51.calls a3).length : Int))) rfl (decide_eq_true h158)) rfl rfl rfl ?_
                          refine WH.off rfl rfl rfl rfl rfl rfl ?_
                          refine WH.off rfl rfl rfl rfl rfl rfl ?_
                          refine WH.off rfl rfl rfl rfl rfl rfl ?_
                          refine WH.off rfl rfl rfl rfl rfl rfl ?_
                          refine WH.off rfl rfl rfl rfl rfl rfl ?_
                          refine WH.off rfl rfl rfl rfl rfl rfl ?_
                          refine WH.off rfl rfl rfl rfl rfl rfl ?_
                          refine WH.off rfl rfl rfl rfl rfl rfl ?_
                          refine WH.off rfl rfl rfl rfl rfl rfl ?_
                          refine WH.off2 rfl rfl rfl rfl rfl ⟨cellsAt.of_blk (S143.blk 1 rfl) rfl, cellsAt.of_blk (S143.blk 2 rfl) rfl, trivial⟩ ?_
                          refine WH.off rfl rfl rfl rfl rfl rfl ?_
                          refine WH.off rfl rfl (kbl (b := decide (a0.config.Entries ≤ ((keepM x51.calls a3).length : Int))) rfl (decide_eq_true h158)) rfl rfl rfl ?_
                          refine WH.p rfl wants (G.pick_t (kb (b := decide (a0.config.Entries ≤ ((keepM x51.calls a3).length : Int))) rfl (decide_eq_true h158)) rfl) rfl ?_
                          refine WH.nil ?_
                          refine WEx.then_ ?_
                          refine WCode.forget (l' := [(0, .pointer (some ⟨p0, 0, none⟩)), (2, .int .i64 a2), (3, .int .i64 a3), (5, .pointer (some ⟨b10, 0, none⟩)), (10, .pointer (some ⟨p54, 0, none⟩)), (11, .bool true), (138, .bool true)]) ⟨rfl, rfl, rfl, rfl, rfl, rfl, rfl, trivial⟩ ?_
                          refine WCode.cond_t rfl ?_
                          refine WCode.seq ?_
                          refine WCode.region ?_
                          refine WOps.p (G.assign rfl) rfl ?_
                          refine WOps.p (G.assign rfl) rfl ?_
                          refine WOps.nil ?_
                          refine WEx.then_ ?_
                          refine WCode.ret ?_
                          refine WEx.then_ret ?_
                          obtain rfl := some_eq hF
                          refine WEx.ret2 rfl rfl rfl ?_
                          have S159 := S143.front 3 rfl
                          change St _ _ _ [G79, [(b134, .cells #[.bool false, .string (bs ([] : List UInt8))] 93 (0, 0))], [(p0, .cells #[.int .i64 a0.config.Clients, .int .i64 a0.config.Entries, .int .i64 a0.config.Bytes, .int .i64 a0.config.Reserve, .map (some b5), .int .i64 (subs ((outM x51.calls a3).map fun _ => (1 : Int)) a0.entries), .int .i64 (subs ((outM x51.calls a3).map fun x => szE a0.config.Reserve x.2) a0.bytes)] 89 (0, 0))], [(p54, .cells #[.int .i64 a3, .map (some b67)] 96 (0, 0))], G56, [(b10, .cells #[.int .i64 a1.Address, .int .i64 a1.Instance] 34 (0, 0))]] at S159
                          have S160 := S159.front 3 rfl
                          change St _ _ _ [[(p54, .cells #[.int .i64 a3, .map (some b67)] 96 (0, 0))], G79, [(b134, .cells #[.bool false, .string (bs ([] : List UInt8))] 93 (0, 0))], [(p0, .cells #[.int .i64 a0.config.Clients, .int .i64 a0.config.Entries, .int .i64 a0.config.Bytes, .int .i64 a0.config.Reserve, .map (some b5), .int .i64 (subs ((outM x51.calls a3).map fun _ => (1 : Int)) a0.entries), .int .i64 (subs ((outM x51.calls a3).map fun x => szE a0.config.Reserve x.2) a0.bytes)] 89 (0, 0))], G56, [(b10, .cells #[.int .i64 a1.Address, .int .i64 a1.Instance] 34 (0, 0))]] at S160
                          have hO161 : ObjO 96 Known.rp p54 (⟨a3, (keepM x51.calls a3)⟩ : Known) ([(p54, .cells #[.int .i64 a3, .map (some b67)] 96 (0, 0))] ++ (G79)) := ⟨_, _, ⟨b67, G79, rfl, hM80, rfl⟩, rfl⟩
                          have S162 : St _ _ _ [[(p54, .cells #[.int .i64 a3, .map (some b67)] 96 (0, 0))] ++ (G79), [(b134, .cells #[.bool false, .string (bs ([] : List UInt8))] 93 (0, 0))], [(p0, .cells #[.int .i64 a0.config.Clients, .int .i64 a0.config.Entries, .int .i64 a0.config.Bytes, .int .i64 a0.config.Reserve, .map (some b5), .int .i64 (subs ((outM x51.calls a3).map fun _ => (1 : Int)) a0.entries), .int .i64 (subs ((outM x51.calls a3).map fun x => szE a0.config.Reserve x.2) a0.bytes)] 89 (0, 0))], G56, [(b10, .cells #[.int .i64 a1.Address, .int .i64 a1.Instance] 34 (0, 0))]] := S160.objs (by simp)
                          have S163 := S162.front 3 rfl
                          change St _ _ _ [G56, [(p54, .cells #[.int .i64 a3, .map (some b67)] 96 (0, 0))] ++ (G79), [(b134, .cells #[.bool false, .string (bs ([] : List UInt8))] 93 (0, 0))], [(p0, .cells #[.int .i64 a0.config.Clients, .int .i64 a0.config.Entries, .int .i64 a0.config.Bytes, .int .i64 a0.config.Reserve, .map (some b5), .int .i64 (subs ((outM x51.calls a3).map fun _ => (1 : Int)) a0.entries), .int .i64 (subs ((outM x51.calls a3).map fun x => szE a0.config.Reserve x.2) a0.bytes)] 89 (0, 0))], [(b10, .cells #[.int .i64 a1.Address, .int .i64 a1.Instance] 34 (0, 0))]] at S163
                          have S164 := S163.front 1 rfl
                          change St _ _ _ [[(p54, .cells #[.int .i64 a3, .map (some b67)] 96 (0, 0))] ++ (G79), G56, [(b134, .cells #[.bool false, .string (bs ([] : List UInt8))] 93 (0, 0))], [(p0, .cells #[.int .i64 a0.config.Clients, .int .i64 a0.config.Entries, .int .i64 a0.config.Bytes, .int .i64 a0.config.Reserve, .map (some b5), .int .i64 (subs ((outM x51.calls a3).map fun _ => (1 : Int)) a0.entries), .int .i64 (subs ((outM x51.calls a3).map fun x => szE a0.config.Reserve x.2) a0.bytes)] 89 (0, 0))], [(b10, .cells #[.int .i64 a1.Address, .int .i64 a1.Instance] 34 (0, 0))]] at S164
                          obtain ⟨G165, hO166, S167⟩ := St.unfocus S164 hF58 hO161
                          change St _ _ _ [G165, [(b134, .cells #[.bool false, .string (bs ([] : List UInt8))] 93 (0, 0))], [(p0, .cells #[.int .i64 a0.config.Clients, .int .i64 a0.config.Entries, .int .i64 a0.config.Bytes, .int .i64 a0.config.Reserve, .map (some b5), .int .i64 (subs ((outM x51.calls a3).map fun _ => (1 : Int)) a0.entries), .int .i64 (subs ((outM x51.calls a3).map fun x => szE a0.config.Reserve x.2) a0.bytes)] 89 (0, 0))], [(b10, .cells #[.int .i64 a1.Address, .int .i64 a1.Instance] 34 (0, 0))]] at S167
                          have S168 := S167.front 2 rfl
                          change St _ _ _ [[(p0, .cells #[.int .i64 a0.config.Clients, .int .i64 a0.config.Entries, .int .i64 a0.config.Bytes, .int .i64 a0.config.Reserve, .map (some b5), .int .i64 (subs ((outM x51.calls a3).map fun _ => (1 : Int)) a0.entries), .int .i64 (subs ((outM x51.calls a3).map fun x => szE a0.config.Reserve x.2) a0.bytes)] 89 (0, 0))], G165, [(b134, .cells #[.bool false, .string (bs ([] : List UInt8))] 93 (0, 0))], [(b10, .cells #[.int .i64 a1.Address, .int .i64 a1.Instance] 34 (0, 0))]] at S168
                          have hO169 : ObjO 89 Cache.rp p0 (⟨a0.config, (mput a0.clients a1 (⟨a3, (keepM x51.calls a3)⟩ : Known)), subs ((outM x51.calls a3).map fun _ => (1 : Int)) a0.entries, subs ((outM x51.calls a3).map fun x => szE a0.config.Reserve x.2) a0.bytes⟩ : Cache) ([(p0, .cells #[.int .i64 a0.config.Clients, .int .i64 a0.config.Entries, .int .i64 a0.config.Bytes, .int .i64 a0.config.Reserve, .map (some b5), .int .i64 (subs ((outM x51.calls a3).map fun _ => (1 : Int)) a0.entries), .int .i64 (subs ((outM x51.calls a3).map fun x => szE a0.config.Reserve x.2) a0.bytes)] 89 (0, 0))] ++ (G165)) := ⟨_, _, ⟨b5, G165, rfl, hO166, rfl⟩, rfl⟩
                          have S170 : St _ _ _ [[(p0, .cells #[.int .i64 a0.config.Clients, .int .i64 a0.config.Entries, .int .i64 a0.config.Bytes, .int .i64 a0.config.Reserve, .map (some b5), .int .i64 (subs ((outM x51.calls a3).map fun _ => (1 : Int)) a0.entries), .int .i64 (subs ((outM x51.calls a3).map fun x => szE a0.config.Reserve x.2) a0.bytes)] 89 (0, 0))] ++ (G165), [(b134, .cells #[.bool false, .string (bs ([] : List UInt8))] 93 (0, 0))], [(b10, .cells #[.int .i64 a1.Address, .int .i64 a1.Instance] 34 (0, 0))]] := S168.objs (by simp)
                          exact ⟨[(p0, .cells #[.int .i64 a0.config.Clients, .int .i64 a0.config.Entries, .int .i64 a0.config.Bytes, .int .i64 a0.config.Reserve, .map (some b5), .int .i64 (subs ((outM x51.calls a3).map fun _ => (1 : Int)) a0.entries), .int .i64 (subs ((outM x51.calls a3).map fun x => szE a0.config.Reserve x.2) a0.bytes)] 89 (0, 0))] ++ (G165), rfl, hO169, St.keep (As := [[(p0, .cells #[.int .i64 a0.config.Clients, .int .i64 a0.config.Entries, .int .i64 a0.config.Bytes, .int .i64 a0.config.Reserve, .map (some b5), .int .i64 (subs ((outM x51.calls a3).map fun _ => (1 : Int)) a0.entries), .int .i64 (subs ((outM x51.calls a3).map fun x => szE a0.config.Reserve x.2) a0.bytes)] 89 (0, 0))] ++ (G165)]) S170⟩
                        ·
                          refine WH.p rfl (wants_on rfl (kbl (b := decide (a0.config.Entries ≤ ((keepM x51.calls a3).length : Int))) rfl (decide_eq_false h158))) (G.move rfl) rfl ?_
                          refine WH.p rfl (wants_on rfl (kbl (b := decide (a0.config.Entries ≤ ((keepM x51.calls a3).length : Int))) rfl (decide_eq_false h158))) (G.not rfl rfl) rfl ?_
                          refine WH.p rfl (wants_on rfl (kbl (b := decide (a0.config.Entries ≤ ((keepM x51.calls a3).length : Int))) rfl (decide_eq_false h158))) (G.move rfl) rfl ?_
                          refine WH.off rfl rfl rfl rfl rfl rfl ?_
                          refine WH.off rfl rfl rfl rfl rfl rfl ?_
                          refine WH.off rfl rfl rfl rfl rfl rfl ?_
                          refine WH.off rfl rfl rfl rfl rfl rfl ?_
                          refine WH.off rfl rfl rfl rfl rfl rfl ?_
                          refine WH.off rfl rfl rfl rfl rfl rfl ?_
                          refine WH.off rfl rfl rfl rfl rfl rfl ?_
                          refine WH.off rfl rfl rfl rfl rfl rfl ?_
                          refine WH.off rfl rfl rfl rfl rfl rfl ?_
                          refine WH.off2 rfl rfl rfl rfl rfl ⟨cellsAt.of_blk (S143.blk 1 rfl) rfl, cellsAt.of_blk (S143.blk 2 rfl) rfl, trivial⟩ ?_
                          refine WH.off rfl rfl rfl rfl rfl rfl ?_
                          refine WH.p rfl (wants_on rfl (kbl (b := decide (a0.config.Entries ≤ ((keepM x51.calls a3).length : Int))) rfl (decide_eq_false h158))) (G.pick_f rfl rfl) rfl ?_
                          refine WH.p rfl wants (G.pick_f (kb (b := decide (a0.config.Entries ≤ ((keepM x51.calls a3).length : Int))) rfl (decide_eq_false h158)) rfl) rfl ?_
                          refine WH.nil ?_
                          refine WEx.then_ ?_
                          refine WCode.forget (l' := [(0, .pointer (some ⟨p0, 0, none⟩)), (2, .int .i64 a2), (3, .int .i64 a3), (5, .pointer (some ⟨b10, 0, none⟩)), (10, .pointer (some ⟨p54, 0, none⟩)), (11, .bool true), (138, .bool false)]) ⟨rfl, rfl, rfl, rfl, rfl, rfl, rfl, trivial⟩ ?_
                          refine WCode.cond_f rfl ?_
                          refine WCode.skip ?_
                          refine WEx.then_ ?_
                          refine WCode.seq ?_
                          refine WCode.seq ?_
                          refine WCode.region ?_
                          refine WOps.p (G.move rfl) rfl ?_
                          refine WOps.p (G.not rfl rfl) rfl ?_
                          refine WOps.nil ?_
                          refine WEx.then_ ?_
                          refine WCode.cond_f rfl ?_
                          refine WCode.skip ?_
                          refine WEx.then_ ?_
                          refine WCode.seq ?_
                          refine WCode.region ?_
                          refine WOps.p (G.move rfl) rfl ?_
                          refine WOps.p (G.nilp rfl) rfl ?_
                          refine WOps.p (G.field T.fld96_1 rfl (show 0 + 1 = 1 from rfl)) rfl ?_
                          refine WOps.r (G.load1 T.one94 rfl (cell_blk (S143.blk 2 rfl) rfl)) rfl ?_
                          refine WOps.p (G.move rfl) rfl ?_
                          refine WOps.p (G.build (cells := #[.bool false, .string (bs ([] : List UInt8))]) (evp_spec (evp_nil)) (by kernel_rfl)) rfl ?_
                          have S171 := S143.front 3 rfl
                          change St _ _ _ [G79, [(b134, .cells #[.bool false, .string (bs ([] : List UInt8))] 93 (0, 0))], [(p0, .cells #[.int .i64 a0.config.Clients, .int .i64 a0.config.Entries, .int .i64 a0.config.Bytes, .int .i64 a0.config.Reserve, .map (some b5), .int .i64 (subs ((outM x51.calls a3).map fun _ => (1 : Int)) a0.entries), .int .i64 (subs ((outM x51.calls a3).map fun x => szE a0.config.Reserve x.2) a0.bytes)] 89 (0, 0))], [(p54, .cells #[.int .i64 a3, .map (some b67)] 96 (0, 0))], G56, [(b10, .cells #[.int .i64 a1.Address, .int .i64 a1.Instance] 34 (0, 0))]] at S171
                          obtain ⟨G172, w173, U174, hM175, S176⟩ := St.mapPut (P := Try.prog) S171 T.key94 Try.underlying94 hM80 a2 (⟨false, ([] : List UInt8)⟩ : Entry)
                          change St _ _ _ [G172, [(b134, .cells #[.bool false, .string (bs ([] : List UInt8))] 93 (0, 0))], [(p0, .cells #[.int .i64 a0.config.Clients, .int .i64 a0.config.Entries, .int .i64 a0.config.Bytes, .int .i64 a0.config.Reserve, .map (some b5), .int .i64 (subs ((outM x51.calls a3).map fun _ => (1 : Int)) a0.entries), .int .i64 (subs ((outM x51.calls a3).map fun x => szE a0.config.Reserve x.2) a0.bytes)] 89 (0, 0))], [(p54, .cells #[.int .i64 a3, .map (some b67)] 96 (0, 0))], G56, [(b10, .cells #[.int .i64 a1.Address, .int .i64 a1.Instance] 34 (0, 0))]] at S176
                          refine WOps.u (U174 rfl rfl rfl) ?_
                          refine WOps.nil ?_
                          refine WEx.then_ ?_
                          refine WCode.forget (l' := [(0, .pointer (some ⟨p0, 0, none⟩))]) ⟨rfl, trivial⟩ ?_
                          refine WCode.seq ?_
                          refine WCode.region ?_
                          refine WOps.p (G.move rfl) rfl ?_
                          refine WOps.p (G.nilp rfl) rfl ?_
                          refine WOps.p (G.field T.fld89_2 rfl (show 0 + 5 = 5 from rfl)) rfl ?_
                          refine WOps.r (G.load1 T.one3 rfl (cell_blk (S176.blk 2 rfl) rfl)) rfl ?_
                          refine WOps.p (G.add rfl rfl (r := (w64 ((subs ((outM x51.calls a3).map fun _ => (1 : Int)) a0.entries) + 1))) rfl) rfl ?_
                          refine WOps.p (G.nilp rfl) rfl ?_
                          refine WOps.p (G.field T.fld89_2 rfl (show 0 + 5 = 5 from rfl)) rfl ?_
                          obtain ⟨w177, E178, S179⟩ := St.store (P := Try.prog) S176 2 3 (.int .i64 (w64 ((subs ((outM x51.calls a3).map fun _ => (1 : Int)) a0.entries) + 1))) (off := 5) (cur' := #[.int .i64 a0.config.Clients, .int .i64 a0.config.Entries, .int .i64 a0.config.Bytes, .int .i64 a0.config.Reserve, .map (some b5), .int .i64 (w64 ((subs ((outM x51.calls a3).map fun _ => (1 : Int)) a0.entries) + 1)), .int .i64 (subs ((outM x51.calls a3).map fun x => szE a0.config.Reserve x.2) a0.bytes)]) rfl T.size3_1 rfl rfl rfl
                          change St _ _ _ [G172, [(b134, .cells #[.bool false, .string (bs ([] : List UInt8))] 93 (0, 0))], [(p0, .cells #[.int .i64 a0.config.Clients, .int .i64 a0.config.Entries, .int .i64 a0.config.Bytes, .int .i64 a0.config.Reserve, .map (some b5), .int .i64 (w64 ((subs ((outM x51.calls a3).map fun _ => (1 : Int)) a0.entries) + 1)), .int .i64 (subs ((outM x51.calls a3).map fun x => szE a0.config.Reserve x.2) a0.bytes)] 89 (0, 0))], [(p54, .cells #[.int .i64 a3, .map (some b67)] 96 (0, 0))], G56, [(b10, .cells #[.int .i64 a1.Address, .int .i64 a1.Instance] 34 (0, 0))]] at S179
                          refine WOps.u (E178 rfl rfl) ?_
                          refine WOps.nil ?_
                          refine WEx.then_ ?_
                          refine WCode.seq ?_
                          refine WCode.draw [⟨0, 0, []⟩, ⟨1, 0, []⟩, ⟨2, 0, []⟩, ⟨4, 0, []⟩, ⟨5, 0, []⟩, ⟨6, 0, []⟩, ⟨7, 0, []⟩, ⟨3, 1, [9, 10, 11, 12]⟩, ⟨8, 1, [9, 10, 11, 12]⟩, ⟨9, 0, []⟩, ⟨10, 0, []⟩, ⟨11, 0, []⟩, ⟨12, 2, []⟩] T.mixed (by kernel_rfl) (by intro _ _ d _ _ h; cases d <;> exact h) rfl (by kernel_rfl) ?_
                          have S180 := S179.drew
                          generalize w177.drew = w181 at *
                          refine WD.p rfl (G.move rfl) rfl ?_
                          refine WD.p rfl (G.nilp rfl) rfl ?_
                          refine WD.p rfl (G.field T.fld89_3 rfl (show 0 + 6 = 6 from rfl)) rfl ?_
                          refine WD.p rfl (G.move rfl) rfl ?_
                          refine WD.p rfl (G.nilp rfl) rfl ?_
                          refine WD.p rfl (G.field T.fld89_0 rfl (show 0 + 0 = 0 from rfl)) rfl ?_
                          refine WD.p rfl (G.field T.fld26_3 rfl (show 0 + 3 = 3 from rfl)) rfl ?_
                          refine WD.r rfl (G.load1 T.one3 rfl (cell_blk (S180.blk 2 rfl) rfl)) rfl ?_
                          refine WD.r rfl (G.load1 T.one3 rfl (cell_blk (S180.blk 2 rfl) rfl)) rfl ?_
                          refine WD.p rfl (G.add rfl rfl (r := (w64 ((subs ((outM x51.calls a3).map fun x => szE a0.config.Reserve x.2) a0.bytes) + a0.config.Reserve))) rfl) rfl ?_
                          refine WD.p rfl (G.nilp rfl) rfl ?_
                          refine WD.p rfl (G.field T.fld89_3 rfl (show 0 + 6 = 6 from rfl)) rfl ?_
                          obtain ⟨w182, E183, S184⟩ := St.store (P := Try.prog) S180 2 3 (.int .i64 (w64 ((subs ((outM x51.calls a3).map fun x => szE a0.config.Reserve x.2) a0.bytes) + a0.config.Reserve))) (off := 6) (cur' := #[.int .i64 a0.config.Clients, .int .i64 a0.config.Entries, .int .i64 a0.config.Bytes, .int .i64 a0.config.Reserve, .map (some b5), .int .i64 (w64 ((subs ((outM x51.calls a3).map fun _ => (1 : Int)) a0.entries) + 1)), .int .i64 (w64 ((subs ((outM x51.calls a3).map fun x => szE a0.config.Reserve x.2) a0.bytes) + a0.config.Reserve))]) rfl T.size3_1 rfl rfl rfl
                          change St _ _ _ [G172, [(b134, .cells #[.bool false, .string (bs ([] : List UInt8))] 93 (0, 0))], [(p0, .cells #[.int .i64 a0.config.Clients, .int .i64 a0.config.Entries, .int .i64 a0.config.Bytes, .int .i64 a0.config.Reserve, .map (some b5), .int .i64 (w64 ((subs ((outM x51.calls a3).map fun _ => (1 : Int)) a0.entries) + 1)), .int .i64 (w64 ((subs ((outM x51.calls a3).map fun x => szE a0.config.Reserve x.2) a0.bytes) + a0.config.Reserve))] 89 (0, 0))], [(p54, .cells #[.int .i64 a3, .map (some b67)] 96 (0, 0))], G56, [(b10, .cells #[.int .i64 a1.Address, .int .i64 a1.Instance] 34 (0, 0))]] at S184
                          refine WD.u rfl (E183 rfl rfl) ?_
                          refine WD.nil ?_
                          refine WEx.then_ ?_
                          refine WCode.forget (l' := []) trivial ?_
                          refine WCode.seq ?_
                          refine WCode.region ?_
                          refine WOps.p (G.assign rfl) rfl ?_
                          refine WOps.p (G.assign rfl) rfl ?_
                          refine WOps.nil ?_
                          refine WEx.then_ ?_
                          refine WCode.ret ?_
                          obtain rfl := some_eq hF
                          refine WEx.ret2 rfl rfl rfl ?_
                          have S185 := S184.front 3 rfl
                          change St _ _ _ [[(p54, .cells #[.int .i64 a3, .map (some b67)] 96 (0, 0))], G172, [(b134, .cells #[.bool false, .string (bs ([] : List UInt8))] 93 (0, 0))], [(p0, .cells #[.int .i64 a0.config.Clients, .int .i64 a0.config.Entries, .int .i64 a0.config.Bytes, .int .i64 a0.config.Reserve, .map (some b5), .int .i64 (w64 ((subs ((outM x51.calls a3).map fun _ => (1 : Int)) a0.entries) + 1)), .int .i64 (w64 ((subs ((outM x51.calls a3).map fun x => szE a0.config.Reserve x.2) a0.bytes) + a0.config.Reserve))] 89 (0, 0))], G56, [(b10, .cells #[.int .i64 a1.Address, .int .i64 a1.Instance] 34 (0, 0))]] at S185
                          have hO186 : ObjO 96 Known.rp p54 (⟨a3, (mput (keepM x51.calls a3) a2 (⟨false, ([] : List UInt8)⟩ : Entry))⟩ : Known) ([(p54, .cells #[.int .i64 a3, .map (some b67)] 96 (0, 0))] ++ (G172)) := ⟨_, _, ⟨b67, G172, rfl, hM175, rfl⟩, rfl⟩
                          have S187 : St _ _ _ [[(p54, .cells #[.int .i64 a3, .map (some b67)] 96 (0, 0))] ++ (G172), [(b134, .cells #[.bool false, .string (bs ([] : List UInt8))] 93 (0, 0))], [(p0, .cells #[.int .i64 a0.config.Clients, .int .i64 a0.config.Entries, .int .i64 a0.config.Bytes, .int .i64 a0.config.Reserve, .map (some b5), .int .i64 (w64 ((subs ((outM x51.calls a3).map fun _ => (1 : Int)) a0.entries) + 1)), .int .i64 (w64 ((subs ((outM x51.calls a3).map fun x => szE a0.config.Reserve x.2) a0.bytes) + a0.config.Reserve))] 89 (0, 0))], G56, [(b10, .cells #[.int .i64 a1.Address, .int .i64 a1.Instance] 34 (0, 0))]] := S185.objs (by simp)
                          have S188 := S187.front 3 rfl
                          change St _ _ _ [G56, [(p54, .cells #[.int .i64 a3, .map (some b67)] 96 (0, 0))] ++ (G172), [(b134, .cells #[.bool false, .string (bs ([] : List UInt8))] 93 (0, 0))], [(p0, .cells #[.int .i64 a0.config.Clients, .int .i64 a0.config.Entries, .int .i64 a0.config.Bytes, .int .i64 a0.config.Reserve, .map (some b5), .int .i64 (w64 ((subs ((outM x51.calls a3).map fun _ => (1 : Int)) a0.entries) + 1)), .int .i64 (w64 ((subs ((outM x51.calls a3).map fun x => szE a0.config.Reserve x.2) a0.bytes) + a0.config.Reserve))] 89 (0, 0))], [(b10, .cells #[.int .i64 a1.Address, .int .i64 a1.Instance] 34 (0, 0))]] at S188
                          have S189 := S188.front 1 rfl
                          change St _ _ _ [[(p54, .cells #[.int .i64 a3, .map (some b67)] 96 (0, 0))] ++ (G172), G56, [(b134, .cells #[.bool false, .string (bs ([] : List UInt8))] 93 (0, 0))], [(p0, .cells #[.int .i64 a0.config.Clients, .int .i64 a0.config.Entries, .int .i64 a0.config.Bytes, .int .i64 a0.config.Reserve, .map (some b5), .int .i64 (w64 ((subs ((outM x51.calls a3).map fun _ => (1 : Int)) a0.entries) + 1)), .int .i64 (w64 ((subs ((outM x51.calls a3).map fun x => szE a0.config.Reserve x.2) a0.bytes) + a0.config.Reserve))] 89 (0, 0))], [(b10, .cells #[.int .i64 a1.Address, .int .i64 a1.Instance] 34 (0, 0))]] at S189
                          obtain ⟨G190, hO191, S192⟩ := St.unfocus S189 hF58 hO186
                          change St _ _ _ [G190, [(b134, .cells #[.bool false, .string (bs ([] : List UInt8))] 93 (0, 0))], [(p0, .cells #[.int .i64 a0.config.Clients, .int .i64 a0.config.Entries, .int .i64 a0.config.Bytes, .int .i64 a0.config.Reserve, .map (some b5), .int .i64 (w64 ((subs ((outM x51.calls a3).map fun _ => (1 : Int)) a0.entries) + 1)), .int .i64 (w64 ((subs ((outM x51.calls a3).map fun x => szE a0.config.Reserve x.2) a0.bytes) + a0.config.Reserve))] 89 (0, 0))], [(b10, .cells #[.int .i64 a1.Address, .int .i64 a1.Instance] 34 (0, 0))]] at S192
                          have S193 := S192.front 2 rfl
                          change St _ _ _ [[(p0, .cells #[.int .i64 a0.config.Clients, .int .i64 a0.config.Entries, .int .i64 a0.config.Bytes, .int .i64 a0.config.Reserve, .map (some b5), .int .i64 (w64 ((subs ((outM x51.calls a3).map fun _ => (1 : Int)) a0.entries) + 1)), .int .i64 (w64 ((subs ((outM x51.calls a3).map fun x => szE a0.config.Reserve x.2) a0.bytes) + a0.config.Reserve))] 89 (0, 0))], G190, [(b134, .cells #[.bool false, .string (bs ([] : List UInt8))] 93 (0, 0))], [(b10, .cells #[.int .i64 a1.Address, .int .i64 a1.Instance] 34 (0, 0))]] at S193
                          have hO194 : ObjO 89 Cache.rp p0 (⟨a0.config, (mput a0.clients a1 (⟨a3, (mput (keepM x51.calls a3) a2 (⟨false, ([] : List UInt8)⟩ : Entry))⟩ : Known)), w64 ((subs ((outM x51.calls a3).map fun _ => (1 : Int)) a0.entries) + 1), w64 ((subs ((outM x51.calls a3).map fun x => szE a0.config.Reserve x.2) a0.bytes) + a0.config.Reserve)⟩ : Cache) ([(p0, .cells #[.int .i64 a0.config.Clients, .int .i64 a0.config.Entries, .int .i64 a0.config.Bytes, .int .i64 a0.config.Reserve, .map (some b5), .int .i64 (w64 ((subs ((outM x51.calls a3).map fun _ => (1 : Int)) a0.entries) + 1)), .int .i64 (w64 ((subs ((outM x51.calls a3).map fun x => szE a0.config.Reserve x.2) a0.bytes) + a0.config.Reserve))] 89 (0, 0))] ++ (G190)) := ⟨_, _, ⟨b5, G190, rfl, hO191, rfl⟩, rfl⟩
                          have S195 : St _ _ _ [[(p0, .cells #[.int .i64 a0.config.Clients, .int .i64 a0.config.Entries, .int .i64 a0.config.Bytes, .int .i64 a0.config.Reserve, .map (some b5), .int .i64 (w64 ((subs ((outM x51.calls a3).map fun _ => (1 : Int)) a0.entries) + 1)), .int .i64 (w64 ((subs ((outM x51.calls a3).map fun x => szE a0.config.Reserve x.2) a0.bytes) + a0.config.Reserve))] 89 (0, 0))] ++ (G190), [(b134, .cells #[.bool false, .string (bs ([] : List UInt8))] 93 (0, 0))], [(b10, .cells #[.int .i64 a1.Address, .int .i64 a1.Instance] 34 (0, 0))]] := S193.objs (by simp)
                          exact ⟨[(p0, .cells #[.int .i64 a0.config.Clients, .int .i64 a0.config.Entries, .int .i64 a0.config.Bytes, .int .i64 a0.config.Reserve, .map (some b5), .int .i64 (w64 ((subs ((outM x51.calls a3).map fun _ => (1 : Int)) a0.entries) + 1)), .int .i64 (w64 ((subs ((outM x51.calls a3).map fun x => szE a0.config.Reserve x.2) a0.bytes) + a0.config.Reserve))] 89 (0, 0))] ++ (G190), rfl, hO194, St.keep (As := [[(p0, .cells #[.int .i64 a0.config.Clients, .int .i64 a0.config.Entries, .int .i64 a0.config.Bytes, .int .i64 a0.config.Reserve, .map (some b5), .int .i64 (w64 ((subs ((outM x51.calls a3).map fun _ => (1 : Int)) a0.entries) + 1)), .int .i64 (w64 ((subs ((outM x51.calls a3).map fun x => szE a0.config.Reserve x.2) a0.bytes) + a0.config.Reserve))] 89 (0, 0))] ++ (G190)]) S195⟩
                ·
                  refine WCode.cond_f (kb (b := decide (x51.water < a3)) rfl (decide_eq_false h72)) ?_
                  refine WCode.skip ?_
                  refine WEx.then_ ?_
                  refine WCode.seq ?_
                  refine WCode.seq ?_
                  refine WCode.region ?_
                  refine WOps.p (G.move rfl) rfl ?_
                  refine WOps.nil ?_
                  refine WEx.then_ ?_
                  refine WCode.cond_t rfl ?_
                  refine WCode.region ?_
                  refine WOps.p (G.move rfl) rfl ?_
                  refine WOps.p (G.nilp rfl) rfl ?_
                  refine WOps.p (G.field T.fld96_0 rfl (show 0 + 0 = 0 from rfl)) rfl ?_
                  refine WOps.r (G.load1 T.one3 rfl (cell_blk (S71.blk 0 rfl) rfl)) rfl ?_
                  refine WOps.p (G.assign rfl) rfl ?_
                  refine WOps.nil ?_
                  refine WEx.then_ ?_
                  refine WCode.forget (l' := [(0, .pointer (some ⟨p0, 0, none⟩)), (2, .int .i64 a2), (3, .int .i64 x51.water), (5, .pointer (some ⟨b10, 0, none⟩)), (10, .pointer (some ⟨p54, 0, none⟩)), (11, .bool true)]) ⟨rfl, rfl, rfl, rfl, rfl, rfl, trivial⟩ ?_
                  refine WCode.seq ?_
                  refine WCode.seq ?_
                  refine WCode.region ?_
                  refine WOps.p (G.move rfl) rfl ?_
                  refine WOps.p (G.move rfl) rfl ?_
                  refine WOps.p (G.lss rfl rfl rfl) rfl ?_
                  refine WOps.nil ?_
                  refine WEx.then_ ?_
                  rcases ite_some hF with ⟨h196, hF⟩ | ⟨h196, hF⟩
                  ·
                    refine WCode.cond_t (kb (b := decide (a2 < x51.water)) rfl (decide_eq_true h196)) ?_
                    refine WCode.seq ?_
                    refine WCode.region ?_
                    refine WOps.p (G.assign rfl) rfl ?_
                    refine WOps.p (G.assign rfl) rfl ?_
                    refine WOps.nil ?_
                    refine WEx.then_ ?_
                    refine WCode.ret ?_
                    refine WEx.then_ret ?_
                    obtain rfl := some_eq hF
                    refine WEx.ret2 rfl rfl rfl ?_
                    have hO197 : ObjO 96 Known.rp p54 x51 ([(p54, .cells #[.int .i64 x51.water, .map (some b67)] 96 (0, 0))] ++ (G68)) := ⟨_, _, ⟨b67, G68, rfl, hO69, rfl⟩, rfl⟩
                    have S198 : St _ _ _ [[(p54, .cells #[.int .i64 x51.water, .map (some b67)] 96 (0, 0))] ++ (G68), G56, [(b10, .cells #[.int .i64 a1.Address, .int .i64 a1.Instance] 34 (0, 0))], [(p0, .cells #[.int .i64 a0.config.Clients, .int .i64 a0.config.Entries, .int .i64 a0.config.Bytes, .int .i64 a0.config.Reserve, .map (some b5), .int .i64 a0.entries, .int .i64 a0.bytes] 89 (0, 0))]] := S71.objs (by simp)
                    obtain ⟨G199, hO200, S201⟩ := St.unfocus S198 hF58 hO197
                    change St _ _ _ [G199, [(b10, .cells #[.int .i64 a1.Address, .int .i64 a1.Instance] 34 (0, 0))], [(p0, .cells #[.int .i64 a0.config.Clients, .int .i64 a0.config.Entries, .int .i64 a0.config.Bytes, .int .i64 a0.config.Reserve, .map (some b5), .int .i64 a0.entries, .int .i64 a0.bytes] 89 (0, 0))]] at S201
                    have S202 := S201.front 2 rfl
                    change St _ _ _ [[(p0, .cells #[.int .i64 a0.config.Clients, .int .i64 a0.config.Entries, .int .i64 a0.config.Bytes, .int .i64 a0.config.Reserve, .map (some b5), .int .i64 a0.entries, .int .i64 a0.bytes] 89 (0, 0))], G199, [(b10, .cells #[.int .i64 a1.Address, .int .i64 a1.Instance] 34 (0, 0))]] at S202
                    have hO203 : ObjO 89 Cache.rp p0 (⟨a0.config, (mput a0.clients a1 x51), a0.entries, a0.bytes⟩ : Cache) ([(p0, .cells #[.int .i64 a0.config.Clients, .int .i64 a0.config.Entries, .int .i64 a0.config.Bytes, .int .i64 a0.config.Reserve, .map (some b5), .int .i64 a0.entries, .int .i64 a0.bytes] 89 (0, 0))] ++ (G199)) := ⟨_, _, ⟨b5, G199, rfl, hO200, rfl⟩, rfl⟩
                    have S204 : St _ _ _ [[(p0, .cells #[.int .i64 a0.config.Clients, .int .i64 a0.config.Entries, .int .i64 a0.config.Bytes, .int .i64 a0.config.Reserve, .map (some b5), .int .i64 a0.entries, .int .i64 a0.bytes] 89 (0, 0))] ++ (G199), [(b10, .cells #[.int .i64 a1.Address, .int .i64 a1.Instance] 34 (0, 0))]] := S202.objs (by simp)
                    exact ⟨[(p0, .cells #[.int .i64 a0.config.Clients, .int .i64 a0.config.Entries, .int .i64 a0.config.Bytes, .int .i64 a0.config.Reserve, .map (some b5), .int .i64 a0.entries, .int .i64 a0.bytes] 89 (0, 0))] ++ (G199), rfl, hO203, St.keep (As := [[(p0, .cells #[.int .i64 a0.config.Clients, .int .i64 a0.config.Entries, .int .i64 a0.config.Bytes, .int .i64 a0.config.Reserve, .map (some b5), .int .i64 a0.entries, .int .i64 a0.bytes] 89 (0, 0))] ++ (G199)]) S204⟩
                  ·
                    refine WCode.cond_f (kb (b := decide (a2 < x51.water)) rfl (decide_eq_false h196)) ?_
                    refine WCode.skip ?_
                    refine WEx.then_ ?_
                    refine WCode.seq ?_
                    refine WCode.seq ?_
                    refine WCode.region ?_
                    refine WOps.p (G.move rfl) rfl ?_
                    refine WOps.nil ?_
                    refine WEx.then_ ?_
                    refine WCode.cond_t rfl ?_
                    refine WCode.seq ?_
                    refine WCode.region ?_
                    refine WOps.p (G.move rfl) rfl ?_
                    refine WOps.p (G.nilp rfl) rfl ?_
                    refine WOps.p (G.field T.fld96_1 rfl (show 0 + 1 = 1 from rfl)) rfl ?_
                    refine WOps.r (G.load1 T.one94 rfl (cell_blk (S71.blk 0 rfl) rfl)) rfl ?_
                    refine WOps.p (G.move rfl) rfl ?_
                    rcases ite_some hF with ⟨h205, hF⟩ | ⟨h205, hF⟩
                    ·
                      obtain ⟨x206, hc207, hF⟩ := bind_some hF
                      refine WOps.r (G.mapget1 T.key94 Try.underlying94 (MapO.rd hO69 (fun b o hb => S71.grp 1 rfl hb)) rfl rfl hc207) rfl ?_
                      refine WOps.p (G.move rfl) rfl ?_
                      refine WOps.p (G.extract rfl rfl) rfl ?_
                      refine WOps.p (G.extract rfl rfl) rfl ?_
                      obtain ⟨b208, w209, E210, S211, X212, L213⟩ := St.var S71 (z := .agg #[.bool false, .string (bs ([] : List UInt8))]) T.zero93
                      change St _ _ _ [[(b208, .cells #[.bool false, .string (bs ([] : List UInt8))] 93 (0, 0))], [(p54, .cells #[.int .i64 x51.water, .map (some b67)] 96 (0, 0))], G68, G56, [(b10, .cells #[.int .i64 a1.Address, .int .i64 a1.Instance] 34 (0, 0))], [(p0, .cells #[.int .i64 a0.config.Clients, .int .i64 a0.config.Entries, .int .i64 a0.config.Bytes, .int .i64 a0.config.Reserve, .map (some b5), .int .i64 a0.entries, .int .i64 a0.bytes] 89 (0, 0))]] at S211
                      refine WOps.e E210 rfl ?_
                      obtain ⟨w214, E215, S216⟩ := St.store (P := Try.prog) S211 0 93 (.agg #[.bool x206.done, .string (bs x206.reply)]) (off := 0) (cur' := #[.bool x206.done, .string (bs x206.reply)]) rfl T.size93_2 rfl rfl rfl
                      change St _ _ _ [[(b208, .cells #[.bool x206.done, .string (bs x206.reply)] 93 (0, 0))], [(p54, .cells #[.int .i64 x51.water, .map (some b67)] 96 (0, 0))], G68, G56, [(b10, .cells #[.int .i64 a1.Address, .int .i64 a1.Instance] 34 (0, 0))], [(p0, .cells #[.int .i64 a0.config.Clients, .int .i64 a0.config.Entries, .int .i64 a0.config.Bytes, .int .i64 a0.config.Reserve, .map (some b5), .int .i64 a0.entries, .int .i64 a0.bytes] 89 (0, 0))]] at S216
                      refine WOps.u (E215 rfl rfl) ?_
                      refine WOps.p (G.assign rfl) rfl ?_
                      refine WOps.nil ?_
                      refine WEx.then_ ?_
                      refine WCode.forget (l' := [(0, .pointer (some ⟨p0, 0, none⟩)), (2, .int .i64 a2), (3, .int .i64 x51.water), (5, .pointer (some ⟨b10, 0, none⟩)), (10, .pointer (some ⟨p54, 0, none⟩)), (11, .bool true), (12, .pointer (some ⟨b208, 0, none⟩)), (13, .bool true)]) ⟨rfl, rfl, rfl, rfl, rfl, rfl, rfl, rfl, trivial⟩ ?_
                      refine WCode.seq ?_
                      refine WCode.region ?_
                      refine WOps.p (G.move rfl) rfl ?_
                      refine WOps.p (G.move rfl) rfl ?_
                      refine WOps.on rfl rfl ?_
                      refine WOps.p (G.field T.fld93_0 rfl (show 0 + 0 = 0 from rfl)) rfl ?_
                      refine WOps.on rfl rfl ?_
                      refine WOps.r (G.load1 T.one4 rfl (cell_blk (S216.blk 0 rfl) rfl)) rfl ?_
                      refine WOps.p (G.pick_t rfl rfl) rfl ?_
                      refine WOps.nil ?_
                      refine WEx.then_ ?_
                      rcases ite_some hF with ⟨h217, hF⟩ | ⟨h217, hF⟩
                      ·
                        refine WCode.cond_t (kb (b := x206.done) rfl h217) ?_
                        refine WCode.seq ?_
                        refine WCode.draw [⟨0, 0, []⟩, ⟨2, 0, []⟩, ⟨1, 1, [3]⟩, ⟨3, 0, []⟩] T.mixed (by kernel_rfl) (by intro _ _ d _ _ h; cases d <;> exact h) rfl (by kernel_rfl) ?_
                        have S218 := S216.drew
                        generalize w214.drew = w219 at *
                        refine WD.p rfl (G.field T.fld93_1 rfl (show 0 + 1 = 1 from rfl)) rfl ?_
                        refine WD.p rfl (G.assign rfl) rfl ?_
                        refine WD.r rfl (G.load1 T.one9 rfl (cell_blk (S218.blk 0 rfl) rfl)) rfl ?_
                        refine WD.p rfl (G.assign rfl) rfl ?_
                        refine WD.nil ?_
                        refine WEx.then_ ?_
                        refine WCode.forget (l' := [(8, .int .i64 3), (9, .string (bs x206.reply))]) ⟨rfl, rfl, trivial⟩ ?_
                        refine WCode.ret ?_
                        refine WEx.then_ret ?_
                        obtain rfl := some_eq hF
                        refine WEx.ret2 rfl rfl rfl ?_
                        have S220 := S218.front 2 rfl
                        change St _ _ _ [G68, [(b208, .cells #[.bool x206.done, .string (bs x206.reply)] 93 (0, 0))], [(p54, .cells #[.int .i64 x51.water, .map (some b67)] 96 (0, 0))], G56, [(b10, .cells #[.int .i64 a1.Address, .int .i64 a1.Instance] 34 (0, 0))], [(p0, .cells #[.int .i64 a0.config.Clients, .int .i64 a0.config.Entries, .int .i64 a0.config.Bytes, .int .i64 a0.config.Reserve, .map (some b5), .int .i64 a0.entries, .int .i64 a0.bytes] 89 (0, 0))]] at S220
                        have S221 := S220.front 2 rfl
                        change St _ _ _ [[(p54, .cells #[.int .i64 x51.water, .map (some b67)] 96 (0, 0))], G68, [(b208, .cells #[.bool x206.done, .string (bs x206.reply)] 93 (0, 0))], G56, [(b10, .cells #[.int .i64 a1.Address, .int .i64 a1.Instance] 34 (0, 0))], [(p0, .cells #[.int .i64 a0.config.Clients, .int .i64 a0.config.Entries, .int .i64 a0.config.Bytes, .int .i64 a0.config.Reserve, .map (some b5), .int .i64 a0.entries, .int .i64 a0.bytes] 89 (0, 0))]] at S221
                        have hO222 : ObjO 96 Known.rp p54 x51 ([(p54, .cells #[.int .i64 x51.water, .map (some b67)] 96 (0, 0))] ++ (G68)) := ⟨_, _, ⟨b67, G68, rfl, hO69, rfl⟩, rfl⟩
                        have S223 : St _ _ _ [[(p54, .cells #[.int .i64 x51.water, .map (some b67)] 96 (0, 0))] ++ (G68), [(b208, .cells #[.bool x206.done, .string (bs x206.reply)] 93 (0, 0))], G56, [(b10, .cells #[.int .i64 a1.Address, .int .i64 a1.Instance] 34 (0, 0))], [(p0, .cells #[.int .i64 a0.config.Clients, .int .i64 a0.config.Entries, .int .i64 a0.config.Bytes, .int .i64 a0.config.Reserve, .map (some b5), .int .i64 a0.entries, .int .i64 a0.bytes] 89 (0, 0))]] := S221.objs (by simp)
                        have S224 := S223.front 2 rfl
                        change St _ _ _ [G56, [(p54, .cells #[.int .i64 x51.water, .map (some b67)] 96 (0, 0))] ++ (G68), [(b208, .cells #[.bool x206.done, .string (bs x206.reply)] 93 (0, 0))], [(b10, .cells #[.int .i64 a1.Address, .int .i64 a1.Instance] 34 (0, 0))], [(p0, .cells #[.int .i64 a0.config.Clients, .int .i64 a0.config.Entries, .int .i64 a0.config.Bytes, .int .i64 a0.config.Reserve, .map (some b5), .int .i64 a0.entries, .int .i64 a0.bytes] 89 (0, 0))]] at S224
                        have S225 := S224.front 1 rfl
                        change St _ _ _ [[(p54, .cells #[.int .i64 x51.water, .map (some b67)] 96 (0, 0))] ++ (G68), G56, [(b208, .cells #[.bool x206.done, .string (bs x206.reply)] 93 (0, 0))], [(b10, .cells #[.int .i64 a1.Address, .int .i64 a1.Instance] 34 (0, 0))], [(p0, .cells #[.int .i64 a0.config.Clients, .int .i64 a0.config.Entries, .int .i64 a0.config.Bytes, .int .i64 a0.config.Reserve, .map (some b5), .int .i64 a0.entries, .int .i64 a0.bytes] 89 (0, 0))]] at S225
                        obtain ⟨G226, hO227, S228⟩ := St.unfocus S225 hF58 hO222
                        change St _ _ _ [G226, [(b208, .cells #[.bool x206.done, .string (bs x206.reply)] 93 (0, 0))], [(b10, .cells #[.int .i64 a1.Address, .int .i64 a1.Instance] 34 (0, 0))], [(p0, .cells #[.int .i64 a0.config.Clients, .int .i64 a0.config.Entries, .int .i64 a0.config.Bytes, .int .i64 a0.config.Reserve, .map (some b5), .int .i64 a0.entries, .int .i64 a0.bytes] 89 (0, 0))]] at S228
                        have S229 := S228.front 3 rfl
                        change St _ _ _ [[(p0, .cells #[.int .i64 a0.config.Clients, .int .i64 a0.config.Entries, .int .i64 a0.config.Bytes, .int .i64 a0.config.Reserve, .map (some b5), .int .i64 a0.entries, .int .i64 a0.bytes] 89 (0, 0))], G226, [(b208, .cells #[.bool x206.done, .string (bs x206.reply)] 93 (0, 0))], [(b10, .cells #[.int .i64 a1.Address, .int .i64 a1.Instance] 34 (0, 0))]] at S229
                        have hO230 : ObjO 89 Cache.rp p0 (⟨a0.config, (mput a0.clients a1 x51), a0.entries, a0.bytes⟩ : Cache) ([(p0, .cells #[.int .i64 a0.config.Clients, .int .i64 a0.config.Entries, .int .i64 a0.config.Bytes, .int .i64 a0.config.Reserve, .map (some b5), .int .i64 a0.entries, .int .i64 a0.bytes] 89 (0, 0))] ++ (G226)) := ⟨_, _, ⟨b5, G226, rfl, hO227, rfl⟩, rfl⟩
                        have S231 : St _ _ _ [[(p0, .cells #[.int .i64 a0.config.Clients, .int .i64 a0.config.Entries, .int .i64 a0.config.Bytes, .int .i64 a0.config.Reserve, .map (some b5), .int .i64 a0.entries, .int .i64 a0.bytes] 89 (0, 0))] ++ (G226), [(b208, .cells #[.bool x206.done, .string (bs x206.reply)] 93 (0, 0))], [(b10, .cells #[.int .i64 a1.Address, .int .i64 a1.Instance] 34 (0, 0))]] := S229.objs (by simp)
                        exact ⟨[(p0, .cells #[.int .i64 a0.config.Clients, .int .i64 a0.config.Entries, .int .i64 a0.config.Bytes, .int .i64 a0.config.Reserve, .map (some b5), .int .i64 a0.entries, .int .i64 a0.bytes] 89 (0, 0))] ++ (G226), rfl, hO230, St.keep (As := [[(p0, .cells #[.int .i64 a0.config.Clients, .int .i64 a0.config.Entries, .int .i64 a0.config.Bytes, .int .i64 a0.config.Reserve, .map (some b5), .int .i64 a0.entries, .int .i64 a0.bytes] 89 (0, 0))] ++ (G226)]) S231⟩
                      ·
                        refine WCode.cond_f (kb (b := x206.done) rfl (Bool.eq_false_iff.2 h217)) ?_
                        refine WCode.seq ?_
                        refine WCode.region ?_
                        refine WOps.p (G.move rfl) rfl ?_
                        refine WOps.nil ?_
                        refine WEx.then_ ?_
                        refine WCode.cond_t rfl ?_
                        refine WCode.seq ?_
                        refine WCode.region ?_
                        refine WOps.p (G.assign rfl) rfl ?_
                        refine WOps.p (G.assign rfl) rfl ?_
                        refine WOps.nil ?_
                        refine WEx.then_ ?_
                        refine WCode.forget (l' := [(8, .int .i64 2), (9, .string (bs ([] : List UInt8)))]) ⟨rfl, rfl, trivial⟩ ?_
                        refine WCode.ret ?_
                        refine WEx.then_ret ?_
                        obtain rfl := some_eq hF
                        refine WEx.ret2 rfl rfl rfl ?_
                        have S232 := S216.front 2 rfl
                        change St _ _ _ [G68, [(b208, .cells #[.bool x206.done, .string (bs x206.reply)] 93 (0, 0))], [(p54, .cells #[.int .i64 x51.water, .map (some b67)] 96 (0, 0))], G56, [(b10, .cells #[.int .i64 a1.Address, .int .i64 a1.Instance] 34 (0, 0))], [(p0, .cells #[.int .i64 a0.config.Clients, .int .i64 a0.config.Entries, .int .i64 a0.config.Bytes, .int .i64 a0.config.Reserve, .map (some b5), .int .i64 a0.entries, .int .i64 a0.bytes] 89 (0, 0))]] at S232
                        have S233 := S232.front 2 rfl
                        change St _ _ _ [[(p54, .cells #[.int .i64 x51.water, .map (some b67)] 96 (0, 0))], G68, [(b208, .cells #[.bool x206.done, .string (bs x206.reply)] 93 (0, 0))], G56, [(b10, .cells #[.int .i64 a1.Address, .int .i64 a1.Instance] 34 (0, 0))], [(p0, .cells #[.int .i64 a0.config.Clients, .int .i64 a0.config.Entries, .int .i64 a0.config.Bytes, .int .i64 a0.config.Reserve, .map (some b5), .int .i64 a0.entries, .int .i64 a0.bytes] 89 (0, 0))]] at S233
                        have hO234 : ObjO 96 Known.rp p54 x51 ([(p54, .cells #[.int .i64 x51.water, .map (some b67)] 96 (0, 0))] ++ (G68)) := ⟨_, _, ⟨b67, G68, rfl, hO69, rfl⟩, rfl⟩
                        have S235 : St _ _ _ [[(p54, .cells #[.int .i64 x51.water, .map (some b67)] 96 (0, 0))] ++ (G68), [(b208, .cells #[.bool x206.done, .string (bs x206.reply)] 93 (0, 0))], G56, [(b10, .cells #[.int .i64 a1.Address, .int .i64 a1.Instance] 34 (0, 0))], [(p0, .cells #[.int .i64 a0.config.Clients, .int .i64 a0.config.Entries, .int .i64 a0.config.Bytes, .int .i64 a0.config.Reserve, .map (some b5), .int .i64 a0.entries, .int .i64 a0.bytes] 89 (0, 0))]] := S233.objs (by simp)
                        have S236 := S235.front 2 rfl
                        change St _ _ _ [G56, [(p54, .cells #[.int .i64 x51.water, .map (some b67)] 96 (0, 0))] ++ (G68), [(b208, .cells #[.bool x206.done, .string (bs x206.reply)] 93 (0, 0))], [(b10, .cells #[.int .i64 a1.Address, .int .i64 a1.Instance] 34 (0, 0))], [(p0, .cells #[.int .i64 a0.config.Clients, .int .i64 a0.config.Entries, .int .i64 a0.config.Bytes, .int .i64 a0.config.Reserve, .map (some b5), .int .i64 a0.entries, .int .i64 a0.bytes] 89 (0, 0))]] at S236
                        have S237 := S236.front 1 rfl
                        change St _ _ _ [[(p54, .cells #[.int .i64 x51.water, .map (some b67)] 96 (0, 0))] ++ (G68), G56, [(b208, .cells #[.bool x206.done, .string (bs x206.reply)] 93 (0, 0))], [(b10, .cells #[.int .i64 a1.Address, .int .i64 a1.Instance] 34 (0, 0))], [(p0, .cells #[.int .i64 a0.config.Clients, .int .i64 a0.config.Entries, .int .i64 a0.config.Bytes, .int .i64 a0.config.Reserve, .map (some b5), .int .i64 a0.entries, .int .i64 a0.bytes] 89 (0, 0))]] at S237
                        obtain ⟨G238, hO239, S240⟩ := St.unfocus S237 hF58 hO234
                        change St _ _ _ [G238, [(b208, .cells #[.bool x206.done, .string (bs x206.reply)] 93 (0, 0))], [(b10, .cells #[.int .i64 a1.Address, .int .i64 a1.Instance] 34 (0, 0))], [(p0, .cells #[.int .i64 a0.config.Clients, .int .i64 a0.config.Entries, .int .i64 a0.config.Bytes, .int .i64 a0.config.Reserve, .map (some b5), .int .i64 a0.entries, .int .i64 a0.bytes] 89 (0, 0))]] at S240
                        have S241 := S240.front 3 rfl
                        change St _ _ _ [[(p0, .cells #[.int .i64 a0.config.Clients, .int .i64 a0.config.Entries, .int .i64 a0.config.Bytes, .int .i64 a0.config.Reserve, .map (some b5), .int .i64 a0.entries, .int .i64 a0.bytes] 89 (0, 0))], G238, [(b208, .cells #[.bool x206.done, .string (bs x206.reply)] 93 (0, 0))], [(b10, .cells #[.int .i64 a1.Address, .int .i64 a1.Instance] 34 (0, 0))]] at S241
                        have hO242 : ObjO 89 Cache.rp p0 (⟨a0.config, (mput a0.clients a1 x51), a0.entries, a0.bytes⟩ : Cache) ([(p0, .cells #[.int .i64 a0.config.Clients, .int .i64 a0.config.Entries, .int .i64 a0.config.Bytes, .int .i64 a0.config.Reserve, .map (some b5), .int .i64 a0.entries, .int .i64 a0.bytes] 89 (0, 0))] ++ (G238)) := ⟨_, _, ⟨b5, G238, rfl, hO239, rfl⟩, rfl⟩
                        have S243 : St _ _ _ [[(p0, .cells #[.int .i64 a0.config.Clients, .int .i64 a0.config.Entries, .int .i64 a0.config.Bytes, .int .i64 a0.config.Reserve, .map (some b5), .int .i64 a0.entries, .int .i64 a0.bytes] 89 (0, 0))] ++ (G238), [(b208, .cells #[.bool x206.done, .string (bs x206.reply)] 93 (0, 0))], [(b10, .cells #[.int .i64 a1.Address, .int .i64 a1.Instance] 34 (0, 0))]] := S241.objs (by simp)
                        exact ⟨[(p0, .cells #[.int .i64 a0.config.Clients, .int .i64 a0.config.Entries, .int .i64 a0.config.Bytes, .int .i64 a0.config.Reserve, .map (some b5), .int .i64 a0.entries, .int .i64 a0.bytes] 89 (0, 0))] ++ (G238), rfl, hO242, St.keep (As := [[(p0, .cells #[.int .i64 a0.config.Clients, .int .i64 a0.config.Entries, .int .i64 a0.config.Bytes, .int .i64 a0.config.Reserve, .map (some b5), .int .i64 a0.entries, .int .i64 a0.bytes] 89 (0, 0))] ++ (G238)]) S243⟩
                    ·
                      have hn244 := Option.not_isSome_iff_eq_none.1 h205
                      refine WOps.r (G.mapget0 T.key94 Try.underlying94 T.zero93 (MapO.rd hO69 (fun b o hb => S71.grp 1 rfl hb)) rfl rfl hn244) rfl ?_
                      refine WOps.p (G.move rfl) rfl ?_
                      refine WOps.p (G.extract rfl rfl) rfl ?_
                      refine WOps.p (G.extract rfl rfl) rfl ?_
                      obtain ⟨b245, w246, E247, S248, X249, L250⟩ := St.var S71 (z := .agg #[.bool false, .string (bs ([] : List UInt8))]) T.zero93
                      change St _ _ _ [[(b245, .cells #[.bool false, .string (bs ([] : List UInt8))] 93 (0, 0))], [(p54, .cells #[.int .i64 x51.water, .map (some b67)] 96 (0, 0))], G68, G56, [(b10, .cells #[.int .i64 a1.Address, .int .i64 a1.Instance] 34 (0, 0))], [(p0, .cells #[.int .i64 a0.config.Clients, .int .i64 a0.config.Entries, .int .i64 a0.config.Bytes, .int .i64 a0.config.Reserve, .map (some b5), .int .i64 a0.entries, .int .i64 a0.bytes] 89 (0, 0))]] at S248
                      refine WOps.e E247 rfl ?_
                      obtain ⟨w251, E252, S253⟩ := St.store (P := Try.prog) S248 0 93 (.agg #[.bool false, .string (bs ([] : List UInt8))]) (off := 0) (cur' := #[.bool false, .string (bs ([] : List UInt8))]) rfl T.size93_2 rfl rfl rfl
                      change St _ _ _ [[(b245, .cells #[.bool false, .string (bs ([] : List UInt8))] 93 (0, 0))], [(p54, .cells #[.int .i64 x51.water, .map (some b67)] 96 (0, 0))], G68, G56, [(b10, .cells #[.int .i64 a1.Address, .int .i64 a1.Instance] 34 (0, 0))], [(p0, .cells #[.int .i64 a0.config.Clients, .int .i64 a0.config.Entries, .int .i64 a0.config.Bytes, .int .i64 a0.config.Reserve, .map (some b5), .int .i64 a0.entries, .int .i64 a0.bytes] 89 (0, 0))]] at S253
                      refine WOps.u (E252 rfl rfl) ?_
                      refine WOps.p (G.assign rfl) rfl ?_
                      refine WOps.nil ?_
                      refine WEx.then_ ?_
                      refine WCode.forget (l' := [(0, .pointer (some ⟨p0, 0, none⟩)), (2, .int .i64 a2), (3, .int .i64 x51.water), (5, .pointer (some ⟨b10, 0, none⟩)), (10, .pointer (some ⟨p54, 0, none⟩)), (11, .bool true), (12, .pointer (some ⟨b245, 0, none⟩)), (13, .bool false)]) ⟨rfl, rfl, rfl, rfl, rfl, rfl, rfl, rfl, trivial⟩ ?_
                      refine WCode.seq ?_
                      refine WCode.region ?_
                      refine WOps.p (G.move rfl) rfl ?_
                      refine WOps.p (G.move rfl) rfl ?_
                      refine WOps.off rfl rfl rfl rfl ?_
                      refine WOps.off rfl rfl rfl rfl ?_
                      refine WOps.p (G.pick_f rfl rfl) rfl ?_
                      refine WOps.nil ?_
                      refine WEx.then_ ?_
                      refine WCode.cond_f rfl ?_
                      refine WCode.seq ?_
                      refine WCode.region ?_
                      refine WOps.p (G.move rfl) rfl ?_
                      refine WOps.nil ?_
                      refine WEx.then_ ?_
                      refine WCode.cond_f rfl ?_
                      refine WCode.skip ?_
                      refine WEx.then_ ?_
                      refine WCode.seq ?_
                      refine WCode.seq ?_
                      refine WCode.drawH (.one 0 0 (.one 1 0 (.one 2 0 (.one 4 0 (.one 5 0 (.one 6 0 (.one 7 0 (.one 10 0 (.one 11 0 (.one 12 0 (.one 13 0 (.one 3 1 (.one 8 1 (.one 9 0 (.one 14 1 (.one 15 0 (.one 16 0 (.one 17 0 (.one 18 0 (.one 19 0 (.one 20 0 (.one 21 0 (.one 24 0 (.one 25 0 (.one 26 0 (.one 27 0 (.one 22 1 (.one 28 1 (.one 23 2 (.one 29 0 (.one 30 0 (.one 31 0 (.one 32 0 (.one 33 0 (.one 34 0 (.one 35 0 (.one 36 0 (.one 37 0 (.one 38 0 (.one 41 0 (.one 42 0 (.one 43 0 (.one 44 0 (.one 39 1 (.one 45 1 (.one 40 2 (.one 46 0 (.one 47 0 (.one 48 0 .nil))))))))))))))))))))))))))))))))))))))))))))))))) (fun W_ => cellsAt W_ p0 0 [.int .i64 a0.config.Clients, .int .i64 a0.config.Entries, .int .i64 a0.config.Bytes, .int .i64 a0.config.Reserve, .map (some b5), .int .i64 a0.entries, .int .i64 a0.bytes] ∧ cellsAt W_ p54 0 [.int .i64 x51.water, .map (some b67)] ∧ True) T.mixed (by kernel_rfl) (by intro _ _ d _ _ h; cases d <;> exact h) rfl rfl (by kernel_rfl) ?_ ?_
                      all_goals have S254 := S253.drew
                      all_goals generalize w251.drew = w255 at *
                      · exact ⟨cellsAt.of_blk (S254.blk 5 rfl) rfl, cellsAt.of_blk (S254.blk 1 rfl) rfl, trivial⟩
                      refine WH.p rfl wants (G.move rfl) rfl ?_
                      refine WH.p rfl wants (G.nilp rfl) rfl ?_
                      refine WH.p rfl wants (G.field T.fld89_3 rfl (show 0 + 6 = 6 from rfl)) rfl ?_
                      refine WH.p rfl wants (G.move rfl) rfl ?_
                      refine WH.p rfl wants (G.nilp rfl) rfl ?_
                      refine WH.p rfl wants (G.field T.fld89_0 rfl (show 0 + 0 = 0 from rfl)) rfl ?_
                      refine WH.p rfl wants (G.field T.fld26_3 rfl (show 0 + 3 = 3 from rfl)) rfl ?_
                      refine WH.p rfl wants (G.move rfl) rfl ?_
                      refine WH.p rfl wants (G.nilp rfl) rfl ?_
                      refine WH.p rfl wants (G.field T.fld89_0 rfl (show 0 + 0 = 0 from rfl)) rfl ?_
                      refine WH.p rfl wants (G.field T.fld26_2 rfl (show 0 + 2 = 2 from rfl)) rfl ?_
                      refine WH.r rfl wants (fun _ h_ => G.load1 T.one3 rfl (cellsAt.at h_.1 6 rfl)) rfl ?_
                      refine WH.r rfl wants (fun _ h_ => G.load1 T.one3 rfl (cellsAt.at h_.1 3 rfl)) rfl ?_
                      refine WH.p rfl wants (G.add rfl rfl (r := (w64 (a0.bytes + a0.config.Reserve))) rfl) rfl ?_
                      refine WH.r rfl wants (fun _ h_ => G.load1 T.one3 rfl (cellsAt.at h_.1 2 rfl)) rfl ?_
                      refine WH.p rfl wants (G.gtr rfl rfl rfl) rfl ?_
                      refine WH.p rfl wants (G.move rfl) rfl ?_
                      rcases ite_some hF with ⟨h256, hF⟩ | ⟨h256, hF⟩
                      ·
                        refine WH.off rfl rfl (kbl (b := decide (a0.config.Bytes < (w64 (a0.bytes + a0.config.Reserve)))) rfl (decide_eq_true h256)) rfl rfl rfl ?_
                        refine WH.off rfl rfl (kbl (b := decide (a0.config.Bytes < (w64 (a0.bytes + a0.config.Reserve)))) rfl (decide_eq_true h256)) rfl rfl rfl ?_
                        refine WH.off rfl rfl rfl rfl rfl rfl ?_
                        refine WH.off rfl rfl rfl rfl rfl rfl ?_
                        refine WH.off rfl rfl rfl rfl rfl rfl ?_
                        refine WH.off rfl rfl rfl rfl rfl rfl ?_
                        refine WH.off rfl rfl rfl rfl rfl rfl ?_
                        refine WH.off rfl rfl rfl rfl rfl rfl ?_
                        refine WH.off rfl rfl rfl rfl rfl rfl ?_
                        refine WH.off rfl rfl rfl rfl rfl rfl ?_
                        refine WH.off rfl rfl rfl rfl rfl rfl ?_
                        refine WH.off2 rfl rfl rfl rfl rfl ⟨cellsAt.of_blk (S254.blk 5 rfl) rfl, cellsAt.of_blk (S254.blk 1 rfl) rfl, trivial⟩ ?_
                        refine WH.off rfl rfl rfl rfl rfl rfl ?_
                        refine WH.off rfl rfl (kbl (b := decide (a0.config.Bytes < (w64 (a0.bytes + a0.config.Reserve)))) rfl (decide_eq_true h256)) rfl rfl rfl ?_
                        refine WH.p rfl wants (G.pick_t (kb (b := decide (a0.config.Bytes < (w64 (a0.bytes + a0.config.Reserve)))) rfl (decide_eq_true h256)) rfl) rfl ?_
                        refine WH.p rfl wants (G.move rfl) rfl ?_
                        refine WH.off rfl rfl rfl rfl rfl rfl ?_
                        refine WH.off rfl rfl rfl rfl rfl rfl ?_
                        refine WH.off rfl rfl rfl rfl rfl rfl ?_
                        refine WH.off rfl rfl rfl rfl rfl rfl ?_
                        refine WH.off rfl rfl rfl rfl rfl rfl ?_
                        refine WH.off rfl rfl rfl rfl rfl rfl ?_
                        refine WH.off rfl rfl rfl rfl rfl rfl ?_
                        refine WH.off rfl rfl rfl rfl rfl rfl ?_
                        refine WH.off rfl rfl rfl rfl rfl rfl ?_
                        refine WH.off rfl rfl rfl rfl rfl rfl ?_
                        refine WH.off rfl rfl rfl rfl rfl rfl ?_
                        refine WH.off rfl rfl rfl rfl rfl rfl ?_
                        refine WH.off2 rfl rfl rfl rfl rfl ⟨cellsAt.of_blk (S254.blk 5 rfl) rfl, cellsAt.of_blk (S254.blk 1 rfl) rfl, trivial⟩ ?_
                        refine WH.off rfl rfl rfl rfl rfl rfl ?_
                        refine WH.off rfl rfl rfl rfl rfl rfl ?_
                        refine WH.p rfl wants (G.pick_t rfl rfl) rfl ?_
                        refine WH.nil ?_
                        refine WEx.then_ ?_
                        refine WCode.forget (l' := [(0, .pointer (some ⟨p0, 0, none⟩)), (2, .int .i64 a2), (3, .int .i64 x51.water), (5, .pointer (some ⟨b10, 0, none⟩)), (10, .pointer (some ⟨p54, 0, none⟩)), (11, .bool true), (138, .bool true)]) ⟨rfl, rfl, rfl, rfl, rfl, rfl, rfl, trivial⟩ ?_
                        refine WCode.cond_t rfl ?_
                        refine WCode.seq ?_
                        refine WCode.region ?_
                        refine WOps.p (G.assign rfl) rfl ?_
                        refine WOps.p (G.assign rfl) rfl ?_
                        refine WOps.nil ?_
                        refine WEx.then_ ?_
                        refine WCode.ret ?_
                        refine WEx.then_ret ?_
                        obtain rfl := some_eq hF
                        refine WEx.ret2 rfl rfl rfl ?_
                        have S257 := S254.front 2 rfl
                        change St _ _ _ [G68, [(b245, .cells #[.bool false, .string (bs ([] : List UInt8))] 93 (0, 0))], [(p54, .cells #[.int .i64 x51.water, .map (some b67)] 96 (0, 0))], G56, [(b10, .cells #[.int .i64 a1.Address, .int .i64 a1.Instance] 34 (0, 0))], [(p0, .cells #[.int .i64 a0.config.Clients, .int .i64 a0.config.Entries, .int .i64 a0.config.Bytes, .int .i64 a0.config.Reserve, .map (some b5), .int .i64 a0.entries, .int .i64 a0.bytes] 89 (0, 0))]] at S257
                        have S258 := S257.front 2 rfl
                        change St _ _ _ [[(p54, .cells #[.int .i64 x51.water, .map (some b67)] 96 (0, 0))], G68, [(b245, .cells #[.bool false, .string (bs ([] : List UInt8))] 93 (0, 0))], G56, [(b10, .cells #[.int .i64 a1.Address, .int .i64 a1.Instance] 34 (0, 0))], [(p0, .cells #[.int .i64 a0.config.Clients, .int .i64 a0.config.Entries, .int .i64 a0.config.Bytes, .int .i64 a0.config.Reserve, .map (some b5), .int .i64 a0.entries, .int .i64 a0.bytes] 89 (0, 0))]] at S258
                        have hO259 : ObjO 96 Known.rp p54 x51 ([(p54, .cells #[.int .i64 x51.water, .map (some b67)] 96 (0, 0))] ++ (G68)) := ⟨_, _, ⟨b67, G68, rfl, hO69, rfl⟩, rfl⟩
                        have S260 : St _ _ _ [[(p54, .cells #[.int .i64 x51.water, .map (some b67)] 96 (0, 0))] ++ (G68), [(b245, .cells #[.bool false, .string (bs ([] : List UInt8))] 93 (0, 0))], G56, [(b10, .cells #[.int .i64 a1.Address, .int .i64 a1.Instance] 34 (0, 0))], [(p0, .cells #[.int .i64 a0.config.Clients, .int .i64 a0.config.Entries, .int .i64 a0.config.Bytes, .int .i64 a0.config.Reserve, .map (some b5), .int .i64 a0.entries, .int .i64 a0.bytes] 89 (0, 0))]] := S258.objs (by simp)
                        have S261 := S260.front 2 rfl
                        change St _ _ _ [G56, [(p54, .cells #[.int .i64 x51.water, .map (some b67)] 96 (0, 0))] ++ (G68), [(b245, .cells #[.bool false, .string (bs ([] : List UInt8))] 93 (0, 0))], [(b10, .cells #[.int .i64 a1.Address, .int .i64 a1.Instance] 34 (0, 0))], [(p0, .cells #[.int .i64 a0.config.Clients, .int .i64 a0.config.Entries, .int .i64 a0.config.Bytes, .int .i64 a0.config.Reserve, .map (some b5), .int .i64 a0.entries, .int .i64 a0.bytes] 89 (0, 0))]] at S261
                        have S262 := S261.front 1 rfl
                        change St _ _ _ [[(p54, .cells #[.int .i64 x51.water, .map (some b67)] 96 (0, 0))] ++ (G68), G56, [(b245, .cells #[.bool false, .string (bs ([] : List UInt8))] 93 (0, 0))], [(b10, .cells #[.int .i64 a1.Address, .int .i64 a1.Instance] 34 (0, 0))], [(p0, .cells #[.int .i64 a0.config.Clients, .int .i64 a0.config.Entries, .int .i64 a0.config.Bytes, .int .i64 a0.config.Reserve, .map (some b5), .int .i64 a0.entries, .int .i64 a0.bytes] 89 (0, 0))]] at S262
                        obtain ⟨G263, hO264, S265⟩ := St.unfocus S262 hF58 hO259
                        change St _ _ _ [G263, [(b245, .cells #[.bool false, .string (bs ([] : List UInt8))] 93 (0, 0))], [(b10, .cells #[.int .i64 a1.Address, .int .i64 a1.Instance] 34 (0, 0))], [(p0, .cells #[.int .i64 a0.config.Clients, .int .i64 a0.config.Entries, .int .i64 a0.config.Bytes, .int .i64 a0.config.Reserve, .map (some b5), .int .i64 a0.entries, .int .i64 a0.bytes] 89 (0, 0))]] at S265
                        have S266 := S265.front 3 rfl
                        change St _ _ _ [[(p0, .cells #[.int .i64 a0.config.Clients, .int .i64 a0.config.Entries, .int .i64 a0.config.Bytes, .int .i64 a0.config.Reserve, .map (some b5), .int .i64 a0.entries, .int .i64 a0.bytes] 89 (0, 0))], G263, [(b245, .cells #[.bool false, .string (bs ([] : List UInt8))] 93 (0, 0))], [(b10, .cells #[.int .i64 a1.Address, .int .i64 a1.Instance] 34 (0, 0))]] at S266
                        have hO267 : ObjO 89 Cache.rp p0 (⟨a0.config, (mput a0.clients a1 x51), a0.entries, a0.bytes⟩ : Cache) ([(p0, .cells #[.int .i64 a0.config.Clients, .int .i64 a0.config.Entries, .int .i64 a0.config.Bytes, .int .i64 a0.config.Reserve, .map (some b5), .int .i64 a0.entries, .int .i64 a0.bytes] 89 (0, 0))] ++ (G263)) := ⟨_, _, ⟨b5, G263, rfl, hO264, rfl⟩, rfl⟩
                        have S268 : St _ _ _ [[(p0, .cells #[.int .i64 a0.config.Clients, .int .i64 a0.config.Entries, .int .i64 a0.config.Bytes, .int .i64 a0.config.Reserve, .map (some b5), .int .i64 a0.entries, .int .i64 a0.bytes] 89 (0, 0))] ++ (G263), [(b245, .cells #[.bool false, .string (bs ([] : List UInt8))] 93 (0, 0))], [(b10, .cells #[.int .i64 a1.Address, .int .i64 a1.Instance] 34 (0, 0))]] := S266.objs (by simp)
                        exact ⟨[(p0, .cells #[.int .i64 a0.config.Clients, .int .i64 a0.config.Entries, .int .i64 a0.config.Bytes, .int .i64 a0.config.Reserve, .map (some b5), .int .i64 a0.entries, .int .i64 a0.bytes] 89 (0, 0))] ++ (G263), rfl, hO267, St.keep (As := [[(p0, .cells #[.int .i64 a0.config.Clients, .int .i64 a0.config.Entries, .int .i64 a0.config.Bytes, .int .i64 a0.config.Reserve, .map (some b5), .int .i64 a0.entries, .int .i64 a0.bytes] 89 (0, 0))] ++ (G263)]) S268⟩
                      ·
                        refine WH.p rfl (wants_on rfl (kbl (b := decide (a0.config.Bytes < (w64 (a0.bytes + a0.config.Reserve)))) rfl (decide_eq_false h256))) (G.move rfl) rfl ?_
                        refine WH.p rfl (wants_on rfl (kbl (b := decide (a0.config.Bytes < (w64 (a0.bytes + a0.config.Reserve)))) rfl (decide_eq_false h256))) (G.move rfl) rfl ?_
                        refine WH.p rfl (wants_on rfl rfl) (G.move rfl) rfl ?_
                        refine WH.p rfl (wants_on rfl rfl) (G.nilp rfl) rfl ?_
                        refine WH.p rfl (wants_on rfl rfl) (G.field T.fld96_1 rfl (show 0 + 1 = 1 from rfl)) rfl ?_
                        refine WH.p rfl (wants_on rfl rfl) (G.move rfl) rfl ?_
                        refine WH.p rfl (wants_on rfl rfl) (G.nilp rfl) rfl ?_
                        refine WH.p rfl (wants_on rfl rfl) (G.field T.fld89_0 rfl (show 0 + 0 = 0 from rfl)) rfl ?_
                        refine WH.p rfl (wants_on rfl rfl) (G.field T.fld26_1 rfl (show 0 + 1 = 1 from rfl)) rfl ?_
                        refine WH.r rfl (wants_on rfl rfl) (fun _ h_ => G.load1 T.one94 rfl (cellsAt.at h_.2.1 1 rfl)) rfl ?_
                        refine WH.r rfl (wants_on rfl rfl) (fun _ h_ => G.load1 T.one3 rfl (cellsAt.at h_.1 1 rfl)) rfl ?_
                        refine WH.e rfl (wants_on rfl rfl) (GR.e (G.maplen Try.underlying94 (MapO.rd hO69 (fun b o hb => S254.grp 2 rfl hb)) rfl)) rfl ⟨cellsAt.of_blk (S254.blk 5 rfl) rfl, cellsAt.of_blk (S254.blk 1 rfl) rfl, trivial⟩ ?_
                        refine WH.p rfl (wants_on rfl rfl) (G.geq rfl rfl rfl) rfl ?_
                        refine WH.p rfl (wants_on rfl (kbl (b := decide (a0.config.Bytes < (w64 (a0.bytes + a0.config.Reserve)))) rfl (decide_eq_false h256))) (G.pick_t rfl rfl) rfl ?_
                        refine WH.p rfl wants (G.pick_f (kb (b := decide (a0.config.Bytes < (w64 (a0.bytes + a0.config.Reserve)))) rfl (decide_eq_false h256)) rfl) rfl ?_
                        refine WH.p rfl wants (G.move rfl) rfl ?_
                        rcases ite_some hF with ⟨h269, hF⟩ | ⟨h269, hF⟩
                        ·
                          refine WH.off rfl rfl (kbl (b := decide (a0.config.Entries ≤ (x51.calls.length : Int))) rfl (decide_eq_true h269)) rfl rfl rfl ?_
                          refine WH.off rfl rfl (kbl (b := decide (a0.config.Entries ≤ (x51.calls.length : Int))) rfl (decide_eq_true h269)) rfl rfl rfl ?_
                          refine WH.off rfl rfl (kbl (b := decide (a0.config.Entries ≤ (x51.calls.length : Int))) rfl (decide_eq_true h269)) rfl rfl rfl ?_
                          refine WH.off rfl rfl rfl rfl rfl rfl ?_
                          refine WH.off rfl rfl rfl rfl rfl rfl ?_
                          refine WH.off rfl rfl rfl rfl rfl rfl ?_
                          refine WH.off rfl rfl rfl rfl rfl rfl ?_
                          refine WH.off rfl rfl rfl rfl rfl rfl ?_
                          refine WH.off rfl rfl rfl rfl rfl rfl ?_
                          refine WH.off rfl rfl rfl rfl rfl rfl ?_
                          refine WH.off rfl rfl rfl rfl rfl rfl ?_
                          refine WH.off rfl rfl rfl rfl rfl rfl ?_
                          refine WH.off2 rfl rfl rfl rfl rfl ⟨cellsAt.of_blk (S254.blk 5 rfl) rfl, cellsAt.of_blk (S254.blk 1 rfl) rfl, trivial⟩ ?_
                          refine WH.off rfl rfl rfl rfl rfl rfl ?_
                          refine WH.off rfl rfl (kbl (b := decide (a0.config.Entries ≤ (x51.calls.length : Int))) rfl (decide_eq_true h269)) rfl rfl rfl ?_
                          refine WH.p rfl wants (G.pick_t (kb (b := decide (a0.config.Entries ≤ (x51.calls.length : Int))) rfl (decide_eq_true h269)) rfl) rfl ?_
                          refine WH.nil ?_
                          refine WEx.then_ ?_
                          refine WCode.forget (l' := [(0, .pointer (some ⟨p0, 0, none⟩)), (2, .int .i64 a2), (3, .int .i64 x51.water), (5, .pointer (some ⟨b10, 0, none⟩)), (10, .pointer (some ⟨p54, 0, none⟩)), (11, .bool true), (138, .bool true)]) ⟨rfl, rfl, rfl, rfl, rfl, rfl, rfl, trivial⟩ ?_
                          refine WCode.cond_t rfl ?_
                          refine WCode.seq ?_
                          refine WCode.region ?_
                          refine WOps.p (G.assign rfl) rfl ?_
                          refine WOps.p (G.assign rfl) rfl ?_
                          refine WOps.nil ?_
                          refine WEx.then_ ?_
                          refine WCode.ret ?_
                          refine WEx.then_ret ?_
                          obtain rfl := some_eq hF
                          refine WEx.ret2 rfl rfl rfl ?_
                          have S270 := S254.front 2 rfl
                          change St _ _ _ [G68, [(b245, .cells #[.bool false, .string (bs ([] : List UInt8))] 93 (0, 0))], [(p54, .cells #[.int .i64 x51.water, .map (some b67)] 96 (0, 0))], G56, [(b10, .cells #[.int .i64 a1.Address, .int .i64 a1.Instance] 34 (0, 0))], [(p0, .cells #[.int .i64 a0.config.Clients, .int .i64 a0.config.Entries, .int .i64 a0.config.Bytes, .int .i64 a0.config.Reserve, .map (some b5), .int .i64 a0.entries, .int .i64 a0.bytes] 89 (0, 0))]] at S270
                          have S271 := S270.front 2 rfl
                          change St _ _ _ [[(p54, .cells #[.int .i64 x51.water, .map (some b67)] 96 (0, 0))], G68, [(b245, .cells #[.bool false, .string (bs ([] : List UInt8))] 93 (0, 0))], G56, [(b10, .cells #[.int .i64 a1.Address, .int .i64 a1.Instance] 34 (0, 0))], [(p0, .cells #[.int .i64 a0.config.Clients, .int .i64 a0.config.Entries, .int .i64 a0.config.Bytes, .int .i64 a0.config.Reserve, .map (some b5), .int .i64 a0.entries, .int .i64 a0.bytes] 89 (0, 0))]] at S271
                          have hO272 : ObjO 96 Known.rp p54 x51 ([(p54, .cells #[.int .i64 x51.water, .map (some b67)] 96 (0, 0))] ++ (G68)) := ⟨_, _, ⟨b67, G68, rfl, hO69, rfl⟩, rfl⟩
                          have S273 : St _ _ _ [[(p54, .cells #[.int .i64 x51.water, .map (some b67)] 96 (0, 0))] ++ (G68), [(b245, .cells #[.bool false, .string (bs ([] : List UInt8))] 93 (0, 0))], G56, [(b10, .cells #[.int .i64 a1.Address, .int .i64 a1.Instance] 34 (0, 0))], [(p0, .cells #[.int .i64 a0.config.Clients, .int .i64 a0.config.Entries, .int .i64 a0.config.Bytes, .int .i64 a0.config.Reserve, .map (some b5), .int .i64 a0.entries, .int .i64 a0.bytes] 89 (0, 0))]] := S271.objs (by simp)
                          have S274 := S273.front 2 rfl
                          change St _ _ _ [G56, [(p54, .cells #[.int .i64 x51.water, .map (some b67)] 96 (0, 0))] ++ (G68), [(b245, .cells #[.bool false, .string (bs ([] : List UInt8))] 93 (0, 0))], [(b10, .cells #[.int .i64 a1.Address, .int .i64 a1.Instance] 34 (0, 0))], [(p0, .cells #[.int .i64 a0.config.Clients, .int .i64 a0.config.Entries, .int .i64 a0.config.Bytes, .int .i64 a0.config.Reserve, .map (some b5), .int .i64 a0.entries, .int .i64 a0.bytes] 89 (0, 0))]] at S274
                          have S275 := S274.front 1 rfl
                          change St _ _ _ [[(p54, .cells #[.int .i64 x51.water, .map (some b67)] 96 (0, 0))] ++ (G68), G56, [(b245, .cells #[.bool false, .string (bs ([] : List UInt8))] 93 (0, 0))], [(b10, .cells #[.int .i64 a1.Address, .int .i64 a1.Instance] 34 (0, 0))], [(p0, .cells #[.int .i64 a0.config.Clients, .int .i64 a0.config.Entries, .int .i64 a0.config.Bytes, .int .i64 a0.config.Reserve, .map (some b5), .int .i64 a0.entries, .int .i64 a0.bytes] 89 (0, 0))]] at S275
                          obtain ⟨G276, hO277, S278⟩ := St.unfocus S275 hF58 hO272
                          change St _ _ _ [G276, [(b245, .cells #[.bool false, .string (bs ([] : List UInt8))] 93 (0, 0))], [(b10, .cells #[.int .i64 a1.Address, .int .i64 a1.Instance] 34 (0, 0))], [(p0, .cells #[.int .i64 a0.config.Clients, .int .i64 a0.config.Entries, .int .i64 a0.config.Bytes, .int .i64 a0.config.Reserve, .map (some b5), .int .i64 a0.entries, .int .i64 a0.bytes] 89 (0, 0))]] at S278
                          have S279 := S278.front 3 rfl
                          change St _ _ _ [[(p0, .cells #[.int .i64 a0.config.Clients, .int .i64 a0.config.Entries, .int .i64 a0.config.Bytes, .int .i64 a0.config.Reserve, .map (some b5), .int .i64 a0.entries, .int .i64 a0.bytes] 89 (0, 0))], G276, [(b245, .cells #[.bool false, .string (bs ([] : List UInt8))] 93 (0, 0))], [(b10, .cells #[.int .i64 a1.Address, .int .i64 a1.Instance] 34 (0, 0))]] at S279
                          have hO280 : ObjO 89 Cache.rp p0 (⟨a0.config, (mput a0.clients a1 x51), a0.entries, a0.bytes⟩ : Cache) ([(p0, .cells #[.int .i64 a0.config.Clients, .int .i64 a0.config.Entries, .int .i64 a0.config.Bytes, .int .i64 a0.config.Reserve, .map (some b5), .int .i64 a0.entries, .int .i64 a0.bytes] 89 (0, 0))] ++ (G276)) := ⟨_, _, ⟨b5, G276, rfl, hO277, rfl⟩, rfl⟩
                          have S281 : St _ _ _ [[(p0, .cells #[.int .i64 a0.config.Clients, .int .i64 a0.config.Entries, .int .i64 a0.config.Bytes, .int .i64 a0.config.Reserve, .map (some b5), .int .i64 a0.entries, .int .i64 a0.bytes] 89 (0, 0))] ++ (G276), [(b245, .cells #[.bool false, .string (bs ([] : List UInt8))] 93 (0, 0))], [(b10, .cells #[.int .i64 a1.Address, .int .i64 a1.Instance] 34 (0, 0))]] := S279.objs (by simp)
                          exact ⟨[(p0, .cells #[.int .i64 a0.config.Clients, .int .i64 a0.config.Entries, .int .i64 a0.config.Bytes, .int .i64 a0.config.Reserve, .map (some b5), .int .i64 a0.entries, .int .i64 a0.bytes] 89 (0, 0))] ++ (G276), rfl, hO280, St.keep (As := [[(p0, .cells #[.int .i64 a0.config.Clients, .int .i64 a0.config.Entries, .int .i64 a0.config.Bytes, .int .i64 a0.config.Reserve, .map (some b5), .int .i64 a0.entries, .int .i64 a0.bytes] 89 (0, 0))] ++ (G276)]) S281⟩
                        ·
                          refine WH.p rfl (wants_on rfl (kbl (b := decide (a0.config.Entries ≤ (x51.calls.length : Int))) rfl (decide_eq_false h269))) (G.move rfl) rfl ?_
                          refine WH.p rfl (wants_on rfl (kbl (b := decide (a0.config.Entries ≤ (x51.calls.length : Int))) rfl (decide_eq_false h269))) (G.not rfl rfl) rfl ?_
                          refine WH.p rfl (wants_on rfl (kbl (b := decide (a0.config.Entries ≤ (x51.calls.length : Int))) rfl (decide_eq_false h269))) (G.move rfl) rfl ?_
                          refine WH.off rfl rfl rfl rfl rfl rfl ?_
                          refine WH.off rfl rfl rfl rfl rfl rfl ?_
                          refine WH.off rfl rfl rfl rfl rfl rfl ?_
                          refine WH.off rfl rfl rfl rfl rfl rfl ?_
                          refine WH.off rfl rfl rfl rfl rfl rfl ?_
                          refine WH.off rfl rfl rfl rfl rfl rfl ?_
                          refine WH.off rfl rfl rfl rfl rfl rfl ?_
                          refine WH.off rfl rfl rfl rfl rfl rfl ?_
                          refine WH.off rfl rfl rfl rfl rfl rfl ?_
                          refine WH.off2 rfl rfl rfl rfl rfl ⟨cellsAt.of_blk (S254.blk 5 rfl) rfl, cellsAt.of_blk (S254.blk 1 rfl) rfl, trivial⟩ ?_
                          refine WH.off rfl rfl rfl rfl rfl rfl ?_
                          refine WH.p rfl (wants_on rfl (kbl (b := decide (a0.config.Entries ≤ (x51.calls.length : Int))) rfl (decide_eq_false h269))) (G.pick_f rfl rfl) rfl ?_
                          refine WH.p rfl wants (G.pick_f (kb (b := decide (a0.config.Entries ≤ (x51.calls.length : Int))) rfl (decide_eq_false h269)) rfl) rfl ?_
                          refine WH.nil ?_
                          refine WEx.then_ ?_
                          refine WCode.forget (l' := [(0, .pointer (some ⟨p0, 0, none⟩)), (2, .int .i64 a2), (3, .int .i64 x51.water), (5, .pointer (some ⟨b10, 0, none⟩)), (10, .pointer (some ⟨p54, 0, none⟩)), (11, .bool true), (138, .bool false)]) ⟨rfl, rfl, rfl, rfl, rfl, rfl, rfl, trivial⟩ ?_
                          refine WCode.cond_f rfl ?_
                          refine WCode.skip ?_
                          refine WEx.then_ ?_
                          refine WCode.seq ?_
                          refine WCode.seq ?_
                          refine WCode.region ?_
                          refine WOps.p (G.move rfl) rfl ?_
                          refine WOps.p (G.not rfl rfl) rfl ?_
                          refine WOps.nil ?_
                          refine WEx.then_ ?_
                          refine WCode.cond_f rfl ?_
                          refine WCode.skip ?_
                          refine WEx.then_ ?_
                          refine WCode.seq ?_
                          refine WCode.region ?_
                          refine WOps.p (G.move rfl) rfl ?_
                          refine WOps.p (G.nilp rfl) rfl ?_
                          refine WOps.p (G.field T.fld96_1 rfl (show 0 + 1 = 1 from rfl)) rfl ?_
                          refine WOps.r (G.load1 T.one94 rfl (cell_blk (S254.blk 1 rfl) rfl)) rfl ?_
                          refine WOps.p (G.move rfl) rfl ?_
                          refine WOps.p (G.build (cells := #[.bool false, .string (bs ([] : List UInt8))]) (evp_spec (evp_nil)) (by kernel_rfl)) rfl ?_
                          have S282 := S254.front 2 rfl
                          change St _ _ _ [G68, [(b245, .cells #[.bool false, .string (bs ([] : List UInt8))] 93 (0, 0))], [(p54, .cells #[.int .i64 x51.water, .map (some b67)] 96 (0, 0))], G56, [(b10, .cells #[.int .i64 a1.Address, .int .i64 a1.Instance] 34 (0, 0))], [(p0, .cells #[.int .i64 a0.config.Clients, .int .i64 a0.config.Entries, .int .i64 a0.config.Bytes, .int .i64 a0.config.Reserve, .map (some b5), .int .i64 a0.entries, .int .i64 a0.bytes] 89 (0, 0))]] at S282
                          obtain ⟨G283, w284, U285, hM286, S287⟩ := St.mapPut (P := Try.prog) S282 T.key94 Try.underlying94 hO69 a2 (⟨false, ([] : List UInt8)⟩ : Entry)
                          change St _ _ _ [G283, [(b245, .cells #[.bool false, .string (bs ([] : List UInt8))] 93 (0, 0))], [(p54, .cells #[.int .i64 x51.water, .map (some b67)] 96 (0, 0))], G56, [(b10, .cells #[.int .i64 a1.Address, .int .i64 a1.Instance] 34 (0, 0))], [(p0, .cells #[.int .i64 a0.config.Clients, .int .i64 a0.config.Entries, .int .i64 a0.config.Bytes, .int .i64 a0.config.Reserve, .map (some b5), .int .i64 a0.entries, .int .i64 a0.bytes] 89 (0, 0))]] at S287
                          refine WOps.u (U285 rfl rfl rfl) ?_
                          refine WOps.nil ?_
                          refine WEx.then_ ?_
                          refine WCode.forget (l' := [(0, .pointer (some ⟨p0, 0, none⟩))]) ⟨rfl, trivial⟩ ?_
                          refine WCode.seq ?_
                          refine WCode.region ?_
                          refine WOps.p (G.move rfl) rfl ?_
                          refine WOps.p (G.nilp rfl) rfl ?_
                          refine WOps.p (G.field T.fld89_2 rfl (show 0 + 5 = 5 from rfl)) rfl ?_
                          refine WOps.r (G.load1 T.one3 rfl (cell_blk (S287.blk 5 rfl) rfl)) rfl ?_
                          refine WOps.p (G.add rfl rfl (r := (w64 (a0.entries + 1))) rfl) rfl ?_
                          refine WOps.p (G.nilp rfl) rfl ?_
                          refine WOps.p (G.field T.fld89_2 rfl (show 0 + 5 = 5 from rfl)) rfl ?_
                          obtain ⟨w288, E289, S290⟩ := St.store (P := Try.prog) S287 5 3 (.int .i64 (w64 (a0.entries + 1))) (off := 5) (cur' := #[.int .i64 a0.config.Clients, .int .i64 a0.config.Entries, .int .i64 a0.config.Bytes, .int .i64 a0.config.Reserve, .map (some b5), .int .i64 (w64 (a0.entries + 1)), .int .i64 a0.bytes]) rfl T.size3_1 rfl rfl rfl
                          change St _ _ _ [G283, [(b245, .cells #[.bool false, .string (bs ([] : List UInt8))] 93 (0, 0))], [(p54, .cells #[.int .i64 x51.water, .map (some b67)] 96 (0, 0))], G56, [(b10, .cells #[.int .i64 a1.Address, .int .i64 a1.Instance] 34 (0, 0))], [(p0, .cells #[.int .i64 a0.config.Clients, .int .i64 a0.config.Entries, .int .i64 a0.config.Bytes, .int .i64 a0.config.Reserve, .map (some b5), .int .i64 (w64 (a0.entries + 1)), .int .i64 a0.bytes] 89 (0, 0))]] at S290
                          refine WOps.u (E289 rfl rfl) ?_
                          refine WOps.nil ?_
                          refine WEx.then_ ?_
                          refine WCode.seq ?_
                          refine WCode.draw [⟨0, 0, []⟩, ⟨1, 0, []⟩, ⟨2, 0, []⟩, ⟨4, 0, []⟩, ⟨5, 0, []⟩, ⟨6, 0, []⟩, ⟨7, 0, []⟩, ⟨3, 1, [9, 10, 11, 12]⟩, ⟨8, 1, [9, 10, 11, 12]⟩, ⟨9, 0, []⟩, ⟨10, 0, []⟩, ⟨11, 0, []⟩, ⟨12, 2, []⟩] T.mixed (by kernel_rfl) (by intro _ _ d _ _ h; cases d <;> exact h) rfl (by kernel_rfl) ?_
                          have S291 := S290.drew
                          generalize w288.drew = w292 at *
                          refine WD.p rfl (G.move rfl) rfl ?_
                          refine WD.p rfl (G.nilp rfl) rfl ?_
                          refine WD.p rfl (G.field T.fld89_3 rfl (show 0 + 6 = 6 from rfl)) rfl ?_
                          refine WD.p rfl (G.move rfl) rfl ?_
                          refine WD.p rfl (G.nilp rfl) rfl ?_
                          refine WD.p rfl (G.field T.fld89_0 rfl (show 0 + 0 = 0 from rfl)) rfl ?_
                          refine WD.p rfl (G.field T.fld26_3 rfl (show 0 + 3 = 3 from rfl)) rfl ?_
                          refine WD.r rfl (G.load1 T.one3 rfl (cell_blk (S291.blk 5 rfl) rfl)) rfl ?_
                          refine WD.r rfl (G.load1 T.one3 rfl (cell_blk (S291.blk 5 rfl) rfl)) rfl ?_
                          refine WD.p rfl (G.add rfl rfl (r := (w64 (a0.bytes + a0.config.Reserve))) rfl) rfl ?_
                          refine WD.p rfl (G.nilp rfl) rfl ?_
                          refine WD.p rfl (G.field T.fld89_3 rfl (show 0 + 6 = 6 from rfl)) rfl ?_
                          obtain ⟨w293, E294, S295⟩ := St.store (P := Try.prog) S291 5 3 (.int .i64 (w64 (a0.bytes + a0.config.Reserve))) (off := 6) (cur' := #[.int .i64 a0.config.Clients, .int .i64 a0.config.Entries, .int .i64 a0.config.Bytes, .int .i64 a0.config.Reserve, .map (some b5), .int .i64 (w64 (a0.entries + 1)), .int .i64 (w64 (a0.bytes + a0.config.Reserve))]) rfl T.size3_1 rfl rfl rfl
                          change St _ _ _ [G283, [(b245, .cells #[.bool false, .string (bs ([] : List UInt8))] 93 (0, 0))], [(p54, .cells #[.int .i64 x51.water, .map (some b67)] 96 (0, 0))], G56, [(b10, .cells #[.int .i64 a1.Address, .int .i64 a1.Instance] 34 (0, 0))], [(p0, .cells #[.int .i64 a0.config.Clients, .int .i64 a0.config.Entries, .int .i64 a0.config.Bytes, .int .i64 a0.config.Reserve, .map (some b5), .int .i64 (w64 (a0.entries + 1)), .int .i64 (w64 (a0.bytes + a0.config.Reserve))] 89 (0, 0))]] at S295
                          refine WD.u rfl (E294 rfl rfl) ?_
                          refine WD.nil ?_
                          refine WEx.then_ ?_
                          refine WCode.forget (l' := []) trivial ?_
                          refine WCode.seq ?_
                          refine WCode.region ?_
                          refine WOps.p (G.assign rfl) rfl ?_
                          refine WOps.p (G.assign rfl) rfl ?_
                          refine WOps.nil ?_
                          refine WEx.then_ ?_
                          refine WCode.ret ?_
                          obtain rfl := some_eq hF
                          refine WEx.ret2 rfl rfl rfl ?_
                          have S296 := S295.front 2 rfl
                          change St _ _ _ [[(p54, .cells #[.int .i64 x51.water, .map (some b67)] 96 (0, 0))], G283, [(b245, .cells #[.bool false, .string (bs ([] : List UInt8))] 93 (0, 0))], G56, [(b10, .cells #[.int .i64 a1.Address, .int .i64 a1.Instance] 34 (0, 0))], [(p0, .cells #[.int .i64 a0.config.Clients, .int .i64 a0.config.Entries, .int .i64 a0.config.Bytes, .int .i64 a0.config.Reserve, .map (some b5), .int .i64 (w64 (a0.entries + 1)), .int .i64 (w64 (a0.bytes + a0.config.Reserve))] 89 (0, 0))]] at S296
                          have hO297 : ObjO 96 Known.rp p54 (⟨x51.water, (mput x51.calls a2 (⟨false, ([] : List UInt8)⟩ : Entry))⟩ : Known) ([(p54, .cells #[.int .i64 x51.water, .map (some b67)] 96 (0, 0))] ++ (G283)) := ⟨_, _, ⟨b67, G283, rfl, hM286, rfl⟩, rfl⟩
                          have S298 : St _ _ _ [[(p54, .cells #[.int .i64 x51.water, .map (some b67)] 96 (0, 0))] ++ (G283), [(b245, .cells #[.bool false, .string (bs ([] : List UInt8))] 93 (0, 0))], G56, [(b10, .cells #[.int .i64 a1.Address, .int .i64 a1.Instance] 34 (0, 0))], [(p0, .cells #[.int .i64 a0.config.Clients, .int .i64 a0.config.Entries, .int .i64 a0.config.Bytes, .int .i64 a0.config.Reserve, .map (some b5), .int .i64 (w64 (a0.entries + 1)), .int .i64 (w64 (a0.bytes + a0.config.Reserve))] 89 (0, 0))]] := S296.objs (by simp)
                          have S299 := S298.front 2 rfl
                          change St _ _ _ [G56, [(p54, .cells #[.int .i64 x51.water, .map (some b67)] 96 (0, 0))] ++ (G283), [(b245, .cells #[.bool false, .string (bs ([] : List UInt8))] 93 (0, 0))], [(b10, .cells #[.int .i64 a1.Address, .int .i64 a1.Instance] 34 (0, 0))], [(p0, .cells #[.int .i64 a0.config.Clients, .int .i64 a0.config.Entries, .int .i64 a0.config.Bytes, .int .i64 a0.config.Reserve, .map (some b5), .int .i64 (w64 (a0.entries + 1)), .int .i64 (w64 (a0.bytes + a0.config.Reserve))] 89 (0, 0))]] at S299
                          have S300 := S299.front 1 rfl
                          change St _ _ _ [[(p54, .cells #[.int .i64 x51.water, .map (some b67)] 96 (0, 0))] ++ (G283), G56, [(b245, .cells #[.bool false, .string (bs ([] : List UInt8))] 93 (0, 0))], [(b10, .cells #[.int .i64 a1.Address, .int .i64 a1.Instance] 34 (0, 0))], [(p0, .cells #[.int .i64 a0.config.Clients, .int .i64 a0.config.Entries, .int .i64 a0.config.Bytes, .int .i64 a0.config.Reserve, .map (some b5), .int .i64 (w64 (a0.entries + 1)), .int .i64 (w64 (a0.bytes + a0.config.Reserve))] 89 (0, 0))]] at S300
                          obtain ⟨G301, hO302, S303⟩ := St.unfocus S300 hF58 hO297
                          change St _ _ _ [G301, [(b245, .cells #[.bool false, .string (bs ([] : List UInt8))] 93 (0, 0))], [(b10, .cells #[.int .i64 a1.Address, .int .i64 a1.Instance] 34 (0, 0))], [(p0, .cells #[.int .i64 a0.config.Clients, .int .i64 a0.config.Entries, .int .i64 a0.config.Bytes, .int .i64 a0.config.Reserve, .map (some b5), .int .i64 (w64 (a0.entries + 1)), .int .i64 (w64 (a0.bytes + a0.config.Reserve))] 89 (0, 0))]] at S303
                          have S304 := S303.front 3 rfl
                          change St _ _ _ [[(p0, .cells #[.int .i64 a0.config.Clients, .int .i64 a0.config.Entries, .int .i64 a0.config.Bytes, .int .i64 a0.config.Reserve, .map (some b5), .int .i64 (w64 (a0.entries + 1)), .int .i64 (w64 (a0.bytes + a0.config.Reserve))] 89 (0, 0))], G301, [(b245, .cells #[.bool false, .string (bs ([] : List UInt8))] 93 (0, 0))], [(b10, .cells #[.int .i64 a1.Address, .int .i64 a1.Instance] 34 (0, 0))]] at S304
                          have hO305 : ObjO 89 Cache.rp p0 (⟨a0.config, (mput a0.clients a1 (⟨x51.water, (mput x51.calls a2 (⟨false, ([] : List UInt8)⟩ : Entry))⟩ : Known)), w64 (a0.entries + 1), w64 (a0.bytes + a0.config.Reserve)⟩ : Cache) ([(p0, .cells #[.int .i64 a0.config.Clients, .int .i64 a0.config.Entries, .int .i64 a0.config.Bytes, .int .i64 a0.config.Reserve, .map (some b5), .int .i64 (w64 (a0.entries + 1)), .int .i64 (w64 (a0.bytes + a0.config.Reserve))] 89 (0, 0))] ++ (G301)) := ⟨_, _, ⟨b5, G301, rfl, hO302, rfl⟩, rfl⟩
                          have S306 : St _ _ _ [[(p0, .cells #[.int .i64 a0.config.Clients, .int .i64 a0.config.Entries, .int .i64 a0.config.Bytes, .int .i64 a0.config.Reserve, .map (some b5), .int .i64 (w64 (a0.entries + 1)), .int .i64 (w64 (a0.bytes + a0.config.Reserve))] 89 (0, 0))] ++ (G301), [(b245, .cells #[.bool false, .string (bs ([] : List UInt8))] 93 (0, 0))], [(b10, .cells #[.int .i64 a1.Address, .int .i64 a1.Instance] 34 (0, 0))]] := S304.objs (by simp)
                          exact ⟨[(p0, .cells #[.int .i64 a0.config.Clients, .int .i64 a0.config.Entries, .int .i64 a0.config.Bytes, .int .i64 a0.config.Reserve, .map (some b5), .int .i64 (w64 (a0.entries + 1)), .int .i64 (w64 (a0.bytes + a0.config.Reserve))] 89 (0, 0))] ++ (G301), rfl, hO305, St.keep (As := [[(p0, .cells #[.int .i64 a0.config.Clients, .int .i64 a0.config.Entries, .int .i64 a0.config.Bytes, .int .i64 a0.config.Reserve, .map (some b5), .int .i64 (w64 (a0.entries + 1)), .int .i64 (w64 (a0.bytes + a0.config.Reserve))] 89 (0, 0))] ++ (G301)]) S306⟩
              ·
                have hn307 := Option.not_isSome_iff_eq_none.1 h50
                obtain ⟨Y308, hM309, hl310, hm311⟩ := CliO.look (w := w49) hO7 (fun b o hb => S48.grp 2 rfl hb)
                refine WD.e rfl (GR.e (G.mapget0 T.key87 Try.underlying87 T.zero90 hM309 rfl rfl (hm311 _ hn307))) rfl ?_
                refine WD.p rfl (G.move rfl) rfl ?_
                refine WD.p rfl (G.extract rfl rfl) rfl ?_
                refine WD.p rfl (G.extract rfl rfl) rfl ?_
                refine WD.p rfl (G.assign rfl) rfl ?_
                refine WD.p rfl (G.assign rfl) rfl ?_
                refine WD.nil ?_
                refine WEx.then_ ?_
                refine WCode.forget (l' := [(0, .pointer (some ⟨p0, 0, none⟩)), (2, .int .i64 a2), (3, .int .i64 a3), (5, .pointer (some ⟨b10, 0, none⟩)), (10, .pointer none), (11, .bool false)]) ⟨rfl, rfl, rfl, rfl, rfl, rfl, trivial⟩ ?_
                refine WCode.seq ?_
                refine WCode.seq ?_
                refine WCode.region ?_
                refine WOps.p (G.move rfl) rfl ?_
                refine WOps.p (G.move rfl) rfl ?_
                refine WOps.off rfl rfl rfl rfl ?_
                refine WOps.off rfl rfl rfl rfl ?_
                refine WOps.off rfl rfl rfl rfl ?_
                refine WOps.off rfl rfl rfl rfl ?_
                refine WOps.off rfl rfl rfl rfl ?_
                refine WOps.off rfl rfl rfl rfl ?_
                refine WOps.p (G.pick_f rfl rfl) rfl ?_
                refine WOps.nil ?_
                refine WEx.then_ ?_
                refine WCode.cond_f rfl ?_
                refine WCode.skip ?_
                refine WEx.then_ ?_
                refine WCode.seq ?_
                refine WCode.seq ?_
                refine WCode.region ?_
                refine WOps.p (G.move rfl) rfl ?_
                refine WOps.nil ?_
                refine WEx.then_ ?_
                refine WCode.cond_f rfl ?_
                refine WCode.skip ?_
                refine WEx.then_ ?_
                refine WCode.forget (l' := [(0, .pointer (some ⟨p0, 0, none⟩)), (2, .int .i64 a2), (3, .int .i64 a3), (5, .pointer (some ⟨b10, 0, none⟩)), (10, .pointer none), (11, .bool false)]) ⟨rfl, rfl, rfl, rfl, rfl, rfl, trivial⟩ ?_
                refine WCode.seq ?_
                refine WCode.seq ?_
                refine WCode.region ?_
                refine WOps.p (G.move rfl) rfl ?_
                refine WOps.p (G.move rfl) rfl ?_
                refine WOps.p (G.lss rfl rfl rfl) rfl ?_
                refine WOps.nil ?_
                refine WEx.then_ ?_
                rcases ite_some hF with ⟨h312, hF⟩ | ⟨h312, hF⟩
                ·
                  refine WCode.cond_t (kb (b := decide (a2 < a3)) rfl (decide_eq_true h312)) ?_
                  refine WCode.seq ?_
                  refine WCode.region ?_
                  refine WOps.p (G.assign rfl) rfl ?_
                  refine WOps.p (G.assign rfl) rfl ?_
                  refine WOps.nil ?_
                  refine WEx.then_ ?_
                  refine WCode.ret ?_
                  refine WEx.then_ret ?_
                  obtain rfl := some_eq hF
                  refine WEx.ret2 rfl rfl rfl ?_
                  have S313 := S48.front 2 rfl
                  change St _ _ _ [G6, [(b10, .cells #[.int .i64 a1.Address, .int .i64 a1.Instance] 34 (0, 0))], [(p0, .cells #[.int .i64 a0.config.Clients, .int .i64 a0.config.Entries, .int .i64 a0.config.Bytes, .int .i64 a0.config.Reserve, .map (some b5), .int .i64 a0.entries, .int .i64 a0.bytes] 89 (0, 0))]] at S313
                  have S314 := S313.front 2 rfl
                  change St _ _ _ [[(p0, .cells #[.int .i64 a0.config.Clients, .int .i64 a0.config.Entries, .int .i64 a0.config.Bytes, .int .i64 a0.config.Reserve, .map (some b5), .int .i64 a0.entries, .int .i64 a0.bytes] 89 (0, 0))], G6, [(b10, .cells #[.int .i64 a1.Address, .int .i64 a1.Instance] 34 (0, 0))]] at S314
                  have hO315 : ObjO 89 Cache.rp p0 a0 ([(p0, .cells #[.int .i64 a0.config.Clients, .int .i64 a0.config.Entries, .int .i64 a0.config.Bytes, .int .i64 a0.config.Reserve, .map (some b5), .int .i64 a0.entries, .int .i64 a0.bytes] 89 (0, 0))] ++ (G6)) := ⟨_, _, ⟨b5, G6, rfl, hO7, rfl⟩, rfl⟩
                  have S316 : St _ _ _ [[(p0, .cells #[.int .i64 a0.config.Clients, .int .i64 a0.config.Entries, .int .i64 a0.config.Bytes, .int .i64 a0.config.Reserve, .map (some b5), .int .i64 a0.entries, .int .i64 a0.bytes] 89 (0, 0))] ++ (G6), [(b10, .cells #[.int .i64 a1.Address, .int .i64 a1.Instance] 34 (0, 0))]] := S314.objs (by simp)
                  exact ⟨[(p0, .cells #[.int .i64 a0.config.Clients, .int .i64 a0.config.Entries, .int .i64 a0.config.Bytes, .int .i64 a0.config.Reserve, .map (some b5), .int .i64 a0.entries, .int .i64 a0.bytes] 89 (0, 0))] ++ (G6), rfl, hO315, St.keep (As := [[(p0, .cells #[.int .i64 a0.config.Clients, .int .i64 a0.config.Entries, .int .i64 a0.config.Bytes, .int .i64 a0.config.Reserve, .map (some b5), .int .i64 a0.entries, .int .i64 a0.bytes] 89 (0, 0))] ++ (G6)]) S316⟩
                ·
                  refine WCode.cond_f (kb (b := decide (a2 < a3)) rfl (decide_eq_false h312)) ?_
                  refine WCode.skip ?_
                  refine WEx.then_ ?_
                  refine WCode.seq ?_
                  refine WCode.seq ?_
                  refine WCode.region ?_
                  refine WOps.p (G.move rfl) rfl ?_
                  refine WOps.nil ?_
                  refine WEx.then_ ?_
                  refine WCode.cond_f rfl ?_
                  refine WCode.skip ?_
                  refine WEx.then_ ?_
                  refine WCode.seq ?_
                  refine WCode.seq ?_
                  refine WCode.drawH (.one 0 0 (.one 1 0 (.one 2 0 (.one 4 0 (.one 5 0 (.one 6 0 (.one 7 0 (.one 10 0 (.one 11 0 (.one 12 0 (.one 13 0 (.one 3 1 (.one 8 1 (.one 9 0 (.one 14 1 (.one 15 0 (.one 16 0 (.one 17 0 (.one 18 0 (.one 19 0 (.one 20 0 (.one 21 0 (.one 24 0 (.one 25 0 (.one 26 0 (.one 27 0 (.one 22 1 (.one 28 1 (.one 23 2 (.one 29 0 (.one 30 0 (.one 31 0 (.one 32 0 (.one 33 0 (.one 34 0 (.one 35 0 (.one 36 0 (.one 37 0 (.one 38 0 (.one 41 0 (.one 42 0 (.one 43 0 (.one 44 0 (.one 39 1 (.one 45 1 (.one 40 2 (.one 46 0 (.one 47 0 (.one 48 0 .nil))))))))))))))))))))))))))))))))))))))))))))))))) (fun W_ => cellsAt W_ p0 0 [.int .i64 a0.config.Clients, .int .i64 a0.config.Entries, .int .i64 a0.config.Bytes, .int .i64 a0.config.Reserve, .map (some b5), .int .i64 a0.entries, .int .i64 a0.bytes] ∧ True) T.mixed (by kernel_rfl) (by intro _ _ d _ _ h; cases d <;> exact h) rfl rfl (by kernel_rfl) ?_ ?_
                  all_goals have S317 := S48.drew
                  all_goals generalize w49.drew = w318 at *
                  · exact ⟨cellsAt.of_blk (S317.blk 1 rfl) rfl, trivial⟩
                  refine WH.p rfl wants (G.move rfl) rfl ?_
                  refine WH.p rfl wants (G.nilp rfl) rfl ?_
                  refine WH.p rfl wants (G.field T.fld89_3 rfl (show 0 + 6 = 6 from rfl)) rfl ?_
                  refine WH.p rfl wants (G.move rfl) rfl ?_
                  refine WH.p rfl wants (G.nilp rfl) rfl ?_
                  refine WH.p rfl wants (G.field T.fld89_0 rfl (show 0 + 0 = 0 from rfl)) rfl ?_
                  refine WH.p rfl wants (G.field T.fld26_3 rfl (show 0 + 3 = 3 from rfl)) rfl ?_
                  refine WH.p rfl wants (G.move rfl) rfl ?_
                  refine WH.p rfl wants (G.nilp rfl) rfl ?_
                  refine WH.p rfl wants (G.field T.fld89_0 rfl (show 0 + 0 = 0 from rfl)) rfl ?_
                  refine WH.p rfl wants (G.field T.fld26_2 rfl (show 0 + 2 = 2 from rfl)) rfl ?_
                  refine WH.r rfl wants (fun _ h_ => G.load1 T.one3 rfl (cellsAt.at h_.1 6 rfl)) rfl ?_
                  refine WH.r rfl wants (fun _ h_ => G.load1 T.one3 rfl (cellsAt.at h_.1 3 rfl)) rfl ?_
                  refine WH.p rfl wants (G.add rfl rfl (r := (w64 (a0.bytes + a0.config.Reserve))) rfl) rfl ?_
                  refine WH.r rfl wants (fun _ h_ => G.load1 T.one3 rfl (cellsAt.at h_.1 2 rfl)) rfl ?_
                  refine WH.p rfl wants (G.gtr rfl rfl rfl) rfl ?_
                  refine WH.p rfl wants (G.move rfl) rfl ?_
                  rcases ite_some hF with ⟨h319, hF⟩ | ⟨h319, hF⟩
                  ·
                    refine WH.off rfl rfl (kbl (b := decide (a0.config.Bytes < (w64 (a0.bytes + a0.config.Reserve)))) rfl (decide_eq_true h319)) rfl rfl rfl ?_
                    refine WH.off rfl rfl (kbl (b := decide (a0.config.Bytes < (w64 (a0.bytes + a0.config.Reserve)))) rfl (decide_eq_true h319)) rfl rfl rfl ?_
                    refine WH.off rfl rfl rfl rfl rfl rfl ?_
                    refine WH.off rfl rfl rfl rfl rfl rfl ?_
                    refine WH.off rfl rfl rfl rfl rfl rfl ?_
                    refine WH.off rfl rfl rfl rfl rfl rfl ?_
                    refine WH.off rfl rfl rfl rfl rfl rfl ?_
                    refine WH.off rfl rfl rfl rfl rfl rfl ?_
                    refine WH.off rfl rfl rfl rfl rfl rfl ?_
                    refine WH.off rfl rfl rfl rfl rfl rfl ?_
                    refine WH.off rfl rfl rfl rfl rfl rfl ?_
                    refine WH.off2 rfl rfl rfl rfl rfl ⟨cellsAt.of_blk (S317.blk 1 rfl) rfl, trivial⟩ ?_
                    refine WH.off rfl rfl rfl rfl rfl rfl ?_
                    refine WH.off rfl rfl (kbl (b := decide (a0.config.Bytes < (w64 (a0.bytes + a0.config.Reserve)))) rfl (decide_eq_true h319)) rfl rfl rfl ?_
                    refine WH.p rfl wants (G.pick_t (kb (b := decide (a0.config.Bytes < (w64 (a0.bytes + a0.config.Reserve)))) rfl (decide_eq_true h319)) rfl) rfl ?_
                    refine WH.p rfl wants (G.move rfl) rfl ?_
                    refine WH.off rfl rfl rfl rfl rfl rfl ?_
                    refine WH.off rfl rfl rfl rfl rfl rfl ?_
                    refine WH.off rfl rfl rfl rfl rfl rfl ?_
                    refine WH.off rfl rfl rfl rfl rfl rfl ?_
                    refine WH.off rfl rfl rfl rfl rfl rfl ?_
                    refine WH.off rfl rfl rfl rfl rfl rfl ?_
                    refine WH.off rfl rfl rfl rfl rfl rfl ?_
                    refine WH.off rfl rfl rfl rfl rfl rfl ?_
                    refine WH.off rfl rfl rfl rfl rfl rfl ?_
                    refine WH.off rfl rfl rfl rfl rfl rfl ?_
                    refine WH.off rfl rfl rfl rfl rfl rfl ?_
                    refine WH.off rfl rfl rfl rfl rfl rfl ?_
                    refine WH.off2 rfl rfl rfl rfl rfl ⟨cellsAt.of_blk (S317.blk 1 rfl) rfl, trivial⟩ ?_
                    refine WH.off rfl rfl rfl rfl rfl rfl ?_
                    refine WH.off rfl rfl rfl rfl rfl rfl ?_
                    refine WH.p rfl wants (G.pick_t rfl rfl) rfl ?_
                    refine WH.nil ?_
                    refine WEx.then_ ?_
                    refine WCode.forget (l' := [(0, .pointer (some ⟨p0, 0, none⟩)), (2, .int .i64 a2), (3, .int .i64 a3), (5, .pointer (some ⟨b10, 0, none⟩)), (10, .pointer none), (11, .bool false), (138, .bool true)]) ⟨rfl, rfl, rfl, rfl, rfl, rfl, rfl, trivial⟩ ?_
                    refine WCode.cond_t rfl ?_
                    refine WCode.seq ?_
                    refine WCode.region ?_
                    refine WOps.p (G.assign rfl) rfl ?_
                    refine WOps.p (G.assign rfl) rfl ?_
                    refine WOps.nil ?_
                    refine WEx.then_ ?_
                    refine WCode.ret ?_
                    refine WEx.then_ret ?_
                    obtain rfl := some_eq hF
                    refine WEx.ret2 rfl rfl rfl ?_
                    have S320 := S317.front 2 rfl
                    change St _ _ _ [G6, [(b10, .cells #[.int .i64 a1.Address, .int .i64 a1.Instance] 34 (0, 0))], [(p0, .cells #[.int .i64 a0.config.Clients, .int .i64 a0.config.Entries, .int .i64 a0.config.Bytes, .int .i64 a0.config.Reserve, .map (some b5), .int .i64 a0.entries, .int .i64 a0.bytes] 89 (0, 0))]] at S320
                    have S321 := S320.front 2 rfl
                    change St _ _ _ [[(p0, .cells #[.int .i64 a0.config.Clients, .int .i64 a0.config.Entries, .int .i64 a0.config.Bytes, .int .i64 a0.config.Reserve, .map (some b5), .int .i64 a0.entries, .int .i64 a0.bytes] 89 (0, 0))], G6, [(b10, .cells #[.int .i64 a1.Address, .int .i64 a1.Instance] 34 (0, 0))]] at S321
                    have hO322 : ObjO 89 Cache.rp p0 a0 ([(p0, .cells #[.int .i64 a0.config.Clients, .int .i64 a0.config.Entries, .int .i64 a0.config.Bytes, .int .i64 a0.config.Reserve, .map (some b5), .int .i64 a0.entries, .int .i64 a0.bytes] 89 (0, 0))] ++ (G6)) := ⟨_, _, ⟨b5, G6, rfl, hO7, rfl⟩, rfl⟩
                    have S323 : St _ _ _ [[(p0, .cells #[.int .i64 a0.config.Clients, .int .i64 a0.config.Entries, .int .i64 a0.config.Bytes, .int .i64 a0.config.Reserve, .map (some b5), .int .i64 a0.entries, .int .i64 a0.bytes] 89 (0, 0))] ++ (G6), [(b10, .cells #[.int .i64 a1.Address, .int .i64 a1.Instance] 34 (0, 0))]] := S321.objs (by simp)
                    exact ⟨[(p0, .cells #[.int .i64 a0.config.Clients, .int .i64 a0.config.Entries, .int .i64 a0.config.Bytes, .int .i64 a0.config.Reserve, .map (some b5), .int .i64 a0.entries, .int .i64 a0.bytes] 89 (0, 0))] ++ (G6), rfl, hO322, St.keep (As := [[(p0, .cells #[.int .i64 a0.config.Clients, .int .i64 a0.config.Entries, .int .i64 a0.config.Bytes, .int .i64 a0.config.Reserve, .map (some b5), .int .i64 a0.entries, .int .i64 a0.bytes] 89 (0, 0))] ++ (G6)]) S323⟩
                  ·
                    refine WH.p rfl (wants_on rfl (kbl (b := decide (a0.config.Bytes < (w64 (a0.bytes + a0.config.Reserve)))) rfl (decide_eq_false h319))) (G.move rfl) rfl ?_
                    refine WH.p rfl (wants_on rfl (kbl (b := decide (a0.config.Bytes < (w64 (a0.bytes + a0.config.Reserve)))) rfl (decide_eq_false h319))) (G.move rfl) rfl ?_
                    refine WH.off rfl rfl rfl rfl rfl rfl ?_
                    refine WH.off rfl rfl rfl rfl rfl rfl ?_
                    refine WH.off rfl rfl rfl rfl rfl rfl ?_
                    refine WH.off rfl rfl rfl rfl rfl rfl ?_
                    refine WH.off rfl rfl rfl rfl rfl rfl ?_
                    refine WH.off rfl rfl rfl rfl rfl rfl ?_
                    refine WH.off rfl rfl rfl rfl rfl rfl ?_
                    refine WH.off rfl rfl rfl rfl rfl rfl ?_
                    refine WH.off rfl rfl rfl rfl rfl rfl ?_
                    refine WH.off2 rfl rfl rfl rfl rfl ⟨cellsAt.of_blk (S317.blk 1 rfl) rfl, trivial⟩ ?_
                    refine WH.off rfl rfl rfl rfl rfl rfl ?_
                    refine WH.p rfl (wants_on rfl (kbl (b := decide (a0.config.Bytes < (w64 (a0.bytes + a0.config.Reserve)))) rfl (decide_eq_false h319))) (G.pick_f rfl rfl) rfl ?_
                    refine WH.p rfl wants (G.pick_f (kb (b := decide (a0.config.Bytes < (w64 (a0.bytes + a0.config.Reserve)))) rfl (decide_eq_false h319)) rfl) rfl ?_
                    refine WH.p rfl wants (G.move rfl) rfl ?_
                    refine WH.p rfl (wants_on rfl rfl) (G.move rfl) rfl ?_
                    refine WH.p rfl (wants_on rfl rfl) (G.not rfl rfl) rfl ?_
                    refine WH.p rfl (wants_on rfl rfl) (G.move rfl) rfl ?_
                    refine WH.p rfl (wants_on rfl rfl) (G.move rfl) rfl ?_
                    refine WH.p rfl (wants_on rfl rfl) (G.nilp rfl) rfl ?_
                    refine WH.p rfl (wants_on rfl rfl) (G.field T.fld89_1 rfl (show 0 + 4 = 4 from rfl)) rfl ?_
                    refine WH.p rfl (wants_on rfl rfl) (G.move rfl) rfl ?_
                    refine WH.p rfl (wants_on rfl rfl) (G.nilp rfl) rfl ?_
                    refine WH.p rfl (wants_on rfl rfl) (G.field T.fld89_0 rfl (show 0 + 0 = 0 from rfl)) rfl ?_
                    refine WH.p rfl (wants_on rfl rfl) (G.field T.fld26_0 rfl (show 0 + 0 = 0 from rfl)) rfl ?_
                    refine WH.r rfl (wants_on rfl rfl) (fun _ h_ => G.load1 T.one87 rfl (cellsAt.at h_.1 4 rfl)) rfl ?_
                    refine WH.r rfl (wants_on rfl rfl) (fun _ h_ => G.load1 T.one3 rfl (cellsAt.at h_.1 0 rfl)) rfl ?_
                    obtain ⟨Y324, hM325, hl326, _⟩ := CliO.look (w := w318) hO7 (fun b o hb => S317.grp 2 rfl hb)
                    refine WH.e rfl (wants_on rfl rfl) (GR.e (G.maplenN Try.underlying87 hM325 hl326 rfl)) rfl ⟨cellsAt.of_blk (S317.blk 1 rfl) rfl, trivial⟩ ?_
                    refine WH.p rfl (wants_on rfl rfl) (G.geq rfl rfl rfl) rfl ?_
                    refine WH.p rfl (wants_on rfl rfl) (G.pick_t rfl rfl) rfl ?_
                    refine WH.p rfl wants (G.pick_f rfl rfl) rfl ?_
                    refine WH.nil ?_
                    refine WEx.then_ ?_
                    refine WCode.forget (l' := [(0, .pointer (some ⟨p0, 0, none⟩)), (2, .int .i64 a2), (3, .int .i64 a3), (5, .pointer (some ⟨b10, 0, none⟩)), (10, .pointer none), (11, .bool false), (138, .bool (decide (a0.config.Clients ≤ (a0.clients.length : Int))))]) ⟨rfl, rfl, rfl, rfl, rfl, rfl, rfl, trivial⟩ ?_
                    rcases ite_some hF with ⟨h327, hF⟩ | ⟨h327, hF⟩
                    ·
                      refine WCode.cond_t (kb (b := decide (a0.config.Clients ≤ (a0.clients.length : Int))) rfl (decide_eq_true h327)) ?_
                      refine WCode.seq ?_
                      refine WCode.region ?_
                      refine WOps.p (G.assign rfl) rfl ?_
                      refine WOps.p (G.assign rfl) rfl ?_
                      refine WOps.nil ?_
                      refine WEx.then_ ?_
                      refine WCode.ret ?_
                      refine WEx.then_ret ?_
                      obtain rfl := some_eq hF
                      refine WEx.ret2 rfl rfl rfl ?_
                      have S328 := S317.front 2 rfl
                      change St _ _ _ [G6, [(b10, .cells #[.int .i64 a1.Address, .int .i64 a1.Instance] 34 (0, 0))], [(p0, .cells #[.int .i64 a0.config.Clients, .int .i64 a0.config.Entries, .int .i64 a0.config.Bytes, .int .i64 a0.config.Reserve, .map (some b5), .int .i64 a0.entries, .int .i64 a0.bytes] 89 (0, 0))]] at S328
                      have S329 := S328.front 2 rfl
                      change St _ _ _ [[(p0, .cells #[.int .i64 a0.config.Clients, .int .i64 a0.config.Entries, .int .i64 a0.config.Bytes, .int .i64 a0.config.Reserve, .map (some b5), .int .i64 a0.entries, .int .i64 a0.bytes] 89 (0, 0))], G6, [(b10, .cells #[.int .i64 a1.Address, .int .i64 a1.Instance] 34 (0, 0))]] at S329
                      have hO330 : ObjO 89 Cache.rp p0 a0 ([(p0, .cells #[.int .i64 a0.config.Clients, .int .i64 a0.config.Entries, .int .i64 a0.config.Bytes, .int .i64 a0.config.Reserve, .map (some b5), .int .i64 a0.entries, .int .i64 a0.bytes] 89 (0, 0))] ++ (G6)) := ⟨_, _, ⟨b5, G6, rfl, hO7, rfl⟩, rfl⟩
                      have S331 : St _ _ _ [[(p0, .cells #[.int .i64 a0.config.Clients, .int .i64 a0.config.Entries, .int .i64 a0.config.Bytes, .int .i64 a0.config.Reserve, .map (some b5), .int .i64 a0.entries, .int .i64 a0.bytes] 89 (0, 0))] ++ (G6), [(b10, .cells #[.int .i64 a1.Address, .int .i64 a1.Instance] 34 (0, 0))]] := S329.objs (by simp)
                      exact ⟨[(p0, .cells #[.int .i64 a0.config.Clients, .int .i64 a0.config.Entries, .int .i64 a0.config.Bytes, .int .i64 a0.config.Reserve, .map (some b5), .int .i64 a0.entries, .int .i64 a0.bytes] 89 (0, 0))] ++ (G6), rfl, hO330, St.keep (As := [[(p0, .cells #[.int .i64 a0.config.Clients, .int .i64 a0.config.Entries, .int .i64 a0.config.Bytes, .int .i64 a0.config.Reserve, .map (some b5), .int .i64 a0.entries, .int .i64 a0.bytes] 89 (0, 0))] ++ (G6)]) S331⟩
                    ·
                      refine WCode.cond_f (kb (b := decide (a0.config.Clients ≤ (a0.clients.length : Int))) rfl (decide_eq_false h327)) ?_
                      refine WCode.skip ?_
                      refine WEx.then_ ?_
                      refine WCode.seq ?_
                      refine WCode.seq ?_
                      refine WCode.region ?_
                      refine WOps.p (G.move rfl) rfl ?_
                      refine WOps.p (G.not rfl rfl) rfl ?_
                      refine WOps.nil ?_
                      refine WEx.then_ ?_
                      refine WCode.cond_t rfl ?_
                      refine WCode.seq ?_
                      refine WCode.region ?_
                      refine WOps.p (G.move rfl) rfl ?_
                      obtain ⟨b332, G333, w334, E335, hM336, S337, X338⟩ := St.mapNew (P := Try.prog) (t := 94) S317 M94.k M94.v Try.underlying94
                      change St _ _ _ [G333, [(b10, .cells #[.int .i64 a1.Address, .int .i64 a1.Instance] 34 (0, 0))], [(p0, .cells #[.int .i64 a0.config.Clients, .int .i64 a0.config.Entries, .int .i64 a0.config.Bytes, .int .i64 a0.config.Reserve, .map (some b5), .int .i64 a0.entries, .int .i64 a0.bytes] 89 (0, 0))], G6] at S337
                      refine WOps.e E335 rfl ?_
                      refine WOps.p (G.build (cells := #[.int .i64 a3, .map (some b332)]) (evp_spec (evp_cons rfl (evp_cons rfl evp_nil))) (by kernel_rfl)) rfl ?_
                      obtain ⟨b339, w340, E341, S342, X343, L344⟩ := St.box S337 Try.prog 96 (.agg #[.int .i64 a3, .map (some b332)])
                      change St _ _ _ [[(b339, .cells #[.int .i64 a3, .map (some b332)] 96 (0, 0))], G333, [(b10, .cells #[.int .i64 a1.Address, .int .i64 a1.Instance] 34 (0, 0))], [(p0, .cells #[.int .i64 a0.config.Clients, .int .i64 a0.config.Entries, .int .i64 a0.config.Bytes, .int .i64 a0.config.Reserve, .map (some b5), .int .i64 a0.entries, .int .i64 a0.bytes] 89 (0, 0))], G6] at S342
                      refine WOps.e (E341 rfl) rfl ?_
                      refine WOps.p (G.assign rfl) rfl ?_
                      refine WOps.nil ?_
                      refine WEx.then_ ?_
                      refine WCode.draw [⟨0, 0, []⟩, ⟨1, 0, []⟩, ⟨2, 0, []⟩, ⟨5, 0, []⟩, ⟨3, 1, [6]⟩, ⟨4, 1, [6]⟩, ⟨6, 2, []⟩] T.mixed (by kernel_rfl) (by intro _ _ d _ _ h; cases d <;> exact h) rfl (by kernel_rfl) ?_
                      have S345 := S342.drew
                      generalize w340.drew = w346 at *
                      refine WD.p rfl (G.move rfl) rfl ?_
                      refine WD.p rfl (G.nilp rfl) rfl ?_
                      refine WD.p rfl (G.field T.fld89_1 rfl (show 0 + 4 = 4 from rfl)) rfl ?_
                      refine WD.p rfl (G.move rfl) rfl ?_
                      refine WD.r rfl (G.load1 T.one87 rfl (cell_blk (S345.blk 3 rfl) rfl)) rfl ?_
                      refine WD.r rfl (G.loada T.agg34_2 rfl (cs := [.int .i64 a1.Address, .int .i64 a1.Instance]) (cellsAt.of_blk (S345.blk 2 rfl) rfl)) rfl ?_
                      have S347 := S345.front 4 rfl
                      change St _ _ _ [G6, [(b339, .cells #[.int .i64 a3, .map (some b332)] 96 (0, 0))], G333, [(b10, .cells #[.int .i64 a1.Address, .int .i64 a1.Instance] 34 (0, 0))], [(p0, .cells #[.int .i64 a0.config.Clients, .int .i64 a0.config.Entries, .int .i64 a0.config.Bytes, .int .i64 a0.config.Reserve, .map (some b5), .int .i64 a0.entries, .int .i64 a0.bytes] 89 (0, 0))]] at S347
                      obtain ⟨G348, w349, U350, hM351, S352⟩ := St.pushIn (P := Try.prog) S347 T.key87 Try.underlying87 hO7 hn307 b339
                      change St _ _ _ [G348, [(b339, .cells #[.int .i64 a3, .map (some b332)] 96 (0, 0))], G333, [(b10, .cells #[.int .i64 a1.Address, .int .i64 a1.Instance] 34 (0, 0))], [(p0, .cells #[.int .i64 a0.config.Clients, .int .i64 a0.config.Entries, .int .i64 a0.config.Bytes, .int .i64 a0.config.Reserve, .map (some b5), .int .i64 a0.entries, .int .i64 a0.bytes] 89 (0, 0))]] at S352
                      refine WD.u rfl (U350 rfl rfl rfl) ?_
                      refine WD.nil ?_
                      refine WEx.then_ ?_
                      refine WCode.forget (l' := [(0, .pointer (some ⟨p0, 0, none⟩)), (2, .int .i64 a2), (10, .pointer (some ⟨b339, 0, none⟩))]) ⟨rfl, rfl, rfl, trivial⟩ ?_
                      refine WCode.seq ?_
                      refine WCode.region ?_
                      refine WOps.p (G.move rfl) rfl ?_
                      refine WOps.p (G.nilp rfl) rfl ?_
                      refine WOps.p (G.field T.fld96_1 rfl (show 0 + 1 = 1 from rfl)) rfl ?_
                      refine WOps.r (G.load1 T.one94 rfl (cell_blk (S352.blk 1 rfl) rfl)) rfl ?_
                      refine WOps.p (G.move rfl) rfl ?_
                      refine WOps.p (G.build (cells := #[.bool false, .string (bs ([] : List UInt8))]) (evp_spec (evp_nil)) (by kernel_rfl)) rfl ?_
                      have S353 := S352.front 2 rfl
                      change St _ _ _ [G333, G348, [(b339, .cells #[.int .i64 a3, .map (some b332)] 96 (0, 0))], [(b10, .cells #[.int .i64 a1.Address, .int .i64 a1.Instance] 34 (0, 0))], [(p0, .cells #[.int .i64 a0.config.Clients, .int .i64 a0.config.Entries, .int .i64 a0.config.Bytes, .int .i64 a0.config.Reserve, .map (some b5), .int .i64 a0.entries, .int .i64 a0.bytes] 89 (0, 0))]] at S353
                      obtain ⟨G354, w355, U356, hM357, S358⟩ := St.mapPut (P := Try.prog) S353 T.key94 Try.underlying94 hM336 a2 (⟨false, ([] : List UInt8)⟩ : Entry)
                      change St _ _ _ [G354, G348, [(b339, .cells #[.int .i64 a3, .map (some b332)] 96 (0, 0))], [(b10, .cells #[.int .i64 a1.Address, .int .i64 a1.Instance] 34 (0, 0))], [(p0, .cells #[.int .i64 a0.config.Clients, .int .i64 a0.config.Entries, .int .i64 a0.config.Bytes, .int .i64 a0.config.Reserve, .map (some b5), .int .i64 a0.entries, .int .i64 a0.bytes] 89 (0, 0))]] at S358
                      refine WOps.u (U356 rfl rfl rfl) ?_
                      refine WOps.nil ?_
                      refine WEx.then_ ?_
                      refine WCode.seq ?_
                      refine WCode.region ?_
                      refine WOps.p (G.move rfl) rfl ?_
                      refine WOps.p (G.nilp rfl) rfl ?_
                      refine WOps.p (G.field T.fld89_2 rfl (show 0 + 5 = 5 from rfl)) rfl ?_
                      refine WOps.r (G.load1 T.one3 rfl (cell_blk (S358.blk 4 rfl) rfl)) rfl ?_
                      refine WOps.p (G.add rfl rfl (r := (w64 (a0.entries + 1))) rfl) rfl ?_
                      refine WOps.p (G.nilp rfl) rfl ?_
                      refine WOps.p (G.field T.fld89_2 rfl (show 0 + 5 = 5 from rfl)) rfl ?_
                      obtain ⟨w359, E360, S361⟩ := St.store (P := Try.prog) S358 4 3 (.int .i64 (w64 (a0.entries + 1))) (off := 5) (cur' := #[.int .i64 a0.config.Clients, .int .i64 a0.config.Entries, .int .i64 a0.config.Bytes, .int .i64 a0.config.Reserve, .map (some b5), .int .i64 (w64 (a0.entries + 1)), .int .i64 a0.bytes]) rfl T.size3_1 rfl rfl rfl
                      change St _ _ _ [G354, G348, [(b339, .cells #[.int .i64 a3, .map (some b332)] 96 (0, 0))], [(b10, .cells #[.int .i64 a1.Address, .int .i64 a1.Instance] 34 (0, 0))], [(p0, .cells #[.int .i64 a0.config.Clients, .int .i64 a0.config.Entries, .int .i64 a0.config.Bytes, .int .i64 a0.config.Reserve, .map (some b5), .int .i64 (w64 (a0.entries + 1)), .int .i64 a0.bytes] 89 (0, 0))]] at S361
                      refine WOps.u (E360 rfl rfl) ?_
                      refine WOps.nil ?_
                      refine WEx.then_ ?_
                      refine WCode.forget (l' := [(0, .pointer (some ⟨p0, 0, none⟩))]) ⟨rfl, trivial⟩ ?_
                      refine WCode.seq ?_
                      refine WCode.draw [⟨0, 0, []⟩, ⟨1, 0, []⟩, ⟨2, 0, []⟩, ⟨4, 0, []⟩, ⟨5, 0, []⟩, ⟨6, 0, []⟩, ⟨7, 0, []⟩, ⟨3, 1, [9, 10, 11, 12]⟩, ⟨8, 1, [9, 10, 11, 12]⟩, ⟨9, 0, []⟩, ⟨10, 0, []⟩, ⟨11, 0, []⟩, ⟨12, 2, []⟩] T.mixed (by kernel_rfl) (by intro _ _ d _ _ h; cases d <;> exact h) rfl (by kernel_rfl) ?_
                      have S362 := S361.drew
                      generalize w359.drew = w363 at *
                      refine WD.p rfl (G.move rfl) rfl ?_
                      refine WD.p rfl (G.nilp rfl) rfl ?_
                      refine WD.p rfl (G.field T.fld89_3 rfl (show 0 + 6 = 6 from rfl)) rfl ?_
                      refine WD.p rfl (G.move rfl) rfl ?_
                      refine WD.p rfl (G.nilp rfl) rfl ?_
                      refine WD.p rfl (G.field T.fld89_0 rfl (show 0 + 0 = 0 from rfl)) rfl ?_
                      refine WD.p rfl (G.field T.fld26_3 rfl (show 0 + 3 = 3 from rfl)) rfl ?_
                      refine WD.r rfl (G.load1 T.one3 rfl (cell_blk (S362.blk 4 rfl) rfl)) rfl ?_
                      refine WD.r rfl (G.load1 T.one3 rfl (cell_blk (S362.blk 4 rfl) rfl)) rfl ?_
                      refine WD.p rfl (G.add rfl rfl (r := (w64 (a0.bytes + a0.config.Reserve))) rfl) rfl ?_
                      refine WD.p rfl (G.nilp rfl) rfl ?_
                      refine WD.p rfl (G.field T.fld89_3 rfl (show 0 + 6 = 6 from rfl)) rfl ?_
                      obtain ⟨w364, E365, S366⟩ := St.store (P := Try.prog) S362 4 3 (.int .i64 (w64 (a0.bytes + a0.config.Reserve))) (off := 6) (cur' := #[.int .i64 a0.config.Clients, .int .i64 a0.config.Entries, .int .i64 a0.config.Bytes, .int .i64 a0.config.Reserve, .map (some b5), .int .i64 (w64 (a0.entries + 1)), .int .i64 (w64 (a0.bytes + a0.config.Reserve))]) rfl T.size3_1 rfl rfl rfl
                      change St _ _ _ [G354, G348, [(b339, .cells #[.int .i64 a3, .map (some b332)] 96 (0, 0))], [(b10, .cells #[.int .i64 a1.Address, .int .i64 a1.Instance] 34 (0, 0))], [(p0, .cells #[.int .i64 a0.config.Clients, .int .i64 a0.config.Entries, .int .i64 a0.config.Bytes, .int .i64 a0.config.Reserve, .map (some b5), .int .i64 (w64 (a0.entries + 1)), .int .i64 (w64 (a0.bytes + a0.config.Reserve))] 89 (0, 0))]] at S366
                      refine WD.u rfl (E365 rfl rfl) ?_
                      refine WD.nil ?_
                      refine WEx.then_ ?_
                      refine WCode.forget (l' := []) trivial ?_
                      refine WCode.seq ?_
                      refine WCode.region ?_
                      refine WOps.p (G.assign rfl) rfl ?_
                      refine WOps.p (G.assign rfl) rfl ?_
                      refine WOps.nil ?_
                      refine WEx.then_ ?_
                      refine WCode.ret ?_
                      obtain rfl := some_eq hF
                      refine WEx.ret2 rfl rfl rfl ?_
                      have S367 := S366.front 2 rfl
                      change St _ _ _ [[(b339, .cells #[.int .i64 a3, .map (some b332)] 96 (0, 0))], G354, G348, [(b10, .cells #[.int .i64 a1.Address, .int .i64 a1.Instance] 34 (0, 0))], [(p0, .cells #[.int .i64 a0.config.Clients, .int .i64 a0.config.Entries, .int .i64 a0.config.Bytes, .int .i64 a0.config.Reserve, .map (some b5), .int .i64 (w64 (a0.entries + 1)), .int .i64 (w64 (a0.bytes + a0.config.Reserve))] 89 (0, 0))]] at S367
                      have hO368 : ObjO 96 Known.rp b339 (⟨a3, (mput ([] : List (Int × Entry)) a2 (⟨false, ([] : List UInt8)⟩ : Entry))⟩ : Known) ([(b339, .cells #[.int .i64 a3, .map (some b332)] 96 (0, 0))] ++ (G354)) := ⟨_, _, ⟨b332, G354, rfl, hM357, rfl⟩, rfl⟩
                      have S369 : St _ _ _ [[(b339, .cells #[.int .i64 a3, .map (some b332)] 96 (0, 0))] ++ (G354), G348, [(b10, .cells #[.int .i64 a1.Address, .int .i64 a1.Instance] 34 (0, 0))], [(p0, .cells #[.int .i64 a0.config.Clients, .int .i64 a0.config.Entries, .int .i64 a0.config.Bytes, .int .i64 a0.config.Reserve, .map (some b5), .int .i64 (w64 (a0.entries + 1)), .int .i64 (w64 (a0.bytes + a0.config.Reserve))] 89 (0, 0))]] := S367.objs (by simp)
                      obtain ⟨G370, hO371, S372⟩ := St.unfocus S369 hM351 hO368
                      change St _ _ _ [G370, [(b10, .cells #[.int .i64 a1.Address, .int .i64 a1.Instance] 34 (0, 0))], [(p0, .cells #[.int .i64 a0.config.Clients, .int .i64 a0.config.Entries, .int .i64 a0.config.Bytes, .int .i64 a0.config.Reserve, .map (some b5), .int .i64 (w64 (a0.entries + 1)), .int .i64 (w64 (a0.bytes + a0.config.Reserve))] 89 (0, 0))]] at S372
                      have S373 := S372.front 2 rfl
                      change St _ _ _ [[(p0, .cells #[.int .i64 a0.config.Clients, .int .i64 a0.config.Entries, .int .i64 a0.config.Bytes, .int .i64 a0.config.Reserve, .map (some b5), .int .i64 (w64 (a0.entries + 1)), .int .i64 (w64 (a0.bytes + a0.config.Reserve))] 89 (0, 0))], G370, [(b10, .cells #[.int .i64 a1.Address, .int .i64 a1.Instance] 34 (0, 0))]] at S373
                      have hO374 : ObjO 89 Cache.rp p0 (⟨a0.config, (mput a0.clients a1 (⟨a3, (mput ([] : List (Int × Entry)) a2 (⟨false, ([] : List UInt8)⟩ : Entry))⟩ : Known)), w64 (a0.entries + 1), w64 (a0.bytes + a0.config.Reserve)⟩ : Cache) ([(p0, .cells #[.int .i64 a0.config.Clients, .int .i64 a0.config.Entries, .int .i64 a0.config.Bytes, .int .i64 a0.config.Reserve, .map (some b5), .int .i64 (w64 (a0.entries + 1)), .int .i64 (w64 (a0.bytes + a0.config.Reserve))] 89 (0, 0))] ++ (G370)) := ⟨_, _, ⟨b5, G370, rfl, hO371, rfl⟩, rfl⟩
                      have S375 : St _ _ _ [[(p0, .cells #[.int .i64 a0.config.Clients, .int .i64 a0.config.Entries, .int .i64 a0.config.Bytes, .int .i64 a0.config.Reserve, .map (some b5), .int .i64 (w64 (a0.entries + 1)), .int .i64 (w64 (a0.bytes + a0.config.Reserve))] 89 (0, 0))] ++ (G370), [(b10, .cells #[.int .i64 a1.Address, .int .i64 a1.Instance] 34 (0, 0))]] := S373.objs (by simp)
                      exact ⟨[(p0, .cells #[.int .i64 a0.config.Clients, .int .i64 a0.config.Entries, .int .i64 a0.config.Bytes, .int .i64 a0.config.Reserve, .map (some b5), .int .i64 (w64 (a0.entries + 1)), .int .i64 (w64 (a0.bytes + a0.config.Reserve))] 89 (0, 0))] ++ (G370), rfl, hO374, St.keep (As := [[(p0, .cells #[.int .i64 a0.config.Clients, .int .i64 a0.config.Entries, .int .i64 a0.config.Bytes, .int .i64 a0.config.Reserve, .map (some b5), .int .i64 (w64 (a0.entries + 1)), .int .i64 (w64 (a0.bytes + a0.config.Reserve))] 89 (0, 0))] ++ (G370)]) S375⟩
            ·
              refine WCode.cond_t (kb (b := !t42) rfl (show (!t42) = true from by rw [(Bool.eq_false_iff.2 h47)]; rfl)) ?_
              refine WCode.seq ?_
              refine WCode.region ?_
              refine WOps.p (G.assign rfl) rfl ?_
              refine WOps.p (G.assign rfl) rfl ?_
              refine WOps.nil ?_
              refine WEx.then_ ?_
              refine WCode.ret ?_
              refine WEx.then_ret ?_
              obtain rfl := some_eq hF
              refine WEx.ret2 rfl rfl rfl ?_
              have S376 := S46.front 2 rfl
              change St _ _ _ [G6, [(b10, .cells #[.int .i64 a1.Address, .int .i64 a1.Instance] 34 (0, 0))], [(p0, .cells #[.int .i64 a0.config.Clients, .int .i64 a0.config.Entries, .int .i64 a0.config.Bytes, .int .i64 a0.config.Reserve, .map (some b5), .int .i64 a0.entries, .int .i64 a0.bytes] 89 (0, 0))]] at S376
              have S377 := S376.front 2 rfl
              change St _ _ _ [[(p0, .cells #[.int .i64 a0.config.Clients, .int .i64 a0.config.Entries, .int .i64 a0.config.Bytes, .int .i64 a0.config.Reserve, .map (some b5), .int .i64 a0.entries, .int .i64 a0.bytes] 89 (0, 0))], G6, [(b10, .cells #[.int .i64 a1.Address, .int .i64 a1.Instance] 34 (0, 0))]] at S377
              have hO378 : ObjO 89 Cache.rp p0 a0 ([(p0, .cells #[.int .i64 a0.config.Clients, .int .i64 a0.config.Entries, .int .i64 a0.config.Bytes, .int .i64 a0.config.Reserve, .map (some b5), .int .i64 a0.entries, .int .i64 a0.bytes] 89 (0, 0))] ++ (G6)) := ⟨_, _, ⟨b5, G6, rfl, hO7, rfl⟩, rfl⟩
              have S379 : St _ _ _ [[(p0, .cells #[.int .i64 a0.config.Clients, .int .i64 a0.config.Entries, .int .i64 a0.config.Bytes, .int .i64 a0.config.Reserve, .map (some b5), .int .i64 a0.entries, .int .i64 a0.bytes] 89 (0, 0))] ++ (G6), [(b10, .cells #[.int .i64 a1.Address, .int .i64 a1.Instance] 34 (0, 0))]] := S377.objs (by simp)
              exact ⟨[(p0, .cells #[.int .i64 a0.config.Clients, .int .i64 a0.config.Entries, .int .i64 a0.config.Bytes, .int .i64 a0.config.Reserve, .map (some b5), .int .i64 a0.entries, .int .i64 a0.bytes] 89 (0, 0))] ++ (G6), rfl, hO378, St.keep (As := [[(p0, .cells #[.int .i64 a0.config.Clients, .int .i64 a0.config.Entries, .int .i64 a0.config.Bytes, .int .i64 a0.config.Reserve, .map (some b5), .int .i64 a0.entries, .int .i64 a0.bytes] 89 (0, 0))] ++ (G6)]) S379⟩
          ·
            refine WOps.off rfl (kbl (b := !t36) rfl (show (!t36) = true from by rw [(Bool.eq_false_iff.2 h41)]; rfl)) rfl rfl ?_
            refine WOps.off rfl (kbl (b := !t36) rfl (show (!t36) = true from by rw [(Bool.eq_false_iff.2 h41)]; rfl)) rfl rfl ?_
            refine WOps.off rfl (kbl (b := !t36) rfl (show (!t36) = true from by rw [(Bool.eq_false_iff.2 h41)]; rfl)) rfl rfl ?_
            refine WOps.p (G.pick_t (kb (b := !t36) rfl (show (!t36) = true from by rw [(Bool.eq_false_iff.2 h41)]; rfl)) rfl) rfl ?_
            refine WOps.nil ?_
            refine WEx.then_ ?_
            refine WCode.forget (l' := [(0, .pointer (some ⟨p0, 0, none⟩)), (2, .int .i64 a2), (3, .int .i64 a3), (5, .pointer (some ⟨b10, 0, none⟩)), (41, .bool true)]) ⟨rfl, rfl, rfl, rfl, rfl, trivial⟩ ?_
            refine WCode.cond_t rfl ?_
            refine WCode.seq ?_
            refine WCode.region ?_
            refine WOps.p (G.assign rfl) rfl ?_
            refine WOps.p (G.assign rfl) rfl ?_
            refine WOps.nil ?_
            refine WEx.then_ ?_
            refine WCode.ret ?_
            refine WEx.then_ret ?_
            obtain rfl := some_eq hF
            refine WEx.ret2 rfl rfl rfl ?_
            have S380 := S40.front 2 rfl
            change St _ _ _ [G6, [(b10, .cells #[.int .i64 a1.Address, .int .i64 a1.Instance] 34 (0, 0))], [(p0, .cells #[.int .i64 a0.config.Clients, .int .i64 a0.config.Entries, .int .i64 a0.config.Bytes, .int .i64 a0.config.Reserve, .map (some b5), .int .i64 a0.entries, .int .i64 a0.bytes] 89 (0, 0))]] at S380
            have S381 := S380.front 2 rfl
            change St _ _ _ [[(p0, .cells #[.int .i64 a0.config.Clients, .int .i64 a0.config.Entries, .int .i64 a0.config.Bytes, .int .i64 a0.config.Reserve, .map (some b5), .int .i64 a0.entries, .int .i64 a0.bytes] 89 (0, 0))], G6, [(b10, .cells #[.int .i64 a1.Address, .int .i64 a1.Instance] 34 (0, 0))]] at S381
            have hO382 : ObjO 89 Cache.rp p0 a0 ([(p0, .cells #[.int .i64 a0.config.Clients, .int .i64 a0.config.Entries, .int .i64 a0.config.Bytes, .int .i64 a0.config.Reserve, .map (some b5), .int .i64 a0.entries, .int .i64 a0.bytes] 89 (0, 0))] ++ (G6)) := ⟨_, _, ⟨b5, G6, rfl, hO7, rfl⟩, rfl⟩
            have S383 : St _ _ _ [[(p0, .cells #[.int .i64 a0.config.Clients, .int .i64 a0.config.Entries, .int .i64 a0.config.Bytes, .int .i64 a0.config.Reserve, .map (some b5), .int .i64 a0.entries, .int .i64 a0.bytes] 89 (0, 0))] ++ (G6), [(b10, .cells #[.int .i64 a1.Address, .int .i64 a1.Instance] 34 (0, 0))]] := S381.objs (by simp)
            exact ⟨[(p0, .cells #[.int .i64 a0.config.Clients, .int .i64 a0.config.Entries, .int .i64 a0.config.Bytes, .int .i64 a0.config.Reserve, .map (some b5), .int .i64 a0.entries, .int .i64 a0.bytes] 89 (0, 0))] ++ (G6), rfl, hO382, St.keep (As := [[(p0, .cells #[.int .i64 a0.config.Clients, .int .i64 a0.config.Entries, .int .i64 a0.config.Bytes, .int .i64 a0.config.Reserve, .map (some b5), .int .i64 a0.entries, .int .i64 a0.bytes] 89 (0, 0))] ++ (G6)]) S383⟩

end Go.Proofs.Ytpdpfiaediadgaa
