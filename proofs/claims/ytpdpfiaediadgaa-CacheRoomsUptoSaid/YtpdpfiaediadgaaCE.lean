/- Functions and their walks (printed by auto.py over the engine). -/
import Derived.Test.YtpdpfiaediadgaaProg
import Derived.Test.YtpdpfiaediadgaaCD
namespace Go.Proofs.Ytpdpfiaediadgaa
open Go Go.Eng
set_option linter.unusedSimpArgs false
set_option linter.unusedVariables false

theorem T.call36 : Callable Try.prog 36 := Callable.mk Try.func36 (by kernel_rfl) (by kernel_rfl)
theorem T.call37 : Callable Try.prog 37 := Callable.mk Try.func37 (by kernel_rfl) (by kernel_rfl)
theorem T.call38 : Callable Try.prog 38 := Callable.mk Try.func38 (by kernel_rfl) (by kernel_rfl)
theorem T.fld34_0 : fldOff Try.prog 34 0 = some 0 := by kernel_rfl
theorem T.fld34_1 : fldOff Try.prog 34 1 = some 1 := by kernel_rfl



def ca_Busy (k : Nat) (a0 : Cache) (a1 : WhoC) (a2 : Int) : Option Bool := (if (mget a0.clients a1).isSome = true then (Option.bind (mget a0.clients a1) fun x18 => (Option.bind (cu_hit k x18.calls a2) fun t32 => (if t32 = true then (some true) else (some false)))) else (some false))
set_option maxRecDepth 100000 in
set_option maxHeartbeats 1000000 in
theorem ca_Busy_calls (k : Nat) (a0 : Cache) {p0 : Nat} {F0 : Nat → Prop} (a1 : WhoC) (a2 : Int) {w : World} (hP0 : PtR 89 Cache.rp w F0 p0 a0) (hF0 : ∀ b, F0 b → NK w [] b) {r_ : Bool} (h_ : ca_Busy k a0 a1 a2 = some r_) :
    Calls Try.prog 41 [.pointer (some ⟨p0, 0, none⟩), .agg #[.int .i64 a1.Address, .int .i64 a1.Instance], .int .i64 a2].toArray w fun e w' => e = .returned (.bool r_) ∧ St w (KS []) w' [] := by
 have hF := h_
 clear h_
 unfold ca_Busy at hF
 have S := St.ofFalse (As := []) (St.init0 w)
 have hPq5 := hP0
 obtain ⟨cs1, hB2, hf3, b6, hq4, hR7⟩ := hPq5
 subst hq4
 change _ = some (Obj.cells #[.int .i64 a0.config.Clients, .int .i64 a0.config.Entries, .int .i64 a0.config.Bytes, .int .i64 a0.config.Reserve, .map (some b6), .int .i64 a0.entries, .int .i64 a0.bytes] 89 (0, 0)) at hB2
 refine enter 12 [(0, .pointer (some ⟨p0, 0, none⟩)), (1, .agg #[.int .i64 a1.Address, .int .i64 a1.Instance]), (2, .int .i64 a2)] Try.func41 rfl rfl rfl rfl ?_
 refine WCode.seq ?_
 refine WCode.region ?_
 obtain ⟨b8, w9, E10, S11, X12, L13⟩ := St.box S Try.prog 34 (.agg #[.int .i64 a1.Address, .int .i64 a1.Instance])
 change St _ _ _ [[(b8, .cells #[.int .i64 a1.Address, .int .i64 a1.Instance] 34 (0, 0))]] at S11
 refine WOps.e (E10 rfl) rfl ?_
 refine WOps.p (G.assign rfl) rfl ?_
 refine WOps.nil ?_
 refine WEx.then_ ?_
 refine WCode.seq ?_
 refine WCode.region ?_
 refine WOps.p (G.move rfl) rfl ?_
 refine WOps.r (G.loada T.agg34_2 rfl (cs := [.int .i64 a1.Address, .int .i64 a1.Instance]) (cellsAt.of_blk (S11.blk 0 rfl) rfl)) rfl ?_
 refine WOps.p (G.move rfl) rfl ?_
 rcases ite_some hF with ⟨h14, hF⟩ | ⟨h14, hF⟩
 ·
  obtain ⟨x18, hc19, hF⟩ := bind_some hF
  obtain ⟨Y20, p21, hM22, hY23, hP24⟩ := CliR.hit hR7 hc19
  have hPq29 := hP24
  obtain ⟨cs25, hB26, hf27, b30, hq28, hR31⟩ := hPq29
  subst hq28
  change _ = some (Obj.cells #[.int .i64 x18.water, .map (some b30)] 96 (0, 0)) at hB26
  obtain ⟨t32, hc33, hF⟩ := bind_some hF
  refine WOps.call T.call36 (evs_cons rfl (evs_cons rfl (evs_cons rfl evs_nil))) rfl ?_
  refine (cu_hit_calls k _ _ a2 ((S11.fr p0 (lt_of_blk hB2) (hF0 p0 hf3).1).trans hB2) (hM22.move (S11.keepF hF0 _ hR7.1)) hY23 ((S11.fr p21 (lt_of_blk hB26) (hF0 p21 hf27).1).trans hB26) (hR31.2.move (S11.keepF hF0 _ hR31.1)) hc33).mono ?_
  rintro _ w15 ⟨rfl, T16⟩
  have S17 := St.callN (As := []) S11 T16
  change St _ _ _ [[(b8, .cells #[.int .i64 a1.Address, .int .i64 a1.Instance] 34 (0, 0))]] at S17
  refine ⟨_, rfl, ?_⟩
  generalize hv35 : (if t32 = true then ptv p21 else Value.pointer none) = v34
  rcases ite_some hF with ⟨h36, hF⟩ | ⟨h36, hF⟩
  ·
   rw [if_pos h36] at hv35
   subst hv35
   refine WOps.p (G.neqp_nil Try.underlying90 rfl rfl rfl) rfl ?_
   refine WOps.p (G.assign rfl) rfl ?_
   refine WOps.nil ?_
   refine WEx.then_ ?_
   refine WCode.ret ?_
   obtain rfl := some_eq hF
   refine WEx.ret1 rfl rfl ?_
   exact ⟨rfl, St.keep (As := []) S17⟩
  ·
   rw [if_neg h36] at hv35
   subst hv35
   refine WOps.p (G.neqp_nil Try.underlying90 rfl rfl rfl) rfl ?_
   refine WOps.p (G.assign rfl) rfl ?_
   refine WOps.nil ?_
   refine WEx.then_ ?_
   refine WCode.ret ?_
   obtain rfl := some_eq hF
   refine WEx.ret1 rfl rfl ?_
   exact ⟨rfl, St.keep (As := []) S17⟩
 ·
  have hn40 := Option.not_isSome_iff_eq_none.1 h14
  obtain ⟨Y41, hM42, hY43⟩ := CliR.miss (hR7.ext (S11.keepF hF0)) hn40
  refine WOps.call T.call36 (evs_cons rfl (evs_cons rfl (evs_cons rfl evs_nil))) rfl ?_
  refine (cu_miss_calls (p := 0) (bk := 0) (wt := 0) 0 [] _ a2 ((S11.fr p0 (lt_of_blk hB2) (hF0 p0 hf3).1).trans hB2) hM42 hY43 rfl).mono ?_
  rintro _ w37 ⟨rfl, T38⟩
  have S39 := St.callN (As := []) S11 T38
  change St _ _ _ [[(b8, .cells #[.int .i64 a1.Address, .int .i64 a1.Instance] 34 (0, 0))]] at S39
  refine ⟨_, rfl, ?_⟩
  refine WOps.p (G.neqp_nil Try.underlying90 rfl rfl rfl) rfl ?_
  refine WOps.p (G.assign rfl) rfl ?_
  refine WOps.nil ?_
  refine WEx.then_ ?_
  refine WCode.ret ?_
  obtain rfl := some_eq hF
  refine WEx.ret1 rfl rfl ?_
  exact ⟨rfl, St.keep (As := []) S39⟩

def ca_Done (k : Nat) (a0 : Cache) (a1 : WhoC) (a2 : Int) (a3 : List UInt8) : Option (Int × Cache) := (if (mget a0.clients a1).isSome = true then (Option.bind (mget a0.clients a1) fun x20 => (Option.bind (cu_hit k x20.calls a2) fun t41 => (if t41 = true then (if a0.config.Reserve < (a3.length : Int) then (some (152, (⟨a0.config, (mput a0.clients a1 x20), a0.entries, a0.bytes⟩ : Cache))) else (some (0, (⟨a0.config, (mput a0.clients a1 (⟨x20.water, (mput x20.calls a2 (⟨true, a3⟩ : Entry))⟩ : Known)), a0.entries, w64 (a0.bytes + (w64 ((a3.length : Int) - a0.config.Reserve)))⟩ : Cache)))) else (some (151, (⟨a0.config, (mput a0.clients a1 x20), a0.entries, a0.bytes⟩ : Cache)))))) else (some (151, a0)))
set_option maxRecDepth 100000 in
set_option maxHeartbeats 1000000 in
theorem ca_Done_calls (k : Nat) (a0 : Cache) {p0 : Nat} {G0 : Grp} (a1 : WhoC) (a2 : Int) (a3 : List UInt8) {w : World} (hO0 : ObjO 89 Cache.rp p0 a0 G0) {r_ : Int × Cache} (h_ : ca_Done k a0 a1 a2 a3 = some r_) (hp_ : Hp w ([G0]).flatten) :
    Calls Try.prog 15 [.pointer (some ⟨p0, 0, none⟩), .agg #[.int .i64 a1.Address, .int .i64 a1.Instance], .int .i64 a2, .string (bs a3)].toArray w fun e w' => ∃ Go0' : Grp, e = .returned (.int .i64 r_.1) ∧ ObjO 89 Cache.rp p0 (r_.2) Go0' ∧ St w (KS [G0]) w' [Go0'] := by
 have hF := h_
 clear h_
 unfold ca_Done at hF
 have S := St.initK [G0] hp_
 obtain ⟨cs1, G2, ho3, hg4⟩ := hO0
 obtain ⟨b5, G6, rfl, hO7, hq8⟩ := ho3
 have S9 : St _ _ _ [[(p0, .cells #[.int .i64 a0.config.Clients, .int .i64 a0.config.Entries, .int .i64 a0.config.Bytes, .int .i64 a0.config.Reserve, .map (some b5), .int .i64 a0.entries, .int .i64 a0.bytes] 89 (0, 0))], G6] := S.objs (by rw [hg4, hq8]; simp)
 refine enter 48 [(0, .pointer (some ⟨p0, 0, none⟩)), (1, .agg #[.int .i64 a1.Address, .int .i64 a1.Instance]), (2, .int .i64 a2), (3, .string (bs a3))] Try.func15 rfl rfl rfl rfl ?_
 refine WCode.seq ?_
 refine WCode.region ?_
 obtain ⟨b10, w11, E12, S13, X14, L15⟩ := St.box S9 Try.prog 34 (.agg #[.int .i64 a1.Address, .int .i64 a1.Instance])
 change St _ _ _ [[(b10, .cells #[.int .i64 a1.Address, .int .i64 a1.Instance] 34 (0, 0))], [(p0, .cells #[.int .i64 a0.config.Clients, .int .i64 a0.config.Entries, .int .i64 a0.config.Bytes, .int .i64 a0.config.Reserve, .map (some b5), .int .i64 a0.entries, .int .i64 a0.bytes] 89 (0, 0))], G6] at S13
 refine WOps.e (E12 rfl) rfl ?_
 refine WOps.p (G.assign rfl) rfl ?_
 refine WOps.nil ?_
 refine WEx.then_ ?_
 refine WCode.seq ?_
 refine WCode.region ?_
 refine WOps.p (G.move rfl) rfl ?_
 refine WOps.r (G.loada T.agg34_2 rfl (cs := [.int .i64 a1.Address, .int .i64 a1.Instance]) (cellsAt.of_blk (S13.blk 0 rfl) rfl)) rfl ?_
 refine WOps.p (G.move rfl) rfl ?_
 rcases ite_some hF with ⟨h16, hF⟩ | ⟨h16, hF⟩
 ·
  obtain ⟨x20, hc21, hF⟩ := bind_some hF
  have S22 := S13.front 2 rfl
  change St _ _ _ [G6, [(b10, .cells #[.int .i64 a1.Address, .int .i64 a1.Instance] 34 (0, 0))], [(p0, .cells #[.int .i64 a0.config.Clients, .int .i64 a0.config.Entries, .int .i64 a0.config.Bytes, .int .i64 a0.config.Reserve, .map (some b5), .int .i64 a0.entries, .int .i64 a0.bytes] 89 (0, 0))]] at S22
  obtain ⟨p23, G24, G25, hO26, hF27, S28⟩ := St.focus S22 hO7 hc21
  change St _ _ _ [G24, G25, [(b10, .cells #[.int .i64 a1.Address, .int .i64 a1.Instance] 34 (0, 0))], [(p0, .cells #[.int .i64 a0.config.Clients, .int .i64 a0.config.Entries, .int .i64 a0.config.Bytes, .int .i64 a0.config.Reserve, .map (some b5), .int .i64 a0.entries, .int .i64 a0.bytes] 89 (0, 0))]] at S28
  obtain ⟨Y29, hM30, hY31⟩ := CliF.look (w := w11) hF27 (fun b o hb => S28.grp 1 rfl hb)
  obtain ⟨cs32, G33, ho34, hg35⟩ := hO26
  obtain ⟨b36, G37, rfl, hO38, hq39⟩ := ho34
  have S40 : St _ _ _ [[(p23, .cells #[.int .i64 x20.water, .map (some b36)] 96 (0, 0))], G37, G25, [(b10, .cells #[.int .i64 a1.Address, .int .i64 a1.Instance] 34 (0, 0))], [(p0, .cells #[.int .i64 a0.config.Clients, .int .i64 a0.config.Entries, .int .i64 a0.config.Bytes, .int .i64 a0.config.Reserve, .map (some b5), .int .i64 a0.entries, .int .i64 a0.bytes] 89 (0, 0))]] := S28.objs (by rw [hg35, hq39]; simp)
  obtain ⟨t41, hc42, hF⟩ := bind_some hF
  refine WOps.call T.call36 (evs_cons rfl (evs_cons rfl (evs_cons rfl evs_nil))) rfl ?_
  refine (cu_hit_calls k _ _ a2 (S40.blk 4 rfl) hM30 hY31 (S40.blk 0 rfl) (MapO.rd hO38 (fun b o hb => S40.grp 1 rfl hb)) hc42).mono ?_
  rintro _ w17 ⟨rfl, T18⟩
  have S19 := St.callN (As := []) S40 T18
  change St _ _ _ [[(p23, .cells #[.int .i64 x20.water, .map (some b36)] 96 (0, 0))], G37, G25, [(b10, .cells #[.int .i64 a1.Address, .int .i64 a1.Instance] 34 (0, 0))], [(p0, .cells #[.int .i64 a0.config.Clients, .int .i64 a0.config.Entries, .int .i64 a0.config.Bytes, .int .i64 a0.config.Reserve, .map (some b5), .int .i64 a0.entries, .int .i64 a0.bytes] 89 (0, 0))]] at S19
  refine ⟨_, rfl, ?_⟩
  generalize hv44 : (if t41 = true then ptv p23 else Value.pointer none) = v43
  refine WOps.p (G.assign rfl) rfl ?_
  refine WOps.nil ?_
  refine WEx.then_ ?_
  refine WCode.seq ?_
  refine WCode.block ?_
  refine WCode.seq ?_
  refine WCode.region ?_
  refine WOps.p (G.move rfl) rfl ?_
  rcases ite_some hF with ⟨h45, hF⟩ | ⟨h45, hF⟩
  ·
   rw [if_pos h45] at hv44
   subst hv44
   refine WOps.p (G.eqp_nil Try.underlying90 rfl rfl rfl) rfl ?_
   refine WOps.p (G.assign rfl) rfl ?_
   refine WOps.nil ?_
   refine WEx.then_ ?_
   refine WCode.cond_f rfl ?_
   refine WCode.seq ?_
   refine WCode.region ?_
   refine WOps.p (G.move rfl) rfl ?_
   refine WOps.p (G.lenb T.str9 rfl) rfl ?_
   refine WOps.p (G.move rfl) rfl ?_
   refine WOps.p (G.nilp rfl) rfl ?_
   refine WOps.p (G.field T.fld89_0 rfl (show 0 + 0 = 0 from rfl)) rfl ?_
   refine WOps.p (G.field T.fld26_3 rfl (show 0 + 3 = 3 from rfl)) rfl ?_
   refine WOps.r (G.load1 T.one3 rfl (cell_blk (S19.blk 4 rfl) rfl)) rfl ?_
   refine WOps.p (G.gtr rfl rfl rfl) rfl ?_
   refine WOps.p (G.assign rfl) rfl ?_
   refine WOps.nil ?_
   refine WEx.then_ ?_
   refine WCode.forget (l' := [(0, .pointer (some ⟨p0, 0, none⟩)), (2, .int .i64 a2), (3, .string (bs a3)), (9, .pointer (some ⟨p23, 0, none⟩)), (17, .bool (decide (a0.config.Reserve < (a3.length : Int))))]) ⟨rfl, rfl, rfl, rfl, rfl, trivial⟩ ?_
   rcases ite_some hF with ⟨h46, hF⟩ | ⟨h46, hF⟩
   ·
    refine WCode.cond_t (kb (b := decide (a0.config.Reserve < (a3.length : Int))) rfl (decide_eq_true h46)) ?_
    refine WCode.seq ?_
    refine WCode.region ?_
    refine WOps.p (G.assign rfl) rfl ?_
    refine WOps.nil ?_
    refine WEx.then_ ?_
    refine WCode.ret ?_
    refine WEx.in_ret ?_
    refine WEx.then_ret ?_
    obtain rfl := some_eq hF
    refine WEx.ret1 rfl rfl ?_
    have hO47 : ObjO 96 Known.rp p23 x20 ([(p23, .cells #[.int .i64 x20.water, .map (some b36)] 96 (0, 0))] ++ (G37)) := ⟨_, _, ⟨b36, G37, rfl, hO38, rfl⟩, rfl⟩
    have S48 : St _ _ _ [[(p23, .cells #[.int .i64 x20.water, .map (some b36)] 96 (0, 0))] ++ (G37), G25, [(b10, .cells #[.int .i64 a1.Address, .int .i64 a1.Instance] 34 (0, 0))], [(p0, .cells #[.int .i64 a0.config.Clients, .int .i64 a0.config.Entries, .int .i64 a0.config.Bytes, .int .i64 a0.config.Reserve, .map (some b5), .int .i64 a0.entries, .int .i64 a0.bytes] 89 (0, 0))]] := S19.objs (by simp)
    obtain ⟨G49, hO50, S51⟩ := St.unfocus S48 hF27 hO47
    change St _ _ _ [G49, [(b10, .cells #[.int .i64 a1.Address, .int .i64 a1.Instance] 34 (0, 0))], [(p0, .cells #[.int .i64 a0.config.Clients, .int .i64 a0.config.Entries, .int .i64 a0.config.Bytes, .int .i64 a0.config.Reserve, .map (some b5), .int .i64 a0.entries, .int .i64 a0.bytes] 89 (0, 0))]] at S51
    have S52 := S51.front 2 rfl
    change St _ _ _ [[(p0, .cells #[.int .i64 a0.config.Clients, .int .i64 a0.config.Entries, .int .i64 a0.config.Bytes, .int .i64 a0.config.Reserve, .map (some b5), .int .i64 a0.entries, .int .i64 a0.bytes] 89 (0, 0))], G49, [(b10, .cells #[.int .i64 a1.Address, .int .i64 a1.Instance] 34 (0, 0))]] at S52
    have hO53 : ObjO 89 Cache.rp p0 (⟨a0.config, (mput a0.clients a1 x20), a0.entries, a0.bytes⟩ : Cache) ([(p0, .cells #[.int .i64 a0.config.Clients, .int .i64 a0.config.Entries, .int .i64 a0.config.Bytes, .int .i64 a0.config.Reserve, .map (some b5), .int .i64 a0.entries, .int .i64 a0.bytes] 89 (0, 0))] ++ (G49)) := ⟨_, _, ⟨b5, G49, rfl, hO50, rfl⟩, rfl⟩
    have S54 : St _ _ _ [[(p0, .cells #[.int .i64 a0.config.Clients, .int .i64 a0.config.Entries, .int .i64 a0.config.Bytes, .int .i64 a0.config.Reserve, .map (some b5), .int .i64 a0.entries, .int .i64 a0.bytes] 89 (0, 0))] ++ (G49), [(b10, .cells #[.int .i64 a1.Address, .int .i64 a1.Instance] 34 (0, 0))]] := S52.objs (by simp)
    exact ⟨[(p0, .cells #[.int .i64 a0.config.Clients, .int .i64 a0.config.Entries, .int .i64 a0.config.Bytes, .int .i64 a0.config.Reserve, .map (some b5), .int .i64 a0.entries, .int .i64 a0.bytes] 89 (0, 0))] ++ (G49), rfl, hO53, St.keep (As := [[(p0, .cells #[.int .i64 a0.config.Clients, .int .i64 a0.config.Entries, .int .i64 a0.config.Bytes, .int .i64 a0.config.Reserve, .map (some b5), .int .i64 a0.entries, .int .i64 a0.bytes] 89 (0, 0))] ++ (G49)]) S54⟩
   ·
    refine WCode.cond_f (kb (b := decide (a0.config.Reserve < (a3.length : Int))) rfl (decide_eq_false h46)) ?_
    refine WCode.skip ?_
    refine WEx.in_normal ?_
    refine WEx.then_ ?_
    refine WCode.seq ?_
    refine WCode.region ?_
    refine WOps.p (G.move rfl) rfl ?_
    refine WOps.p (G.nilp rfl) rfl ?_
    refine WOps.p (G.field T.fld96_1 rfl (show 0 + 1 = 1 from rfl)) rfl ?_
    refine WOps.r (G.load1 T.one94 rfl (cell_blk (S19.blk 0 rfl) rfl)) rfl ?_
    refine WOps.p (G.move rfl) rfl ?_
    refine WOps.p (G.move rfl) rfl ?_
    refine WOps.p (G.build (cells := #[.bool true, .string (bs a3)]) (evp_spec (evp_cons rfl (evp_cons rfl evp_nil))) (by kernel_rfl)) rfl ?_
    have S55 := S19.front 1 rfl
    change St _ _ _ [G37, [(p23, .cells #[.int .i64 x20.water, .map (some b36)] 96 (0, 0))], G25, [(b10, .cells #[.int .i64 a1.Address, .int .i64 a1.Instance] 34 (0, 0))], [(p0, .cells #[.int .i64 a0.config.Clients, .int .i64 a0.config.Entries, .int .i64 a0.config.Bytes, .int .i64 a0.config.Reserve, .map (some b5), .int .i64 a0.entries, .int .i64 a0.bytes] 89 (0, 0))]] at S55
    obtain ⟨G56, w57, U58, hM59, S60⟩ := St.mapPut (P := Try.prog) S55 T.key94 Try.underlying94 hO38 a2 (⟨true, a3⟩ : Entry)
    change St _ _ _ [G56, [(p23, .cells #[.int .i64 x20.water, .map (some b36)] 96 (0, 0))], G25, [(b10, .cells #[.int .i64 a1.Address, .int .i64 a1.Instance] 34 (0, 0))], [(p0, .cells #[.int .i64 a0.config.Clients, .int .i64 a0.config.Entries, .int .i64 a0.config.Bytes, .int .i64 a0.config.Reserve, .map (some b5), .int .i64 a0.entries, .int .i64 a0.bytes] 89 (0, 0))]] at S60
    refine WOps.u (U58 rfl rfl rfl) ?_
    refine WOps.nil ?_
    refine WEx.then_ ?_
    refine WCode.forget (l' := [(0, .pointer (some ⟨p0, 0, none⟩)), (3, .string (bs a3))]) ⟨rfl, rfl, trivial⟩ ?_
    refine WCode.seq ?_
    refine WCode.draw [⟨0, 0, []⟩, ⟨1, 0, []⟩, ⟨2, 0, []⟩, ⟨4, 0, []⟩, ⟨5, 0, []⟩, ⟨6, 0, []⟩, ⟨7, 0, []⟩, ⟨8, 0, []⟩, ⟨9, 0, []⟩, ⟨10, 1, [11, 12, 13, 14, 15]⟩, ⟨11, 0, []⟩, ⟨3, 1, [12, 13, 14, 15]⟩, ⟨12, 0, []⟩, ⟨13, 0, []⟩, ⟨14, 0, []⟩, ⟨15, 2, []⟩] T.mixed (by kernel_rfl) (by intro _ _ d _ _ h; cases d <;> exact h) rfl (by kernel_rfl) ?_
    have S61 := S60.drew
    generalize w57.drew = w62 at *
    refine WD.p rfl (G.move rfl) rfl ?_
    refine WD.p rfl (G.nilp rfl) rfl ?_
    refine WD.p rfl (G.field T.fld89_3 rfl (show 0 + 6 = 6 from rfl)) rfl ?_
    refine WD.p rfl (G.move rfl) rfl ?_
    refine WD.p rfl (G.lenb T.str9 rfl) rfl ?_
    refine WD.p rfl (G.move rfl) rfl ?_
    refine WD.p rfl (G.nilp rfl) rfl ?_
    refine WD.p rfl (G.field T.fld89_0 rfl (show 0 + 0 = 0 from rfl)) rfl ?_
    refine WD.p rfl (G.field T.fld26_3 rfl (show 0 + 3 = 3 from rfl)) rfl ?_
    refine WD.r rfl (G.load1 T.one3 rfl (cell_blk (S61.blk 4 rfl) rfl)) rfl ?_
    refine WD.p rfl (G.sub rfl rfl (r := (w64 ((a3.length : Int) - a0.config.Reserve))) rfl) rfl ?_
    refine WD.r rfl (G.load1 T.one3 rfl (cell_blk (S61.blk 4 rfl) rfl)) rfl ?_
    refine WD.p rfl (G.add rfl rfl (r := (w64 (a0.bytes + (w64 ((a3.length : Int) - a0.config.Reserve))))) rfl) rfl ?_
    refine WD.p rfl (G.nilp rfl) rfl ?_
    refine WD.p rfl (G.field T.fld89_3 rfl (show 0 + 6 = 6 from rfl)) rfl ?_
    obtain ⟨w63, E64, S65⟩ := St.store (P := Try.prog) S61 4 3 (.int .i64 (w64 (a0.bytes + (w64 ((a3.length : Int) - a0.config.Reserve))))) (off := 6) (cur' := #[.int .i64 a0.config.Clients, .int .i64 a0.config.Entries, .int .i64 a0.config.Bytes, .int .i64 a0.config.Reserve, .map (some b5), .int .i64 a0.entries, .int .i64 (w64 (a0.bytes + (w64 ((a3.length : Int) - a0.config.Reserve))))]) rfl T.size3_1 rfl rfl rfl
    change St _ _ _ [G56, [(p23, .cells #[.int .i64 x20.water, .map (some b36)] 96 (0, 0))], G25, [(b10, .cells #[.int .i64 a1.Address, .int .i64 a1.Instance] 34 (0, 0))], [(p0, .cells #[.int .i64 a0.config.Clients, .int .i64 a0.config.Entries, .int .i64 a0.config.Bytes, .int .i64 a0.config.Reserve, .map (some b5), .int .i64 a0.entries, .int .i64 (w64 (a0.bytes + (w64 ((a3.length : Int) - a0.config.Reserve))))] 89 (0, 0))]] at S65
    refine WD.u rfl (E64 rfl rfl) ?_
    refine WD.nil ?_
    refine WEx.then_ ?_
    refine WCode.forget (l' := []) trivial ?_
    refine WCode.seq ?_
    refine WCode.region ?_
    refine WOps.p (G.assign rfl) rfl ?_
    refine WOps.nil ?_
    refine WEx.then_ ?_
    refine WCode.ret ?_
    obtain rfl := some_eq hF
    refine WEx.ret1 rfl rfl ?_
    have S66 := S65.front 1 rfl
    change St _ _ _ [[(p23, .cells #[.int .i64 x20.water, .map (some b36)] 96 (0, 0))], G56, G25, [(b10, .cells #[.int .i64 a1.Address, .int .i64 a1.Instance] 34 (0, 0))], [(p0, .cells #[.int .i64 a0.config.Clients, .int .i64 a0.config.Entries, .int .i64 a0.config.Bytes, .int .i64 a0.config.Reserve, .map (some b5), .int .i64 a0.entries, .int .i64 (w64 (a0.bytes + (w64 ((a3.length : Int) - a0.config.Reserve))))] 89 (0, 0))]] at S66
    have hO67 : ObjO 96 Known.rp p23 (⟨x20.water, (mput x20.calls a2 (⟨true, a3⟩ : Entry))⟩ : Known) ([(p23, .cells #[.int .i64 x20.water, .map (some b36)] 96 (0, 0))] ++ (G56)) := ⟨_, _, ⟨b36, G56, rfl, hM59, rfl⟩, rfl⟩
    have S68 : St _ _ _ [[(p23, .cells #[.int .i64 x20.water, .map (some b36)] 96 (0, 0))] ++ (G56), G25, [(b10, .cells #[.int .i64 a1.Address, .int .i64 a1.Instance] 34 (0, 0))], [(p0, .cells #[.int .i64 a0.config.Clients, .int .i64 a0.config.Entries, .int .i64 a0.config.Bytes, .int .i64 a0.config.Reserve, .map (some b5), .int .i64 a0.entries, .int .i64 (w64 (a0.bytes + (w64 ((a3.length : Int) - a0.config.Reserve))))] 89 (0, 0))]] := S66.objs (by simp)
    obtain ⟨G69, hO70, S71⟩ := St.unfocus S68 hF27 hO67
    change St _ _ _ [G69, [(b10, .cells #[.int .i64 a1.Address, .int .i64 a1.Instance] 34 (0, 0))], [(p0, .cells #[.int .i64 a0.config.Clients, .int .i64 a0.config.Entries, .int .i64 a0.config.Bytes, .int .i64 a0.config.Reserve, .map (some b5), .int .i64 a0.entries, .int .i64 (w64 (a0.bytes + (w64 ((a3.length : Int) - a0.config.Reserve))))] 89 (0, 0))]] at S71
    have S72 := S71.front 2 rfl
    change St _ _ _ [[(p0, .cells #[.int .i64 a0.config.Clients, .int .i64 a0.config.Entries, .int .i64 a0.config.Bytes, .int .i64 a0.config.Reserve, .map (some b5), .int .i64 a0.entries, .int .i64 (w64 (a0.bytes + (w64 ((a3.length : Int) - a0.config.Reserve))))] 89 (0, 0))], G69, [(b10, .cells #[.int .i64 a1.Address, .int .i64 a1.Instance] 34 (0, 0))]] at S72
    have hO73 : ObjO 89 Cache.rp p0 (⟨a0.config, (mput a0.clients a1 (⟨x20.water, (mput x20.calls a2 (⟨true, a3⟩ : Entry))⟩ : Known)), a0.entries, w64 (a0.bytes + (w64 ((a3.length : Int) - a0.config.Reserve)))⟩ : Cache) ([(p0, .cells #[.int .i64 a0.config.Clients, .int .i64 a0.config.Entries, .int .i64 a0.config.Bytes, .int .i64 a0.config.Reserve, .map (some b5), .int .i64 a0.entries, .int .i64 (w64 (a0.bytes + (w64 ((a3.length : Int) - a0.config.Reserve))))] 89 (0, 0))] ++ (G69)) := ⟨_, _, ⟨b5, G69, rfl, hO70, rfl⟩, rfl⟩
    have S74 : St _ _ _ [[(p0, .cells #[.int .i64 a0.config.Clients, .int .i64 a0.config.Entries, .int .i64 a0.config.Bytes, .int .i64 a0.config.Reserve, .map (some b5), .int .i64 a0.entries, .int .i64 (w64 (a0.bytes + (w64 ((a3.length : Int) - a0.config.Reserve))))] 89 (0, 0))] ++ (G69), [(b10, .cells #[.int .i64 a1.Address, .int .i64 a1.Instance] 34 (0, 0))]] := S72.objs (by simp)
    exact ⟨[(p0, .cells #[.int .i64 a0.config.Clients, .int .i64 a0.config.Entries, .int .i64 a0.config.Bytes, .int .i64 a0.config.Reserve, .map (some b5), .int .i64 a0.entries, .int .i64 (w64 (a0.bytes + (w64 ((a3.length : Int) - a0.config.Reserve))))] 89 (0, 0))] ++ (G69), rfl, hO73, St.keep (As := [[(p0, .cells #[.int .i64 a0.config.Clients, .int .i64 a0.config.Entries, .int .i64 a0.config.Bytes, .int .i64 a0.config.Reserve, .map (some b5), .int .i64 a0.entries, .int .i64 (w64 (a0.bytes + (w64 ((a3.length : Int) - a0.config.Reserve))))] 89 (0, 0))] ++ (G69)]) S74⟩
  ·
   rw [if_neg h45] at hv44
   subst hv44
   refine WOps.p (G.eqp_nil Try.underlying90 rfl rfl rfl) rfl ?_
   refine WOps.p (G.assign rfl) rfl ?_
   refine WOps.nil ?_
   refine WEx.then_ ?_
   refine WCode.cond_t rfl ?_
   refine WCode.seq ?_
   refine WCode.region ?_
   refine WOps.p (G.assign rfl) rfl ?_
   refine WOps.nil ?_
   refine WEx.then_ ?_
   refine WCode.forget (l' := [(8, .int .i64 151)]) ⟨rfl, trivial⟩ ?_
   refine WCode.ret ?_
   refine WEx.in_ret ?_
   refine WEx.then_ret ?_
   obtain rfl := some_eq hF
   refine WEx.ret1 rfl rfl ?_
   have hO75 : ObjO 96 Known.rp p23 x20 ([(p23, .cells #[.int .i64 x20.water, .map (some b36)] 96 (0, 0))] ++ (G37)) := ⟨_, _, ⟨b36, G37, rfl, hO38, rfl⟩, rfl⟩
   have S76 : St _ _ _ [[(p23, .cells #[.int .i64 x20.water, .map (some b36)] 96 (0, 0))] ++ (G37), G25, [(b10, .cells #[.int .i64 a1.Address, .int .i64 a1.Instance] 34 (0, 0))], [(p0, .cells #[.int .i64 a0.config.Clients, .int .i64 a0.config.Entries, .int .i64 a0.config.Bytes, .int .i64 a0.config.Reserve, .map (some b5), .int .i64 a0.entries, .int .i64 a0.bytes] 89 (0, 0))]] := S19.objs (by simp)
   obtain ⟨G77, hO78, S79⟩ := St.unfocus S76 hF27 hO75
   change St _ _ _ [G77, [(b10, .cells #[.int .i64 a1.Address, .int .i64 a1.Instance] 34 (0, 0))], [(p0, .cells #[.int .i64 a0.config.Clients, .int .i64 a0.config.Entries, .int .i64 a0.config.Bytes, .int .i64 a0.config.Reserve, .map (some b5), .int .i64 a0.entries, .int .i64 a0.bytes] 89 (0, 0))]] at S79
   have S80 := S79.front 2 rfl
   change St _ _ _ [[(p0, .cells #[.int .i64 a0.config.Clients, .int .i64 a0.config.Entries, .int .i64 a0.config.Bytes, .int .i64 a0.config.Reserve, .map (some b5), .int .i64 a0.entries, .int .i64 a0.bytes] 89 (0, 0))], G77, [(b10, .cells #[.int .i64 a1.Address, .int .i64 a1.Instance] 34 (0, 0))]] at S80
   have hO81 : ObjO 89 Cache.rp p0 (⟨a0.config, (mput a0.clients a1 x20), a0.entries, a0.bytes⟩ : Cache) ([(p0, .cells #[.int .i64 a0.config.Clients, .int .i64 a0.config.Entries, .int .i64 a0.config.Bytes, .int .i64 a0.config.Reserve, .map (some b5), .int .i64 a0.entries, .int .i64 a0.bytes] 89 (0, 0))] ++ (G77)) := ⟨_, _, ⟨b5, G77, rfl, hO78, rfl⟩, rfl⟩
   have S82 : St _ _ _ [[(p0, .cells #[.int .i64 a0.config.Clients, .int .i64 a0.config.Entries, .int .i64 a0.config.Bytes, .int .i64 a0.config.Reserve, .map (some b5), .int .i64 a0.entries, .int .i64 a0.bytes] 89 (0, 0))] ++ (G77), [(b10, .cells #[.int .i64 a1.Address, .int .i64 a1.Instance] 34 (0, 0))]] := S80.objs (by simp)
   exact ⟨[(p0, .cells #[.int .i64 a0.config.Clients, .int .i64 a0.config.Entries, .int .i64 a0.config.Bytes, .int .i64 a0.config.Reserve, .map (some b5), .int .i64 a0.entries, .int .i64 a0.bytes] 89 (0, 0))] ++ (G77), rfl, hO81, St.keep (As := [[(p0, .cells #[.int .i64 a0.config.Clients, .int .i64 a0.config.Entries, .int .i64 a0.config.Bytes, .int .i64 a0.config.Reserve, .map (some b5), .int .i64 a0.entries, .int .i64 a0.bytes] 89 (0, 0))] ++ (G77)]) S82⟩
 ·
  have hn86 := Option.not_isSome_iff_eq_none.1 h16
  obtain ⟨Y87, hM88, _, hY89⟩ := CliO.look (w := w11) hO7 (fun b o hb => S13.grp 2 rfl hb)
  refine WOps.call T.call36 (evs_cons rfl (evs_cons rfl (evs_cons rfl evs_nil))) rfl ?_
  refine (cu_miss_calls (p := 0) (bk := 0) (wt := 0) 0 [] _ a2 (S13.blk 1 rfl) hM88 (hY89 _ hn86) rfl).mono ?_
  rintro _ w83 ⟨rfl, T84⟩
  have S85 := St.callN (As := []) S13 T84
  change St _ _ _ [[(b10, .cells #[.int .i64 a1.Address, .int .i64 a1.Instance] 34 (0, 0))], [(p0, .cells #[.int .i64 a0.config.Clients, .int .i64 a0.config.Entries, .int .i64 a0.config.Bytes, .int .i64 a0.config.Reserve, .map (some b5), .int .i64 a0.entries, .int .i64 a0.bytes] 89 (0, 0))], G6] at S85
  refine ⟨_, rfl, ?_⟩
  refine WOps.p (G.assign rfl) rfl ?_
  refine WOps.nil ?_
  refine WEx.then_ ?_
  refine WCode.seq ?_
  refine WCode.block ?_
  refine WCode.seq ?_
  refine WCode.region ?_
  refine WOps.p (G.move rfl) rfl ?_
  refine WOps.p (G.eqp_nil Try.underlying90 rfl rfl rfl) rfl ?_
  refine WOps.p (G.assign rfl) rfl ?_
  refine WOps.nil ?_
  refine WEx.then_ ?_
  refine WCode.cond_t rfl ?_
  refine WCode.seq ?_
  refine WCode.region ?_
  refine WOps.p (G.assign rfl) rfl ?_
  refine WOps.nil ?_
  refine WEx.then_ ?_
  refine WCode.forget (l' := [(8, .int .i64 151)]) ⟨rfl, trivial⟩ ?_
  refine WCode.ret ?_
  refine WEx.in_ret ?_
  refine WEx.then_ret ?_
  obtain rfl := some_eq hF
  refine WEx.ret1 rfl rfl ?_
  have S90 := (S85.front 2 rfl).front 2 rfl
  change St _ _ _ [[(p0, .cells #[.int .i64 a0.config.Clients, .int .i64 a0.config.Entries, .int .i64 a0.config.Bytes, .int .i64 a0.config.Reserve, .map (some b5), .int .i64 a0.entries, .int .i64 a0.bytes] 89 (0, 0))], G6, [(b10, .cells #[.int .i64 a1.Address, .int .i64 a1.Instance] 34 (0, 0))]] at S90
  have hO91 : ObjO 89 Cache.rp p0 a0 ([(p0, .cells #[.int .i64 a0.config.Clients, .int .i64 a0.config.Entries, .int .i64 a0.config.Bytes, .int .i64 a0.config.Reserve, .map (some b5), .int .i64 a0.entries, .int .i64 a0.bytes] 89 (0, 0))] ++ (G6)) := ⟨_, _, ⟨b5, G6, rfl, hO7, rfl⟩, rfl⟩
  have S92 : St _ _ _ [[(p0, .cells #[.int .i64 a0.config.Clients, .int .i64 a0.config.Entries, .int .i64 a0.config.Bytes, .int .i64 a0.config.Reserve, .map (some b5), .int .i64 a0.entries, .int .i64 a0.bytes] 89 (0, 0))] ++ (G6), [(b10, .cells #[.int .i64 a1.Address, .int .i64 a1.Instance] 34 (0, 0))]] := S90.objs (by simp)
  exact ⟨[(p0, .cells #[.int .i64 a0.config.Clients, .int .i64 a0.config.Entries, .int .i64 a0.config.Bytes, .int .i64 a0.config.Reserve, .map (some b5), .int .i64 a0.entries, .int .i64 a0.bytes] 89 (0, 0))] ++ (G6), rfl, hO91, St.keep (As := [[(p0, .cells #[.int .i64 a0.config.Clients, .int .i64 a0.config.Entries, .int .i64 a0.config.Bytes, .int .i64 a0.config.Reserve, .map (some b5), .int .i64 a0.entries, .int .i64 a0.bytes] 89 (0, 0))] ++ (G6)]) S92⟩

def ca_Ask (k : Nat) (a0 : Cache) (a1 : WhoC) (a2 : Int) (a3 : Int) : Option (Int × (List UInt8) × Cache) := (if a1.Address < 1 then (some (4, ([] : List UInt8), a0)) else (if 16777215 < a1.Address then (some (4, ([] : List UInt8), a0)) else (if a1.Instance < 1 then (some (4, ([] : List UInt8), a0)) else (if 4611686018427387904 < a1.Instance then (some (4, ([] : List UInt8), a0)) else (Option.bind (ca_word k a2) fun t32 => (if t32 = true then (Option.bind (ca_word k a3) fun t38 => (if t38 = true then (if (mget a0.clients a1).isSome = true then (Option.bind (mget a0.clients a1) fun x47 => (if x47.water < a3 then (if a2 < a3 then (some (4, ([] : List UInt8), (⟨a0.config, (mput a0.clients a1 (⟨a3, (keepM x47.calls a3)⟩ : Known)), subs ((outM x47.calls a3).map fun _ => (1 : Int)) a0.entries, subs ((outM x47.calls a3).map fun x => szE a0.config.Reserve x.2) a0.bytes⟩ : Cache))) else (if (mget (keepM x47.calls a3) a2).isSome = true then (Option.bind (mget (keepM x47.calls a3) a2) fun x87 => (if x87.done = true then (some (3, x87.reply, (⟨a0.config, (mput a0.clients a1 (⟨a3, (keepM x47.calls a3)⟩ : Known)), subs ((outM x47.calls a3).map fun _ => (1 : Int)) a0.entries, subs ((outM x47.calls a3).map fun x => szE a0.config.Reserve x.2) a0.bytes⟩ : Cache))) else (some (2, ([] : List UInt8), (⟨a0.config, (mput a0.clients a1 (⟨a3, (keepM x47.calls a3)⟩ : Known)), subs ((outM x47.calls a3).map fun _ => (1 : Int)) a0.entries, subs ((outM x47.calls a3).map fun x => szE a0.config.Reserve x.2) a0.bytes⟩ : Cache))))) else (if a0.config.Bytes < (w64 ((subs ((outM x47.calls a3).map fun x => szE a0.config.Reserve x.2) a0.bytes) + a0.config.Reserve)) then (some (5, ([] : List UInt8), (⟨a0.config, (mput a0.clients a1 (⟨a3, (keepM x47.calls a3)⟩ : Known)), subs ((outM x47.calls a3).map fun _ => (1 : Int)) a0.entries, subs ((outM x47.calls a3).map fun x => szE a0.config.Reserve x.2) a0.bytes⟩ : Cache))) else (if a0.config.Entries ≤ ((keepM x47.calls a3).length : Int) then (some (5, ([] : List UInt8), (⟨a0.config, (mput a0.clients a1 (⟨a3, (keepM x47.calls a3)⟩ : Known)), subs ((outM x47.calls a3).map fun _ => (1 : Int)) a0.entries, subs ((outM x47.calls a3).map fun x => szE a0.config.Reserve x.2) a0.bytes⟩ : Cache))) else (some (1, ([] : List UInt8), (⟨a0.config, (mput a0.clients a1 (⟨a3, (mput (keepM x47.calls a3) a2 (⟨false, ([] : List UInt8)⟩ : Entry))⟩ : Known)), w64 ((subs ((outM x47.calls a3).map fun _ => (1 : Int)) a0.entries) + 1), w64 ((subs ((outM x47.calls a3).map fun x => szE a0.config.Reserve x.2) a0.bytes) + a0.config.Reserve)⟩ : Cache))))))) else (if a2 < x47.water then (some (4, ([] : List UInt8), (⟨a0.config, (mput a0.clients a1 x47), a0.entries, a0.bytes⟩ : Cache))) else (if (mget x47.calls a2).isSome = true then (Option.bind (mget x47.calls a2) fun x189 => (if x189.done = true then (some (3, x189.reply, (⟨a0.config, (mput a0.clients a1 x47), a0.entries, a0.bytes⟩ : Cache))) else (some (2, ([] : List UInt8), (⟨a0.config, (mput a0.clients a1 x47), a0.entries, a0.bytes⟩ : Cache))))) else (if a0.config.Bytes < (w64 (a0.bytes + a0.config.Reserve)) then (some (5, ([] : List UInt8), (⟨a0.config, (mput a0.clients a1 x47), a0.entries, a0.bytes⟩ : Cache))) else (if a0.config.Entries ≤ (x47.calls.length : Int) then (some (5, ([] : List UInt8), (⟨a0.config, (mput a0.clients a1 x47), a0.entries, a0.bytes⟩ : Cache))) else (some (1, ([] : List UInt8), (⟨a0.config, (mput a0.clients a1 (⟨x47.water, (mput x47.calls a2 (⟨false, ([] : List UInt8)⟩ : Entry))⟩ : Known)), w64 (a0.entries + 1), w64 (a0.bytes + a0.config.Reserve)⟩ : Cache))))))))) else (if a2 < a3 then (some (4, ([] : List UInt8), a0)) else (if a0.config.Bytes < (w64 (a0.bytes + a0.config.Reserve)) then (some (5, ([] : List UInt8), a0)) else (if a0.config.Clients ≤ (a0.clients.length : Int) then (some (5, ([] : List UInt8), a0)) else (some (1, ([] : List UInt8), (⟨a0.config, (mput a0.clients a1 (⟨a3, (mput ([] : List (Int × Entry)) a2 (⟨false, ([] : List UInt8)⟩ : Entry))⟩ : Known)), w64 (a0.entries + 1), w64 (a0.bytes + a0.config.Reserve)⟩ : Cache))))))) else (some (4, ([] : List UInt8), a0)))) else (some (4, ([] : List UInt8), a0))))))))
set_option maxRecDepth 100000 in
set_option maxHeartbeats 1000000 in
theorem ca_Ask_calls (k : Nat) (a0 : Cache) {p0 : Nat} {G0 : Grp} (a1 : WhoC) (a2 : Int) (a3 : Int) {w : World} (hO0 : ObjO 89 Cache.rp p0 a0 G0) {r_ : Int × (List UInt8) × Cache} (h_ : ca_Ask k a0 a1 a2 a3 = some r_) (hp_ : Hp w ([G0]).flatten) :
    Calls Try.prog 17 [.pointer (some ⟨p0, 0, none⟩), .agg #[.int .i64 a1.Address, .int .i64 a1.Instance], .int .i64 a2, .int .i64 a3].toArray w fun e w' => ∃ Go0' : Grp, e = .returned (.tuple #[.int .i64 r_.1, .string (bs r_.2.1)]) ∧ ObjO 89 Cache.rp p0 (r_.2.2) Go0' ∧ St w (KS [G0]) w' [Go0'] := by
 have hF := h_
 clear h_
 unfold ca_Ask at hF
 have S := St.initK [G0] hp_
 obtain ⟨cs1, G2, ho3, hg4⟩ := hO0
 obtain ⟨b5, G6, rfl, hO7, hq8⟩ := ho3
 have S9 : St _ _ _ [[(p0, .cells #[.int .i64 a0.config.Clients, .int .i64 a0.config.Entries, .int .i64 a0.config.Bytes, .int .i64 a0.config.Reserve, .map (some b5), .int .i64 a0.entries, .int .i64 a0.bytes] 89 (0, 0))], G6] := S.objs (by rw [hg4, hq8]; simp)
 refine enter 176 [(0, .pointer (some ⟨p0, 0, none⟩)), (1, .agg #[.int .i64 a1.Address, .int .i64 a1.Instance]), (2, .int .i64 a2), (3, .int .i64 a3)] Try.func17 rfl rfl rfl rfl ?_
 refine WCode.seq ?_
 refine WCode.region ?_
 obtain ⟨b10, w11, E12, S13, X14, L15⟩ := St.box S9 Try.prog 34 (.agg #[.int .i64 a1.Address, .int .i64 a1.Instance])
 change St _ _ _ [[(b10, .cells #[.int .i64 a1.Address, .int .i64 a1.Instance] 34 (0, 0))], [(p0, .cells #[.int .i64 a0.config.Clients, .int .i64 a0.config.Entries, .int .i64 a0.config.Bytes, .int .i64 a0.config.Reserve, .map (some b5), .int .i64 a0.entries, .int .i64 a0.bytes] 89 (0, 0))], G6] at S13
 refine WOps.e (E12 rfl) rfl ?_
 refine WOps.p (G.assign rfl) rfl ?_
 refine WOps.p (G.assign rfl) rfl ?_
 refine WOps.nil ?_
 refine WEx.then_ ?_
 refine WCode.seq ?_
 refine WCode.seq ?_
 refine WCode.region ?_
 refine WOps.p (G.field T.fld34_0 rfl (show 0 + 0 = 0 from rfl)) rfl ?_
 refine WOps.r (G.load1 T.one3 rfl (cell_blk (S13.blk 0 rfl) rfl)) rfl ?_
 refine WOps.p (G.lss rfl rfl rfl) rfl ?_
 refine WOps.p (G.move rfl) rfl ?_
 rcases ite_some hF with ⟨h16, hF⟩ | ⟨h16, hF⟩
 ·
  refine WOps.off rfl (kbl (b := decide (a1.Address < 1)) rfl (decide_eq_true h16)) rfl rfl ?_
  refine WOps.off rfl (kbl (b := decide (a1.Address < 1)) rfl (decide_eq_true h16)) rfl rfl ?_
  refine WOps.off rfl (kbl (b := decide (a1.Address < 1)) rfl (decide_eq_true h16)) rfl rfl ?_
  refine WOps.p (G.pick_t (kb (b := decide (a1.Address < 1)) rfl (decide_eq_true h16)) rfl) rfl ?_
  refine WOps.p (G.move rfl) rfl ?_
  refine WOps.off rfl rfl rfl rfl ?_
  refine WOps.off rfl rfl rfl rfl ?_
  refine WOps.off rfl rfl rfl rfl ?_
  refine WOps.p (G.pick_t rfl rfl) rfl ?_
  refine WOps.p (G.move rfl) rfl ?_
  refine WOps.off rfl rfl rfl rfl ?_
  refine WOps.off rfl rfl rfl rfl ?_
  refine WOps.off rfl rfl rfl rfl ?_
  refine WOps.p (G.pick_t rfl rfl) rfl ?_
  refine WOps.p (G.move rfl) rfl ?_
  refine WOps.off rfl rfl rfl rfl ?_
  refine WOps.off rfl rfl rfl rfl ?_
  refine WOps.off rfl rfl rfl rfl ?_
  refine WOps.p (G.pick_t rfl rfl) rfl ?_
  refine WOps.p (G.move rfl) rfl ?_
  refine WOps.off rfl rfl rfl rfl ?_
  refine WOps.off rfl rfl rfl rfl ?_
  refine WOps.off rfl rfl rfl rfl ?_
  refine WOps.p (G.pick_t rfl rfl) rfl ?_
  refine WOps.nil ?_
  refine WEx.then_ ?_
  refine WCode.forget (l' := [(0, .pointer (some ⟨p0, 0, none⟩)), (2, .int .i64 a2), (3, .int .i64 a3), (5, .pointer (some ⟨b10, 0, none⟩)), (41, .bool true)]) ⟨rfl, rfl, rfl, rfl, rfl, trivial⟩ ?_
  refine WCode.cond_t rfl ?_
  refine WCode.seq ?_
  refine WCode.region ?_
  refine WOps.p (G.assign rfl) rfl ?_
  refine WOps.p (G.assign rfl) rfl ?_
  refine WOps.nil ?_
  refine WEx.then_ ?_
  refine WCode.ret ?_
  refine WEx.then_ret ?_
  obtain rfl := some_eq hF
  refine WEx.ret2 rfl rfl rfl ?_
  have S17 := (S13.front 2 rfl).front 2 rfl
  change St _ _ _ [[(p0, .cells #[.int .i64 a0.config.Clients, .int .i64 a0.config.Entries, .int .i64 a0.config.Bytes, .int .i64 a0.config.Reserve, .map (some b5), .int .i64 a0.entries, .int .i64 a0.bytes] 89 (0, 0))], G6, [(b10, .cells #[.int .i64 a1.Address, .int .i64 a1.Instance] 34 (0, 0))]] at S17
  have hO18 : ObjO 89 Cache.rp p0 a0 ([(p0, .cells #[.int .i64 a0.config.Clients, .int .i64 a0.config.Entries, .int .i64 a0.config.Bytes, .int .i64 a0.config.Reserve, .map (some b5), .int .i64 a0.entries, .int .i64 a0.bytes] 89 (0, 0))] ++ (G6)) := ⟨_, _, ⟨b5, G6, rfl, hO7, rfl⟩, rfl⟩
  have S19 : St _ _ _ [[(p0, .cells #[.int .i64 a0.config.Clients, .int .i64 a0.config.Entries, .int .i64 a0.config.Bytes, .int .i64 a0.config.Reserve, .map (some b5), .int .i64 a0.entries, .int .i64 a0.bytes] 89 (0, 0))] ++ (G6), [(b10, .cells #[.int .i64 a1.Address, .int .i64 a1.Instance] 34 (0, 0))]] := S17.objs (by simp)
  exact ⟨[(p0, .cells #[.int .i64 a0.config.Clients, .int .i64 a0.config.Entries, .int .i64 a0.config.Bytes, .int .i64 a0.config.Reserve, .map (some b5), .int .i64 a0.entries, .int .i64 a0.bytes] 89 (0, 0))] ++ (G6), rfl, hO18, St.keep (As := [[(p0, .cells #[.int .i64 a0.config.Clients, .int .i64 a0.config.Entries, .int .i64 a0.config.Bytes, .int .i64 a0.config.Reserve, .map (some b5), .int .i64 a0.entries, .int .i64 a0.bytes] 89 (0, 0))] ++ (G6)]) S19⟩
 ·
  refine WOps.on rfl (kbl (b := decide (a1.Address < 1)) rfl (decide_eq_false h16)) ?_
  refine WOps.p (G.field T.fld34_0 rfl (show 0 + 0 = 0 from rfl)) rfl ?_
  refine WOps.on rfl (kbl (b := decide (a1.Address < 1)) rfl (decide_eq_false h16)) ?_
  refine WOps.r (G.load1 T.one3 rfl (cell_blk (S13.blk 0 rfl) rfl)) rfl ?_
  refine WOps.on rfl (kbl (b := decide (a1.Address < 1)) rfl (decide_eq_false h16)) ?_
  refine WOps.p (G.gtr rfl rfl rfl) rfl ?_
  refine WOps.p (G.pick_f (kb (b := decide (a1.Address < 1)) rfl (decide_eq_false h16)) rfl) rfl ?_
  refine WOps.p (G.move rfl) rfl ?_
  rcases ite_some hF with ⟨h20, hF⟩ | ⟨h20, hF⟩
  ·
   refine WOps.off rfl (kbl (b := decide (16777215 < a1.Address)) rfl (decide_eq_true h20)) rfl rfl ?_
   refine WOps.off rfl (kbl (b := decide (16777215 < a1.Address)) rfl (decide_eq_true h20)) rfl rfl ?_
   refine WOps.off rfl (kbl (b := decide (16777215 < a1.Address)) rfl (decide_eq_true h20)) rfl rfl ?_
   refine WOps.p (G.pick_t (kb (b := decide (16777215 < a1.Address)) rfl (decide_eq_true h20)) rfl) rfl ?_
   refine WOps.p (G.move rfl) rfl ?_
   refine WOps.off rfl rfl rfl rfl ?_
   refine WOps.off rfl rfl rfl rfl ?_
   refine WOps.off rfl rfl rfl rfl ?_
   refine WOps.p (G.pick_t rfl rfl) rfl ?_
   refine WOps.p (G.move rfl) rfl ?_
   refine WOps.off rfl rfl rfl rfl ?_
   refine WOps.off rfl rfl rfl rfl ?_
   refine WOps.off rfl rfl rfl rfl ?_
   refine WOps.p (G.pick_t rfl rfl) rfl ?_
   refine WOps.p (G.move rfl) rfl ?_
   refine WOps.off rfl rfl rfl rfl ?_
   refine WOps.off rfl rfl rfl rfl ?_
   refine WOps.off rfl rfl rfl rfl ?_
   refine WOps.p (G.pick_t rfl rfl) rfl ?_
   refine WOps.nil ?_
   refine WEx.then_ ?_
   refine WCode.forget (l' := [(0, .pointer (some ⟨p0, 0, none⟩)), (2, .int .i64 a2), (3, .int .i64 a3), (5, .pointer (some ⟨b10, 0, none⟩)), (41, .bool true)]) ⟨rfl, rfl, rfl, rfl, rfl, trivial⟩ ?_
   refine WCode.cond_t rfl ?_
   refine WCode.seq ?_
   refine WCode.region ?_
   refine WOps.p (G.assign rfl) rfl ?_
   refine WOps.p (G.assign rfl) rfl ?_
   refine WOps.nil ?_
   refine WEx.then_ ?_
   refine WCode.ret ?_
   refine WEx.then_ret ?_
   obtain rfl := some_eq hF
   refine WEx.ret2 rfl rfl rfl ?_
   have S21 := (S13.front 2 rfl).front 2 rfl
   change St _ _ _ [[(p0, .cells #[.int .i64 a0.config.Clients, .int .i64 a0.config.Entries, .int .i64 a0.config.Bytes, .int .i64 a0.config.Reserve, .map (some b5), .int .i64 a0.entries, .int .i64 a0.bytes] 89 (0, 0))], G6, [(b10, .cells #[.int .i64 a1.Address, .int .i64 a1.Instance] 34 (0, 0))]] at S21
   have hO22 : ObjO 89 Cache.rp p0 a0 ([(p0, .cells #[.int .i64 a0.config.Clients, .int .i64 a0.config.Entries, .int .i64 a0.config.Bytes, .int .i64 a0.config.Reserve, .map (some b5), .int .i64 a0.entries, .int .i64 a0.bytes] 89 (0, 0))] ++ (G6)) := ⟨_, _, ⟨b5, G6, rfl, hO7, rfl⟩, rfl⟩
   have S23 : St _ _ _ [[(p0, .cells #[.int .i64 a0.config.Clients, .int .i64 a0.config.Entries, .int .i64 a0.config.Bytes, .int .i64 a0.config.Reserve, .map (some b5), .int .i64 a0.entries, .int .i64 a0.bytes] 89 (0, 0))] ++ (G6), [(b10, .cells #[.int .i64 a1.Address, .int .i64 a1.Instance] 34 (0, 0))]] := S21.objs (by simp)
   exact ⟨[(p0, .cells #[.int .i64 a0.config.Clients, .int .i64 a0.config.Entries, .int .i64 a0.config.Bytes, .int .i64 a0.config.Reserve, .map (some b5), .int .i64 a0.entries, .int .i64 a0.bytes] 89 (0, 0))] ++ (G6), rfl, hO22, St.keep (As := [[(p0, .cells #[.int .i64 a0.config.Clients, .int .i64 a0.config.Entries, .int .i64 a0.config.Bytes, .int .i64 a0.config.Reserve, .map (some b5), .int .i64 a0.entries, .int .i64 a0.bytes] 89 (0, 0))] ++ (G6)]) S23⟩
  ·
   refine WOps.on rfl (kbl (b := decide (16777215 < a1.Address)) rfl (decide_eq_false h20)) ?_
   refine WOps.p (G.field T.fld34_1 rfl (show 0 + 1 = 1 from rfl)) rfl ?_
   refine WOps.on rfl (kbl (b := decide (16777215 < a1.Address)) rfl (decide_eq_false h20)) ?_
   refine WOps.r (G.load1 T.one3 rfl (cell_blk (S13.blk 0 rfl) rfl)) rfl ?_
   refine WOps.on rfl (kbl (b := decide (16777215 < a1.Address)) rfl (decide_eq_false h20)) ?_
   refine WOps.p (G.lss rfl rfl rfl) rfl ?_
   refine WOps.p (G.pick_f (kb (b := decide (16777215 < a1.Address)) rfl (decide_eq_false h20)) rfl) rfl ?_
   refine WOps.p (G.move rfl) rfl ?_
   rcases ite_some hF with ⟨h24, hF⟩ | ⟨h24, hF⟩
   ·
    refine WOps.off rfl (kbl (b := decide (a1.Instance < 1)) rfl (decide_eq_true h24)) rfl rfl ?_
    refine WOps.off rfl (kbl (b := decide (a1.Instance < 1)) rfl (decide_eq_true h24)) rfl rfl ?_
    refine WOps.off rfl (kbl (b := decide (a1.Instance < 1)) rfl (decide_eq_true h24)) rfl rfl ?_
    refine WOps.p (G.pick_t (kb (b := decide (a1.Instance < 1)) rfl (decide_eq_true h24)) rfl) rfl ?_
    refine WOps.p (G.move rfl) rfl ?_
    refine WOps.off rfl rfl rfl rfl ?_
    refine WOps.off rfl rfl rfl rfl ?_
    refine WOps.off rfl rfl rfl rfl ?_
    refine WOps.p (G.pick_t rfl rfl) rfl ?_
    refine WOps.p (G.move rfl) rfl ?_
    refine WOps.off rfl rfl rfl rfl ?_
    refine WOps.off rfl rfl rfl rfl ?_
    refine WOps.off rfl rfl rfl rfl ?_
    refine WOps.p (G.pick_t rfl rfl) rfl ?_
    refine WOps.nil ?_
    refine WEx.then_ ?_
    refine WCode.forget (l' := [(0, .pointer (some ⟨p0, 0, none⟩)), (2, .int .i64 a2), (3, .int .i64 a3), (5, .pointer (some ⟨b10, 0, none⟩)), (41, .bool true)]) ⟨rfl, rfl, rfl, rfl, rfl, trivial⟩ ?_
    refine WCode.cond_t rfl ?_
    refine WCode.seq ?_
    refine WCode.region ?_
    refine WOps.p (G.assign rfl) rfl ?_
    refine WOps.p (G.assign rfl) rfl ?_
    refine WOps.nil ?_
    refine WEx.then_ ?_
    refine WCode.ret ?_
    refine WEx.then_ret ?_
    obtain rfl := some_eq hF
    refine WEx.ret2 rfl rfl rfl ?_
    have S25 := (S13.front 2 rfl).front 2 rfl
    change St _ _ _ [[(p0, .cells #[.int .i64 a0.config.Clients, .int .i64 a0.config.Entries, .int .i64 a0.config.Bytes, .int .i64 a0.config.Reserve, .map (some b5), .int .i64 a0.entries, .int .i64 a0.bytes] 89 (0, 0))], G6, [(b10, .cells #[.int .i64 a1.Address, .int .i64 a1.Instance] 34 (0, 0))]] at S25
    have hO26 : ObjO 89 Cache.rp p0 a0 ([(p0, .cells #[.int .i64 a0.config.Clients, .int .i64 a0.config.Entries, .int .i64 a0.config.Bytes, .int .i64 a0.config.Reserve, .map (some b5), .int .i64 a0.entries, .int .i64 a0.bytes] 89 (0, 0))] ++ (G6)) := ⟨_, _, ⟨b5, G6, rfl, hO7, rfl⟩, rfl⟩
    have S27 : St _ _ _ [[(p0, .cells #[.int .i64 a0.config.Clients, .int .i64 a0.config.Entries, .int .i64 a0.config.Bytes, .int .i64 a0.config.Reserve, .map (some b5), .int .i64 a0.entries, .int .i64 a0.bytes] 89 (0, 0))] ++ (G6), [(b10, .cells #[.int .i64 a1.Address, .int .i64 a1.Instance] 34 (0, 0))]] := S25.objs (by simp)
    exact ⟨[(p0, .cells #[.int .i64 a0.config.Clients, .int .i64 a0.config.Entries, .int .i64 a0.config.Bytes, .int .i64 a0.config.Reserve, .map (some b5), .int .i64 a0.entries, .int .i64 a0.bytes] 89 (0, 0))] ++ (G6), rfl, hO26, St.keep (As := [[(p0, .cells #[.int .i64 a0.config.Clients, .int .i64 a0.config.Entries, .int .i64 a0.config.Bytes, .int .i64 a0.config.Reserve, .map (some b5), .int .i64 a0.entries, .int .i64 a0.bytes] 89 (0, 0))] ++ (G6)]) S27⟩
   ·
    refine WOps.on rfl (kbl (b := decide (a1.Instance < 1)) rfl (decide_eq_false h24)) ?_
    refine WOps.p (G.field T.fld34_1 rfl (show 0 + 1 = 1 from rfl)) rfl ?_
    refine WOps.on rfl (kbl (b := decide (a1.Instance < 1)) rfl (decide_eq_false h24)) ?_
    refine WOps.r (G.load1 T.one3 rfl (cell_blk (S13.blk 0 rfl) rfl)) rfl ?_
    refine WOps.on rfl (kbl (b := decide (a1.Instance < 1)) rfl (decide_eq_false h24)) ?_
    refine WOps.p (G.gtr rfl rfl rfl) rfl ?_
    refine WOps.p (G.pick_f (kb (b := decide (a1.Instance < 1)) rfl (decide_eq_false h24)) rfl) rfl ?_
    refine WOps.p (G.move rfl) rfl ?_
    rcases ite_some hF with ⟨h28, hF⟩ | ⟨h28, hF⟩
    ·
     refine WOps.off rfl (kbl (b := decide (4611686018427387904 < a1.Instance)) rfl (decide_eq_true h28)) rfl rfl ?_
     refine WOps.off rfl (kbl (b := decide (4611686018427387904 < a1.Instance)) rfl (decide_eq_true h28)) rfl rfl ?_
     refine WOps.off rfl (kbl (b := decide (4611686018427387904 < a1.Instance)) rfl (decide_eq_true h28)) rfl rfl ?_
     refine WOps.p (G.pick_t (kb (b := decide (4611686018427387904 < a1.Instance)) rfl (decide_eq_true h28)) rfl) rfl ?_
     refine WOps.p (G.move rfl) rfl ?_
     refine WOps.off rfl rfl rfl rfl ?_
     refine WOps.off rfl rfl rfl rfl ?_
     refine WOps.off rfl rfl rfl rfl ?_
     refine WOps.p (G.pick_t rfl rfl) rfl ?_
     refine WOps.nil ?_
     refine WEx.then_ ?_
     refine WCode.forget (l' := [(0, .pointer (some ⟨p0, 0, none⟩)), (2, .int .i64 a2), (3, .int .i64 a3), (5, .pointer (some ⟨b10, 0, none⟩)), (41, .bool true)]) ⟨rfl, rfl, rfl, rfl, rfl, trivial⟩ ?_
     refine WCode.cond_t rfl ?_
     refine WCode.seq ?_
     refine WCode.region ?_
     refine WOps.p (G.assign rfl) rfl ?_
     refine WOps.p (G.assign rfl) rfl ?_
     refine WOps.nil ?_
     refine WEx.then_ ?_
     refine WCode.ret ?_
     refine WEx.then_ret ?_
     obtain rfl := some_eq hF
     refine WEx.ret2 rfl rfl rfl ?_
     have S29 := (S13.front 2 rfl).front 2 rfl
     change St _ _ _ [[(p0, .cells #[.int .i64 a0.config.Clients, .int .i64 a0.config.Entries, .int .i64 a0.config.Bytes, .int .i64 a0.config.Reserve, .map (some b5), .int .i64 a0.entries, .int .i64 a0.bytes] 89 (0, 0))], G6, [(b10, .cells #[.int .i64 a1.Address, .int .i64 a1.Instance] 34 (0, 0))]] at S29
     have hO30 : ObjO 89 Cache.rp p0 a0 ([(p0, .cells #[.int .i64 a0.config.Clients, .int .i64 a0.config.Entries, .int .i64 a0.config.Bytes, .int .i64 a0.config.Reserve, .map (some b5), .int .i64 a0.entries, .int .i64 a0.bytes] 89 (0, 0))] ++ (G6)) := ⟨_, _, ⟨b5, G6, rfl, hO7, rfl⟩, rfl⟩
     have S31 : St _ _ _ [[(p0, .cells #[.int .i64 a0.config.Clients, .int .i64 a0.config.Entries, .int .i64 a0.config.Bytes, .int .i64 a0.config.Reserve, .map (some b5), .int .i64 a0.entries, .int .i64 a0.bytes] 89 (0, 0))] ++ (G6), [(b10, .cells #[.int .i64 a1.Address, .int .i64 a1.Instance] 34 (0, 0))]] := S29.objs (by simp)
     exact ⟨[(p0, .cells #[.int .i64 a0.config.Clients, .int .i64 a0.config.Entries, .int .i64 a0.config.Bytes, .int .i64 a0.config.Reserve, .map (some b5), .int .i64 a0.entries, .int .i64 a0.bytes] 89 (0, 0))] ++ (G6), rfl, hO30, St.keep (As := [[(p0, .cells #[.int .i64 a0.config.Clients, .int .i64 a0.config.Entries, .int .i64 a0.config.Bytes, .int .i64 a0.config.Reserve, .map (some b5), .int .i64 a0.entries, .int .i64 a0.bytes] 89 (0, 0))] ++ (G6)]) S31⟩
    ·
     refine WOps.on rfl (kbl (b := decide (4611686018427387904 < a1.Instance)) rfl (decide_eq_false h28)) ?_
     refine WOps.p (G.move rfl) rfl ?_
     refine WOps.on rfl (kbl (b := decide (4611686018427387904 < a1.Instance)) rfl (decide_eq_false h28)) ?_
     obtain ⟨t32, hc33, hF⟩ := bind_some hF
     refine WOps.call T.call37 (evs_cons rfl evs_nil) rfl ?_
     refine (ca_word_calls k a2 hc33).mono ?_
     rintro _ w34 ⟨rfl, T35⟩
     have S36 := St.callN (As := []) S13 T35
     change St _ _ _ [[(b10, .cells #[.int .i64 a1.Address, .int .i64 a1.Instance] 34 (0, 0))], [(p0, .cells #[.int .i64 a0.config.Clients, .int .i64 a0.config.Entries, .int .i64 a0.config.Bytes, .int .i64 a0.config.Reserve, .map (some b5), .int .i64 a0.entries, .int .i64 a0.bytes] 89 (0, 0))], G6] at S36
     refine ⟨_, rfl, ?_⟩
     refine WOps.on rfl (kbl (b := decide (4611686018427387904 < a1.Instance)) rfl (decide_eq_false h28)) ?_
     refine WOps.p (G.not rfl rfl) rfl ?_
     refine WOps.p (G.pick_f (kb (b := decide (4611686018427387904 < a1.Instance)) rfl (decide_eq_false h28)) rfl) rfl ?_
     refine WOps.p (G.move rfl) rfl ?_
     rcases ite_some hF with ⟨h37, hF⟩ | ⟨h37, hF⟩
     ·
      refine WOps.on rfl (kbl (b := !t32) rfl (show (!t32) = false from by rw [h37]; rfl)) ?_
      refine WOps.p (G.move rfl) rfl ?_
      refine WOps.on rfl (kbl (b := !t32) rfl (show (!t32) = false from by rw [h37]; rfl)) ?_
      obtain ⟨t38, hc39, hF⟩ := bind_some hF
      refine WOps.call T.call37 (evs_cons rfl evs_nil) rfl ?_
      refine (ca_word_calls k a3 hc39).mono ?_
      rintro _ w40 ⟨rfl, T41⟩
      have S42 := St.callN (As := []) S36 T41
      change St _ _ _ [[(b10, .cells #[.int .i64 a1.Address, .int .i64 a1.Instance] 34 (0, 0))], [(p0, .cells #[.int .i64 a0.config.Clients, .int .i64 a0.config.Entries, .int .i64 a0.config.Bytes, .int .i64 a0.config.Reserve, .map (some b5), .int .i64 a0.entries, .int .i64 a0.bytes] 89 (0, 0))], G6] at S42
      refine ⟨_, rfl, ?_⟩
      refine WOps.on rfl (kbl (b := !t32) rfl (show (!t32) = false from by rw [h37]; rfl)) ?_
      refine WOps.p (G.not rfl rfl) rfl ?_
      refine WOps.p (G.pick_f (kb (b := !t32) rfl (show (!t32) = false from by rw [h37]; rfl)) rfl) rfl ?_
      refine WOps.nil ?_
      refine WEx.then_ ?_
      refine WCode.forget (l' := [(0, .pointer (some ⟨p0, 0, none⟩)), (2, .int .i64 a2), (3, .int .i64 a3), (5, .pointer (some ⟨b10, 0, none⟩)), (41, .bool (!t38))]) ⟨rfl, rfl, rfl, rfl, rfl, trivial⟩ ?_
      rcases ite_some hF with ⟨h43, hF⟩ | ⟨h43, hF⟩
      ·
       refine WCode.cond_f (kb (b := !t38) rfl (show (!t38) = false from by rw [h43]; rfl)) ?_
       refine WCode.skip ?_
       refine WEx.then_ ?_
       refine WCode.seq ?_
       refine WCode.draw [⟨0, 0, []⟩, ⟨1, 0, []⟩, ⟨2, 0, []⟩, ⟨3, 1, [5, 6, 7, 8, 9, 10]⟩, ⟨4, 1, [5, 6, 7, 8, 9, 10]⟩, ⟨5, 2, []⟩, ⟨6, 0, []⟩, ⟨7, 0, []⟩, ⟨8, 0, []⟩, ⟨9, 0, []⟩, ⟨10, 0, []⟩] T.mixed (by kernel_rfl) (by intro _ _ d _ _ h; cases d <;> exact h) rfl (by kernel_rfl) ?_
       have S44 := S42.drew
       generalize w40.drew = w45 at *
       refine WD.p rfl (G.move rfl) rfl ?_
       refine WD.p rfl (G.nilp rfl) rfl ?_
       refine WD.p rfl (G.field T.fld89_1 rfl (show 0 + 4 = 4 from rfl)) rfl ?_
       refine WD.r rfl (G.load1 T.one87 rfl (cell_blk (S44.blk 1 rfl) rfl)) rfl ?_
       refine WD.r rfl (G.loada T.agg34_2 rfl (cs := [.int .i64 a1.Address, .int .i64 a1.Instance]) (cellsAt.of_blk (S44.blk 0 rfl) rfl)) rfl ?_
       rcases ite_some hF with ⟨h46, hF⟩ | ⟨h46, hF⟩
       ·
        obtain ⟨x47, hc48, hF⟩ := bind_some hF
        have S49 := S44.front 2 rfl
        change St _ _ _ [G6, [(b10, .cells #[.int .i64 a1.Address, .int .i64 a1.Instance] 34 (0, 0))], [(p0, .cells #[.int .i64 a0.config.Clients, .int .i64 a0.config.Entries, .int .i64 a0.config.Bytes, .int .i64 a0.config.Reserve, .map (some b5), .int .i64 a0.entries, .int .i64 a0.bytes] 89 (0, 0))]] at S49
        obtain ⟨p50, G51, G52, hO53, hF54, S55⟩ := St.focus S49 hO7 hc48
        change St _ _ _ [G51, G52, [(b10, .cells #[.int .i64 a1.Address, .int .i64 a1.Instance] 34 (0, 0))], [(p0, .cells #[.int .i64 a0.config.Clients, .int .i64 a0.config.Entries, .int .i64 a0.config.Bytes, .int .i64 a0.config.Reserve, .map (some b5), .int .i64 a0.entries, .int .i64 a0.bytes] 89 (0, 0))]] at S55
        obtain ⟨Y56, hM57, hY58⟩ := CliF.look (w := w45) hF54 (fun b o hb => S55.grp 1 rfl hb)
        obtain ⟨cs59, G60, ho61, hg62⟩ := hO53
        obtain ⟨b63, G64, rfl, hO65, hq66⟩ := ho61
        have S67 : St _ _ _ [[(p50, .cells #[.int .i64 x47.water, .map (some b63)] 96 (0, 0))], G64, G52, [(b10, .cells #[.int .i64 a1.Address, .int .i64 a1.Instance] 34 (0, 0))], [(p0, .cells #[.int .i64 a0.config.Clients, .int .i64 a0.config.Entries, .int .i64 a0.config.Bytes, .int .i64 a0.config.Reserve, .map (some b5), .int .i64 a0.entries, .int .i64 a0.bytes] 89 (0, 0))]] := S55.objs (by rw [hg62, hq66]; simp)
        refine WD.e rfl (GR.e (G.mapget1 T.key87 Try.underlying87 hM57 rfl rfl hY58)) rfl ?_
        refine WD.p rfl (G.move rfl) rfl ?_
        refine WD.p rfl (G.extract rfl rfl) rfl ?_
        refine WD.p rfl (G.extract rfl rfl) rfl ?_
        refine WD.p rfl (G.assign rfl) rfl ?_
        refine WD.p rfl (G.assign rfl) rfl ?_
        refine WD.nil ?_
        refine WEx.then_ ?_
        refine WCode.forget (l' := [(0, .pointer (some ⟨p0, 0, none⟩)), (2, .int .i64 a2), (3, .int .i64 a3), (5, .pointer (some ⟨b10, 0, none⟩)), (10, .pointer (some ⟨p50, 0, none⟩)), (11, .bool true)]) ⟨rfl, rfl, rfl, rfl, rfl, rfl, trivial⟩ ?_
        refine WCode.seq ?_
        refine WCode.seq ?_
        refine WCode.region ?_
        refine WOps.p (G.move rfl) rfl ?_
        refine WOps.p (G.move rfl) rfl ?_
        refine WOps.on rfl rfl ?_
        refine WOps.p (G.move rfl) rfl ?_
        refine WOps.on rfl rfl ?_
        refine WOps.p (G.move rfl) rfl ?_
        refine WOps.on rfl rfl ?_
        refine WOps.p (G.nilp rfl) rfl ?_
        refine WOps.on rfl rfl ?_
        refine WOps.p (G.field T.fld96_0 rfl (show 0 + 0 = 0 from rfl)) rfl ?_
        refine WOps.on rfl rfl ?_
        refine WOps.r (G.load1 T.one3 rfl (cell_blk (S67.blk 0 rfl) rfl)) rfl ?_
        refine WOps.on rfl rfl ?_
        refine WOps.p (G.gtr rfl rfl rfl) rfl ?_
        refine WOps.p (G.pick_t rfl rfl) rfl ?_
        refine WOps.nil ?_
        refine WEx.then_ ?_
        rcases ite_some hF with ⟨h68, hF⟩ | ⟨h68, hF⟩
        ·
         refine WCode.cond_t (kb (b := decide (x47.water < a3)) rfl (decide_eq_true h68)) ?_
         refine WCode.region ?_
         refine WOps.p (G.move rfl) rfl ?_
         refine WOps.p (G.move rfl) rfl ?_
         refine WOps.p (G.move rfl) rfl ?_
         have S69 := ((S67.front 1 rfl).front 1 rfl).front 4 rfl
         change St _ _ _ [[(p0, .cells #[.int .i64 a0.config.Clients, .int .i64 a0.config.Entries, .int .i64 a0.config.Bytes, .int .i64 a0.config.Reserve, .map (some b5), .int .i64 a0.entries, .int .i64 a0.bytes] 89 (0, 0))], [(p50, .cells #[.int .i64 x47.water, .map (some b63)] 96 (0, 0))], G64, G52, [(b10, .cells #[.int .i64 a1.Address, .int .i64 a1.Instance] 34 (0, 0))]] at S69
         refine WOps.call T.call38 (evs_cons rfl (evs_cons rfl (evs_cons rfl evs_nil))) rfl ?_
         refine (cr_rise_calls a3 hO65 (St.hpN (As := [[(p0, .cells #[.int .i64 a0.config.Clients, .int .i64 a0.config.Entries, .int .i64 a0.config.Bytes, .int .i64 a0.config.Reserve, .map (some b5), .int .i64 a0.entries, .int .i64 a0.bytes] 89 (0, 0))], [(p50, .cells #[.int .i64 x47.water, .map (some b63)] 96 (0, 0))], G64]) S69)).mono ?_
         rintro _ w70 ⟨G73, rfl, hM74, T71⟩
         have S72 := St.callN (As := [[(p0, .cells #[.int .i64 a0.config.Clients, .int .i64 a0.config.Entries, .int .i64 a0.config.Bytes, .int .i64 a0.config.Reserve, .map (some b5), .int .i64 a0.entries, .int .i64 a0.bytes] 89 (0, 0))], [(p50, .cells #[.int .i64 x47.water, .map (some b63)] 96 (0, 0))], G64]) S69 T71
         change St _ _ _ [[(p0, .cells #[.int .i64 a0.config.Clients, .int .i64 a0.config.Entries, .int .i64 a0.config.Bytes, .int .i64 a0.config.Reserve, .map (some b5), .int .i64 (subs ((outM x47.calls a3).map fun _ => (1 : Int)) a0.entries), .int .i64 (subs ((outM x47.calls a3).map fun x => szE a0.config.Reserve x.2) a0.bytes)] 89 (0, 0))], [(p50, .cells #[.int .i64 a3, .map (some b63)] 96 (0, 0))], G73, G52, [(b10, .cells #[.int .i64 a1.Address, .int .i64 a1.Instance] 34 (0, 0))]] at S72
         refine ⟨_, rfl, ?_⟩
         refine WOps.nil ?_
         refine WEx.then_ ?_
         refine WCode.forget (l' := [(0, .pointer (some ⟨p0, 0, none⟩)), (2, .int .i64 a2), (3, .int .i64 a3), (5, .pointer (some ⟨b10, 0, none⟩)), (10, .pointer (some ⟨p50, 0, none⟩)), (11, .bool true)]) ⟨rfl, rfl, rfl, rfl, rfl, rfl, trivial⟩ ?_
         refine WCode.seq ?_
         refine WCode.seq ?_
         refine WCode.region ?_
         refine WOps.p (G.move rfl) rfl ?_
         refine WOps.nil ?_
         refine WEx.then_ ?_
         refine WCode.cond_t rfl ?_
         refine WCode.region ?_
         refine WOps.p (G.move rfl) rfl ?_
         refine WOps.p (G.nilp rfl) rfl ?_
         refine WOps.p (G.field T.fld96_0 rfl (show 0 + 0 = 0 from rfl)) rfl ?_
         refine WOps.r (G.load1 T.one3 rfl (cell_blk (S72.blk 1 rfl) rfl)) rfl ?_
         refine WOps.p (G.assign rfl) rfl ?_
         refine WOps.nil ?_
         refine WEx.then_ ?_
         refine WCode.seq ?_
         refine WCode.seq ?_
         refine WCode.region ?_
         refine WOps.p (G.move rfl) rfl ?_
         refine WOps.p (G.move rfl) rfl ?_
         refine WOps.p (G.lss rfl rfl rfl) rfl ?_
         refine WOps.nil ?_
         refine WEx.then_ ?_
         rcases ite_some hF with ⟨h75, hF⟩ | ⟨h75, hF⟩
         ·
          refine WCode.cond_t (kb (b := decide (a2 < a3)) rfl (decide_eq_true h75)) ?_
          refine WCode.seq ?_
          refine WCode.region ?_
          refine WOps.p (G.assign rfl) rfl ?_
          refine WOps.p (G.assign rfl) rfl ?_
          refine WOps.nil ?_
          refine WEx.then_ ?_
          refine WCode.forget (l' := [(8, .int .i64 4), (9, .string (bs ([] : List UInt8)))]) ⟨rfl, rfl, trivial⟩ ?_
          refine WCode.ret ?_
          refine WEx.then_ret ?_
          obtain rfl := some_eq hF
          refine WEx.ret2 rfl rfl rfl ?_
          have S76 := (S72.front 2 rfl).front 2 rfl
          change St _ _ _ [[(p50, .cells #[.int .i64 a3, .map (some b63)] 96 (0, 0))], G73, [(p0, .cells #[.int .i64 a0.config.Clients, .int .i64 a0.config.Entries, .int .i64 a0.config.Bytes, .int .i64 a0.config.Reserve, .map (some b5), .int .i64 (subs ((outM x47.calls a3).map fun _ => (1 : Int)) a0.entries), .int .i64 (subs ((outM x47.calls a3).map fun x => szE a0.config.Reserve x.2) a0.bytes)] 89 (0, 0))], G52, [(b10, .cells #[.int .i64 a1.Address, .int .i64 a1.Instance] 34 (0, 0))]] at S76
          have hO77 : ObjO 96 Known.rp p50 (⟨a3, (keepM x47.calls a3)⟩ : Known) ([(p50, .cells #[.int .i64 a3, .map (some b63)] 96 (0, 0))] ++ (G73)) := ⟨_, _, ⟨b63, G73, rfl, hM74, rfl⟩, rfl⟩
          have S78 : St _ _ _ [[(p50, .cells #[.int .i64 a3, .map (some b63)] 96 (0, 0))] ++ (G73), [(p0, .cells #[.int .i64 a0.config.Clients, .int .i64 a0.config.Entries, .int .i64 a0.config.Bytes, .int .i64 a0.config.Reserve, .map (some b5), .int .i64 (subs ((outM x47.calls a3).map fun _ => (1 : Int)) a0.entries), .int .i64 (subs ((outM x47.calls a3).map fun x => szE a0.config.Reserve x.2) a0.bytes)] 89 (0, 0))], G52, [(b10, .cells #[.int .i64 a1.Address, .int .i64 a1.Instance] 34 (0, 0))]] := S76.objs (by simp)
          have S79 := (S78.front 2 rfl).front 1 rfl
          change St _ _ _ [[(p50, .cells #[.int .i64 a3, .map (some b63)] 96 (0, 0))] ++ (G73), G52, [(p0, .cells #[.int .i64 a0.config.Clients, .int .i64 a0.config.Entries, .int .i64 a0.config.Bytes, .int .i64 a0.config.Reserve, .map (some b5), .int .i64 (subs ((outM x47.calls a3).map fun _ => (1 : Int)) a0.entries), .int .i64 (subs ((outM x47.calls a3).map fun x => szE a0.config.Reserve x.2) a0.bytes)] 89 (0, 0))], [(b10, .cells #[.int .i64 a1.Address, .int .i64 a1.Instance] 34 (0, 0))]] at S79
          obtain ⟨G80, hO81, S82⟩ := St.unfocus S79 hF54 hO77
          change St _ _ _ [G80, [(p0, .cells #[.int .i64 a0.config.Clients, .int .i64 a0.config.Entries, .int .i64 a0.config.Bytes, .int .i64 a0.config.Reserve, .map (some b5), .int .i64 (subs ((outM x47.calls a3).map fun _ => (1 : Int)) a0.entries), .int .i64 (subs ((outM x47.calls a3).map fun x => szE a0.config.Reserve x.2) a0.bytes)] 89 (0, 0))], [(b10, .cells #[.int .i64 a1.Address, .int .i64 a1.Instance] 34 (0, 0))]] at S82
          have S83 := S82.front 1 rfl
          change St _ _ _ [[(p0, .cells #[.int .i64 a0.config.Clients, .int .i64 a0.config.Entries, .int .i64 a0.config.Bytes, .int .i64 a0.config.Reserve, .map (some b5), .int .i64 (subs ((outM x47.calls a3).map fun _ => (1 : Int)) a0.entries), .int .i64 (subs ((outM x47.calls a3).map fun x => szE a0.config.Reserve x.2) a0.bytes)] 89 (0, 0))], G80, [(b10, .cells #[.int .i64 a1.Address, .int .i64 a1.Instance] 34 (0, 0))]] at S83
          have hO84 : ObjO 89 Cache.rp p0 (⟨a0.config, (mput a0.clients a1 (⟨a3, (keepM x47.calls a3)⟩ : Known)), subs ((outM x47.calls a3).map fun _ => (1 : Int)) a0.entries, subs ((outM x47.calls a3).map fun x => szE a0.config.Reserve x.2) a0.bytes⟩ : Cache) ([(p0, .cells #[.int .i64 a0.config.Clients, .int .i64 a0.config.Entries, .int .i64 a0.config.Bytes, .int .i64 a0.config.Reserve, .map (some b5), .int .i64 (subs ((outM x47.calls a3).map fun _ => (1 : Int)) a0.entries), .int .i64 (subs ((outM x47.calls a3).map fun x => szE a0.config.Reserve x.2) a0.bytes)] 89 (0, 0))] ++ (G80)) := ⟨_, _, ⟨b5, G80, rfl, hO81, rfl⟩, rfl⟩
          have S85 : St _ _ _ [[(p0, .cells #[.int .i64 a0.config.Clients, .int .i64 a0.config.Entries, .int .i64 a0.config.Bytes, .int .i64 a0.config.Reserve, .map (some b5), .int .i64 (subs ((outM x47.calls a3).map fun _ => (1 : Int)) a0.entries), .int .i64 (subs ((outM x47.calls a3).map fun x => szE a0.config.Reserve x.2) a0.bytes)] 89 (0, 0))] ++ (G80), [(b10, .cells #[.int .i64 a1.Address, .int .i64 a1.Instance] 34 (0, 0))]] := S83.objs (by simp)
          exact ⟨[(p0, .cells #[.int .i64 a0.config.Clients, .int .i64 a0.config.Entries, .int .i64 a0.config.Bytes, .int .i64 a0.config.Reserve, .map (some b5), .int .i64 (subs ((outM x47.calls a3).map fun _ => (1 : Int)) a0.entries), .int .i64 (subs ((outM x47.calls a3).map fun x => szE a0.config.Reserve x.2) a0.bytes)] 89 (0, 0))] ++ (G80), rfl, hO84, St.keep (As := [[(p0, .cells #[.int .i64 a0.config.Clients, .int .i64 a0.config.Entries, .int .i64 a0.config.Bytes, .int .i64 a0.config.Reserve, .map (some b5), .int .i64 (subs ((outM x47.calls a3).map fun _ => (1 : Int)) a0.entries), .int .i64 (subs ((outM x47.calls a3).map fun x => szE a0.config.Reserve x.2) a0.bytes)] 89 (0, 0))] ++ (G80)]) S85⟩
         ·
          refine WCode.cond_f (kb (b := decide (a2 < a3)) rfl (decide_eq_false h75)) ?_
          refine WCode.skip ?_
          refine WEx.then_ ?_
          refine WCode.seq ?_
          refine WCode.seq ?_
          refine WCode.region ?_
          refine WOps.p (G.move rfl) rfl ?_
          refine WOps.nil ?_
          refine WEx.then_ ?_
          refine WCode.cond_t rfl ?_
          refine WCode.seq ?_
          refine WCode.region ?_
          refine WOps.p (G.move rfl) rfl ?_
          refine WOps.p (G.nilp rfl) rfl ?_
          refine WOps.p (G.field T.fld96_1 rfl (show 0 + 1 = 1 from rfl)) rfl ?_
          refine WOps.r (G.load1 T.one94 rfl (cell_blk (S72.blk 1 rfl) rfl)) rfl ?_
          refine WOps.p (G.move rfl) rfl ?_
          rcases ite_some hF with ⟨h86, hF⟩ | ⟨h86, hF⟩
          ·
           obtain ⟨x87, hc88, hF⟩ := bind_some hF
           refine WOps.r (G.mapget1 T.key94 Try.underlying94 (MapO.rd hM74 (fun b o hb => S72.grp 2 rfl hb)) rfl rfl hc88) rfl ?_
           refine WOps.p (G.move rfl) rfl ?_
           refine WOps.p (G.extract rfl rfl) rfl ?_
           refine WOps.p (G.extract rfl rfl) rfl ?_
           obtain ⟨b89, w90, E91, S92, X93, L94⟩ := St.var S72 (z := .agg #[.bool false, .string (bs ([] : List UInt8))]) T.zero93
           change St _ _ _ [[(b89, .cells #[.bool false, .string (bs ([] : List UInt8))] 93 (0, 0))], [(p0, .cells #[.int .i64 a0.config.Clients, .int .i64 a0.config.Entries, .int .i64 a0.config.Bytes, .int .i64 a0.config.Reserve, .map (some b5), .int .i64 (subs ((outM x47.calls a3).map fun _ => (1 : Int)) a0.entries), .int .i64 (subs ((outM x47.calls a3).map fun x => szE a0.config.Reserve x.2) a0.bytes)] 89 (0, 0))], [(p50, .cells #[.int .i64 a3, .map (some b63)] 96 (0, 0))], G73, G52, [(b10, .cells #[.int .i64 a1.Address, .int .i64 a1.Instance] 34 (0, 0))]] at S92
           refine WOps.e E91 rfl ?_
           obtain ⟨w95, E96, S97⟩ := St.store (P := Try.prog) S92 0 93 (.agg #[.bool x87.done, .string (bs x87.reply)]) (off := 0) (cur' := #[.bool x87.done, .string (bs x87.reply)]) rfl T.size93_2 rfl rfl rfl
           change St _ _ _ [[(b89, .cells #[.bool x87.done, .string (bs x87.reply)] 93 (0, 0))], [(p0, .cells #[.int .i64 a0.config.Clients, .int .i64 a0.config.Entries, .int .i64 a0.config.Bytes, .int .i64 a0.config.Reserve, .map (some b5), .int .i64 (subs ((outM x47.calls a3).map fun _ => (1 : Int)) a0.entries), .int .i64 (subs ((outM x47.calls a3).map fun x => szE a0.config.Reserve x.2) a0.bytes)] 89 (0, 0))], [(p50, .cells #[.int .i64 a3, .map (some b63)] 96 (0, 0))], G73, G52, [(b10, .cells #[.int .i64 a1.Address, .int .i64 a1.Instance] 34 (0, 0))]] at S97
           refine WOps.u (E96 rfl rfl) ?_
           refine WOps.p (G.assign rfl) rfl ?_
           refine WOps.nil ?_
           refine WEx.then_ ?_
           refine WCode.forget (l' := [(0, .pointer (some ⟨p0, 0, none⟩)), (2, .int .i64 a2), (3, .int .i64 a3), (5, .pointer (some ⟨b10, 0, none⟩)), (10, .pointer (some ⟨p50, 0, none⟩)), (11, .bool true), (12, .pointer (some ⟨b89, 0, none⟩)), (13, .bool true)]) ⟨rfl, rfl, rfl, rfl, rfl, rfl, rfl, rfl, trivial⟩ ?_
           refine WCode.seq ?_
           refine WCode.region ?_
           refine WOps.p (G.move rfl) rfl ?_
           refine WOps.p (G.move rfl) rfl ?_
           refine WOps.on rfl rfl ?_
           refine WOps.p (G.field T.fld93_0 rfl (show 0 + 0 = 0 from rfl)) rfl ?_
           refine WOps.on rfl rfl ?_
           refine WOps.r (G.load1 T.one4 rfl (cell_blk (S97.blk 0 rfl) rfl)) rfl ?_
           refine WOps.p (G.pick_t rfl rfl) rfl ?_
           refine WOps.nil ?_
           refine WEx.then_ ?_
           rcases ite_some hF with ⟨h98, hF⟩ | ⟨h98, hF⟩
           ·
            refine WCode.cond_t (kb (b := x87.done) rfl h98) ?_
            refine WCode.seq ?_
            refine WCode.draw [⟨0, 0, []⟩, ⟨2, 0, []⟩, ⟨1, 1, [3]⟩, ⟨3, 0, []⟩] T.mixed (by kernel_rfl) (by intro _ _ d _ _ h; cases d <;> exact h) rfl (by kernel_rfl) ?_
            have S99 := S97.drew
            generalize w95.drew = w100 at *
            refine WD.p rfl (G.field T.fld93_1 rfl (show 0 + 1 = 1 from rfl)) rfl ?_
            refine WD.p rfl (G.assign rfl) rfl ?_
            refine WD.r rfl (G.load1 T.one9 rfl (cell_blk (S99.blk 0 rfl) rfl)) rfl ?_
            refine WD.p rfl (G.assign rfl) rfl ?_
            refine WD.nil ?_
            refine WEx.then_ ?_
            refine WCode.forget (l' := [(8, .int .i64 3), (9, .string (bs x87.reply))]) ⟨rfl, rfl, trivial⟩ ?_
            refine WCode.ret ?_
            refine WEx.then_ret ?_
            obtain rfl := some_eq hF
            refine WEx.ret2 rfl rfl rfl ?_
            have S101 := (S99.front 3 rfl).front 3 rfl
            change St _ _ _ [[(p50, .cells #[.int .i64 a3, .map (some b63)] 96 (0, 0))], G73, [(b89, .cells #[.bool x87.done, .string (bs x87.reply)] 93 (0, 0))], [(p0, .cells #[.int .i64 a0.config.Clients, .int .i64 a0.config.Entries, .int .i64 a0.config.Bytes, .int .i64 a0.config.Reserve, .map (some b5), .int .i64 (subs ((outM x47.calls a3).map fun _ => (1 : Int)) a0.entries), .int .i64 (subs ((outM x47.calls a3).map fun x => szE a0.config.Reserve x.2) a0.bytes)] 89 (0, 0))], G52, [(b10, .cells #[.int .i64 a1.Address, .int .i64 a1.Instance] 34 (0, 0))]] at S101
            have hO102 : ObjO 96 Known.rp p50 (⟨a3, (keepM x47.calls a3)⟩ : Known) ([(p50, .cells #[.int .i64 a3, .map (some b63)] 96 (0, 0))] ++ (G73)) := ⟨_, _, ⟨b63, G73, rfl, hM74, rfl⟩, rfl⟩
            have S103 : St _ _ _ [[(p50, .cells #[.int .i64 a3, .map (some b63)] 96 (0, 0))] ++ (G73), [(b89, .cells #[.bool x87.done, .string (bs x87.reply)] 93 (0, 0))], [(p0, .cells #[.int .i64 a0.config.Clients, .int .i64 a0.config.Entries, .int .i64 a0.config.Bytes, .int .i64 a0.config.Reserve, .map (some b5), .int .i64 (subs ((outM x47.calls a3).map fun _ => (1 : Int)) a0.entries), .int .i64 (subs ((outM x47.calls a3).map fun x => szE a0.config.Reserve x.2) a0.bytes)] 89 (0, 0))], G52, [(b10, .cells #[.int .i64 a1.Address, .int .i64 a1.Instance] 34 (0, 0))]] := S101.objs (by simp)
            have S104 := (S103.front 3 rfl).front 1 rfl
            change St _ _ _ [[(p50, .cells #[.int .i64 a3, .map (some b63)] 96 (0, 0))] ++ (G73), G52, [(b89, .cells #[.bool x87.done, .string (bs x87.reply)] 93 (0, 0))], [(p0, .cells #[.int .i64 a0.config.Clients, .int .i64 a0.config.Entries, .int .i64 a0.config.Bytes, .int .i64 a0.config.Reserve, .map (some b5), .int .i64 (subs ((outM x47.calls a3).map fun _ => (1 : Int)) a0.entries), .int .i64 (subs ((outM x47.calls a3).map fun x => szE a0.config.Reserve x.2) a0.bytes)] 89 (0, 0))], [(b10, .cells #[.int .i64 a1.Address, .int .i64 a1.Instance] 34 (0, 0))]] at S104
            obtain ⟨G105, hO106, S107⟩ := St.unfocus S104 hF54 hO102
            change St _ _ _ [G105, [(b89, .cells #[.bool x87.done, .string (bs x87.reply)] 93 (0, 0))], [(p0, .cells #[.int .i64 a0.config.Clients, .int .i64 a0.config.Entries, .int .i64 a0.config.Bytes, .int .i64 a0.config.Reserve, .map (some b5), .int .i64 (subs ((outM x47.calls a3).map fun _ => (1 : Int)) a0.entries), .int .i64 (subs ((outM x47.calls a3).map fun x => szE a0.config.Reserve x.2) a0.bytes)] 89 (0, 0))], [(b10, .cells #[.int .i64 a1.Address, .int .i64 a1.Instance] 34 (0, 0))]] at S107
            have S108 := S107.front 2 rfl
            change St _ _ _ [[(p0, .cells #[.int .i64 a0.config.Clients, .int .i64 a0.config.Entries, .int .i64 a0.config.Bytes, .int .i64 a0.config.Reserve, .map (some b5), .int .i64 (subs ((outM x47.calls a3).map fun _ => (1 : Int)) a0.entries), .int .i64 (subs ((outM x47.calls a3).map fun x => szE a0.config.Reserve x.2) a0.bytes)] 89 (0, 0))], G105, [(b89, .cells #[.bool x87.done, .string (bs x87.reply)] 93 (0, 0))], [(b10, .cells #[.int .i64 a1.Address, .int .i64 a1.Instance] 34 (0, 0))]] at S108
            have hO109 : ObjO 89 Cache.rp p0 (⟨a0.config, (mput a0.clients a1 (⟨a3, (keepM x47.calls a3)⟩ : Known)), subs ((outM x47.calls a3).map fun _ => (1 : Int)) a0.entries, subs ((outM x47.calls a3).map fun x => szE a0.config.Reserve x.2) a0.bytes⟩ : Cache) ([(p0, .cells #[.int .i64 a0.config.Clients, .int .i64 a0.config.Entries, .int .i64 a0.config.Bytes, .int .i64 a0.config.Reserve, .map (some b5), .int .i64 (subs ((outM x47.calls a3).map fun _ => (1 : Int)) a0.entries), .int .i64 (subs ((outM x47.calls a3).map fun x => szE a0.config.Reserve x.2) a0.bytes)] 89 (0, 0))] ++ (G105)) := ⟨_, _, ⟨b5, G105, rfl, hO106, rfl⟩, rfl⟩
            have S110 : St _ _ _ [[(p0, .cells #[.int .i64 a0.config.Clients, .int .i64 a0.config.Entries, .int .i64 a0.config.Bytes, .int .i64 a0.config.Reserve, .map (some b5), .int .i64 (subs ((outM x47.calls a3).map fun _ => (1 : Int)) a0.entries), .int .i64 (subs ((outM x47.calls a3).map fun x => szE a0.config.Reserve x.2) a0.bytes)] 89 (0, 0))] ++ (G105), [(b89, .cells #[.bool x87.done, .string (bs x87.reply)] 93 (0, 0))], [(b10, .cells #[.int .i64 a1.Address, .int .i64 a1.Instance] 34 (0, 0))]] := S108.objs (by simp)
            exact ⟨[(p0, .cells #[.int .i64 a0.config.Clients, .int .i64 a0.config.Entries, .int .i64 a0.config.Bytes, .int .i64 a0.config.Reserve, .map (some b5), .int .i64 (subs ((outM x47.calls a3).map fun _ => (1 : Int)) a0.entries), .int .i64 (subs ((outM x47.calls a3).map fun x => szE a0.config.Reserve x.2) a0.bytes)] 89 (0, 0))] ++ (G105), rfl, hO109, St.keep (As := [[(p0, .cells #[.int .i64 a0.config.Clients, .int .i64 a0.config.Entries, .int .i64 a0.config.Bytes, .int .i64 a0.config.Reserve, .map (some b5), .int .i64 (subs ((outM x47.calls a3).map fun _ => (1 : Int)) a0.entries), .int .i64 (subs ((outM x47.calls a3).map fun x => szE a0.config.Reserve x.2) a0.bytes)] 89 (0, 0))] ++ (G105)]) S110⟩
           ·
            refine WCode.cond_f (kb (b := x87.done) rfl (Bool.eq_false_iff.2 h98)) ?_
            refine WCode.seq ?_
            refine WCode.region ?_
            refine WOps.p (G.move rfl) rfl ?_
            refine WOps.nil ?_
            refine WEx.then_ ?_
            refine WCode.cond_t rfl ?_
            refine WCode.seq ?_
            refine WCode.region ?_
            refine WOps.p (G.assign rfl) rfl ?_
            refine WOps.p (G.assign rfl) rfl ?_
            refine WOps.nil ?_
            refine WEx.then_ ?_
            refine WCode.forget (l' := [(8, .int .i64 2), (9, .string (bs ([] : List UInt8)))]) ⟨rfl, rfl, trivial⟩ ?_
            refine WCode.ret ?_
            refine WEx.then_ret ?_
            obtain rfl := some_eq hF
            refine WEx.ret2 rfl rfl rfl ?_
            have S111 := (S97.front 3 rfl).front 3 rfl
            change St _ _ _ [[(p50, .cells #[.int .i64 a3, .map (some b63)] 96 (0, 0))], G73, [(b89, .cells #[.bool x87.done, .string (bs x87.reply)] 93 (0, 0))], [(p0, .cells #[.int .i64 a0.config.Clients, .int .i64 a0.config.Entries, .int .i64 a0.config.Bytes, .int .i64 a0.config.Reserve, .map (some b5), .int .i64 (subs ((outM x47.calls a3).map fun _ => (1 : Int)) a0.entries), .int .i64 (subs ((outM x47.calls a3).map fun x => szE a0.config.Reserve x.2) a0.bytes)] 89 (0, 0))], G52, [(b10, .cells #[.int .i64 a1.Address, .int .i64 a1.Instance] 34 (0, 0))]] at S111
            have hO112 : ObjO 96 Known.rp p50 (⟨a3, (keepM x47.calls a3)⟩ : Known) ([(p50, .cells #[.int .i64 a3, .map (some b63)] 96 (0, 0))] ++ (G73)) := ⟨_, _, ⟨b63, G73, rfl, hM74, rfl⟩, rfl⟩
            have S113 : St _ _ _ [[(p50, .cells #[.int .i64 a3, .map (some b63)] 96 (0, 0))] ++ (G73), [(b89, .cells #[.bool x87.done, .string (bs x87.reply)] 93 (0, 0))], [(p0, .cells #[.int .i64 a0.config.Clients, .int .i64 a0.config.Entries, .int .i64 a0.config.Bytes, .int .i64 a0.config.Reserve, .map (some b5), .int .i64 (subs ((outM x47.calls a3).map fun _ => (1 : Int)) a0.entries), .int .i64 (subs ((outM x47.calls a3).map fun x => szE a0.config.Reserve x.2) a0.bytes)] 89 (0, 0))], G52, [(b10, .cells #[.int .i64 a1.Address, .int .i64 a1.Instance] 34 (0, 0))]] := S111.objs (by simp)
            have S114 := (S113.front 3 rfl).front 1 rfl
            change St _ _ _ [[(p50, .cells #[.int .i64 a3, .map (some b63)] 96 (0, 0))] ++ (G73), G52, [(b89, .cells #[.bool x87.done, .string (bs x87.reply)] 93 (0, 0))], [(p0, .cells #[.int .i64 a0.config.Clients, .int .i64 a0.config.Entries, .int .i64 a0.config.Bytes, .int .i64 a0.config.Reserve, .map (some b5), .int .i64 (subs ((outM x47.calls a3).map fun _ => (1 : Int)) a0.entries), .int .i64 (subs ((outM x47.calls a3).map fun x => szE a0.config.Reserve x.2) a0.bytes)] 89 (0, 0))], [(b10, .cells #[.int .i64 a1.Address, .int .i64 a1.Instance] 34 (0, 0))]] at S114
            obtain ⟨G115, hO116, S117⟩ := St.unfocus S114 hF54 hO112
            change St _ _ _ [G115, [(b89, .cells #[.bool x87.done, .string (bs x87.reply)] 93 (0, 0))], [(p0, .cells #[.int .i64 a0.config.Clients, .int .i64 a0.config.Entries, .int .i64 a0.config.Bytes, .int .i64 a0.config.Reserve, .map (some b5), .int .i64 (subs ((outM x47.calls a3).map fun _ => (1 : Int)) a0.entries), .int .i64 (subs ((outM x47.calls a3).map fun x => szE a0.config.Reserve x.2) a0.bytes)] 89 (0, 0))], [(b10, .cells #[.int .i64 a1.Address, .int .i64 a1.Instance] 34 (0, 0))]] at S117
            have S118 := S117.front 2 rfl
            change St _ _ _ [[(p0, .cells #[.int .i64 a0.config.Clients, .int .i64 a0.config.Entries, .int .i64 a0.config.Bytes, .int .i64 a0.config.Reserve, .map (some b5), .int .i64 (subs ((outM x47.calls a3).map fun _ => (1 : Int)) a0.entries), .int .i64 (subs ((outM x47.calls a3).map fun x => szE a0.config.Reserve x.2) a0.bytes)] 89 (0, 0))], G115, [(b89, .cells #[.bool x87.done, .string (bs x87.reply)] 93 (0, 0))], [(b10, .cells #[.int .i64 a1.Address, .int .i64 a1.Instance] 34 (0, 0))]] at S118
            have hO119 : ObjO 89 Cache.rp p0 (⟨a0.config, (mput a0.clients a1 (⟨a3, (keepM x47.calls a3)⟩ : Known)), subs ((outM x47.calls a3).map fun _ => (1 : Int)) a0.entries, subs ((outM x47.calls a3).map fun x => szE a0.config.Reserve x.2) a0.bytes⟩ : Cache) ([(p0, .cells #[.int .i64 a0.config.Clients, .int .i64 a0.config.Entries, .int .i64 a0.config.Bytes, .int .i64 a0.config.Reserve, .map (some b5), .int .i64 (subs ((outM x47.calls a3).map fun _ => (1 : Int)) a0.entries), .int .i64 (subs ((outM x47.calls a3).map fun x => szE a0.config.Reserve x.2) a0.bytes)] 89 (0, 0))] ++ (G115)) := ⟨_, _, ⟨b5, G115, rfl, hO116, rfl⟩, rfl⟩
            have S120 : St _ _ _ [[(p0, .cells #[.int .i64 a0.config.Clients, .int .i64 a0.config.Entries, .int .i64 a0.config.Bytes, .int .i64 a0.config.Reserve, .map (some b5), .int .i64 (subs ((outM x47.calls a3).map fun _ => (1 : Int)) a0.entries), .int .i64 (subs ((outM x47.calls a3).map fun x => szE a0.config.Reserve x.2) a0.bytes)] 89 (0, 0))] ++ (G115), [(b89, .cells #[.bool x87.done, .string (bs x87.reply)] 93 (0, 0))], [(b10, .cells #[.int .i64 a1.Address, .int .i64 a1.Instance] 34 (0, 0))]] := S118.objs (by simp)
            exact ⟨[(p0, .cells #[.int .i64 a0.config.Clients, .int .i64 a0.config.Entries, .int .i64 a0.config.Bytes, .int .i64 a0.config.Reserve, .map (some b5), .int .i64 (subs ((outM x47.calls a3).map fun _ => (1 : Int)) a0.entries), .int .i64 (subs ((outM x47.calls a3).map fun x => szE a0.config.Reserve x.2) a0.bytes)] 89 (0, 0))] ++ (G115), rfl, hO119, St.keep (As := [[(p0, .cells #[.int .i64 a0.config.Clients, .int .i64 a0.config.Entries, .int .i64 a0.config.Bytes, .int .i64 a0.config.Reserve, .map (some b5), .int .i64 (subs ((outM x47.calls a3).map fun _ => (1 : Int)) a0.entries), .int .i64 (subs ((outM x47.calls a3).map fun x => szE a0.config.Reserve x.2) a0.bytes)] 89 (0, 0))] ++ (G115)]) S120⟩
          ·
           have hn121 := Option.not_isSome_iff_eq_none.1 h86
           refine WOps.r (G.mapget0 T.key94 Try.underlying94 T.zero93 (MapO.rd hM74 (fun b o hb => S72.grp 2 rfl hb)) rfl rfl hn121) rfl ?_
           refine WOps.p (G.move rfl) rfl ?_
           refine WOps.p (G.extract rfl rfl) rfl ?_
           refine WOps.p (G.extract rfl rfl) rfl ?_
           obtain ⟨b122, w123, E124, S125, X126, L127⟩ := St.var S72 (z := .agg #[.bool false, .string (bs ([] : List UInt8))]) T.zero93
           change St _ _ _ [[(b122, .cells #[.bool false, .string (bs ([] : List UInt8))] 93 (0, 0))], [(p0, .cells #[.int .i64 a0.config.Clients, .int .i64 a0.config.Entries, .int .i64 a0.config.Bytes, .int .i64 a0.config.Reserve, .map (some b5), .int .i64 (subs ((outM x47.calls a3).map fun _ => (1 : Int)) a0.entries), .int .i64 (subs ((outM x47.calls a3).map fun x => szE a0.config.Reserve x.2) a0.bytes)] 89 (0, 0))], [(p50, .cells #[.int .i64 a3, .map (some b63)] 96 (0, 0))], G73, G52, [(b10, .cells #[.int .i64 a1.Address, .int .i64 a1.Instance] 34 (0, 0))]] at S125
           refine WOps.e E124 rfl ?_
           obtain ⟨w128, E129, S130⟩ := St.store (P := Try.prog) S125 0 93 (.agg #[.bool false, .string (bs ([] : List UInt8))]) (off := 0) (cur' := #[.bool false, .string (bs ([] : List UInt8))]) rfl T.size93_2 rfl rfl rfl
           change St _ _ _ [[(b122, .cells #[.bool false, .string (bs ([] : List UInt8))] 93 (0, 0))], [(p0, .cells #[.int .i64 a0.config.Clients, .int .i64 a0.config.Entries, .int .i64 a0.config.Bytes, .int .i64 a0.config.Reserve, .map (some b5), .int .i64 (subs ((outM x47.calls a3).map fun _ => (1 : Int)) a0.entries), .int .i64 (subs ((outM x47.calls a3).map fun x => szE a0.config.Reserve x.2) a0.bytes)] 89 (0, 0))], [(p50, .cells #[.int .i64 a3, .map (some b63)] 96 (0, 0))], G73, G52, [(b10, .cells #[.int .i64 a1.Address, .int .i64 a1.Instance] 34 (0, 0))]] at S130
           refine WOps.u (E129 rfl rfl) ?_
           refine WOps.p (G.assign rfl) rfl ?_
           refine WOps.nil ?_
           refine WEx.then_ ?_
           refine WCode.forget (l' := [(0, .pointer (some ⟨p0, 0, none⟩)), (2, .int .i64 a2), (3, .int .i64 a3), (5, .pointer (some ⟨b10, 0, none⟩)), (10, .pointer (some ⟨p50, 0, none⟩)), (11, .bool true), (12, .pointer (some ⟨b122, 0, none⟩)), (13, .bool false)]) ⟨rfl, rfl, rfl, rfl, rfl, rfl, rfl, rfl, trivial⟩ ?_
           refine WCode.seq ?_
           refine WCode.region ?_
           refine WOps.p (G.move rfl) rfl ?_
           refine WOps.p (G.move rfl) rfl ?_
           refine WOps.off rfl rfl rfl rfl ?_
           refine WOps.off rfl rfl rfl rfl ?_
           refine WOps.p (G.pick_f rfl rfl) rfl ?_
           refine WOps.nil ?_
           refine WEx.then_ ?_
           refine WCode.cond_f rfl ?_
           refine WCode.seq ?_
           refine WCode.region ?_
           refine WOps.p (G.move rfl) rfl ?_
           refine WOps.nil ?_
           refine WEx.then_ ?_
           refine WCode.cond_f rfl ?_
           refine WCode.skip ?_
           refine WEx.then_ ?_
           refine WCode.seq ?_
           refine WCode.seq ?_
           refine WCode.drawH (.one 0 0 (.one 1 0 (.one 2 0 (.one 4 0 (.one 5 0 (.one 6 0 (.one 7 0 (.one 10 0 (.one 11 0 (.one 12 0 (.one 13 0 (.one 3 1 (.one 8 1 (.one 9 0 (.one 14 1 (.one 15 0 (.one 16 0 (.one 17 0 (.one 18 0 (.one 19 0 (.one 20 0 (.one 21 0 (.one 24 0 (.one 25 0 (.one 26 0 (.one 27 0 (.one 22 1 (.one 28 1 (.one 23 2 (.one 29 0 (.one 30 0 (.one 31 0 (.one 32 0 (.one 33 0 (.one 34 0 (.one 35 0 (.one 36 0 (.one 37 0 (.one 38 0 (.one 41 0 (.one 42 0 (.one 43 0 (.one 44 0 (.one 39 1 (.one 45 1 (.one 40 2 (.one 46 0 (.one 47 0 (.one 48 0 .nil))))))))))))))))))))))))))))))))))))))))))))))))) (fun W_ => cellsAt W_ p0 0 [.int .i64 a0.config.Clients, .int .i64 a0.config.Entries, .int .i64 a0.config.Bytes, .int .i64 a0.config.Reserve, .map (some b5), .int .i64 (subs ((outM x47.calls a3).map fun _ => (1 : Int)) a0.entries), .int .i64 (subs ((outM x47.calls a3).map fun x => szE a0.config.Reserve x.2) a0.bytes)] ∧ cellsAt W_ p50 0 [.int .i64 a3, .map (some b63)] ∧ True) T.mixed (by kernel_rfl) (by intro _ _ d _ _ h; cases d <;> exact h) rfl rfl (by kernel_rfl) ?_ ?_
           all_goals have S131 := S130.drew
           all_goals generalize w128.drew = w132 at *
           · exact ⟨cellsAt.of_blk (S131.blk 1 rfl) rfl, cellsAt.of_blk (S131.blk 2 rfl) rfl, trivial⟩
           refine WH.p rfl wants (G.move rfl) rfl ?_
           refine WH.p rfl wants (G.nilp rfl) rfl ?_
           refine WH.p rfl wants (G.field T.fld89_3 rfl (show 0 + 6 = 6 from rfl)) rfl ?_
           refine WH.p rfl wants (G.move rfl) rfl ?_
           refine WH.p rfl wants (G.nilp rfl) rfl ?_
           refine WH.p rfl wants (G.field T.fld89_0 rfl (show 0 + 0 = 0 from rfl)) rfl ?_
           refine WH.p rfl wants (G.field T.fld26_3 rfl (show 0 + 3 = 3 from rfl)) rfl ?_
           refine WH.p rfl wants (G.move rfl) rfl ?_
           refine WH.p rfl wants (G.nilp rfl) rfl ?_
           refine WH.p rfl wants (G.field T.fld89_0 rfl (show 0 + 0 = 0 from rfl)) rfl ?_
           refine WH.p rfl wants (G.field T.fld26_2 rfl (show 0 + 2 = 2 from rfl)) rfl ?_
           refine WH.r rfl wants (fun _ h_ => G.load1 T.one3 rfl (cellsAt.at h_.1 6 rfl)) rfl ?_
           refine WH.r rfl wants (fun _ h_ => G.load1 T.one3 rfl (cellsAt.at h_.1 3 rfl)) rfl ?_
           refine WH.p rfl wants (G.add rfl rfl (r := (w64 ((subs ((outM x47.calls a3).map fun x => szE a0.config.Reserve x.2) a0.bytes) + a0.config.Reserve))) rfl) rfl ?_
           refine WH.r rfl wants (fun _ h_ => G.load1 T.one3 rfl (cellsAt.at h_.1 2 rfl)) rfl ?_
           refine WH.p rfl wants (G.gtr rfl rfl rfl) rfl ?_
           refine WH.p rfl wants (G.move rfl) rfl ?_
           rcases ite_some hF with ⟨h133, hF⟩ | ⟨h133, hF⟩
           ·
            refine WH.off rfl rfl (kbl (b := decide (a0.config.Bytes < (w64 ((subs ((outM x47.calls a3).map fun x => szE a0.config.Reserve x.2) a0.bytes) + a0.config.Reserve)))) rfl (decide_eq_true h133)) rfl rfl rfl ?_
            refine WH.off rfl rfl (kbl (b := decide (a0.config.Bytes < (w64 ((subs ((outM x47.calls a3).map fun x => szE a0.config.Reserve x.2) a0.bytes) + a0.config.Reserve)))) rfl (decide_eq_true h133)) rfl rfl rfl ?_
            refine WH.off rfl rfl rfl rfl rfl rfl ?_
            refine WH.off rfl rfl rfl rfl rfl rfl ?_
            refine WH.off rfl rfl rfl rfl rfl rfl ?_
            refine WH.off rfl rfl rfl rfl rfl rfl ?_
            refine WH.off rfl rfl rfl rfl rfl rfl ?_
            refine WH.off rfl rfl rfl rfl rfl rfl ?_
            refine WH.off rfl rfl rfl rfl rfl rfl ?_
            refine WH.off rfl rfl rfl rfl rfl rfl ?_
            refine WH.off rfl rfl rfl rfl rfl rfl ?_
            refine WH.off2 rfl rfl rfl rfl rfl ⟨cellsAt.of_blk (S131.blk 1 rfl) rfl, cellsAt.of_blk (S131.blk 2 rfl) rfl, trivial⟩ ?_
            refine WH.off rfl rfl rfl rfl rfl rfl ?_
            refine WH.off rfl rfl (kbl (b := decide (a0.config.Bytes < (w64 ((subs ((outM x47.calls a3).map fun x => szE a0.config.Reserve x.2) a0.bytes) + a0.config.Reserve)))) rfl (decide_eq_true h133)) rfl rfl rfl ?_
            refine WH.p rfl wants (G.pick_t (kb (b := decide (a0.config.Bytes < (w64 ((subs ((outM x47.calls a3).map fun x => szE a0.config.Reserve x.2) a0.bytes) + a0.config.Reserve)))) rfl (decide_eq_true h133)) rfl) rfl ?_
            refine WH.p rfl wants (G.move rfl) rfl ?_
            refine WH.off rfl rfl rfl rfl rfl rfl ?_
            refine WH.off rfl rfl rfl rfl rfl rfl ?_
            refine WH.off rfl rfl rfl rfl rfl rfl ?_
            refine WH.off rfl rfl rfl rfl rfl rfl ?_
            refine WH.off rfl rfl rfl rfl rfl rfl ?_
            refine WH.off rfl rfl rfl rfl rfl rfl ?_
            refine WH.off rfl rfl rfl rfl rfl rfl ?_
            refine WH.off rfl rfl rfl rfl rfl rfl ?_
            refine WH.off rfl rfl rfl rfl rfl rfl ?_
            refine WH.off rfl rfl rfl rfl rfl rfl ?_
            refine WH.off rfl rfl rfl rfl rfl rfl ?_
            refine WH.off rfl rfl rfl rfl rfl rfl ?_
            refine WH.off2 rfl rfl rfl rfl rfl ⟨cellsAt.of_blk (S131.blk 1 rfl) rfl, cellsAt.of_blk (S131.blk 2 rfl) rfl, trivial⟩ ?_
            refine WH.off rfl rfl rfl rfl rfl rfl ?_
            refine WH.off rfl rfl rfl rfl rfl rfl ?_
            refine WH.p rfl wants (G.pick_t rfl rfl) rfl ?_
            refine WH.nil ?_
            refine WEx.then_ ?_
            refine WCode.forget (l' := [(0, .pointer (some ⟨p0, 0, none⟩)), (2, .int .i64 a2), (3, .int .i64 a3), (5, .pointer (some ⟨b10, 0, none⟩)), (10, .pointer (some ⟨p50, 0, none⟩)), (11, .bool true), (138, .bool true)]) ⟨rfl, rfl, rfl, rfl, rfl, rfl, rfl, trivial⟩ ?_
            refine WCode.cond_t rfl ?_
            refine WCode.seq ?_
            refine WCode.region ?_
            refine WOps.p (G.assign rfl) rfl ?_
            refine WOps.p (G.assign rfl) rfl ?_
            refine WOps.nil ?_
            refine WEx.then_ ?_
            refine WCode.ret ?_
            refine WEx.then_ret ?_
            obtain rfl := some_eq hF
            refine WEx.ret2 rfl rfl rfl ?_
            have S134 := (S131.front 3 rfl).front 3 rfl
            change St _ _ _ [[(p50, .cells #[.int .i64 a3, .map (some b63)] 96 (0, 0))], G73, [(b122, .cells #[.bool false, .string (bs ([] : List UInt8))] 93 (0, 0))], [(p0, .cells #[.int .i64 a0.config.Clients, .int .i64 a0.config.Entries, .int .i64 a0.config.Bytes, .int .i64 a0.config.Reserve, .map (some b5), .int .i64 (subs ((outM x47.calls a3).map fun _ => (1 : Int)) a0.entries), .int .i64 (subs ((outM x47.calls a3).map fun x => szE a0.config.Reserve x.2) a0.bytes)] 89 (0, 0))], G52, [(b10, .cells #[.int .i64 a1.Address, .int .i64 a1.Instance] 34 (0, 0))]] at S134
            have hO135 : ObjO 96 Known.rp p50 (⟨a3, (keepM x47.calls a3)⟩ : Known) ([(p50, .cells #[.int .i64 a3, .map (some b63)] 96 (0, 0))] ++ (G73)) := ⟨_, _, ⟨b63, G73, rfl, hM74, rfl⟩, rfl⟩
            have S136 : St _ _ _ [[(p50, .cells #[.int .i64 a3, .map (some b63)] 96 (0, 0))] ++ (G73), [(b122, .cells #[.bool false, .string (bs ([] : List UInt8))] 93 (0, 0))], [(p0, .cells #[.int .i64 a0.config.Clients, .int .i64 a0.config.Entries, .int .i64 a0.config.Bytes, .int .i64 a0.config.Reserve, .map (some b5), .int .i64 (subs ((outM x47.calls a3).map fun _ => (1 : Int)) a0.entries), .int .i64 (subs ((outM x47.calls a3).map fun x => szE a0.config.Reserve x.2) a0.bytes)] 89 (0, 0))], G52, [(b10, .cells #[.int .i64 a1.Address, .int .i64 a1.Instance] 34 (0, 0))]] := S134.objs (by simp)
            have S137 := (S136.front 3 rfl).front 1 rfl
            change St _ _ _ [[(p50, .cells #[.int .i64 a3, .map (some b63)] 96 (0, 0))] ++ (G73), G52, [(b122, .cells #[.bool false, .string (bs ([] : List UInt8))] 93 (0, 0))], [(p0, .cells #[.int .i64 a0.config.Clients, .int .i64 a0.config.Entries, .int .i64 a0.config.Bytes, .int .i64 a0.config.Reserve, .map (some b5), .int .i64 (subs ((outM x47.calls a3).map fun _ => (1 : Int)) a0.entries), .int .i64 (subs ((outM x47.calls a3).map fun x => szE a0.config.Reserve x.2) a0.bytes)] 89 (0, 0))], [(b10, .cells #[.int .i64 a1.Address, .int .i64 a1.Instance] 34 (0, 0))]] at S137
            obtain ⟨G138, hO139, S140⟩ := St.unfocus S137 hF54 hO135
            change St _ _ _ [G138, [(b122, .cells #[.bool false, .string (bs ([] : List UInt8))] 93 (0, 0))], [(p0, .cells #[.int .i64 a0.config.Clients, .int .i64 a0.config.Entries, .int .i64 a0.config.Bytes, .int .i64 a0.config.Reserve, .map (some b5), .int .i64 (subs ((outM x47.calls a3).map fun _ => (1 : Int)) a0.entries), .int .i64 (subs ((outM x47.calls a3).map fun x => szE a0.config.Reserve x.2) a0.bytes)] 89 (0, 0))], [(b10, .cells #[.int .i64 a1.Address, .int .i64 a1.Instance] 34 (0, 0))]] at S140
            have S141 := S140.front 2 rfl
            change St _ _ _ [[(p0, .cells #[.int .i64 a0.config.Clients, .int .i64 a0.config.Entries, .int .i64 a0.config.Bytes, .int .i64 a0.config.Reserve, .map (some b5), .int .i64 (subs ((outM x47.calls a3).map fun _ => (1 : Int)) a0.entries), .int .i64 (subs ((outM x47.calls a3).map fun x => szE a0.config.Reserve x.2) a0.bytes)] 89 (0, 0))], G138, [(b122, .cells #[.bool false, .string (bs ([] : List UInt8))] 93 (0, 0))], [(b10, .cells #[.int .i64 a1.Address, .int .i64 a1.Instance] 34 (0, 0))]] at S141
            have hO142 : ObjO 89 Cache.rp p0 (⟨a0.config, (mput a0.clients a1 (⟨a3, (keepM x47.calls a3)⟩ : Known)), subs ((outM x47.calls a3).map fun _ => (1 : Int)) a0.entries, subs ((outM x47.calls a3).map fun x => szE a0.config.Reserve x.2) a0.bytes⟩ : Cache) ([(p0, .cells #[.int .i64 a0.config.Clients, .int .i64 a0.config.Entries, .int .i64 a0.config.Bytes, .int .i64 a0.config.Reserve, .map (some b5), .int .i64 (subs ((outM x47.calls a3).map fun _ => (1 : Int)) a0.entries), .int .i64 (subs ((outM x47.calls a3).map fun x => szE a0.config.Reserve x.2) a0.bytes)] 89 (0, 0))] ++ (G138)) := ⟨_, _, ⟨b5, G138, rfl, hO139, rfl⟩, rfl⟩
            have S143 : St _ _ _ [[(p0, .cells #[.int .i64 a0.config.Clients, .int .i64 a0.config.Entries, .int .i64 a0.config.Bytes, .int .i64 a0.config.Reserve, .map (some b5), .int .i64 (subs ((outM x47.calls a3).map fun _ => (1 : Int)) a0.entries), .int .i64 (subs ((outM x47.calls a3).map fun x => szE a0.config.Reserve x.2) a0.bytes)] 89 (0, 0))] ++ (G138), [(b122, .cells #[.bool false, .string (bs ([] : List UInt8))] 93 (0, 0))], [(b10, .cells #[.int .i64 a1.Address, .int .i64 a1.Instance] 34 (0, 0))]] := S141.objs (by simp)
            exact ⟨[(p0, .cells #[.int .i64 a0.config.Clients, .int .i64 a0.config.Entries, .int .i64 a0.config.Bytes, .int .i64 a0.config.Reserve, .map (some b5), .int .i64 (subs ((outM x47.calls a3).map fun _ => (1 : Int)) a0.entries), .int .i64 (subs ((outM x47.calls a3).map fun x => szE a0.config.Reserve x.2) a0.bytes)] 89 (0, 0))] ++ (G138), rfl, hO142, St.keep (As := [[(p0, .cells #[.int .i64 a0.config.Clients, .int .i64 a0.config.Entries, .int .i64 a0.config.Bytes, .int .i64 a0.config.Reserve, .map (some b5), .int .i64 (subs ((outM x47.calls a3).map fun _ => (1 : Int)) a0.entries), .int .i64 (subs ((outM x47.calls a3).map fun x => szE a0.config.Reserve x.2) a0.bytes)] 89 (0, 0))] ++ (G138)]) S143⟩
           ·
            refine WH.p rfl (wants_on rfl (kbl (b := decide (a0.config.Bytes < (w64 ((subs ((outM x47.calls a3).map fun x => szE a0.config.Reserve x.2) a0.bytes) + a0.config.Reserve)))) rfl (decide_eq_false h133))) (G.move rfl) rfl ?_
            refine WH.p rfl (wants_on rfl (kbl (b := decide (a0.config.Bytes < (w64 ((subs ((outM x47.calls a3).map fun x => szE a0.config.Reserve x.2) a0.bytes) + a0.config.Reserve)))) rfl (decide_eq_false h133))) (G.move rfl) rfl ?_
            refine WH.p rfl (wants_on rfl rfl) (G.move rfl) rfl ?_
            refine WH.p rfl (wants_on rfl rfl) (G.nilp rfl) rfl ?_
            refine WH.p rfl (wants_on rfl rfl) (G.field T.fld96_1 rfl (show 0 + 1 = 1 from rfl)) rfl ?_
            refine WH.p rfl (wants_on rfl rfl) (G.move rfl) rfl ?_
            refine WH.p rfl (wants_on rfl rfl) (G.nilp rfl) rfl ?_
            refine WH.p rfl (wants_on rfl rfl) (G.field T.fld89_0 rfl (show 0 + 0 = 0 from rfl)) rfl ?_
            refine WH.p rfl (wants_on rfl rfl) (G.field T.fld26_1 rfl (show 0 + 1 = 1 from rfl)) rfl ?_
            refine WH.r rfl (wants_on rfl rfl) (fun _ h_ => G.load1 T.one94 rfl (cellsAt.at h_.2.1 1 rfl)) rfl ?_
            refine WH.r rfl (wants_on rfl rfl) (fun _ h_ => G.load1 T.one3 rfl (cellsAt.at h_.1 1 rfl)) rfl ?_
            refine WH.e rfl (wants_on rfl rfl) (GR.e (G.maplen Try.underlying94 (MapO.rd hM74 (fun b o hb => S131.grp 3 rfl hb)) rfl)) rfl ⟨cellsAt.of_blk (S131.blk 1 rfl) rfl, cellsAt.of_blk (S131.blk 2 rfl) rfl, trivial⟩ ?_
            refine WH.p rfl (wants_on rfl rfl) (G.geq rfl rfl rfl) rfl ?_
            refine WH.p rfl (wants_on rfl (kbl (b := decide (a0.config.Bytes < (w64 ((subs ((outM x47.calls a3).map fun x => szE a0.config.Reserve x.2) a0.bytes) + a0.config.Reserve)))) rfl (decide_eq_false h133))) (G.pick_t rfl rfl) rfl ?_
            refine WH.p rfl wants (G.pick_f (kb (b := decide (a0.config.Bytes < (w64 ((subs ((outM x47.calls a3).map fun x => szE a0.config.Reserve x.2) a0.bytes) + a0.config.Reserve)))) rfl (decide_eq_false h133)) rfl) rfl ?_
            refine WH.p rfl wants (G.move rfl) rfl ?_
            rcases ite_some hF with ⟨h144, hF⟩ | ⟨h144, hF⟩
            ·
             refine WH.off rfl rfl (kbl (b := decide (a0.config.Entries ≤ ((keepM x47.calls a3).length : Int))) rfl (decide_eq_true h144)) rfl rfl rfl ?_
             refine WH.off rfl rfl (kbl (b := decide (a0.config.Entries ≤ ((keepM x47.calls a3).length : Int))) rfl (decide_eq_true h144)) rfl rfl rfl ?_
             refine WH.off rfl rfl (kbl (b := decide (a0.config.Entries ≤ ((keepM x47.calls a3).length : Int))) rfl (decide_eq_true h144)) rfl rfl rfl ?_
             refine WH.off rfl rfl rfl rfl rfl rfl ?_
             refine WH.off rfl rfl rfl rfl rfl rfl ?_
             refine WH.off rfl rfl rfl rfl rfl rfl ?_
             refine WH.off rfl rfl rfl rfl rfl rfl ?_
             refine WH.off rfl rfl rfl rfl rfl rfl ?_
             refine WH.off rfl rfl rfl rfl rfl rfl ?_
             refine WH.off rfl rfl rfl rfl rfl rfl ?_
             refine WH.off rfl rfl rfl rfl rfl rfl ?_
             refine WH.off rfl rfl rfl rfl rfl rfl ?_
             refine WH.off2 rfl rfl rfl rfl rfl ⟨cellsAt.of_blk (S131.blk 1 rfl) rfl, cellsAt.of_blk (S131.blk 2 rfl) rfl, trivial⟩ ?_
             refine WH.off rfl rfl rfl rfl rfl rfl ?_
             refine WH.off rfl rfl (kbl (b := decide (a0.config.Entries ≤ ((keepM x47.calls a3).length : Int))) rfl (decide_eq_true h144)) rfl rfl rfl ?_
             refine WH.p rfl wants (G.pick_t (kb (b := decide (a0.config.Entries ≤ ((keepM x47.calls a3).length : Int))) rfl (decide_eq_true h144)) rfl) rfl ?_
             refine WH.nil ?_
             refine WEx.then_ ?_
             refine WCode.forget (l' := [(0, .pointer (some ⟨p0, 0, none⟩)), (2, .int .i64 a2), (3, .int .i64 a3), (5, .pointer (some ⟨b10, 0, none⟩)), (10, .pointer (some ⟨p50, 0, none⟩)), (11, .bool true), (138, .bool true)]) ⟨rfl, rfl, rfl, rfl, rfl, rfl, rfl, trivial⟩ ?_
             refine WCode.cond_t rfl ?_
             refine WCode.seq ?_
             refine WCode.region ?_
             refine WOps.p (G.assign rfl) rfl ?_
             refine WOps.p (G.assign rfl) rfl ?_
             refine WOps.nil ?_
             refine WEx.then_ ?_
             refine WCode.ret ?_
             refine WEx.then_ret ?_
             obtain rfl := some_eq hF
             refine WEx.ret2 rfl rfl rfl ?_
             have S145 := (S131.front 3 rfl).front 3 rfl
             change St _ _ _ [[(p50, .cells #[.int .i64 a3, .map (some b63)] 96 (0, 0))], G73, [(b122, .cells #[.bool false, .string (bs ([] : List UInt8))] 93 (0, 0))], [(p0, .cells #[.int .i64 a0.config.Clients, .int .i64 a0.config.Entries, .int .i64 a0.config.Bytes, .int .i64 a0.config.Reserve, .map (some b5), .int .i64 (subs ((outM x47.calls a3).map fun _ => (1 : Int)) a0.entries), .int .i64 (subs ((outM x47.calls a3).map fun x => szE a0.config.Reserve x.2) a0.bytes)] 89 (0, 0))], G52, [(b10, .cells #[.int .i64 a1.Address, .int .i64 a1.Instance] 34 (0, 0))]] at S145
             have hO146 : ObjO 96 Known.rp p50 (⟨a3, (keepM x47.calls a3)⟩ : Known) ([(p50, .cells #[.int .i64 a3, .map (some b63)] 96 (0, 0))] ++ (G73)) := ⟨_, _, ⟨b63, G73, rfl, hM74, rfl⟩, rfl⟩
             have S147 : St _ _ _ [[(p50, .cells #[.int .i64 a3, .map (some b63)] 96 (0, 0))] ++ (G73), [(b122, .cells #[.bool false, .string (bs ([] : List UInt8))] 93 (0, 0))], [(p0, .cells #[.int .i64 a0.config.Clients, .int .i64 a0.config.Entries, .int .i64 a0.config.Bytes, .int .i64 a0.config.Reserve, .map (some b5), .int .i64 (subs ((outM x47.calls a3).map fun _ => (1 : Int)) a0.entries), .int .i64 (subs ((outM x47.calls a3).map fun x => szE a0.config.Reserve x.2) a0.bytes)] 89 (0, 0))], G52, [(b10, .cells #[.int .i64 a1.Address, .int .i64 a1.Instance] 34 (0, 0))]] := S145.objs (by simp)
             have S148 := (S147.front 3 rfl).front 1 rfl
             change St _ _ _ [[(p50, .cells #[.int .i64 a3, .map (some b63)] 96 (0, 0))] ++ (G73), G52, [(b122, .cells #[.bool false, .string (bs ([] : List UInt8))] 93 (0, 0))], [(p0, .cells #[.int .i64 a0.config.Clients, .int .i64 a0.config.Entries, .int .i64 a0.config.Bytes, .int .i64 a0.config.Reserve, .map (some b5), .int .i64 (subs ((outM x47.calls a3).map fun _ => (1 : Int)) a0.entries), .int .i64 (subs ((outM x47.calls a3).map fun x => szE a0.config.Reserve x.2) a0.bytes)] 89 (0, 0))], [(b10, .cells #[.int .i64 a1.Address, .int .i64 a1.Instance] 34 (0, 0))]] at S148
             obtain ⟨G149, hO150, S151⟩ := St.unfocus S148 hF54 hO146
             change St _ _ _ [G149, [(b122, .cells #[.bool false, .string (bs ([] : List UInt8))] 93 (0, 0))], [(p0, .cells #[.int .i64 a0.config.Clients, .int .i64 a0.config.Entries, .int .i64 a0.config.Bytes, .int .i64 a0.config.Reserve, .map (some b5), .int .i64 (subs ((outM x47.calls a3).map fun _ => (1 : Int)) a0.entries), .int .i64 (subs ((outM x47.calls a3).map fun x => szE a0.config.Reserve x.2) a0.bytes)] 89 (0, 0))], [(b10, .cells #[.int .i64 a1.Address, .int .i64 a1.Instance] 34 (0, 0))]] at S151
             have S152 := S151.front 2 rfl
             change St _ _ _ [[(p0, .cells #[.int .i64 a0.config.Clients, .int .i64 a0.config.Entries, .int .i64 a0.config.Bytes, .int .i64 a0.config.Reserve, .map (some b5), .int .i64 (subs ((outM x47.calls a3).map fun _ => (1 : Int)) a0.entries), .int .i64 (subs ((outM x47.calls a3).map fun x => szE a0.config.Reserve x.2) a0.bytes)] 89 (0, 0))], G149, [(b122, .cells #[.bool false, .string (bs ([] : List UInt8))] 93 (0, 0))], [(b10, .cells #[.int .i64 a1.Address, .int .i64 a1.Instance] 34 (0, 0))]] at S152
             have hO153 : ObjO 89 Cache.rp p0 (⟨a0.config, (mput a0.clients a1 (⟨a3, (keepM x47.calls a3)⟩ : Known)), subs ((outM x47.calls a3).map fun _ => (1 : Int)) a0.entries, subs ((outM x47.calls a3).map fun x => szE a0.config.Reserve x.2) a0.bytes⟩ : Cache) ([(p0, .cells #[.int .i64 a0.config.Clients, .int .i64 a0.config.Entries, .int .i64 a0.config.Bytes, .int .i64 a0.config.Reserve, .map (some b5), .int .i64 (subs ((outM x47.calls a3).map fun _ => (1 : Int)) a0.entries), .int .i64 (subs ((outM x47.calls a3).map fun x => szE a0.config.Reserve x.2) a0.bytes)] 89 (0, 0))] ++ (G149)) := ⟨_, _, ⟨b5, G149, rfl, hO150, rfl⟩, rfl⟩
             have S154 : St _ _ _ [[(p0, .cells #[.int .i64 a0.config.Clients, .int .i64 a0.config.Entries, .int .i64 a0.config.Bytes, .int .i64 a0.config.Reserve, .map (some b5), .int .i64 (subs ((outM x47.calls a3).map fun _ => (1 : Int)) a0.entries), .int .i64 (subs ((outM x47.calls a3).map fun x => szE a0.config.Reserve x.2) a0.bytes)] 89 (0, 0))] ++ (G149), [(b122, .cells #[.bool false, .string (bs ([] : List UInt8))] 93 (0, 0))], [(b10, .cells #[.int .i64 a1.Address, .int .i64 a1.Instance] 34 (0, 0))]] := S152.objs (by simp)
             exact ⟨[(p0, .cells #[.int .i64 a0.config.Clients, .int .i64 a0.config.Entries, .int .i64 a0.config.Bytes, .int .i64 a0.config.Reserve, .map (some b5), .int .i64 (subs ((outM x47.calls a3).map fun _ => (1 : Int)) a0.entries), .int .i64 (subs ((outM x47.calls a3).map fun x => szE a0.config.Reserve x.2) a0.bytes)] 89 (0, 0))] ++ (G149), rfl, hO153, St.keep (As := [[(p0, .cells #[.int .i64 a0.config.Clients, .int .i64 a0.config.Entries, .int .i64 a0.config.Bytes, .int .i64 a0.config.Reserve, .map (some b5), .int .i64 (subs ((outM x47.calls a3).map fun _ => (1 : Int)) a0.entries), .int .i64 (subs ((outM x47.calls a3).map fun x => szE a0.config.Reserve x.2) a0.bytes)] 89 (0, 0))] ++ (G149)]) S154⟩
            ·
             refine WH.p rfl (wants_on rfl (kbl (b := decide (a0.config.Entries ≤ ((keepM x47.calls a3).length : Int))) rfl (decide_eq_false h144))) (G.move rfl) rfl ?_
             refine WH.p rfl (wants_on rfl (kbl (b := decide (a0.config.Entries ≤ ((keepM x47.calls a3).length : Int))) rfl (decide_eq_false h144))) (G.not rfl rfl) rfl ?_
             refine WH.p rfl (wants_on rfl (kbl (b := decide (a0.config.Entries ≤ ((keepM x47.calls a3).length : Int))) rfl (decide_eq_false h144))) (G.move rfl) rfl ?_
             refine WH.off rfl rfl rfl rfl rfl rfl ?_
             refine WH.off rfl rfl rfl rfl rfl rfl ?_
             refine WH.off rfl rfl rfl rfl rfl rfl ?_
             refine WH.off rfl rfl rfl rfl rfl rfl ?_
             refine WH.off rfl rfl rfl rfl rfl rfl ?_
             refine WH.off rfl rfl rfl rfl rfl rfl ?_
             refine WH.off rfl rfl rfl rfl rfl rfl ?_
             refine WH.off rfl rfl rfl rfl rfl rfl ?_
             refine WH.off rfl rfl rfl rfl rfl rfl ?_
             refine WH.off2 rfl rfl rfl rfl rfl ⟨cellsAt.of_blk (S131.blk 1 rfl) rfl, cellsAt.of_blk (S131.blk 2 rfl) rfl, trivial⟩ ?_
             refine WH.off rfl rfl rfl rfl rfl rfl ?_
             refine WH.p rfl (wants_on rfl (kbl (b := decide (a0.config.Entries ≤ ((keepM x47.calls a3).length : Int))) rfl (decide_eq_false h144))) (G.pick_f rfl rfl) rfl ?_
             refine WH.p rfl wants (G.pick_f (kb (b := decide (a0.config.Entries ≤ ((keepM x47.calls a3).length : Int))) rfl (decide_eq_false h144)) rfl) rfl ?_
             refine WH.nil ?_
             refine WEx.then_ ?_
             refine WCode.forget (l' := [(0, .pointer (some ⟨p0, 0, none⟩)), (2, .int .i64 a2), (3, .int .i64 a3), (5, .pointer (some ⟨b10, 0, none⟩)), (10, .pointer (some ⟨p50, 0, none⟩)), (11, .bool true), (138, .bool false)]) ⟨rfl, rfl, rfl, rfl, rfl, rfl, rfl, trivial⟩ ?_
             refine WCode.cond_f rfl ?_
             refine WCode.skip ?_
             refine WEx.then_ ?_
             refine WCode.seq ?_
             refine WCode.seq ?_
             refine WCode.region ?_
             refine WOps.p (G.move rfl) rfl ?_
             refine WOps.p (G.not rfl rfl) rfl ?_
             refine WOps.nil ?_
             refine WEx.then_ ?_
             refine WCode.cond_f rfl ?_
             refine WCode.skip ?_
             refine WEx.then_ ?_
             refine WCode.seq ?_
             refine WCode.region ?_
             refine WOps.p (G.move rfl) rfl ?_
             refine WOps.p (G.nilp rfl) rfl ?_
             refine WOps.p (G.field T.fld96_1 rfl (show 0 + 1 = 1 from rfl)) rfl ?_
             refine WOps.r (G.load1 T.one94 rfl (cell_blk (S131.blk 2 rfl) rfl)) rfl ?_
             refine WOps.p (G.move rfl) rfl ?_
             refine WOps.p (G.build (cells := #[.bool false, .string (bs ([] : List UInt8))]) (evp_spec (evp_nil)) (by kernel_rfl)) rfl ?_
             have S155 := S131.front 3 rfl
             change St _ _ _ [G73, [(b122, .cells #[.bool false, .string (bs ([] : List UInt8))] 93 (0, 0))], [(p0, .cells #[.int .i64 a0.config.Clients, .int .i64 a0.config.Entries, .int .i64 a0.config.Bytes, .int .i64 a0.config.Reserve, .map (some b5), .int .i64 (subs ((outM x47.calls a3).map fun _ => (1 : Int)) a0.entries), .int .i64 (subs ((outM x47.calls a3).map fun x => szE a0.config.Reserve x.2) a0.bytes)] 89 (0, 0))], [(p50, .cells #[.int .i64 a3, .map (some b63)] 96 (0, 0))], G52, [(b10, .cells #[.int .i64 a1.Address, .int .i64 a1.Instance] 34 (0, 0))]] at S155
             obtain ⟨G156, w157, U158, hM159, S160⟩ := St.mapPut (P := Try.prog) S155 T.key94 Try.underlying94 hM74 a2 (⟨false, ([] : List UInt8)⟩ : Entry)
             change St _ _ _ [G156, [(b122, .cells #[.bool false, .string (bs ([] : List UInt8))] 93 (0, 0))], [(p0, .cells #[.int .i64 a0.config.Clients, .int .i64 a0.config.Entries, .int .i64 a0.config.Bytes, .int .i64 a0.config.Reserve, .map (some b5), .int .i64 (subs ((outM x47.calls a3).map fun _ => (1 : Int)) a0.entries), .int .i64 (subs ((outM x47.calls a3).map fun x => szE a0.config.Reserve x.2) a0.bytes)] 89 (0, 0))], [(p50, .cells #[.int .i64 a3, .map (some b63)] 96 (0, 0))], G52, [(b10, .cells #[.int .i64 a1.Address, .int .i64 a1.Instance] 34 (0, 0))]] at S160
             refine WOps.u (U158 rfl rfl rfl) ?_
             refine WOps.nil ?_
             refine WEx.then_ ?_
             refine WCode.forget (l' := [(0, .pointer (some ⟨p0, 0, none⟩))]) ⟨rfl, trivial⟩ ?_
             refine WCode.seq ?_
             refine WCode.region ?_
             refine WOps.p (G.move rfl) rfl ?_
             refine WOps.p (G.nilp rfl) rfl ?_
             refine WOps.p (G.field T.fld89_2 rfl (show 0 + 5 = 5 from rfl)) rfl ?_
             refine WOps.r (G.load1 T.one3 rfl (cell_blk (S160.blk 2 rfl) rfl)) rfl ?_
             refine WOps.p (G.add rfl rfl (r := (w64 ((subs ((outM x47.calls a3).map fun _ => (1 : Int)) a0.entries) + 1))) rfl) rfl ?_
             refine WOps.p (G.nilp rfl) rfl ?_
             refine WOps.p (G.field T.fld89_2 rfl (show 0 + 5 = 5 from rfl)) rfl ?_
             obtain ⟨w161, E162, S163⟩ := St.store (P := Try.prog) S160 2 3 (.int .i64 (w64 ((subs ((outM x47.calls a3).map fun _ => (1 : Int)) a0.entries) + 1))) (off := 5) (cur' := #[.int .i64 a0.config.Clients, .int .i64 a0.config.Entries, .int .i64 a0.config.Bytes, .int .i64 a0.config.Reserve, .map (some b5), .int .i64 (w64 ((subs ((outM x47.calls a3).map fun _ => (1 : Int)) a0.entries) + 1)), .int .i64 (subs ((outM x47.calls a3).map fun x => szE a0.config.Reserve x.2) a0.bytes)]) rfl T.size3_1 rfl rfl rfl
             change St _ _ _ [G156, [(b122, .cells #[.bool false, .string (bs ([] : List UInt8))] 93 (0, 0))], [(p0, .cells #[.int .i64 a0.config.Clients, .int .i64 a0.config.Entries, .int .i64 a0.config.Bytes, .int .i64 a0.config.Reserve, .map (some b5), .int .i64 (w64 ((subs ((outM x47.calls a3).map fun _ => (1 : Int)) a0.entries) + 1)), .int .i64 (subs ((outM x47.calls a3).map fun x => szE a0.config.Reserve x.2) a0.bytes)] 89 (0, 0))], [(p50, .cells #[.int .i64 a3, .map (some b63)] 96 (0, 0))], G52, [(b10, .cells #[.int .i64 a1.Address, .int .i64 a1.Instance] 34 (0, 0))]] at S163
             refine WOps.u (E162 rfl rfl) ?_
             refine WOps.nil ?_
             refine WEx.then_ ?_
             refine WCode.seq ?_
             refine WCode.draw [⟨0, 0, []⟩, ⟨1, 0, []⟩, ⟨2, 0, []⟩, ⟨4, 0, []⟩, ⟨5, 0, []⟩, ⟨6, 0, []⟩, ⟨7, 0, []⟩, ⟨3, 1, [9, 10, 11, 12]⟩, ⟨8, 1, [9, 10, 11, 12]⟩, ⟨9, 0, []⟩, ⟨10, 0, []⟩, ⟨11, 0, []⟩, ⟨12, 2, []⟩] T.mixed (by kernel_rfl) (by intro _ _ d _ _ h; cases d <;> exact h) rfl (by kernel_rfl) ?_
             have S164 := S163.drew
             generalize w161.drew = w165 at *
             refine WD.p rfl (G.move rfl) rfl ?_
             refine WD.p rfl (G.nilp rfl) rfl ?_
             refine WD.p rfl (G.field T.fld89_3 rfl (show 0 + 6 = 6 from rfl)) rfl ?_
             refine WD.p rfl (G.move rfl) rfl ?_
             refine WD.p rfl (G.nilp rfl) rfl ?_
             refine WD.p rfl (G.field T.fld89_0 rfl (show 0 + 0 = 0 from rfl)) rfl ?_
             refine WD.p rfl (G.field T.fld26_3 rfl (show 0 + 3 = 3 from rfl)) rfl ?_
             refine WD.r rfl (G.load1 T.one3 rfl (cell_blk (S164.blk 2 rfl) rfl)) rfl ?_
             refine WD.r rfl (G.load1 T.one3 rfl (cell_blk (S164.blk 2 rfl) rfl)) rfl ?_
             refine WD.p rfl (G.add rfl rfl (r := (w64 ((subs ((outM x47.calls a3).map fun x => szE a0.config.Reserve x.2) a0.bytes) + a0.config.Reserve))) rfl) rfl ?_
             refine WD.p rfl (G.nilp rfl) rfl ?_
             refine WD.p rfl (G.field T.fld89_3 rfl (show 0 + 6 = 6 from rfl)) rfl ?_
             obtain ⟨w166, E167, S168⟩ := St.store (P := Try.prog) S164 2 3 (.int .i64 (w64 ((subs ((outM x47.calls a3).map fun x => szE a0.config.Reserve x.2) a0.bytes) + a0.config.Reserve))) (off := 6) (cur' := #[.int .i64 a0.config.Clients, .int .i64 a0.config.Entries, .int .i64 a0.config.Bytes, .int .i64 a0.config.Reserve, .map (some b5), .int .i64 (w64 ((subs ((outM x47.calls a3).map fun _ => (1 : Int)) a0.entries) + 1)), .int .i64 (w64 ((subs ((outM x47.calls a3).map fun x => szE a0.config.Reserve x.2) a0.bytes) + a0.config.Reserve))]) rfl T.size3_1 rfl rfl rfl
             change St _ _ _ [G156, [(b122, .cells #[.bool false, .string (bs ([] : List UInt8))] 93 (0, 0))], [(p0, .cells #[.int .i64 a0.config.Clients, .int .i64 a0.config.Entries, .int .i64 a0.config.Bytes, .int .i64 a0.config.Reserve, .map (some b5), .int .i64 (w64 ((subs ((outM x47.calls a3).map fun _ => (1 : Int)) a0.entries) + 1)), .int .i64 (w64 ((subs ((outM x47.calls a3).map fun x => szE a0.config.Reserve x.2) a0.bytes) + a0.config.Reserve))] 89 (0, 0))], [(p50, .cells #[.int .i64 a3, .map (some b63)] 96 (0, 0))], G52, [(b10, .cells #[.int .i64 a1.Address, .int .i64 a1.Instance] 34 (0, 0))]] at S168
             refine WD.u rfl (E167 rfl rfl) ?_
             refine WD.nil ?_
             refine WEx.then_ ?_
             refine WCode.forget (l' := []) trivial ?_
             refine WCode.seq ?_
             refine WCode.region ?_
             refine WOps.p (G.assign rfl) rfl ?_
             refine WOps.p (G.assign rfl) rfl ?_
             refine WOps.nil ?_
             refine WEx.then_ ?_
             refine WCode.ret ?_
             obtain rfl := some_eq hF
             refine WEx.ret2 rfl rfl rfl ?_
             have S169 := S168.front 3 rfl
             change St _ _ _ [[(p50, .cells #[.int .i64 a3, .map (some b63)] 96 (0, 0))], G156, [(b122, .cells #[.bool false, .string (bs ([] : List UInt8))] 93 (0, 0))], [(p0, .cells #[.int .i64 a0.config.Clients, .int .i64 a0.config.Entries, .int .i64 a0.config.Bytes, .int .i64 a0.config.Reserve, .map (some b5), .int .i64 (w64 ((subs ((outM x47.calls a3).map fun _ => (1 : Int)) a0.entries) + 1)), .int .i64 (w64 ((subs ((outM x47.calls a3).map fun x => szE a0.config.Reserve x.2) a0.bytes) + a0.config.Reserve))] 89 (0, 0))], G52, [(b10, .cells #[.int .i64 a1.Address, .int .i64 a1.Instance] 34 (0, 0))]] at S169
             have hO170 : ObjO 96 Known.rp p50 (⟨a3, (mput (keepM x47.calls a3) a2 (⟨false, ([] : List UInt8)⟩ : Entry))⟩ : Known) ([(p50, .cells #[.int .i64 a3, .map (some b63)] 96 (0, 0))] ++ (G156)) := ⟨_, _, ⟨b63, G156, rfl, hM159, rfl⟩, rfl⟩
             have S171 : St _ _ _ [[(p50, .cells #[.int .i64 a3, .map (some b63)] 96 (0, 0))] ++ (G156), [(b122, .cells #[.bool false, .string (bs ([] : List UInt8))] 93 (0, 0))], [(p0, .cells #[.int .i64 a0.config.Clients, .int .i64 a0.config.Entries, .int .i64 a0.config.Bytes, .int .i64 a0.config.Reserve, .map (some b5), .int .i64 (w64 ((subs ((outM x47.calls a3).map fun _ => (1 : Int)) a0.entries) + 1)), .int .i64 (w64 ((subs ((outM x47.calls a3).map fun x => szE a0.config.Reserve x.2) a0.bytes) + a0.config.Reserve))] 89 (0, 0))], G52, [(b10, .cells #[.int .i64 a1.Address, .int .i64 a1.Instance] 34 (0, 0))]] := S169.objs (by simp)
             have S172 := (S171.front 3 rfl).front 1 rfl
             change St _ _ _ [[(p50, .cells #[.int .i64 a3, .map (some b63)] 96 (0, 0))] ++ (G156), G52, [(b122, .cells #[.bool false, .string (bs ([] : List UInt8))] 93 (0, 0))], [(p0, .cells #[.int .i64 a0.config.Clients, .int .i64 a0.config.Entries, .int .i64 a0.config.Bytes, .int .i64 a0.config.Reserve, .map (some b5), .int .i64 (w64 ((subs ((outM x47.calls a3).map fun _ => (1 : Int)) a0.entries) + 1)), .int .i64 (w64 ((subs ((outM x47.calls a3).map fun x => szE a0.config.Reserve x.2) a0.bytes) + a0.config.Reserve))] 89 (0, 0))], [(b10, .cells #[.int .i64 a1.Address, .int .i64 a1.Instance] 34 (0, 0))]] at S172
             obtain ⟨G173, hO174, S175⟩ := St.unfocus S172 hF54 hO170
             change St _ _ _ [G173, [(b122, .cells #[.bool false, .string (bs ([] : List UInt8))] 93 (0, 0))], [(p0, .cells #[.int .i64 a0.config.Clients, .int .i64 a0.config.Entries, .int .i64 a0.config.Bytes, .int .i64 a0.config.Reserve, .map (some b5), .int .i64 (w64 ((subs ((outM x47.calls a3).map fun _ => (1 : Int)) a0.entries) + 1)), .int .i64 (w64 ((subs ((outM x47.calls a3).map fun x => szE a0.config.Reserve x.2) a0.bytes) + a0.config.Reserve))] 89 (0, 0))], [(b10, .cells #[.int .i64 a1.Address, .int .i64 a1.Instance] 34 (0, 0))]] at S175
             have S176 := S175.front 2 rfl
             change St _ _ _ [[(p0, .cells #[.int .i64 a0.config.Clients, .int .i64 a0.config.Entries, .int .i64 a0.config.Bytes, .int .i64 a0.config.Reserve, .map (some b5), .int .i64 (w64 ((subs ((outM x47.calls a3).map fun _ => (1 : Int)) a0.entries) + 1)), .int .i64 (w64 ((subs ((outM x47.calls a3).map fun x => szE a0.config.Reserve x.2) a0.bytes) + a0.config.Reserve))] 89 (0, 0))], G173, [(b122, .cells #[.bool false, .string (bs ([] : List UInt8))] 93 (0, 0))], [(b10, .cells #[.int .i64 a1.Address, .int .i64 a1.Instance] 34 (0, 0))]] at S176
             have hO177 : ObjO 89 Cache.rp p0 (⟨a0.config, (mput a0.clients a1 (⟨a3, (mput (keepM x47.calls a3) a2 (⟨false, ([] : List UInt8)⟩ : Entry))⟩ : Known)), w64 ((subs ((outM x47.calls a3).map fun _ => (1 : Int)) a0.entries) + 1), w64 ((subs ((outM x47.calls a3).map fun x => szE a0.config.Reserve x.2) a0.bytes) + a0.config.Reserve)⟩ : Cache) ([(p0, .cells #[.int .i64 a0.config.Clients, .int .i64 a0.config.Entries, .int .i64 a0.config.Bytes, .int .i64 a0.config.Reserve, .map (some b5), .int .i64 (w64 ((subs ((outM x47.calls a3).map fun _ => (1 : Int)) a0.entries) + 1)), .int .i64 (w64 ((subs ((outM x47.calls a3).map fun x => szE a0.config.Reserve x.2) a0.bytes) + a0.config.Reserve))] 89 (0, 0))] ++ (G173)) := ⟨_, _, ⟨b5, G173, rfl, hO174, rfl⟩, rfl⟩
             have S178 : St _ _ _ [[(p0, .cells #[.int .i64 a0.config.Clients, .int .i64 a0.config.Entries, .int .i64 a0.config.Bytes, .int .i64 a0.config.Reserve, .map (some b5), .int .i64 (w64 ((subs ((outM x47.calls a3).map fun _ => (1 : Int)) a0.entries) + 1)), .int .i64 (w64 ((subs ((outM x47.calls a3).map fun x => szE a0.config.Reserve x.2) a0.bytes) + a0.config.Reserve))] 89 (0, 0))] ++ (G173), [(b122, .cells #[.bool false, .string (bs ([] : List UInt8))] 93 (0, 0))], [(b10, .cells #[.int .i64 a1.Address, .int .i64 a1.Instance] 34 (0, 0))]] := S176.objs (by simp)
             exact ⟨[(p0, .cells #[.int .i64 a0.config.Clients, .int .i64 a0.config.Entries, .int .i64 a0.config.Bytes, .int .i64 a0.config.Reserve, .map (some b5), .int .i64 (w64 ((subs ((outM x47.calls a3).map fun _ => (1 : Int)) a0.entries) + 1)), .int .i64 (w64 ((subs ((outM x47.calls a3).map fun x => szE a0.config.Reserve x.2) a0.bytes) + a0.config.Reserve))] 89 (0, 0))] ++ (G173), rfl, hO177, St.keep (As := [[(p0, .cells #[.int .i64 a0.config.Clients, .int .i64 a0.config.Entries, .int .i64 a0.config.Bytes, .int .i64 a0.config.Reserve, .map (some b5), .int .i64 (w64 ((subs ((outM x47.calls a3).map fun _ => (1 : Int)) a0.entries) + 1)), .int .i64 (w64 ((subs ((outM x47.calls a3).map fun x => szE a0.config.Reserve x.2) a0.bytes) + a0.config.Reserve))] 89 (0, 0))] ++ (G173)]) S178⟩
        ·
         refine WCode.cond_f (kb (b := decide (x47.water < a3)) rfl (decide_eq_false h68)) ?_
         refine WCode.skip ?_
         refine WEx.then_ ?_
         refine WCode.seq ?_
         refine WCode.seq ?_
         refine WCode.region ?_
         refine WOps.p (G.move rfl) rfl ?_
         refine WOps.nil ?_
         refine WEx.then_ ?_
         refine WCode.cond_t rfl ?_
         refine WCode.region ?_
         refine WOps.p (G.move rfl) rfl ?_
         refine WOps.p (G.nilp rfl) rfl ?_
         refine WOps.p (G.field T.fld96_0 rfl (show 0 + 0 = 0 from rfl)) rfl ?_
         refine WOps.r (G.load1 T.one3 rfl (cell_blk (S67.blk 0 rfl) rfl)) rfl ?_
         refine WOps.p (G.assign rfl) rfl ?_
         refine WOps.nil ?_
         refine WEx.then_ ?_
         refine WCode.forget (l' := [(0, .pointer (some ⟨p0, 0, none⟩)), (2, .int .i64 a2), (3, .int .i64 x47.water), (5, .pointer (some ⟨b10, 0, none⟩)), (10, .pointer (some ⟨p50, 0, none⟩)), (11, .bool true)]) ⟨rfl, rfl, rfl, rfl, rfl, rfl, trivial⟩ ?_
         refine WCode.seq ?_
         refine WCode.seq ?_
         refine WCode.region ?_
         refine WOps.p (G.move rfl) rfl ?_
         refine WOps.p (G.move rfl) rfl ?_
         refine WOps.p (G.lss rfl rfl rfl) rfl ?_
         refine WOps.nil ?_
         refine WEx.then_ ?_
         rcases ite_some hF with ⟨h179, hF⟩ | ⟨h179, hF⟩
         ·
          refine WCode.cond_t (kb (b := decide (a2 < x47.water)) rfl (decide_eq_true h179)) ?_
          refine WCode.seq ?_
          refine WCode.region ?_
          refine WOps.p (G.assign rfl) rfl ?_
          refine WOps.p (G.assign rfl) rfl ?_
          refine WOps.nil ?_
          refine WEx.then_ ?_
          refine WCode.ret ?_
          refine WEx.then_ret ?_
          obtain rfl := some_eq hF
          refine WEx.ret2 rfl rfl rfl ?_
          have hO180 : ObjO 96 Known.rp p50 x47 ([(p50, .cells #[.int .i64 x47.water, .map (some b63)] 96 (0, 0))] ++ (G64)) := ⟨_, _, ⟨b63, G64, rfl, hO65, rfl⟩, rfl⟩
          have S181 : St _ _ _ [[(p50, .cells #[.int .i64 x47.water, .map (some b63)] 96 (0, 0))] ++ (G64), G52, [(b10, .cells #[.int .i64 a1.Address, .int .i64 a1.Instance] 34 (0, 0))], [(p0, .cells #[.int .i64 a0.config.Clients, .int .i64 a0.config.Entries, .int .i64 a0.config.Bytes, .int .i64 a0.config.Reserve, .map (some b5), .int .i64 a0.entries, .int .i64 a0.bytes] 89 (0, 0))]] := S67.objs (by simp)
          obtain ⟨G182, hO183, S184⟩ := St.unfocus S181 hF54 hO180
          change St _ _ _ [G182, [(b10, .cells #[.int .i64 a1.Address, .int .i64 a1.Instance] 34 (0, 0))], [(p0, .cells #[.int .i64 a0.config.Clients, .int .i64 a0.config.Entries, .int .i64 a0.config.Bytes, .int .i64 a0.config.Reserve, .map (some b5), .int .i64 a0.entries, .int .i64 a0.bytes] 89 (0, 0))]] at S184
          have S185 := S184.front 2 rfl
          change St _ _ _ [[(p0, .cells #[.int .i64 a0.config.Clients, .int .i64 a0.config.Entries, .int .i64 a0.config.Bytes, .int .i64 a0.config.Reserve, .map (some b5), .int .i64 a0.entries, .int .i64 a0.bytes] 89 (0, 0))], G182, [(b10, .cells #[.int .i64 a1.Address, .int .i64 a1.Instance] 34 (0, 0))]] at S185
          have hO186 : ObjO 89 Cache.rp p0 (⟨a0.config, (mput a0.clients a1 x47), a0.entries, a0.bytes⟩ : Cache) ([(p0, .cells #[.int .i64 a0.config.Clients, .int .i64 a0.config.Entries, .int .i64 a0.config.Bytes, .int .i64 a0.config.Reserve, .map (some b5), .int .i64 a0.entries, .int .i64 a0.bytes] 89 (0, 0))] ++ (G182)) := ⟨_, _, ⟨b5, G182, rfl, hO183, rfl⟩, rfl⟩
          have S187 : St _ _ _ [[(p0, .cells #[.int .i64 a0.config.Clients, .int .i64 a0.config.Entries, .int .i64 a0.config.Bytes, .int .i64 a0.config.Reserve, .map (some b5), .int .i64 a0.entries, .int .i64 a0.bytes] 89 (0, 0))] ++ (G182), [(b10, .cells #[.int .i64 a1.Address, .int .i64 a1.Instance] 34 (0, 0))]] := S185.objs (by simp)
          exact ⟨[(p0, .cells #[.int .i64 a0.config.Clients, .int .i64 a0.config.Entries, .int .i64 a0.config.Bytes, .int .i64 a0.config.Reserve, .map (some b5), .int .i64 a0.entries, .int .i64 a0.bytes] 89 (0, 0))] ++ (G182), rfl, hO186, St.keep (As := [[(p0, .cells #[.int .i64 a0.config.Clients, .int .i64 a0.config.Entries, .int .i64 a0.config.Bytes, .int .i64 a0.config.Reserve, .map (some b5), .int .i64 a0.entries, .int .i64 a0.bytes] 89 (0, 0))] ++ (G182)]) S187⟩
         ·
          refine WCode.cond_f (kb (b := decide (a2 < x47.water)) rfl (decide_eq_false h179)) ?_
          refine WCode.skip ?_
          refine WEx.then_ ?_
          refine WCode.seq ?_
          refine WCode.seq ?_
          refine WCode.region ?_
          refine WOps.p (G.move rfl) rfl ?_
          refine WOps.nil ?_
          refine WEx.then_ ?_
          refine WCode.cond_t rfl ?_
          refine WCode.seq ?_
          refine WCode.region ?_
          refine WOps.p (G.move rfl) rfl ?_
          refine WOps.p (G.nilp rfl) rfl ?_
          refine WOps.p (G.field T.fld96_1 rfl (show 0 + 1 = 1 from rfl)) rfl ?_
          refine WOps.r (G.load1 T.one94 rfl (cell_blk (S67.blk 0 rfl) rfl)) rfl ?_
          refine WOps.p (G.move rfl) rfl ?_
          rcases ite_some hF with ⟨h188, hF⟩ | ⟨h188, hF⟩
          ·
           obtain ⟨x189, hc190, hF⟩ := bind_some hF
           refine WOps.r (G.mapget1 T.key94 Try.underlying94 (MapO.rd hO65 (fun b o hb => S67.grp 1 rfl hb)) rfl rfl hc190) rfl ?_
           refine WOps.p (G.move rfl) rfl ?_
           refine WOps.p (G.extract rfl rfl) rfl ?_
           refine WOps.p (G.extract rfl rfl) rfl ?_
           obtain ⟨b191, w192, E193, S194, X195, L196⟩ := St.var S67 (z := .agg #[.bool false, .string (bs ([] : List UInt8))]) T.zero93
           change St _ _ _ [[(b191, .cells #[.bool false, .string (bs ([] : List UInt8))] 93 (0, 0))], [(p50, .cells #[.int .i64 x47.water, .map (some b63)] 96 (0, 0))], G64, G52, [(b10, .cells #[.int .i64 a1.Address, .int .i64 a1.Instance] 34 (0, 0))], [(p0, .cells #[.int .i64 a0.config.Clients, .int .i64 a0.config.Entries, .int .i64 a0.config.Bytes, .int .i64 a0.config.Reserve, .map (some b5), .int .i64 a0.entries, .int .i64 a0.bytes] 89 (0, 0))]] at S194
           refine WOps.e E193 rfl ?_
           obtain ⟨w197, E198, S199⟩ := St.store (P := Try.prog) S194 0 93 (.agg #[.bool x189.done, .string (bs x189.reply)]) (off := 0) (cur' := #[.bool x189.done, .string (bs x189.reply)]) rfl T.size93_2 rfl rfl rfl
           change St _ _ _ [[(b191, .cells #[.bool x189.done, .string (bs x189.reply)] 93 (0, 0))], [(p50, .cells #[.int .i64 x47.water, .map (some b63)] 96 (0, 0))], G64, G52, [(b10, .cells #[.int .i64 a1.Address, .int .i64 a1.Instance] 34 (0, 0))], [(p0, .cells #[.int .i64 a0.config.Clients, .int .i64 a0.config.Entries, .int .i64 a0.config.Bytes, .int .i64 a0.config.Reserve, .map (some b5), .int .i64 a0.entries, .int .i64 a0.bytes] 89 (0, 0))]] at S199
           refine WOps.u (E198 rfl rfl) ?_
           refine WOps.p (G.assign rfl) rfl ?_
           refine WOps.nil ?_
           refine WEx.then_ ?_
           refine WCode.forget (l' := [(0, .pointer (some ⟨p0, 0, none⟩)), (2, .int .i64 a2), (3, .int .i64 x47.water), (5, .pointer (some ⟨b10, 0, none⟩)), (10, .pointer (some ⟨p50, 0, none⟩)), (11, .bool true), (12, .pointer (some ⟨b191, 0, none⟩)), (13, .bool true)]) ⟨rfl, rfl, rfl, rfl, rfl, rfl, rfl, rfl, trivial⟩ ?_
           refine WCode.seq ?_
           refine WCode.region ?_
           refine WOps.p (G.move rfl) rfl ?_
           refine WOps.p (G.move rfl) rfl ?_
           refine WOps.on rfl rfl ?_
           refine WOps.p (G.field T.fld93_0 rfl (show 0 + 0 = 0 from rfl)) rfl ?_
           refine WOps.on rfl rfl ?_
           refine WOps.r (G.load1 T.one4 rfl (cell_blk (S199.blk 0 rfl) rfl)) rfl ?_
           refine WOps.p (G.pick_t rfl rfl) rfl ?_
           refine WOps.nil ?_
           refine WEx.then_ ?_
           rcases ite_some hF with ⟨h200, hF⟩ | ⟨h200, hF⟩
           ·
            refine WCode.cond_t (kb (b := x189.done) rfl h200) ?_
            refine WCode.seq ?_
            refine WCode.draw [⟨0, 0, []⟩, ⟨2, 0, []⟩, ⟨1, 1, [3]⟩, ⟨3, 0, []⟩] T.mixed (by kernel_rfl) (by intro _ _ d _ _ h; cases d <;> exact h) rfl (by kernel_rfl) ?_
            have S201 := S199.drew
            generalize w197.drew = w202 at *
            refine WD.p rfl (G.field T.fld93_1 rfl (show 0 + 1 = 1 from rfl)) rfl ?_
            refine WD.p rfl (G.assign rfl) rfl ?_
            refine WD.r rfl (G.load1 T.one9 rfl (cell_blk (S201.blk 0 rfl) rfl)) rfl ?_
            refine WD.p rfl (G.assign rfl) rfl ?_
            refine WD.nil ?_
            refine WEx.then_ ?_
            refine WCode.forget (l' := [(8, .int .i64 3), (9, .string (bs x189.reply))]) ⟨rfl, rfl, trivial⟩ ?_
            refine WCode.ret ?_
            refine WEx.then_ret ?_
            obtain rfl := some_eq hF
            refine WEx.ret2 rfl rfl rfl ?_
            have S203 := (S201.front 2 rfl).front 2 rfl
            change St _ _ _ [[(p50, .cells #[.int .i64 x47.water, .map (some b63)] 96 (0, 0))], G64, [(b191, .cells #[.bool x189.done, .string (bs x189.reply)] 93 (0, 0))], G52, [(b10, .cells #[.int .i64 a1.Address, .int .i64 a1.Instance] 34 (0, 0))], [(p0, .cells #[.int .i64 a0.config.Clients, .int .i64 a0.config.Entries, .int .i64 a0.config.Bytes, .int .i64 a0.config.Reserve, .map (some b5), .int .i64 a0.entries, .int .i64 a0.bytes] 89 (0, 0))]] at S203
            have hO204 : ObjO 96 Known.rp p50 x47 ([(p50, .cells #[.int .i64 x47.water, .map (some b63)] 96 (0, 0))] ++ (G64)) := ⟨_, _, ⟨b63, G64, rfl, hO65, rfl⟩, rfl⟩
            have S205 : St _ _ _ [[(p50, .cells #[.int .i64 x47.water, .map (some b63)] 96 (0, 0))] ++ (G64), [(b191, .cells #[.bool x189.done, .string (bs x189.reply)] 93 (0, 0))], G52, [(b10, .cells #[.int .i64 a1.Address, .int .i64 a1.Instance] 34 (0, 0))], [(p0, .cells #[.int .i64 a0.config.Clients, .int .i64 a0.config.Entries, .int .i64 a0.config.Bytes, .int .i64 a0.config.Reserve, .map (some b5), .int .i64 a0.entries, .int .i64 a0.bytes] 89 (0, 0))]] := S203.objs (by simp)
            have S206 := (S205.front 2 rfl).front 1 rfl
            change St _ _ _ [[(p50, .cells #[.int .i64 x47.water, .map (some b63)] 96 (0, 0))] ++ (G64), G52, [(b191, .cells #[.bool x189.done, .string (bs x189.reply)] 93 (0, 0))], [(b10, .cells #[.int .i64 a1.Address, .int .i64 a1.Instance] 34 (0, 0))], [(p0, .cells #[.int .i64 a0.config.Clients, .int .i64 a0.config.Entries, .int .i64 a0.config.Bytes, .int .i64 a0.config.Reserve, .map (some b5), .int .i64 a0.entries, .int .i64 a0.bytes] 89 (0, 0))]] at S206
            obtain ⟨G207, hO208, S209⟩ := St.unfocus S206 hF54 hO204
            change St _ _ _ [G207, [(b191, .cells #[.bool x189.done, .string (bs x189.reply)] 93 (0, 0))], [(b10, .cells #[.int .i64 a1.Address, .int .i64 a1.Instance] 34 (0, 0))], [(p0, .cells #[.int .i64 a0.config.Clients, .int .i64 a0.config.Entries, .int .i64 a0.config.Bytes, .int .i64 a0.config.Reserve, .map (some b5), .int .i64 a0.entries, .int .i64 a0.bytes] 89 (0, 0))]] at S209
            have S210 := S209.front 3 rfl
            change St _ _ _ [[(p0, .cells #[.int .i64 a0.config.Clients, .int .i64 a0.config.Entries, .int .i64 a0.config.Bytes, .int .i64 a0.config.Reserve, .map (some b5), .int .i64 a0.entries, .int .i64 a0.bytes] 89 (0, 0))], G207, [(b191, .cells #[.bool x189.done, .string (bs x189.reply)] 93 (0, 0))], [(b10, .cells #[.int .i64 a1.Address, .int .i64 a1.Instance] 34 (0, 0))]] at S210
            have hO211 : ObjO 89 Cache.rp p0 (⟨a0.config, (mput a0.clients a1 x47), a0.entries, a0.bytes⟩ : Cache) ([(p0, .cells #[.int .i64 a0.config.Clients, .int .i64 a0.config.Entries, .int .i64 a0.config.Bytes, .int .i64 a0.config.Reserve, .map (some b5), .int .i64 a0.entries, .int .i64 a0.bytes] 89 (0, 0))] ++ (G207)) := ⟨_, _, ⟨b5, G207, rfl, hO208, rfl⟩, rfl⟩
            have S212 : St _ _ _ [[(p0, .cells #[.int .i64 a0.config.Clients, .int .i64 a0.config.Entries, .int .i64 a0.config.Bytes, .int .i64 a0.config.Reserve, .map (some b5), .int .i64 a0.entries, .int .i64 a0.bytes] 89 (0, 0))] ++ (G207), [(b191, .cells #[.bool x189.done, .string (bs x189.reply)] 93 (0, 0))], [(b10, .cells #[.int .i64 a1.Address, .int .i64 a1.Instance] 34 (0, 0))]] := S210.objs (by simp)
            exact ⟨[(p0, .cells #[.int .i64 a0.config.Clients, .int .i64 a0.config.Entries, .int .i64 a0.config.Bytes, .int .i64 a0.config.Reserve, .map (some b5), .int .i64 a0.entries, .int .i64 a0.bytes] 89 (0, 0))] ++ (G207), rfl, hO211, St.keep (As := [[(p0, .cells #[.int .i64 a0.config.Clients, .int .i64 a0.config.Entries, .int .i64 a0.config.Bytes, .int .i64 a0.config.Reserve, .map (some b5), .int .i64 a0.entries, .int .i64 a0.bytes] 89 (0, 0))] ++ (G207)]) S212⟩
           ·
            refine WCode.cond_f (kb (b := x189.done) rfl (Bool.eq_false_iff.2 h200)) ?_
            refine WCode.seq ?_
            refine WCode.region ?_
            refine WOps.p (G.move rfl) rfl ?_
            refine WOps.nil ?_
            refine WEx.then_ ?_
            refine WCode.cond_t rfl ?_
            refine WCode.seq ?_
            refine WCode.region ?_
            refine WOps.p (G.assign rfl) rfl ?_
            refine WOps.p (G.assign rfl) rfl ?_
            refine WOps.nil ?_
            refine WEx.then_ ?_
            refine WCode.forget (l' := [(8, .int .i64 2), (9, .string (bs ([] : List UInt8)))]) ⟨rfl, rfl, trivial⟩ ?_
            refine WCode.ret ?_
            refine WEx.then_ret ?_
            obtain rfl := some_eq hF
            refine WEx.ret2 rfl rfl rfl ?_
            have S213 := (S199.front 2 rfl).front 2 rfl
            change St _ _ _ [[(p50, .cells #[.int .i64 x47.water, .map (some b63)] 96 (0, 0))], G64, [(b191, .cells #[.bool x189.done, .string (bs x189.reply)] 93 (0, 0))], G52, [(b10, .cells #[.int .i64 a1.Address, .int .i64 a1.Instance] 34 (0, 0))], [(p0, .cells #[.int .i64 a0.config.Clients, .int .i64 a0.config.Entries, .int .i64 a0.config.Bytes, .int .i64 a0.config.Reserve, .map (some b5), .int .i64 a0.entries, .int .i64 a0.bytes] 89 (0, 0))]] at S213
            have hO214 : ObjO 96 Known.rp p50 x47 ([(p50, .cells #[.int .i64 x47.water, .map (some b63)] 96 (0, 0))] ++ (G64)) := ⟨_, _, ⟨b63, G64, rfl, hO65, rfl⟩, rfl⟩
            have S215 : St _ _ _ [[(p50, .cells #[.int .i64 x47.water, .map (some b63)] 96 (0, 0))] ++ (G64), [(b191, .cells #[.bool x189.done, .string (bs x189.reply)] 93 (0, 0))], G52, [(b10, .cells #[.int .i64 a1.Address, .int .i64 a1.Instance] 34 (0, 0))], [(p0, .cells #[.int .i64 a0.config.Clients, .int .i64 a0.config.Entries, .int .i64 a0.config.Bytes, .int .i64 a0.config.Reserve, .map (some b5), .int .i64 a0.entries, .int .i64 a0.bytes] 89 (0, 0))]] := S213.objs (by simp)
            have S216 := (S215.front 2 rfl).front 1 rfl
            change St _ _ _ [[(p50, .cells #[.int .i64 x47.water, .map (some b63)] 96 (0, 0))] ++ (G64), G52, [(b191, .cells #[.bool x189.done, .string (bs x189.reply)] 93 (0, 0))], [(b10, .cells #[.int .i64 a1.Address, .int .i64 a1.Instance] 34 (0, 0))], [(p0, .cells #[.int .i64 a0.config.Clients, .int .i64 a0.config.Entries, .int .i64 a0.config.Bytes, .int .i64 a0.config.Reserve, .map (some b5), .int .i64 a0.entries, .int .i64 a0.bytes] 89 (0, 0))]] at S216
            obtain ⟨G217, hO218, S219⟩ := St.unfocus S216 hF54 hO214
            change St _ _ _ [G217, [(b191, .cells #[.bool x189.done, .string (bs x189.reply)] 93 (0, 0))], [(b10, .cells #[.int .i64 a1.Address, .int .i64 a1.Instance] 34 (0, 0))], [(p0, .cells #[.int .i64 a0.config.Clients, .int .i64 a0.config.Entries, .int .i64 a0.config.Bytes, .int .i64 a0.config.Reserve, .map (some b5), .int .i64 a0.entries, .int .i64 a0.bytes] 89 (0, 0))]] at S219
            have S220 := S219.front 3 rfl
            change St _ _ _ [[(p0, .cells #[.int .i64 a0.config.Clients, .int .i64 a0.config.Entries, .int .i64 a0.config.Bytes, .int .i64 a0.config.Reserve, .map (some b5), .int .i64 a0.entries, .int .i64 a0.bytes] 89 (0, 0))], G217, [(b191, .cells #[.bool x189.done, .string (bs x189.reply)] 93 (0, 0))], [(b10, .cells #[.int .i64 a1.Address, .int .i64 a1.Instance] 34 (0, 0))]] at S220
            have hO221 : ObjO 89 Cache.rp p0 (⟨a0.config, (mput a0.clients a1 x47), a0.entries, a0.bytes⟩ : Cache) ([(p0, .cells #[.int .i64 a0.config.Clients, .int .i64 a0.config.Entries, .int .i64 a0.config.Bytes, .int .i64 a0.config.Reserve, .map (some b5), .int .i64 a0.entries, .int .i64 a0.bytes] 89 (0, 0))] ++ (G217)) := ⟨_, _, ⟨b5, G217, rfl, hO218, rfl⟩, rfl⟩
            have S222 : St _ _ _ [[(p0, .cells #[.int .i64 a0.config.Clients, .int .i64 a0.config.Entries, .int .i64 a0.config.Bytes, .int .i64 a0.config.Reserve, .map (some b5), .int .i64 a0.entries, .int .i64 a0.bytes] 89 (0, 0))] ++ (G217), [(b191, .cells #[.bool x189.done, .string (bs x189.reply)] 93 (0, 0))], [(b10, .cells #[.int .i64 a1.Address, .int .i64 a1.Instance] 34 (0, 0))]] := S220.objs (by simp)
            exact ⟨[(p0, .cells #[.int .i64 a0.config.Clients, .int .i64 a0.config.Entries, .int .i64 a0.config.Bytes, .int .i64 a0.config.Reserve, .map (some b5), .int .i64 a0.entries, .int .i64 a0.bytes] 89 (0, 0))] ++ (G217), rfl, hO221, St.keep (As := [[(p0, .cells #[.int .i64 a0.config.Clients, .int .i64 a0.config.Entries, .int .i64 a0.config.Bytes, .int .i64 a0.config.Reserve, .map (some b5), .int .i64 a0.entries, .int .i64 a0.bytes] 89 (0, 0))] ++ (G217)]) S222⟩
          ·
           have hn223 := Option.not_isSome_iff_eq_none.1 h188
           refine WOps.r (G.mapget0 T.key94 Try.underlying94 T.zero93 (MapO.rd hO65 (fun b o hb => S67.grp 1 rfl hb)) rfl rfl hn223) rfl ?_
           refine WOps.p (G.move rfl) rfl ?_
           refine WOps.p (G.extract rfl rfl) rfl ?_
           refine WOps.p (G.extract rfl rfl) rfl ?_
           obtain ⟨b224, w225, E226, S227, X228, L229⟩ := St.var S67 (z := .agg #[.bool false, .string (bs ([] : List UInt8))]) T.zero93
           change St _ _ _ [[(b224, .cells #[.bool false, .string (bs ([] : List UInt8))] 93 (0, 0))], [(p50, .cells #[.int .i64 x47.water, .map (some b63)] 96 (0, 0))], G64, G52, [(b10, .cells #[.int .i64 a1.Address, .int .i64 a1.Instance] 34 (0, 0))], [(p0, .cells #[.int .i64 a0.config.Clients, .int .i64 a0.config.Entries, .int .i64 a0.config.Bytes, .int .i64 a0.config.Reserve, .map (some b5), .int .i64 a0.entries, .int .i64 a0.bytes] 89 (0, 0))]] at S227
           refine WOps.e E226 rfl ?_
           obtain ⟨w230, E231, S232⟩ := St.store (P := Try.prog) S227 0 93 (.agg #[.bool false, .string (bs ([] : List UInt8))]) (off := 0) (cur' := #[.bool false, .string (bs ([] : List UInt8))]) rfl T.size93_2 rfl rfl rfl
           change St _ _ _ [[(b224, .cells #[.bool false, .string (bs ([] : List UInt8))] 93 (0, 0))], [(p50, .cells #[.int .i64 x47.water, .map (some b63)] 96 (0, 0))], G64, G52, [(b10, .cells #[.int .i64 a1.Address, .int .i64 a1.Instance] 34 (0, 0))], [(p0, .cells #[.int .i64 a0.config.Clients, .int .i64 a0.config.Entries, .int .i64 a0.config.Bytes, .int .i64 a0.config.Reserve, .map (some b5), .int .i64 a0.entries, .int .i64 a0.bytes] 89 (0, 0))]] at S232
           refine WOps.u (E231 rfl rfl) ?_
           refine WOps.p (G.assign rfl) rfl ?_
           refine WOps.nil ?_
           refine WEx.then_ ?_
           refine WCode.forget (l' := [(0, .pointer (some ⟨p0, 0, none⟩)), (2, .int .i64 a2), (3, .int .i64 x47.water), (5, .pointer (some ⟨b10, 0, none⟩)), (10, .pointer (some ⟨p50, 0, none⟩)), (11, .bool true), (12, .pointer (some ⟨b224, 0, none⟩)), (13, .bool false)]) ⟨rfl, rfl, rfl, rfl, rfl, rfl, rfl, rfl, trivial⟩ ?_
           refine WCode.seq ?_
           refine WCode.region ?_
           refine WOps.p (G.move rfl) rfl ?_
           refine WOps.p (G.move rfl) rfl ?_
           refine WOps.off rfl rfl rfl rfl ?_
           refine WOps.off rfl rfl rfl rfl ?_
           refine WOps.p (G.pick_f rfl rfl) rfl ?_
           refine WOps.nil ?_
           refine WEx.then_ ?_
           refine WCode.cond_f rfl ?_
           refine WCode.seq ?_
           refine WCode.region ?_
           refine WOps.p (G.move rfl) rfl ?_
           refine WOps.nil ?_
           refine WEx.then_ ?_
           refine WCode.cond_f rfl ?_
           refine WCode.skip ?_
           refine WEx.then_ ?_
           refine WCode.seq ?_
           refine WCode.seq ?_
           refine WCode.drawH (.one 0 0 (.one 1 0 (.one 2 0 (.one 4 0 (.one 5 0 (.one 6 0 (.one 7 0 (.one 10 0 (.one 11 0 (.one 12 0 (.one 13 0 (.one 3 1 (.one 8 1 (.one 9 0 (.one 14 1 (.one 15 0 (.one 16 0 (.one 17 0 (.one 18 0 (.one 19 0 (.one 20 0 (.one 21 0 (.one 24 0 (.one 25 0 (.one 26 0 (.one 27 0 (.one 22 1 (.one 28 1 (.one 23 2 (.one 29 0 (.one 30 0 (.one 31 0 (.one 32 0 (.one 33 0 (.one 34 0 (.one 35 0 (.one 36 0 (.one 37 0 (.one 38 0 (.one 41 0 (.one 42 0 (.one 43 0 (.one 44 0 (.one 39 1 (.one 45 1 (.one 40 2 (.one 46 0 (.one 47 0 (.one 48 0 .nil))))))))))))))))))))))))))))))))))))))))))))))))) (fun W_ => cellsAt W_ p0 0 [.int .i64 a0.config.Clients, .int .i64 a0.config.Entries, .int .i64 a0.config.Bytes, .int .i64 a0.config.Reserve, .map (some b5), .int .i64 a0.entries, .int .i64 a0.bytes] ∧ cellsAt W_ p50 0 [.int .i64 x47.water, .map (some b63)] ∧ True) T.mixed (by kernel_rfl) (by intro _ _ d _ _ h; cases d <;> exact h) rfl rfl (by kernel_rfl) ?_ ?_
           all_goals have S233 := S232.drew
           all_goals generalize w230.drew = w234 at *
           · exact ⟨cellsAt.of_blk (S233.blk 5 rfl) rfl, cellsAt.of_blk (S233.blk 1 rfl) rfl, trivial⟩
           refine WH.p rfl wants (G.move rfl) rfl ?_
           refine WH.p rfl wants (G.nilp rfl) rfl ?_
           refine WH.p rfl wants (G.field T.fld89_3 rfl (show 0 + 6 = 6 from rfl)) rfl ?_
           refine WH.p rfl wants (G.move rfl) rfl ?_
           refine WH.p rfl wants (G.nilp rfl) rfl ?_
           refine WH.p rfl wants (G.field T.fld89_0 rfl (show 0 + 0 = 0 from rfl)) rfl ?_
           refine WH.p rfl wants (G.field T.fld26_3 rfl (show 0 + 3 = 3 from rfl)) rfl ?_
           refine WH.p rfl wants (G.move rfl) rfl ?_
           refine WH.p rfl wants (G.nilp rfl) rfl ?_
           refine WH.p rfl wants (G.field T.fld89_0 rfl (show 0 + 0 = 0 from rfl)) rfl ?_
           refine WH.p rfl wants (G.field T.fld26_2 rfl (show 0 + 2 = 2 from rfl)) rfl ?_
           refine WH.r rfl wants (fun _ h_ => G.load1 T.one3 rfl (cellsAt.at h_.1 6 rfl)) rfl ?_
           refine WH.r rfl wants (fun _ h_ => G.load1 T.one3 rfl (cellsAt.at h_.1 3 rfl)) rfl ?_
           refine WH.p rfl wants (G.add rfl rfl (r := (w64 (a0.bytes + a0.config.Reserve))) rfl) rfl ?_
           refine WH.r rfl wants (fun _ h_ => G.load1 T.one3 rfl (cellsAt.at h_.1 2 rfl)) rfl ?_
           refine WH.p rfl wants (G.gtr rfl rfl rfl) rfl ?_
           refine WH.p rfl wants (G.move rfl) rfl ?_
           rcases ite_some hF with ⟨h235, hF⟩ | ⟨h235, hF⟩
           ·
            refine WH.off rfl rfl (kbl (b := decide (a0.config.Bytes < (w64 (a0.bytes + a0.config.Reserve)))) rfl (decide_eq_true h235)) rfl rfl rfl ?_
            refine WH.off rfl rfl (kbl (b := decide (a0.config.Bytes < (w64 (a0.bytes + a0.config.Reserve)))) rfl (decide_eq_true h235)) rfl rfl rfl ?_
            refine WH.off rfl rfl rfl rfl rfl rfl ?_
            refine WH.off rfl rfl rfl rfl rfl rfl ?_
            refine WH.off rfl rfl rfl rfl rfl rfl ?_
            refine WH.off rfl rfl rfl rfl rfl rfl ?_
            refine WH.off rfl rfl rfl rfl rfl rfl ?_
            refine WH.off rfl rfl rfl rfl rfl rfl ?_
            refine WH.off rfl rfl rfl rfl rfl rfl ?_
            refine WH.off rfl rfl rfl rfl rfl rfl ?_
            refine WH.off rfl rfl rfl rfl rfl rfl ?_
            refine WH.off2 rfl rfl rfl rfl rfl ⟨cellsAt.of_blk (S233.blk 5 rfl) rfl, cellsAt.of_blk (S233.blk 1 rfl) rfl, trivial⟩ ?_
            refine WH.off rfl rfl rfl rfl rfl rfl ?_
            refine WH.off rfl rfl (kbl (b := decide (a0.config.Bytes < (w64 (a0.bytes + a0.config.Reserve)))) rfl (decide_eq_true h235)) rfl rfl rfl ?_
            refine WH.p rfl wants (G.pick_t (kb (b := decide (a0.config.Bytes < (w64 (a0.bytes + a0.config.Reserve)))) rfl (decide_eq_true h235)) rfl) rfl ?_
            refine WH.p rfl wants (G.move rfl) rfl ?_
            refine WH.off rfl rfl rfl rfl rfl rfl ?_
            refine WH.off rfl rfl rfl rfl rfl rfl ?_
            refine WH.off rfl rfl rfl rfl rfl rfl ?_
            refine WH.off rfl rfl rfl rfl rfl rfl ?_
            refine WH.off rfl rfl rfl rfl rfl rfl ?_
            refine WH.off rfl rfl rfl rfl rfl rfl ?_
            refine WH.off rfl rfl rfl rfl rfl rfl ?_
            refine WH.off rfl rfl rfl rfl rfl rfl ?_
            refine WH.off rfl rfl rfl rfl rfl rfl ?_
            refine WH.off rfl rfl rfl rfl rfl rfl ?_
            refine WH.off rfl rfl rfl rfl rfl rfl ?_
            refine WH.off rfl rfl rfl rfl rfl rfl ?_
            refine WH.off2 rfl rfl rfl rfl rfl ⟨cellsAt.of_blk (S233.blk 5 rfl) rfl, cellsAt.of_blk (S233.blk 1 rfl) rfl, trivial⟩ ?_
            refine WH.off rfl rfl rfl rfl rfl rfl ?_
            refine WH.off rfl rfl rfl rfl rfl rfl ?_
            refine WH.p rfl wants (G.pick_t rfl rfl) rfl ?_
            refine WH.nil ?_
            refine WEx.then_ ?_
            refine WCode.forget (l' := [(0, .pointer (some ⟨p0, 0, none⟩)), (2, .int .i64 a2), (3, .int .i64 x47.water), (5, .pointer (some ⟨b10, 0, none⟩)), (10, .pointer (some ⟨p50, 0, none⟩)), (11, .bool true), (138, .bool true)]) ⟨rfl, rfl, rfl, rfl, rfl, rfl, rfl, trivial⟩ ?_
            refine WCode.cond_t rfl ?_
            refine WCode.seq ?_
            refine WCode.region ?_
            refine WOps.p (G.assign rfl) rfl ?_
            refine WOps.p (G.assign rfl) rfl ?_
            refine WOps.nil ?_
            refine WEx.then_ ?_
            refine WCode.ret ?_
            refine WEx.then_ret ?_
            obtain rfl := some_eq hF
            refine WEx.ret2 rfl rfl rfl ?_
            have S236 := (S233.front 2 rfl).front 2 rfl
            change St _ _ _ [[(p50, .cells #[.int .i64 x47.water, .map (some b63)] 96 (0, 0))], G64, [(b224, .cells #[.bool false, .string (bs ([] : List UInt8))] 93 (0, 0))], G52, [(b10, .cells #[.int .i64 a1.Address, .int .i64 a1.Instance] 34 (0, 0))], [(p0, .cells #[.int .i64 a0.config.Clients, .int .i64 a0.config.Entries, .int .i64 a0.config.Bytes, .int .i64 a0.config.Reserve, .map (some b5), .int .i64 a0.entries, .int .i64 a0.bytes] 89 (0, 0))]] at S236
            have hO237 : ObjO 96 Known.rp p50 x47 ([(p50, .cells #[.int .i64 x47.water, .map (some b63)] 96 (0, 0))] ++ (G64)) := ⟨_, _, ⟨b63, G64, rfl, hO65, rfl⟩, rfl⟩
            have S238 : St _ _ _ [[(p50, .cells #[.int .i64 x47.water, .map (some b63)] 96 (0, 0))] ++ (G64), [(b224, .cells #[.bool false, .string (bs ([] : List UInt8))] 93 (0, 0))], G52, [(b10, .cells #[.int .i64 a1.Address, .int .i64 a1.Instance] 34 (0, 0))], [(p0, .cells #[.int .i64 a0.config.Clients, .int .i64 a0.config.Entries, .int .i64 a0.config.Bytes, .int .i64 a0.config.Reserve, .map (some b5), .int .i64 a0.entries, .int .i64 a0.bytes] 89 (0, 0))]] := S236.objs (by simp)
            have S239 := (S238.front 2 rfl).front 1 rfl
            change St _ _ _ [[(p50, .cells #[.int .i64 x47.water, .map (some b63)] 96 (0, 0))] ++ (G64), G52, [(b224, .cells #[.bool false, .string (bs ([] : List UInt8))] 93 (0, 0))], [(b10, .cells #[.int .i64 a1.Address, .int .i64 a1.Instance] 34 (0, 0))], [(p0, .cells #[.int .i64 a0.config.Clients, .int .i64 a0.config.Entries, .int .i64 a0.config.Bytes, .int .i64 a0.config.Reserve, .map (some b5), .int .i64 a0.entries, .int .i64 a0.bytes] 89 (0, 0))]] at S239
            obtain ⟨G240, hO241, S242⟩ := St.unfocus S239 hF54 hO237
            change St _ _ _ [G240, [(b224, .cells #[.bool false, .string (bs ([] : List UInt8))] 93 (0, 0))], [(b10, .cells #[.int .i64 a1.Address, .int .i64 a1.Instance] 34 (0, 0))], [(p0, .cells #[.int .i64 a0.config.Clients, .int .i64 a0.config.Entries, .int .i64 a0.config.Bytes, .int .i64 a0.config.Reserve, .map (some b5), .int .i64 a0.entries, .int .i64 a0.bytes] 89 (0, 0))]] at S242
            have S243 := S242.front 3 rfl
            change St _ _ _ [[(p0, .cells #[.int .i64 a0.config.Clients, .int .i64 a0.config.Entries, .int .i64 a0.config.Bytes, .int .i64 a0.config.Reserve, .map (some b5), .int .i64 a0.entries, .int .i64 a0.bytes] 89 (0, 0))], G240, [(b224, .cells #[.bool false, .string (bs ([] : List UInt8))] 93 (0, 0))], [(b10, .cells #[.int .i64 a1.Address, .int .i64 a1.Instance] 34 (0, 0))]] at S243
            have hO244 : ObjO 89 Cache.rp p0 (⟨a0.config, (mput a0.clients a1 x47), a0.entries, a0.bytes⟩ : Cache) ([(p0, .cells #[.int .i64 a0.config.Clients, .int .i64 a0.config.Entries, .int .i64 a0.config.Bytes, .int .i64 a0.config.Reserve, .map (some b5), .int .i64 a0.entries, .int .i64 a0.bytes] 89 (0, 0))] ++ (G240)) := ⟨_, _, ⟨b5, G240, rfl, hO241, rfl⟩, rfl⟩
            have S245 : St _ _ _ [[(p0, .cells #[.int .i64 a0.config.Clients, .int .i64 a0.config.Entries, .int .i64 a0.config.Bytes, .int .i64 a0.config.Reserve, .map (some b5), .int .i64 a0.entries, .int .i64 a0.bytes] 89 (0, 0))] ++ (G240), [(b224, .cells #[.bool false, .string (bs ([] : List UInt8))] 93 (0, 0))], [(b10, .cells #[.int .i64 a1.Address, .int .i64 a1.Instance] 34 (0, 0))]] := S243.objs (by simp)
            exact ⟨[(p0, .cells #[.int .i64 a0.config.Clients, .int .i64 a0.config.Entries, .int .i64 a0.config.Bytes, .int .i64 a0.config.Reserve, .map (some b5), .int .i64 a0.entries, .int .i64 a0.bytes] 89 (0, 0))] ++ (G240), rfl, hO244, St.keep (As := [[(p0, .cells #[.int .i64 a0.config.Clients, .int .i64 a0.config.Entries, .int .i64 a0.config.Bytes, .int .i64 a0.config.Reserve, .map (some b5), .int .i64 a0.entries, .int .i64 a0.bytes] 89 (0, 0))] ++ (G240)]) S245⟩
           ·
            refine WH.p rfl (wants_on rfl (kbl (b := decide (a0.config.Bytes < (w64 (a0.bytes + a0.config.Reserve)))) rfl (decide_eq_false h235))) (G.move rfl) rfl ?_
            refine WH.p rfl (wants_on rfl (kbl (b := decide (a0.config.Bytes < (w64 (a0.bytes + a0.config.Reserve)))) rfl (decide_eq_false h235))) (G.move rfl) rfl ?_
            refine WH.p rfl (wants_on rfl rfl) (G.move rfl) rfl ?_
            refine WH.p rfl (wants_on rfl rfl) (G.nilp rfl) rfl ?_
            refine WH.p rfl (wants_on rfl rfl) (G.field T.fld96_1 rfl (show 0 + 1 = 1 from rfl)) rfl ?_
            refine WH.p rfl (wants_on rfl rfl) (G.move rfl) rfl ?_
            refine WH.p rfl (wants_on rfl rfl) (G.nilp rfl) rfl ?_
            refine WH.p rfl (wants_on rfl rfl) (G.field T.fld89_0 rfl (show 0 + 0 = 0 from rfl)) rfl ?_
            refine WH.p rfl (wants_on rfl rfl) (G.field T.fld26_1 rfl (show 0 + 1 = 1 from rfl)) rfl ?_
            refine WH.r rfl (wants_on rfl rfl) (fun _ h_ => G.load1 T.one94 rfl (cellsAt.at h_.2.1 1 rfl)) rfl ?_
            refine WH.r rfl (wants_on rfl rfl) (fun _ h_ => G.load1 T.one3 rfl (cellsAt.at h_.1 1 rfl)) rfl ?_
            refine WH.e rfl (wants_on rfl rfl) (GR.e (G.maplen Try.underlying94 (MapO.rd hO65 (fun b o hb => S233.grp 2 rfl hb)) rfl)) rfl ⟨cellsAt.of_blk (S233.blk 5 rfl) rfl, cellsAt.of_blk (S233.blk 1 rfl) rfl, trivial⟩ ?_
            refine WH.p rfl (wants_on rfl rfl) (G.geq rfl rfl rfl) rfl ?_
            refine WH.p rfl (wants_on rfl (kbl (b := decide (a0.config.Bytes < (w64 (a0.bytes + a0.config.Reserve)))) rfl (decide_eq_false h235))) (G.pick_t rfl rfl) rfl ?_
            refine WH.p rfl wants (G.pick_f (kb (b := decide (a0.config.Bytes < (w64 (a0.bytes + a0.config.Reserve)))) rfl (decide_eq_false h235)) rfl) rfl ?_
            refine WH.p rfl wants (G.move rfl) rfl ?_
            rcases ite_some hF with ⟨h246, hF⟩ | ⟨h246, hF⟩
            ·
             refine WH.off rfl rfl (kbl (b := decide (a0.config.Entries ≤ (x47.calls.length : Int))) rfl (decide_eq_true h246)) rfl rfl rfl ?_
             refine WH.off rfl rfl (kbl (b := decide (a0.config.Entries ≤ (x47.calls.length : Int))) rfl (decide_eq_true h246)) rfl rfl rfl ?_
             refine WH.off rfl rfl (kbl (b := decide (a0.config.Entries ≤ (x47.calls.length : Int))) rfl (decide_eq_true h246)) rfl rfl rfl ?_
             refine WH.off rfl rfl rfl rfl rfl rfl ?_
             refine WH.off rfl rfl rfl rfl rfl rfl ?_
             refine WH.off rfl rfl rfl rfl rfl rfl ?_
             refine WH.off rfl rfl rfl rfl rfl rfl ?_
             refine WH.off rfl rfl rfl rfl rfl rfl ?_
             refine WH.off rfl rfl rfl rfl rfl rfl ?_
             refine WH.off rfl rfl rfl rfl rfl rfl ?_
             refine WH.off rfl rfl rfl rfl rfl rfl ?_
             refine WH.off rfl rfl rfl rfl rfl rfl ?_
             refine WH.off2 rfl rfl rfl rfl rfl ⟨cellsAt.of_blk (S233.blk 5 rfl) rfl, cellsAt.of_blk (S233.blk 1 rfl) rfl, trivial⟩ ?_
             refine WH.off rfl rfl rfl rfl rfl rfl ?_
             refine WH.off rfl rfl (kbl (b := decide (a0.config.Entries ≤ (x47.calls.length : Int))) rfl (decide_eq_true h246)) rfl rfl rfl ?_
             refine WH.p rfl wants (G.pick_t (kb (b := decide (a0.config.Entries ≤ (x47.calls.length : Int))) rfl (decide_eq_true h246)) rfl) rfl ?_
             refine WH.nil ?_
             refine WEx.then_ ?_
             refine WCode.forget (l' := [(0, .pointer (some ⟨p0, 0, none⟩)), (2, .int .i64 a2), (3, .int .i64 x47.water), (5, .pointer (some ⟨b10, 0, none⟩)), (10, .pointer (some ⟨p50, 0, none⟩)), (11, .bool true), (138, .bool true)]) ⟨rfl, rfl, rfl, rfl, rfl, rfl, rfl, trivial⟩ ?_
             refine WCode.cond_t rfl ?_
             refine WCode.seq ?_
             refine WCode.region ?_
             refine WOps.p (G.assign rfl) rfl ?_
             refine WOps.p (G.assign rfl) rfl ?_
             refine WOps.nil ?_
             refine WEx.then_ ?_
             refine WCode.ret ?_
             refine WEx.then_ret ?_
             obtain rfl := some_eq hF
             refine WEx.ret2 rfl rfl rfl ?_
             have S247 := (S233.front 2 rfl).front 2 rfl
             change St _ _ _ [[(p50, .cells #[.int .i64 x47.water, .map (some b63)] 96 (0, 0))], G64, [(b224, .cells #[.bool false, .string (bs ([] : List UInt8))] 93 (0, 0))], G52, [(b10, .cells #[.int .i64 a1.Address, .int .i64 a1.Instance] 34 (0, 0))], [(p0, .cells #[.int .i64 a0.config.Clients, .int .i64 a0.config.Entries, .int .i64 a0.config.Bytes, .int .i64 a0.config.Reserve, .map (some b5), .int .i64 a0.entries, .int .i64 a0.bytes] 89 (0, 0))]] at S247
             have hO248 : ObjO 96 Known.rp p50 x47 ([(p50, .cells #[.int .i64 x47.water, .map (some b63)] 96 (0, 0))] ++ (G64)) := ⟨_, _, ⟨b63, G64, rfl, hO65, rfl⟩, rfl⟩
             have S249 : St _ _ _ [[(p50, .cells #[.int .i64 x47.water, .map (some b63)] 96 (0, 0))] ++ (G64), [(b224, .cells #[.bool false, .string (bs ([] : List UInt8))] 93 (0, 0))], G52, [(b10, .cells #[.int .i64 a1.Address, .int .i64 a1.Instance] 34 (0, 0))], [(p0, .cells #[.int .i64 a0.config.Clients, .int .i64 a0.config.Entries, .int .i64 a0.config.Bytes, .int .i64 a0.config.Reserve, .map (some b5), .int .i64 a0.entries, .int .i64 a0.bytes] 89 (0, 0))]] := S247.objs (by simp)
             have S250 := (S249.front 2 rfl).front 1 rfl
             change St _ _ _ [[(p50, .cells #[.int .i64 x47.water, .map (some b63)] 96 (0, 0))] ++ (G64), G52, [(b224, .cells #[.bool false, .string (bs ([] : List UInt8))] 93 (0, 0))], [(b10, .cells #[.int .i64 a1.Address, .int .i64 a1.Instance] 34 (0, 0))], [(p0, .cells #[.int .i64 a0.config.Clients, .int .i64 a0.config.Entries, .int .i64 a0.config.Bytes, .int .i64 a0.config.Reserve, .map (some b5), .int .i64 a0.entries, .int .i64 a0.bytes] 89 (0, 0))]] at S250
             obtain ⟨G251, hO252, S253⟩ := St.unfocus S250 hF54 hO248
             change St _ _ _ [G251, [(b224, .cells #[.bool false, .string (bs ([] : List UInt8))] 93 (0, 0))], [(b10, .cells #[.int .i64 a1.Address, .int .i64 a1.Instance] 34 (0, 0))], [(p0, .cells #[.int .i64 a0.config.Clients, .int .i64 a0.config.Entries, .int .i64 a0.config.Bytes, .int .i64 a0.config.Reserve, .map (some b5), .int .i64 a0.entries, .int .i64 a0.bytes] 89 (0, 0))]] at S253
             have S254 := S253.front 3 rfl
             change St _ _ _ [[(p0, .cells #[.int .i64 a0.config.Clients, .int .i64 a0.config.Entries, .int .i64 a0.config.Bytes, .int .i64 a0.config.Reserve, .map (some b5), .int .i64 a0.entries, .int .i64 a0.bytes] 89 (0, 0))], G251, [(b224, .cells #[.bool false, .string (bs ([] : List UInt8))] 93 (0, 0))], [(b10, .cells #[.int .i64 a1.Address, .int .i64 a1.Instance] 34 (0, 0))]] at S254
             have hO255 : ObjO 89 Cache.rp p0 (⟨a0.config, (mput a0.clients a1 x47), a0.entries, a0.bytes⟩ : Cache) ([(p0, .cells #[.int .i64 a0.config.Clients, .int .i64 a0.config.Entries, .int .i64 a0.config.Bytes, .int .i64 a0.config.Reserve, .map (some b5), .int .i64 a0.entries, .int .i64 a0.bytes] 89 (0, 0))] ++ (G251)) := ⟨_, _, ⟨b5, G251, rfl, hO252, rfl⟩, rfl⟩
             have S256 : St _ _ _ [[(p0, .cells #[.int .i64 a0.config.Clients, .int .i64 a0.config.Entries, .int .i64 a0.config.Bytes, .int .i64 a0.config.Reserve, .map (some b5), .int .i64 a0.entries, .int .i64 a0.bytes] 89 (0, 0))] ++ (G251), [(b224, .cells #[.bool false, .string (bs ([] : List UInt8))] 93 (0, 0))], [(b10, .cells #[.int .i64 a1.Address, .int .i64 a1.Instance] 34 (0, 0))]] := S254.objs (by simp)
             exact ⟨[(p0, .cells #[.int .i64 a0.config.Clients, .int .i64 a0.config.Entries, .int .i64 a0.config.Bytes, .int .i64 a0.config.Reserve, .map (some b5), .int .i64 a0.entries, .int .i64 a0.bytes] 89 (0, 0))] ++ (G251), rfl, hO255, St.keep (As := [[(p0, .cells #[.int .i64 a0.config.Clients, .int .i64 a0.config.Entries, .int .i64 a0.config.Bytes, .int .i64 a0.config.Reserve, .map (some b5), .int .i64 a0.entries, .int .i64 a0.bytes] 89 (0, 0))] ++ (G251)]) S256⟩
            ·
             refine WH.p rfl (wants_on rfl (kbl (b := decide (a0.config.Entries ≤ (x47.calls.length : Int))) rfl (decide_eq_false h246))) (G.move rfl) rfl ?_
             refine WH.p rfl (wants_on rfl (kbl (b := decide (a0.config.Entries ≤ (x47.calls.length : Int))) rfl (decide_eq_false h246))) (G.not rfl rfl) rfl ?_
             refine WH.p rfl (wants_on rfl (kbl (b := decide (a0.config.Entries ≤ (x47.calls.length : Int))) rfl (decide_eq_false h246))) (G.move rfl) rfl ?_
             refine WH.off rfl rfl rfl rfl rfl rfl ?_
             refine WH.off rfl rfl rfl rfl rfl rfl ?_
             refine WH.off rfl rfl rfl rfl rfl rfl ?_
             refine WH.off rfl rfl rfl rfl rfl rfl ?_
             refine WH.off rfl rfl rfl rfl rfl rfl ?_
             refine WH.off rfl rfl rfl rfl rfl rfl ?_
             refine WH.off rfl rfl rfl rfl rfl rfl ?_
             refine WH.off rfl rfl rfl rfl rfl rfl ?_
             refine WH.off rfl rfl rfl rfl rfl rfl ?_
             refine WH.off2 rfl rfl rfl rfl rfl ⟨cellsAt.of_blk (S233.blk 5 rfl) rfl, cellsAt.of_blk (S233.blk 1 rfl) rfl, trivial⟩ ?_
             refine WH.off rfl rfl rfl rfl rfl rfl ?_
             refine WH.p rfl (wants_on rfl (kbl (b := decide (a0.config.Entries ≤ (x47.calls.length : Int))) rfl (decide_eq_false h246))) (G.pick_f rfl rfl) rfl ?_
             refine WH.p rfl wants (G.pick_f (kb (b := decide (a0.config.Entries ≤ (x47.calls.length : Int))) rfl (decide_eq_false h246)) rfl) rfl ?_
             refine WH.nil ?_
             refine WEx.then_ ?_
             refine WCode.forget (l' := [(0, .pointer (some ⟨p0, 0, none⟩)), (2, .int .i64 a2), (3, .int .i64 x47.water), (5, .pointer (some ⟨b10, 0, none⟩)), (10, .pointer (some ⟨p50, 0, none⟩)), (11, .bool true), (138, .bool false)]) ⟨rfl, rfl, rfl, rfl, rfl, rfl, rfl, trivial⟩ ?_
             refine WCode.cond_f rfl ?_
             refine WCode.skip ?_
             refine WEx.then_ ?_
             refine WCode.seq ?_
             refine WCode.seq ?_
             refine WCode.region ?_
             refine WOps.p (G.move rfl) rfl ?_
             refine WOps.p (G.not rfl rfl) rfl ?_
             refine WOps.nil ?_
             refine WEx.then_ ?_
             refine WCode.cond_f rfl ?_
             refine WCode.skip ?_
             refine WEx.then_ ?_
             refine WCode.seq ?_
             refine WCode.region ?_
             refine WOps.p (G.move rfl) rfl ?_
             refine WOps.p (G.nilp rfl) rfl ?_
             refine WOps.p (G.field T.fld96_1 rfl (show 0 + 1 = 1 from rfl)) rfl ?_
             refine WOps.r (G.load1 T.one94 rfl (cell_blk (S233.blk 1 rfl) rfl)) rfl ?_
             refine WOps.p (G.move rfl) rfl ?_
             refine WOps.p (G.build (cells := #[.bool false, .string (bs ([] : List UInt8))]) (evp_spec (evp_nil)) (by kernel_rfl)) rfl ?_
             have S257 := S233.front 2 rfl
             change St _ _ _ [G64, [(b224, .cells #[.bool false, .string (bs ([] : List UInt8))] 93 (0, 0))], [(p50, .cells #[.int .i64 x47.water, .map (some b63)] 96 (0, 0))], G52, [(b10, .cells #[.int .i64 a1.Address, .int .i64 a1.Instance] 34 (0, 0))], [(p0, .cells #[.int .i64 a0.config.Clients, .int .i64 a0.config.Entries, .int .i64 a0.config.Bytes, .int .i64 a0.config.Reserve, .map (some b5), .int .i64 a0.entries, .int .i64 a0.bytes] 89 (0, 0))]] at S257
             obtain ⟨G258, w259, U260, hM261, S262⟩ := St.mapPut (P := Try.prog) S257 T.key94 Try.underlying94 hO65 a2 (⟨false, ([] : List UInt8)⟩ : Entry)
             change St _ _ _ [G258, [(b224, .cells #[.bool false, .string (bs ([] : List UInt8))] 93 (0, 0))], [(p50, .cells #[.int .i64 x47.water, .map (some b63)] 96 (0, 0))], G52, [(b10, .cells #[.int .i64 a1.Address, .int .i64 a1.Instance] 34 (0, 0))], [(p0, .cells #[.int .i64 a0.config.Clients, .int .i64 a0.config.Entries, .int .i64 a0.config.Bytes, .int .i64 a0.config.Reserve, .map (some b5), .int .i64 a0.entries, .int .i64 a0.bytes] 89 (0, 0))]] at S262
             refine WOps.u (U260 rfl rfl rfl) ?_
             refine WOps.nil ?_
             refine WEx.then_ ?_
             refine WCode.forget (l' := [(0, .pointer (some ⟨p0, 0, none⟩))]) ⟨rfl, trivial⟩ ?_
             refine WCode.seq ?_
             refine WCode.region ?_
             refine WOps.p (G.move rfl) rfl ?_
             refine WOps.p (G.nilp rfl) rfl ?_
             refine WOps.p (G.field T.fld89_2 rfl (show 0 + 5 = 5 from rfl)) rfl ?_
             refine WOps.r (G.load1 T.one3 rfl (cell_blk (S262.blk 5 rfl) rfl)) rfl ?_
             refine WOps.p (G.add rfl rfl (r := (w64 (a0.entries + 1))) rfl) rfl ?_
             refine WOps.p (G.nilp rfl) rfl ?_
             refine WOps.p (G.field T.fld89_2 rfl (show 0 + 5 = 5 from rfl)) rfl ?_
             obtain ⟨w263, E264, S265⟩ := St.store (P := Try.prog) S262 5 3 (.int .i64 (w64 (a0.entries + 1))) (off := 5) (cur' := #[.int .i64 a0.config.Clients, .int .i64 a0.config.Entries, .int .i64 a0.config.Bytes, .int .i64 a0.config.Reserve, .map (some b5), .int .i64 (w64 (a0.entries + 1)), .int .i64 a0.bytes]) rfl T.size3_1 rfl rfl rfl
             change St _ _ _ [G258, [(b224, .cells #[.bool false, .string (bs ([] : List UInt8))] 93 (0, 0))], [(p50, .cells #[.int .i64 x47.water, .map (some b63)] 96 (0, 0))], G52, [(b10, .cells #[.int .i64 a1.Address, .int .i64 a1.Instance] 34 (0, 0))], [(p0, .cells #[.int .i64 a0.config.Clients, .int .i64 a0.config.Entries, .int .i64 a0.config.Bytes, .int .i64 a0.config.Reserve, .map (some b5), .int .i64 (w64 (a0.entries + 1)), .int .i64 a0.bytes] 89 (0, 0))]] at S265
             refine WOps.u (E264 rfl rfl) ?_
             refine WOps.nil ?_
             refine WEx.then_ ?_
             refine WCode.seq ?_
             refine WCode.draw [⟨0, 0, []⟩, ⟨1, 0, []⟩, ⟨2, 0, []⟩, ⟨4, 0, []⟩, ⟨5, 0, []⟩, ⟨6, 0, []⟩, ⟨7, 0, []⟩, ⟨3, 1, [9, 10, 11, 12]⟩, ⟨8, 1, [9, 10, 11, 12]⟩, ⟨9, 0, []⟩, ⟨10, 0, []⟩, ⟨11, 0, []⟩, ⟨12, 2, []⟩] T.mixed (by kernel_rfl) (by intro _ _ d _ _ h; cases d <;> exact h) rfl (by kernel_rfl) ?_
             have S266 := S265.drew
             generalize w263.drew = w267 at *
             refine WD.p rfl (G.move rfl) rfl ?_
             refine WD.p rfl (G.nilp rfl) rfl ?_
             refine WD.p rfl (G.field T.fld89_3 rfl (show 0 + 6 = 6 from rfl)) rfl ?_
             refine WD.p rfl (G.move rfl) rfl ?_
             refine WD.p rfl (G.nilp rfl) rfl ?_
             refine WD.p rfl (G.field T.fld89_0 rfl (show 0 + 0 = 0 from rfl)) rfl ?_
             refine WD.p rfl (G.field T.fld26_3 rfl (show 0 + 3 = 3 from rfl)) rfl ?_
             refine WD.r rfl (G.load1 T.one3 rfl (cell_blk (S266.blk 5 rfl) rfl)) rfl ?_
             refine WD.r rfl (G.load1 T.one3 rfl (cell_blk (S266.blk 5 rfl) rfl)) rfl ?_
             refine WD.p rfl (G.add rfl rfl (r := (w64 (a0.bytes + a0.config.Reserve))) rfl) rfl ?_
             refine WD.p rfl (G.nilp rfl) rfl ?_
             refine WD.p rfl (G.field T.fld89_3 rfl (show 0 + 6 = 6 from rfl)) rfl ?_
             obtain ⟨w268, E269, S270⟩ := St.store (P := Try.prog) S266 5 3 (.int .i64 (w64 (a0.bytes + a0.config.Reserve))) (off := 6) (cur' := #[.int .i64 a0.config.Clients, .int .i64 a0.config.Entries, .int .i64 a0.config.Bytes, .int .i64 a0.config.Reserve, .map (some b5), .int .i64 (w64 (a0.entries + 1)), .int .i64 (w64 (a0.bytes + a0.config.Reserve))]) rfl T.size3_1 rfl rfl rfl
             change St _ _ _ [G258, [(b224, .cells #[.bool false, .string (bs ([] : List UInt8))] 93 (0, 0))], [(p50, .cells #[.int .i64 x47.water, .map (some b63)] 96 (0, 0))], G52, [(b10, .cells #[.int .i64 a1.Address, .int .i64 a1.Instance] 34 (0, 0))], [(p0, .cells #[.int .i64 a0.config.Clients, .int .i64 a0.config.Entries, .int .i64 a0.config.Bytes, .int .i64 a0.config.Reserve, .map (some b5), .int .i64 (w64 (a0.entries + 1)), .int .i64 (w64 (a0.bytes + a0.config.Reserve))] 89 (0, 0))]] at S270
             refine WD.u rfl (E269 rfl rfl) ?_
             refine WD.nil ?_
             refine WEx.then_ ?_
             refine WCode.forget (l' := []) trivial ?_
             refine WCode.seq ?_
             refine WCode.region ?_
             refine WOps.p (G.assign rfl) rfl ?_
             refine WOps.p (G.assign rfl) rfl ?_
             refine WOps.nil ?_
             refine WEx.then_ ?_
             refine WCode.ret ?_
             obtain rfl := some_eq hF
             refine WEx.ret2 rfl rfl rfl ?_
             have S271 := S270.front 2 rfl
             change St _ _ _ [[(p50, .cells #[.int .i64 x47.water, .map (some b63)] 96 (0, 0))], G258, [(b224, .cells #[.bool false, .string (bs ([] : List UInt8))] 93 (0, 0))], G52, [(b10, .cells #[.int .i64 a1.Address, .int .i64 a1.Instance] 34 (0, 0))], [(p0, .cells #[.int .i64 a0.config.Clients, .int .i64 a0.config.Entries, .int .i64 a0.config.Bytes, .int .i64 a0.config.Reserve, .map (some b5), .int .i64 (w64 (a0.entries + 1)), .int .i64 (w64 (a0.bytes + a0.config.Reserve))] 89 (0, 0))]] at S271
             have hO272 : ObjO 96 Known.rp p50 (⟨x47.water, (mput x47.calls a2 (⟨false, ([] : List UInt8)⟩ : Entry))⟩ : Known) ([(p50, .cells #[.int .i64 x47.water, .map (some b63)] 96 (0, 0))] ++ (G258)) := ⟨_, _, ⟨b63, G258, rfl, hM261, rfl⟩, rfl⟩
             have S273 : St _ _ _ [[(p50, .cells #[.int .i64 x47.water, .map (some b63)] 96 (0, 0))] ++ (G258), [(b224, .cells #[.bool false, .string (bs ([] : List UInt8))] 93 (0, 0))], G52, [(b10, .cells #[.int .i64 a1.Address, .int .i64 a1.Instance] 34 (0, 0))], [(p0, .cells #[.int .i64 a0.config.Clients, .int .i64 a0.config.Entries, .int .i64 a0.config.Bytes, .int .i64 a0.config.Reserve, .map (some b5), .int .i64 (w64 (a0.entries + 1)), .int .i64 (w64 (a0.bytes + a0.config.Reserve))] 89 (0, 0))]] := S271.objs (by simp)
             have S274 := (S273.front 2 rfl).front 1 rfl
             change St _ _ _ [[(p50, .cells #[.int .i64 x47.water, .map (some b63)] 96 (0, 0))] ++ (G258), G52, [(b224, .cells #[.bool false, .string (bs ([] : List UInt8))] 93 (0, 0))], [(b10, .cells #[.int .i64 a1.Address, .int .i64 a1.Instance] 34 (0, 0))], [(p0, .cells #[.int .i64 a0.config.Clients, .int .i64 a0.config.Entries, .int .i64 a0.config.Bytes, .int .i64 a0.config.Reserve, .map (some b5), .int .i64 (w64 (a0.entries + 1)), .int .i64 (w64 (a0.bytes + a0.config.Reserve))] 89 (0, 0))]] at S274
             obtain ⟨G275, hO276, S277⟩ := St.unfocus S274 hF54 hO272
             change St _ _ _ [G275, [(b224, .cells #[.bool false, .string (bs ([] : List UInt8))] 93 (0, 0))], [(b10, .cells #[.int .i64 a1.Address, .int .i64 a1.Instance] 34 (0, 0))], [(p0, .cells #[.int .i64 a0.config.Clients, .int .i64 a0.config.Entries, .int .i64 a0.config.Bytes, .int .i64 a0.config.Reserve, .map (some b5), .int .i64 (w64 (a0.entries + 1)), .int .i64 (w64 (a0.bytes + a0.config.Reserve))] 89 (0, 0))]] at S277
             have S278 := S277.front 3 rfl
             change St _ _ _ [[(p0, .cells #[.int .i64 a0.config.Clients, .int .i64 a0.config.Entries, .int .i64 a0.config.Bytes, .int .i64 a0.config.Reserve, .map (some b5), .int .i64 (w64 (a0.entries + 1)), .int .i64 (w64 (a0.bytes + a0.config.Reserve))] 89 (0, 0))], G275, [(b224, .cells #[.bool false, .string (bs ([] : List UInt8))] 93 (0, 0))], [(b10, .cells #[.int .i64 a1.Address, .int .i64 a1.Instance] 34 (0, 0))]] at S278
             have hO279 : ObjO 89 Cache.rp p0 (⟨a0.config, (mput a0.clients a1 (⟨x47.water, (mput x47.calls a2 (⟨false, ([] : List UInt8)⟩ : Entry))⟩ : Known)), w64 (a0.entries + 1), w64 (a0.bytes + a0.config.Reserve)⟩ : Cache) ([(p0, .cells #[.int .i64 a0.config.Clients, .int .i64 a0.config.Entries, .int .i64 a0.config.Bytes, .int .i64 a0.config.Reserve, .map (some b5), .int .i64 (w64 (a0.entries + 1)), .int .i64 (w64 (a0.bytes + a0.config.Reserve))] 89 (0, 0))] ++ (G275)) := ⟨_, _, ⟨b5, G275, rfl, hO276, rfl⟩, rfl⟩
             have S280 : St _ _ _ [[(p0, .cells #[.int .i64 a0.config.Clients, .int .i64 a0.config.Entries, .int .i64 a0.config.Bytes, .int .i64 a0.config.Reserve, .map (some b5), .int .i64 (w64 (a0.entries + 1)), .int .i64 (w64 (a0.bytes + a0.config.Reserve))] 89 (0, 0))] ++ (G275), [(b224, .cells #[.bool false, .string (bs ([] : List UInt8))] 93 (0, 0))], [(b10, .cells #[.int .i64 a1.Address, .int .i64 a1.Instance] 34 (0, 0))]] := S278.objs (by simp)
             exact ⟨[(p0, .cells #[.int .i64 a0.config.Clients, .int .i64 a0.config.Entries, .int .i64 a0.config.Bytes, .int .i64 a0.config.Reserve, .map (some b5), .int .i64 (w64 (a0.entries + 1)), .int .i64 (w64 (a0.bytes + a0.config.Reserve))] 89 (0, 0))] ++ (G275), rfl, hO279, St.keep (As := [[(p0, .cells #[.int .i64 a0.config.Clients, .int .i64 a0.config.Entries, .int .i64 a0.config.Bytes, .int .i64 a0.config.Reserve, .map (some b5), .int .i64 (w64 (a0.entries + 1)), .int .i64 (w64 (a0.bytes + a0.config.Reserve))] 89 (0, 0))] ++ (G275)]) S280⟩
       ·
        have hn281 := Option.not_isSome_iff_eq_none.1 h46
        obtain ⟨Y282, hM283, hl284, hm285⟩ := CliO.look (w := w45) hO7 (fun b o hb => S44.grp 2 rfl hb)
        refine WD.e rfl (GR.e (G.mapget0 T.key87 Try.underlying87 T.zero90 hM283 rfl rfl (hm285 _ hn281))) rfl ?_
        refine WD.p rfl (G.move rfl) rfl ?_
        refine WD.p rfl (G.extract rfl rfl) rfl ?_
        refine WD.p rfl (G.extract rfl rfl) rfl ?_
        refine WD.p rfl (G.assign rfl) rfl ?_
        refine WD.p rfl (G.assign rfl) rfl ?_
        refine WD.nil ?_
        refine WEx.then_ ?_
        refine WCode.forget (l' := [(0, .pointer (some ⟨p0, 0, none⟩)), (2, .int .i64 a2), (3, .int .i64 a3), (5, .pointer (some ⟨b10, 0, none⟩)), (10, .pointer none), (11, .bool false)]) ⟨rfl, rfl, rfl, rfl, rfl, rfl, trivial⟩ ?_
        refine WCode.seq ?_
        refine WCode.seq ?_
        refine WCode.region ?_
        refine WOps.p (G.move rfl) rfl ?_
        refine WOps.p (G.move rfl) rfl ?_
        refine WOps.off rfl rfl rfl rfl ?_
        refine WOps.off rfl rfl rfl rfl ?_
        refine WOps.off rfl rfl rfl rfl ?_
        refine WOps.off rfl rfl rfl rfl ?_
        refine WOps.off rfl rfl rfl rfl ?_
        refine WOps.off rfl rfl rfl rfl ?_
        refine WOps.p (G.pick_f rfl rfl) rfl ?_
        refine WOps.nil ?_
        refine WEx.then_ ?_
        refine WCode.cond_f rfl ?_
        refine WCode.skip ?_
        refine WEx.then_ ?_
        refine WCode.seq ?_
        refine WCode.seq ?_
        refine WCode.region ?_
        refine WOps.p (G.move rfl) rfl ?_
        refine WOps.nil ?_
        refine WEx.then_ ?_
        refine WCode.cond_f rfl ?_
        refine WCode.skip ?_
        refine WEx.then_ ?_
        refine WCode.forget (l' := [(0, .pointer (some ⟨p0, 0, none⟩)), (2, .int .i64 a2), (3, .int .i64 a3), (5, .pointer (some ⟨b10, 0, none⟩)), (10, .pointer none), (11, .bool false)]) ⟨rfl, rfl, rfl, rfl, rfl, rfl, trivial⟩ ?_
        refine WCode.seq ?_
        refine WCode.seq ?_
        refine WCode.region ?_
        refine WOps.p (G.move rfl) rfl ?_
        refine WOps.p (G.move rfl) rfl ?_
        refine WOps.p (G.lss rfl rfl rfl) rfl ?_
        refine WOps.nil ?_
        refine WEx.then_ ?_
        rcases ite_some hF with ⟨h286, hF⟩ | ⟨h286, hF⟩
        ·
         refine WCode.cond_t (kb (b := decide (a2 < a3)) rfl (decide_eq_true h286)) ?_
         refine WCode.seq ?_
         refine WCode.region ?_
         refine WOps.p (G.assign rfl) rfl ?_
         refine WOps.p (G.assign rfl) rfl ?_
         refine WOps.nil ?_
         refine WEx.then_ ?_
         refine WCode.ret ?_
         refine WEx.then_ret ?_
         obtain rfl := some_eq hF
         refine WEx.ret2 rfl rfl rfl ?_
         have S287 := (S44.front 2 rfl).front 2 rfl
         change St _ _ _ [[(p0, .cells #[.int .i64 a0.config.Clients, .int .i64 a0.config.Entries, .int .i64 a0.config.Bytes, .int .i64 a0.config.Reserve, .map (some b5), .int .i64 a0.entries, .int .i64 a0.bytes] 89 (0, 0))], G6, [(b10, .cells #[.int .i64 a1.Address, .int .i64 a1.Instance] 34 (0, 0))]] at S287
         have hO288 : ObjO 89 Cache.rp p0 a0 ([(p0, .cells #[.int .i64 a0.config.Clients, .int .i64 a0.config.Entries, .int .i64 a0.config.Bytes, .int .i64 a0.config.Reserve, .map (some b5), .int .i64 a0.entries, .int .i64 a0.bytes] 89 (0, 0))] ++ (G6)) := ⟨_, _, ⟨b5, G6, rfl, hO7, rfl⟩, rfl⟩
         have S289 : St _ _ _ [[(p0, .cells #[.int .i64 a0.config.Clients, .int .i64 a0.config.Entries, .int .i64 a0.config.Bytes, .int .i64 a0.config.Reserve, .map (some b5), .int .i64 a0.entries, .int .i64 a0.bytes] 89 (0, 0))] ++ (G6), [(b10, .cells #[.int .i64 a1.Address, .int .i64 a1.Instance] 34 (0, 0))]] := S287.objs (by simp)
         exact ⟨[(p0, .cells #[.int .i64 a0.config.Clients, .int .i64 a0.config.Entries, .int .i64 a0.config.Bytes, .int .i64 a0.config.Reserve, .map (some b5), .int .i64 a0.entries, .int .i64 a0.bytes] 89 (0, 0))] ++ (G6), rfl, hO288, St.keep (As := [[(p0, .cells #[.int .i64 a0.config.Clients, .int .i64 a0.config.Entries, .int .i64 a0.config.Bytes, .int .i64 a0.config.Reserve, .map (some b5), .int .i64 a0.entries, .int .i64 a0.bytes] 89 (0, 0))] ++ (G6)]) S289⟩
        ·
         refine WCode.cond_f (kb (b := decide (a2 < a3)) rfl (decide_eq_false h286)) ?_
         refine WCode.skip ?_
         refine WEx.then_ ?_
         refine WCode.seq ?_
         refine WCode.seq ?_
         refine WCode.region ?_
         refine WOps.p (G.move rfl) rfl ?_
         refine WOps.nil ?_
         refine WEx.then_ ?_
         refine WCode.cond_f rfl ?_
         refine WCode.skip ?_
         refine WEx.then_ ?_
         refine WCode.seq ?_
         refine WCode.seq ?_
         refine WCode.drawH (.one 0 0 (.one 1 0 (.one 2 0 (.one 4 0 (.one 5 0 (.one 6 0 (.one 7 0 (.one 10 0 (.one 11 0 (.one 12 0 (.one 13 0 (.one 3 1 (.one 8 1 (.one 9 0 (.one 14 1 (.one 15 0 (.one 16 0 (.one 17 0 (.one 18 0 (.one 19 0 (.one 20 0 (.one 21 0 (.one 24 0 (.one 25 0 (.one 26 0 (.one 27 0 (.one 22 1 (.one 28 1 (.one 23 2 (.one 29 0 (.one 30 0 (.one 31 0 (.one 32 0 (.one 33 0 (.one 34 0 (.one 35 0 (.one 36 0 (.one 37 0 (.one 38 0 (.one 41 0 (.one 42 0 (.one 43 0 (.one 44 0 (.one 39 1 (.one 45 1 (.one 40 2 (.one 46 0 (.one 47 0 (.one 48 0 .nil))))))))))))))))))))))))))))))))))))))))))))))))) (fun W_ => cellsAt W_ p0 0 [.int .i64 a0.config.Clients, .int .i64 a0.config.Entries, .int .i64 a0.config.Bytes, .int .i64 a0.config.Reserve, .map (some b5), .int .i64 a0.entries, .int .i64 a0.bytes] ∧ True) T.mixed (by kernel_rfl) (by intro _ _ d _ _ h; cases d <;> exact h) rfl rfl (by kernel_rfl) ?_ ?_
         all_goals have S290 := S44.drew
         all_goals generalize w45.drew = w291 at *
         · exact ⟨cellsAt.of_blk (S290.blk 1 rfl) rfl, trivial⟩
         refine WH.p rfl wants (G.move rfl) rfl ?_
         refine WH.p rfl wants (G.nilp rfl) rfl ?_
         refine WH.p rfl wants (G.field T.fld89_3 rfl (show 0 + 6 = 6 from rfl)) rfl ?_
         refine WH.p rfl wants (G.move rfl) rfl ?_
         refine WH.p rfl wants (G.nilp rfl) rfl ?_
         refine WH.p rfl wants (G.field T.fld89_0 rfl (show 0 + 0 = 0 from rfl)) rfl ?_
         refine WH.p rfl wants (G.field T.fld26_3 rfl (show 0 + 3 = 3 from rfl)) rfl ?_
         refine WH.p rfl wants (G.move rfl) rfl ?_
         refine WH.p rfl wants (G.nilp rfl) rfl ?_
         refine WH.p rfl wants (G.field T.fld89_0 rfl (show 0 + 0 = 0 from rfl)) rfl ?_
         refine WH.p rfl wants (G.field T.fld26_2 rfl (show 0 + 2 = 2 from rfl)) rfl ?_
         refine WH.r rfl wants (fun _ h_ => G.load1 T.one3 rfl (cellsAt.at h_.1 6 rfl)) rfl ?_
         refine WH.r rfl wants (fun _ h_ => G.load1 T.one3 rfl (cellsAt.at h_.1 3 rfl)) rfl ?_
         refine WH.p rfl wants (G.add rfl rfl (r := (w64 (a0.bytes + a0.config.Reserve))) rfl) rfl ?_
         refine WH.r rfl wants (fun _ h_ => G.load1 T.one3 rfl (cellsAt.at h_.1 2 rfl)) rfl ?_
         refine WH.p rfl wants (G.gtr rfl rfl rfl) rfl ?_
         refine WH.p rfl wants (G.move rfl) rfl ?_
         rcases ite_some hF with ⟨h292, hF⟩ | ⟨h292, hF⟩
         ·
          refine WH.off rfl rfl (kbl (b := decide (a0.config.Bytes < (w64 (a0.bytes + a0.config.Reserve)))) rfl (decide_eq_true h292)) rfl rfl rfl ?_
          refine WH.off rfl rfl (kbl (b := decide (a0.config.Bytes < (w64 (a0.bytes + a0.config.Reserve)))) rfl (decide_eq_true h292)) rfl rfl rfl ?_
          refine WH.off rfl rfl rfl rfl rfl rfl ?_
          refine WH.off rfl rfl rfl rfl rfl rfl ?_
          refine WH.off rfl rfl rfl rfl rfl rfl ?_
          refine WH.off rfl rfl rfl rfl rfl rfl ?_
          refine WH.off rfl rfl rfl rfl rfl rfl ?_
          refine WH.off rfl rfl rfl rfl rfl rfl ?_
          refine WH.off rfl rfl rfl rfl rfl rfl ?_
          refine WH.off rfl rfl rfl rfl rfl rfl ?_
          refine WH.off rfl rfl rfl rfl rfl rfl ?_
          refine WH.off2 rfl rfl rfl rfl rfl ⟨cellsAt.of_blk (S290.blk 1 rfl) rfl, trivial⟩ ?_
          refine WH.off rfl rfl rfl rfl rfl rfl ?_
          refine WH.off rfl rfl (kbl (b := decide (a0.config.Bytes < (w64 (a0.bytes + a0.config.Reserve)))) rfl (decide_eq_true h292)) rfl rfl rfl ?_
          refine WH.p rfl wants (G.pick_t (kb (b := decide (a0.config.Bytes < (w64 (a0.bytes + a0.config.Reserve)))) rfl (decide_eq_true h292)) rfl) rfl ?_
          refine WH.p rfl wants (G.move rfl) rfl ?_
          refine WH.off rfl rfl rfl rfl rfl rfl ?_
          refine WH.off rfl rfl rfl rfl rfl rfl ?_
          refine WH.off rfl rfl rfl rfl rfl rfl ?_
          refine WH.off rfl rfl rfl rfl rfl rfl ?_
          refine WH.off rfl rfl rfl rfl rfl rfl ?_
          refine WH.off rfl rfl rfl rfl rfl rfl ?_
          refine WH.off rfl rfl rfl rfl rfl rfl ?_
          refine WH.off rfl rfl rfl rfl rfl rfl ?_
          refine WH.off rfl rfl rfl rfl rfl rfl ?_
          refine WH.off rfl rfl rfl rfl rfl rfl ?_
          refine WH.off rfl rfl rfl rfl rfl rfl ?_
          refine WH.off rfl rfl rfl rfl rfl rfl ?_
          refine WH.off2 rfl rfl rfl rfl rfl ⟨cellsAt.of_blk (S290.blk 1 rfl) rfl, trivial⟩ ?_
          refine WH.off rfl rfl rfl rfl rfl rfl ?_
          refine WH.off rfl rfl rfl rfl rfl rfl ?_
          refine WH.p rfl wants (G.pick_t rfl rfl) rfl ?_
          refine WH.nil ?_
          refine WEx.then_ ?_
          refine WCode.forget (l' := [(0, .pointer (some ⟨p0, 0, none⟩)), (2, .int .i64 a2), (3, .int .i64 a3), (5, .pointer (some ⟨b10, 0, none⟩)), (10, .pointer none), (11, .bool false), (138, .bool true)]) ⟨rfl, rfl, rfl, rfl, rfl, rfl, rfl, trivial⟩ ?_
          refine WCode.cond_t rfl ?_
          refine WCode.seq ?_
          refine WCode.region ?_
          refine WOps.p (G.assign rfl) rfl ?_
          refine WOps.p (G.assign rfl) rfl ?_
          refine WOps.nil ?_
          refine WEx.then_ ?_
          refine WCode.ret ?_
          refine WEx.then_ret ?_
          obtain rfl := some_eq hF
          refine WEx.ret2 rfl rfl rfl ?_
          have S293 := (S290.front 2 rfl).front 2 rfl
          change St _ _ _ [[(p0, .cells #[.int .i64 a0.config.Clients, .int .i64 a0.config.Entries, .int .i64 a0.config.Bytes, .int .i64 a0.config.Reserve, .map (some b5), .int .i64 a0.entries, .int .i64 a0.bytes] 89 (0, 0))], G6, [(b10, .cells #[.int .i64 a1.Address, .int .i64 a1.Instance] 34 (0, 0))]] at S293
          have hO294 : ObjO 89 Cache.rp p0 a0 ([(p0, .cells #[.int .i64 a0.config.Clients, .int .i64 a0.config.Entries, .int .i64 a0.config.Bytes, .int .i64 a0.config.Reserve, .map (some b5), .int .i64 a0.entries, .int .i64 a0.bytes] 89 (0, 0))] ++ (G6)) := ⟨_, _, ⟨b5, G6, rfl, hO7, rfl⟩, rfl⟩
          have S295 : St _ _ _ [[(p0, .cells #[.int .i64 a0.config.Clients, .int .i64 a0.config.Entries, .int .i64 a0.config.Bytes, .int .i64 a0.config.Reserve, .map (some b5), .int .i64 a0.entries, .int .i64 a0.bytes] 89 (0, 0))] ++ (G6), [(b10, .cells #[.int .i64 a1.Address, .int .i64 a1.Instance] 34 (0, 0))]] := S293.objs (by simp)
          exact ⟨[(p0, .cells #[.int .i64 a0.config.Clients, .int .i64 a0.config.Entries, .int .i64 a0.config.Bytes, .int .i64 a0.config.Reserve, .map (some b5), .int .i64 a0.entries, .int .i64 a0.bytes] 89 (0, 0))] ++ (G6), rfl, hO294, St.keep (As := [[(p0, .cells #[.int .i64 a0.config.Clients, .int .i64 a0.config.Entries, .int .i64 a0.config.Bytes, .int .i64 a0.config.Reserve, .map (some b5), .int .i64 a0.entries, .int .i64 a0.bytes] 89 (0, 0))] ++ (G6)]) S295⟩
         ·
          refine WH.p rfl (wants_on rfl (kbl (b := decide (a0.config.Bytes < (w64 (a0.bytes + a0.config.Reserve)))) rfl (decide_eq_false h292))) (G.move rfl) rfl ?_
          refine WH.p rfl (wants_on rfl (kbl (b := decide (a0.config.Bytes < (w64 (a0.bytes + a0.config.Reserve)))) rfl (decide_eq_false h292))) (G.move rfl) rfl ?_
          refine WH.off rfl rfl rfl rfl rfl rfl ?_
          refine WH.off rfl rfl rfl rfl rfl rfl ?_
          refine WH.off rfl rfl rfl rfl rfl rfl ?_
          refine WH.off rfl rfl rfl rfl rfl rfl ?_
          refine WH.off rfl rfl rfl rfl rfl rfl ?_
          refine WH.off rfl rfl rfl rfl rfl rfl ?_
          refine WH.off rfl rfl rfl rfl rfl rfl ?_
          refine WH.off rfl rfl rfl rfl rfl rfl ?_
          refine WH.off rfl rfl rfl rfl rfl rfl ?_
          refine WH.off2 rfl rfl rfl rfl rfl ⟨cellsAt.of_blk (S290.blk 1 rfl) rfl, trivial⟩ ?_
          refine WH.off rfl rfl rfl rfl rfl rfl ?_
          refine WH.p rfl (wants_on rfl (kbl (b := decide (a0.config.Bytes < (w64 (a0.bytes + a0.config.Reserve)))) rfl (decide_eq_false h292))) (G.pick_f rfl rfl) rfl ?_
          refine WH.p rfl wants (G.pick_f (kb (b := decide (a0.config.Bytes < (w64 (a0.bytes + a0.config.Reserve)))) rfl (decide_eq_false h292)) rfl) rfl ?_
          refine WH.p rfl wants (G.move rfl) rfl ?_
          refine WH.p rfl (wants_on rfl rfl) (G.move rfl) rfl ?_
          refine WH.p rfl (wants_on rfl rfl) (G.not rfl rfl) rfl ?_
          refine WH.p rfl (wants_on rfl rfl) (G.move rfl) rfl ?_
          refine WH.p rfl (wants_on rfl rfl) (G.move rfl) rfl ?_
          refine WH.p rfl (wants_on rfl rfl) (G.nilp rfl) rfl ?_
          refine WH.p rfl (wants_on rfl rfl) (G.field T.fld89_1 rfl (show 0 + 4 = 4 from rfl)) rfl ?_
          refine WH.p rfl (wants_on rfl rfl) (G.move rfl) rfl ?_
          refine WH.p rfl (wants_on rfl rfl) (G.nilp rfl) rfl ?_
          refine WH.p rfl (wants_on rfl rfl) (G.field T.fld89_0 rfl (show 0 + 0 = 0 from rfl)) rfl ?_
          refine WH.p rfl (wants_on rfl rfl) (G.field T.fld26_0 rfl (show 0 + 0 = 0 from rfl)) rfl ?_
          refine WH.r rfl (wants_on rfl rfl) (fun _ h_ => G.load1 T.one87 rfl (cellsAt.at h_.1 4 rfl)) rfl ?_
          refine WH.r rfl (wants_on rfl rfl) (fun _ h_ => G.load1 T.one3 rfl (cellsAt.at h_.1 0 rfl)) rfl ?_
          obtain ⟨Y296, hM297, hl298, _⟩ := CliO.look (w := w291) hO7 (fun b o hb => S290.grp 2 rfl hb)
          refine WH.e rfl (wants_on rfl rfl) (GR.e (G.maplenN Try.underlying87 hM297 hl298 rfl)) rfl ⟨cellsAt.of_blk (S290.blk 1 rfl) rfl, trivial⟩ ?_
          refine WH.p rfl (wants_on rfl rfl) (G.geq rfl rfl rfl) rfl ?_
          refine WH.p rfl (wants_on rfl rfl) (G.pick_t rfl rfl) rfl ?_
          refine WH.p rfl wants (G.pick_f rfl rfl) rfl ?_
          refine WH.nil ?_
          refine WEx.then_ ?_
          refine WCode.forget (l' := [(0, .pointer (some ⟨p0, 0, none⟩)), (2, .int .i64 a2), (3, .int .i64 a3), (5, .pointer (some ⟨b10, 0, none⟩)), (10, .pointer none), (11, .bool false), (138, .bool (decide (a0.config.Clients ≤ (a0.clients.length : Int))))]) ⟨rfl, rfl, rfl, rfl, rfl, rfl, rfl, trivial⟩ ?_
          rcases ite_some hF with ⟨h299, hF⟩ | ⟨h299, hF⟩
          ·
           refine WCode.cond_t (kb (b := decide (a0.config.Clients ≤ (a0.clients.length : Int))) rfl (decide_eq_true h299)) ?_
           refine WCode.seq ?_
           refine WCode.region ?_
           refine WOps.p (G.assign rfl) rfl ?_
           refine WOps.p (G.assign rfl) rfl ?_
           refine WOps.nil ?_
           refine WEx.then_ ?_
           refine WCode.ret ?_
           refine WEx.then_ret ?_
           obtain rfl := some_eq hF
           refine WEx.ret2 rfl rfl rfl ?_
           have S300 := (S290.front 2 rfl).front 2 rfl
           change St _ _ _ [[(p0, .cells #[.int .i64 a0.config.Clients, .int .i64 a0.config.Entries, .int .i64 a0.config.Bytes, .int .i64 a0.config.Reserve, .map (some b5), .int .i64 a0.entries, .int .i64 a0.bytes] 89 (0, 0))], G6, [(b10, .cells #[.int .i64 a1.Address, .int .i64 a1.Instance] 34 (0, 0))]] at S300
           have hO301 : ObjO 89 Cache.rp p0 a0 ([(p0, .cells #[.int .i64 a0.config.Clients, .int .i64 a0.config.Entries, .int .i64 a0.config.Bytes, .int .i64 a0.config.Reserve, .map (some b5), .int .i64 a0.entries, .int .i64 a0.bytes] 89 (0, 0))] ++ (G6)) := ⟨_, _, ⟨b5, G6, rfl, hO7, rfl⟩, rfl⟩
           have S302 : St _ _ _ [[(p0, .cells #[.int .i64 a0.config.Clients, .int .i64 a0.config.Entries, .int .i64 a0.config.Bytes, .int .i64 a0.config.Reserve, .map (some b5), .int .i64 a0.entries, .int .i64 a0.bytes] 89 (0, 0))] ++ (G6), [(b10, .cells #[.int .i64 a1.Address, .int .i64 a1.Instance] 34 (0, 0))]] := S300.objs (by simp)
           exact ⟨[(p0, .cells #[.int .i64 a0.config.Clients, .int .i64 a0.config.Entries, .int .i64 a0.config.Bytes, .int .i64 a0.config.Reserve, .map (some b5), .int .i64 a0.entries, .int .i64 a0.bytes] 89 (0, 0))] ++ (G6), rfl, hO301, St.keep (As := [[(p0, .cells #[.int .i64 a0.config.Clients, .int .i64 a0.config.Entries, .int .i64 a0.config.Bytes, .int .i64 a0.config.Reserve, .map (some b5), .int .i64 a0.entries, .int .i64 a0.bytes] 89 (0, 0))] ++ (G6)]) S302⟩
          ·
           refine WCode.cond_f (kb (b := decide (a0.config.Clients ≤ (a0.clients.length : Int))) rfl (decide_eq_false h299)) ?_
           refine WCode.skip ?_
           refine WEx.then_ ?_
           refine WCode.seq ?_
           refine WCode.seq ?_
           refine WCode.region ?_
           refine WOps.p (G.move rfl) rfl ?_
           refine WOps.p (G.not rfl rfl) rfl ?_
           refine WOps.nil ?_
           refine WEx.then_ ?_
           refine WCode.cond_t rfl ?_
           refine WCode.seq ?_
           refine WCode.region ?_
           refine WOps.p (G.move rfl) rfl ?_
           obtain ⟨b303, G304, w305, E306, hM307, S308, X309⟩ := St.mapNew (P := Try.prog) (t := 94) S290 M94.k M94.v Try.underlying94
           change St _ _ _ [G304, [(b10, .cells #[.int .i64 a1.Address, .int .i64 a1.Instance] 34 (0, 0))], [(p0, .cells #[.int .i64 a0.config.Clients, .int .i64 a0.config.Entries, .int .i64 a0.config.Bytes, .int .i64 a0.config.Reserve, .map (some b5), .int .i64 a0.entries, .int .i64 a0.bytes] 89 (0, 0))], G6] at S308
           refine WOps.e E306 rfl ?_
           refine WOps.p (G.build (cells := #[.int .i64 a3, .map (some b303)]) (evp_spec (evp_cons rfl (evp_cons rfl evp_nil))) (by kernel_rfl)) rfl ?_
           obtain ⟨b310, w311, E312, S313, X314, L315⟩ := St.box S308 Try.prog 96 (.agg #[.int .i64 a3, .map (some b303)])
           change St _ _ _ [[(b310, .cells #[.int .i64 a3, .map (some b303)] 96 (0, 0))], G304, [(b10, .cells #[.int .i64 a1.Address, .int .i64 a1.Instance] 34 (0, 0))], [(p0, .cells #[.int .i64 a0.config.Clients, .int .i64 a0.config.Entries, .int .i64 a0.config.Bytes, .int .i64 a0.config.Reserve, .map (some b5), .int .i64 a0.entries, .int .i64 a0.bytes] 89 (0, 0))], G6] at S313
           refine WOps.e (E312 rfl) rfl ?_
           refine WOps.p (G.assign rfl) rfl ?_
           refine WOps.nil ?_
           refine WEx.then_ ?_
           refine WCode.draw [⟨0, 0, []⟩, ⟨1, 0, []⟩, ⟨2, 0, []⟩, ⟨5, 0, []⟩, ⟨3, 1, [6]⟩, ⟨4, 1, [6]⟩, ⟨6, 2, []⟩] T.mixed (by kernel_rfl) (by intro _ _ d _ _ h; cases d <;> exact h) rfl (by kernel_rfl) ?_
           have S316 := S313.drew
           generalize w311.drew = w317 at *
           refine WD.p rfl (G.move rfl) rfl ?_
           refine WD.p rfl (G.nilp rfl) rfl ?_
           refine WD.p rfl (G.field T.fld89_1 rfl (show 0 + 4 = 4 from rfl)) rfl ?_
           refine WD.p rfl (G.move rfl) rfl ?_
           refine WD.r rfl (G.load1 T.one87 rfl (cell_blk (S316.blk 3 rfl) rfl)) rfl ?_
           refine WD.r rfl (G.loada T.agg34_2 rfl (cs := [.int .i64 a1.Address, .int .i64 a1.Instance]) (cellsAt.of_blk (S316.blk 2 rfl) rfl)) rfl ?_
           have S318 := S316.front 4 rfl
           change St _ _ _ [G6, [(b310, .cells #[.int .i64 a3, .map (some b303)] 96 (0, 0))], G304, [(b10, .cells #[.int .i64 a1.Address, .int .i64 a1.Instance] 34 (0, 0))], [(p0, .cells #[.int .i64 a0.config.Clients, .int .i64 a0.config.Entries, .int .i64 a0.config.Bytes, .int .i64 a0.config.Reserve, .map (some b5), .int .i64 a0.entries, .int .i64 a0.bytes] 89 (0, 0))]] at S318
           obtain ⟨G319, w320, U321, hM322, S323⟩ := St.pushIn (P := Try.prog) S318 T.key87 Try.underlying87 hO7 hn281 b310
           change St _ _ _ [G319, [(b310, .cells #[.int .i64 a3, .map (some b303)] 96 (0, 0))], G304, [(b10, .cells #[.int .i64 a1.Address, .int .i64 a1.Instance] 34 (0, 0))], [(p0, .cells #[.int .i64 a0.config.Clients, .int .i64 a0.config.Entries, .int .i64 a0.config.Bytes, .int .i64 a0.config.Reserve, .map (some b5), .int .i64 a0.entries, .int .i64 a0.bytes] 89 (0, 0))]] at S323
           refine WD.u rfl (U321 rfl rfl rfl) ?_
           refine WD.nil ?_
           refine WEx.then_ ?_
           refine WCode.forget (l' := [(0, .pointer (some ⟨p0, 0, none⟩)), (2, .int .i64 a2), (10, .pointer (some ⟨b310, 0, none⟩))]) ⟨rfl, rfl, rfl, trivial⟩ ?_
           refine WCode.seq ?_
           refine WCode.region ?_
           refine WOps.p (G.move rfl) rfl ?_
           refine WOps.p (G.nilp rfl) rfl ?_
           refine WOps.p (G.field T.fld96_1 rfl (show 0 + 1 = 1 from rfl)) rfl ?_
           refine WOps.r (G.load1 T.one94 rfl (cell_blk (S323.blk 1 rfl) rfl)) rfl ?_
           refine WOps.p (G.move rfl) rfl ?_
           refine WOps.p (G.build (cells := #[.bool false, .string (bs ([] : List UInt8))]) (evp_spec (evp_nil)) (by kernel_rfl)) rfl ?_
           have S324 := S323.front 2 rfl
           change St _ _ _ [G304, G319, [(b310, .cells #[.int .i64 a3, .map (some b303)] 96 (0, 0))], [(b10, .cells #[.int .i64 a1.Address, .int .i64 a1.Instance] 34 (0, 0))], [(p0, .cells #[.int .i64 a0.config.Clients, .int .i64 a0.config.Entries, .int .i64 a0.config.Bytes, .int .i64 a0.config.Reserve, .map (some b5), .int .i64 a0.entries, .int .i64 a0.bytes] 89 (0, 0))]] at S324
           obtain ⟨G325, w326, U327, hM328, S329⟩ := St.mapPut (P := Try.prog) S324 T.key94 Try.underlying94 hM307 a2 (⟨false, ([] : List UInt8)⟩ : Entry)
           change St _ _ _ [G325, G319, [(b310, .cells #[.int .i64 a3, .map (some b303)] 96 (0, 0))], [(b10, .cells #[.int .i64 a1.Address, .int .i64 a1.Instance] 34 (0, 0))], [(p0, .cells #[.int .i64 a0.config.Clients, .int .i64 a0.config.Entries, .int .i64 a0.config.Bytes, .int .i64 a0.config.Reserve, .map (some b5), .int .i64 a0.entries, .int .i64 a0.bytes] 89 (0, 0))]] at S329
           refine WOps.u (U327 rfl rfl rfl) ?_
           refine WOps.nil ?_
           refine WEx.then_ ?_
           refine WCode.seq ?_
           refine WCode.region ?_
           refine WOps.p (G.move rfl) rfl ?_
           refine WOps.p (G.nilp rfl) rfl ?_
           refine WOps.p (G.field T.fld89_2 rfl (show 0 + 5 = 5 from rfl)) rfl ?_
           refine WOps.r (G.load1 T.one3 rfl (cell_blk (S329.blk 4 rfl) rfl)) rfl ?_
           refine WOps.p (G.add rfl rfl (r := (w64 (a0.entries + 1))) rfl) rfl ?_
           refine WOps.p (G.nilp rfl) rfl ?_
           refine WOps.p (G.field T.fld89_2 rfl (show 0 + 5 = 5 from rfl)) rfl ?_
           obtain ⟨w330, E331, S332⟩ := St.store (P := Try.prog) S329 4 3 (.int .i64 (w64 (a0.entries + 1))) (off := 5) (cur' := #[.int .i64 a0.config.Clients, .int .i64 a0.config.Entries, .int .i64 a0.config.Bytes, .int .i64 a0.config.Reserve, .map (some b5), .int .i64 (w64 (a0.entries + 1)), .int .i64 a0.bytes]) rfl T.size3_1 rfl rfl rfl
           change St _ _ _ [G325, G319, [(b310, .cells #[.int .i64 a3, .map (some b303)] 96 (0, 0))], [(b10, .cells #[.int .i64 a1.Address, .int .i64 a1.Instance] 34 (0, 0))], [(p0, .cells #[.int .i64 a0.config.Clients, .int .i64 a0.config.Entries, .int .i64 a0.config.Bytes, .int .i64 a0.config.Reserve, .map (some b5), .int .i64 (w64 (a0.entries + 1)), .int .i64 a0.bytes] 89 (0, 0))]] at S332
           refine WOps.u (E331 rfl rfl) ?_
           refine WOps.nil ?_
           refine WEx.then_ ?_
           refine WCode.forget (l' := [(0, .pointer (some ⟨p0, 0, none⟩))]) ⟨rfl, trivial⟩ ?_
           refine WCode.seq ?_
           refine WCode.draw [⟨0, 0, []⟩, ⟨1, 0, []⟩, ⟨2, 0, []⟩, ⟨4, 0, []⟩, ⟨5, 0, []⟩, ⟨6, 0, []⟩, ⟨7, 0, []⟩, ⟨3, 1, [9, 10, 11, 12]⟩, ⟨8, 1, [9, 10, 11, 12]⟩, ⟨9, 0, []⟩, ⟨10, 0, []⟩, ⟨11, 0, []⟩, ⟨12, 2, []⟩] T.mixed (by kernel_rfl) (by intro _ _ d _ _ h; cases d <;> exact h) rfl (by kernel_rfl) ?_
           have S333 := S332.drew
           generalize w330.drew = w334 at *
           refine WD.p rfl (G.move rfl) rfl ?_
           refine WD.p rfl (G.nilp rfl) rfl ?_
           refine WD.p rfl (G.field T.fld89_3 rfl (show 0 + 6 = 6 from rfl)) rfl ?_
           refine WD.p rfl (G.move rfl) rfl ?_
           refine WD.p rfl (G.nilp rfl) rfl ?_
           refine WD.p rfl (G.field T.fld89_0 rfl (show 0 + 0 = 0 from rfl)) rfl ?_
           refine WD.p rfl (G.field T.fld26_3 rfl (show 0 + 3 = 3 from rfl)) rfl ?_
           refine WD.r rfl (G.load1 T.one3 rfl (cell_blk (S333.blk 4 rfl) rfl)) rfl ?_
           refine WD.r rfl (G.load1 T.one3 rfl (cell_blk (S333.blk 4 rfl) rfl)) rfl ?_
           refine WD.p rfl (G.add rfl rfl (r := (w64 (a0.bytes + a0.config.Reserve))) rfl) rfl ?_
           refine WD.p rfl (G.nilp rfl) rfl ?_
           refine WD.p rfl (G.field T.fld89_3 rfl (show 0 + 6 = 6 from rfl)) rfl ?_
           obtain ⟨w335, E336, S337⟩ := St.store (P := Try.prog) S333 4 3 (.int .i64 (w64 (a0.bytes + a0.config.Reserve))) (off := 6) (cur' := #[.int .i64 a0.config.Clients, .int .i64 a0.config.Entries, .int .i64 a0.config.Bytes, .int .i64 a0.config.Reserve, .map (some b5), .int .i64 (w64 (a0.entries + 1)), .int .i64 (w64 (a0.bytes + a0.config.Reserve))]) rfl T.size3_1 rfl rfl rfl
           change St _ _ _ [G325, G319, [(b310, .cells #[.int .i64 a3, .map (some b303)] 96 (0, 0))], [(b10, .cells #[.int .i64 a1.Address, .int .i64 a1.Instance] 34 (0, 0))], [(p0, .cells #[.int .i64 a0.config.Clients, .int .i64 a0.config.Entries, .int .i64 a0.config.Bytes, .int .i64 a0.config.Reserve, .map (some b5), .int .i64 (w64 (a0.entries + 1)), .int .i64 (w64 (a0.bytes + a0.config.Reserve))] 89 (0, 0))]] at S337
           refine WD.u rfl (E336 rfl rfl) ?_
           refine WD.nil ?_
           refine WEx.then_ ?_
           refine WCode.forget (l' := []) trivial ?_
           refine WCode.seq ?_
           refine WCode.region ?_
           refine WOps.p (G.assign rfl) rfl ?_
           refine WOps.p (G.assign rfl) rfl ?_
           refine WOps.nil ?_
           refine WEx.then_ ?_
           refine WCode.ret ?_
           obtain rfl := some_eq hF
           refine WEx.ret2 rfl rfl rfl ?_
           have S338 := S337.front 2 rfl
           change St _ _ _ [[(b310, .cells #[.int .i64 a3, .map (some b303)] 96 (0, 0))], G325, G319, [(b10, .cells #[.int .i64 a1.Address, .int .i64 a1.Instance] 34 (0, 0))], [(p0, .cells #[.int .i64 a0.config.Clients, .int .i64 a0.config.Entries, .int .i64 a0.config.Bytes, .int .i64 a0.config.Reserve, .map (some b5), .int .i64 (w64 (a0.entries + 1)), .int .i64 (w64 (a0.bytes + a0.config.Reserve))] 89 (0, 0))]] at S338
           have hO339 : ObjO 96 Known.rp b310 (⟨a3, (mput ([] : List (Int × Entry)) a2 (⟨false, ([] : List UInt8)⟩ : Entry))⟩ : Known) ([(b310, .cells #[.int .i64 a3, .map (some b303)] 96 (0, 0))] ++ (G325)) := ⟨_, _, ⟨b303, G325, rfl, hM328, rfl⟩, rfl⟩
           have S340 : St _ _ _ [[(b310, .cells #[.int .i64 a3, .map (some b303)] 96 (0, 0))] ++ (G325), G319, [(b10, .cells #[.int .i64 a1.Address, .int .i64 a1.Instance] 34 (0, 0))], [(p0, .cells #[.int .i64 a0.config.Clients, .int .i64 a0.config.Entries, .int .i64 a0.config.Bytes, .int .i64 a0.config.Reserve, .map (some b5), .int .i64 (w64 (a0.entries + 1)), .int .i64 (w64 (a0.bytes + a0.config.Reserve))] 89 (0, 0))]] := S338.objs (by simp)
           obtain ⟨G341, hO342, S343⟩ := St.unfocus S340 hM322 hO339
           change St _ _ _ [G341, [(b10, .cells #[.int .i64 a1.Address, .int .i64 a1.Instance] 34 (0, 0))], [(p0, .cells #[.int .i64 a0.config.Clients, .int .i64 a0.config.Entries, .int .i64 a0.config.Bytes, .int .i64 a0.config.Reserve, .map (some b5), .int .i64 (w64 (a0.entries + 1)), .int .i64 (w64 (a0.bytes + a0.config.Reserve))] 89 (0, 0))]] at S343
           have S344 := S343.front 2 rfl
           change St _ _ _ [[(p0, .cells #[.int .i64 a0.config.Clients, .int .i64 a0.config.Entries, .int .i64 a0.config.Bytes, .int .i64 a0.config.Reserve, .map (some b5), .int .i64 (w64 (a0.entries + 1)), .int .i64 (w64 (a0.bytes + a0.config.Reserve))] 89 (0, 0))], G341, [(b10, .cells #[.int .i64 a1.Address, .int .i64 a1.Instance] 34 (0, 0))]] at S344
           have hO345 : ObjO 89 Cache.rp p0 (⟨a0.config, (mput a0.clients a1 (⟨a3, (mput ([] : List (Int × Entry)) a2 (⟨false, ([] : List UInt8)⟩ : Entry))⟩ : Known)), w64 (a0.entries + 1), w64 (a0.bytes + a0.config.Reserve)⟩ : Cache) ([(p0, .cells #[.int .i64 a0.config.Clients, .int .i64 a0.config.Entries, .int .i64 a0.config.Bytes, .int .i64 a0.config.Reserve, .map (some b5), .int .i64 (w64 (a0.entries + 1)), .int .i64 (w64 (a0.bytes + a0.config.Reserve))] 89 (0, 0))] ++ (G341)) := ⟨_, _, ⟨b5, G341, rfl, hO342, rfl⟩, rfl⟩
           have S346 : St _ _ _ [[(p0, .cells #[.int .i64 a0.config.Clients, .int .i64 a0.config.Entries, .int .i64 a0.config.Bytes, .int .i64 a0.config.Reserve, .map (some b5), .int .i64 (w64 (a0.entries + 1)), .int .i64 (w64 (a0.bytes + a0.config.Reserve))] 89 (0, 0))] ++ (G341), [(b10, .cells #[.int .i64 a1.Address, .int .i64 a1.Instance] 34 (0, 0))]] := S344.objs (by simp)
           exact ⟨[(p0, .cells #[.int .i64 a0.config.Clients, .int .i64 a0.config.Entries, .int .i64 a0.config.Bytes, .int .i64 a0.config.Reserve, .map (some b5), .int .i64 (w64 (a0.entries + 1)), .int .i64 (w64 (a0.bytes + a0.config.Reserve))] 89 (0, 0))] ++ (G341), rfl, hO345, St.keep (As := [[(p0, .cells #[.int .i64 a0.config.Clients, .int .i64 a0.config.Entries, .int .i64 a0.config.Bytes, .int .i64 a0.config.Reserve, .map (some b5), .int .i64 (w64 (a0.entries + 1)), .int .i64 (w64 (a0.bytes + a0.config.Reserve))] 89 (0, 0))] ++ (G341)]) S346⟩
      ·
       refine WCode.cond_t (kb (b := !t38) rfl (show (!t38) = true from by rw [(Bool.eq_false_iff.2 h43)]; rfl)) ?_
       refine WCode.seq ?_
       refine WCode.region ?_
       refine WOps.p (G.assign rfl) rfl ?_
       refine WOps.p (G.assign rfl) rfl ?_
       refine WOps.nil ?_
       refine WEx.then_ ?_
       refine WCode.ret ?_
       refine WEx.then_ret ?_
       obtain rfl := some_eq hF
       refine WEx.ret2 rfl rfl rfl ?_
       have S347 := (S42.front 2 rfl).front 2 rfl
       change St _ _ _ [[(p0, .cells #[.int .i64 a0.config.Clients, .int .i64 a0.config.Entries, .int .i64 a0.config.Bytes, .int .i64 a0.config.Reserve, .map (some b5), .int .i64 a0.entries, .int .i64 a0.bytes] 89 (0, 0))], G6, [(b10, .cells #[.int .i64 a1.Address, .int .i64 a1.Instance] 34 (0, 0))]] at S347
       have hO348 : ObjO 89 Cache.rp p0 a0 ([(p0, .cells #[.int .i64 a0.config.Clients, .int .i64 a0.config.Entries, .int .i64 a0.config.Bytes, .int .i64 a0.config.Reserve, .map (some b5), .int .i64 a0.entries, .int .i64 a0.bytes] 89 (0, 0))] ++ (G6)) := ⟨_, _, ⟨b5, G6, rfl, hO7, rfl⟩, rfl⟩
       have S349 : St _ _ _ [[(p0, .cells #[.int .i64 a0.config.Clients, .int .i64 a0.config.Entries, .int .i64 a0.config.Bytes, .int .i64 a0.config.Reserve, .map (some b5), .int .i64 a0.entries, .int .i64 a0.bytes] 89 (0, 0))] ++ (G6), [(b10, .cells #[.int .i64 a1.Address, .int .i64 a1.Instance] 34 (0, 0))]] := S347.objs (by simp)
       exact ⟨[(p0, .cells #[.int .i64 a0.config.Clients, .int .i64 a0.config.Entries, .int .i64 a0.config.Bytes, .int .i64 a0.config.Reserve, .map (some b5), .int .i64 a0.entries, .int .i64 a0.bytes] 89 (0, 0))] ++ (G6), rfl, hO348, St.keep (As := [[(p0, .cells #[.int .i64 a0.config.Clients, .int .i64 a0.config.Entries, .int .i64 a0.config.Bytes, .int .i64 a0.config.Reserve, .map (some b5), .int .i64 a0.entries, .int .i64 a0.bytes] 89 (0, 0))] ++ (G6)]) S349⟩
     ·
      refine WOps.off rfl (kbl (b := !t32) rfl (show (!t32) = true from by rw [(Bool.eq_false_iff.2 h37)]; rfl)) rfl rfl ?_
      refine WOps.off rfl (kbl (b := !t32) rfl (show (!t32) = true from by rw [(Bool.eq_false_iff.2 h37)]; rfl)) rfl rfl ?_
      refine WOps.off rfl (kbl (b := !t32) rfl (show (!t32) = true from by rw [(Bool.eq_false_iff.2 h37)]; rfl)) rfl rfl ?_
      refine WOps.p (G.pick_t (kb (b := !t32) rfl (show (!t32) = true from by rw [(Bool.eq_false_iff.2 h37)]; rfl)) rfl) rfl ?_
      refine WOps.nil ?_
      refine WEx.then_ ?_
      refine WCode.forget (l' := [(0, .pointer (some ⟨p0, 0, none⟩)), (2, .int .i64 a2), (3, .int .i64 a3), (5, .pointer (some ⟨b10, 0, none⟩)), (41, .bool true)]) ⟨rfl, rfl, rfl, rfl, rfl, trivial⟩ ?_
      refine WCode.cond_t rfl ?_
      refine WCode.seq ?_
      refine WCode.region ?_
      refine WOps.p (G.assign rfl) rfl ?_
      refine WOps.p (G.assign rfl) rfl ?_
      refine WOps.nil ?_
      refine WEx.then_ ?_
      refine WCode.ret ?_
      refine WEx.then_ret ?_
      obtain rfl := some_eq hF
      refine WEx.ret2 rfl rfl rfl ?_
      have S350 := (S36.front 2 rfl).front 2 rfl
      change St _ _ _ [[(p0, .cells #[.int .i64 a0.config.Clients, .int .i64 a0.config.Entries, .int .i64 a0.config.Bytes, .int .i64 a0.config.Reserve, .map (some b5), .int .i64 a0.entries, .int .i64 a0.bytes] 89 (0, 0))], G6, [(b10, .cells #[.int .i64 a1.Address, .int .i64 a1.Instance] 34 (0, 0))]] at S350
      have hO351 : ObjO 89 Cache.rp p0 a0 ([(p0, .cells #[.int .i64 a0.config.Clients, .int .i64 a0.config.Entries, .int .i64 a0.config.Bytes, .int .i64 a0.config.Reserve, .map (some b5), .int .i64 a0.entries, .int .i64 a0.bytes] 89 (0, 0))] ++ (G6)) := ⟨_, _, ⟨b5, G6, rfl, hO7, rfl⟩, rfl⟩
      have S352 : St _ _ _ [[(p0, .cells #[.int .i64 a0.config.Clients, .int .i64 a0.config.Entries, .int .i64 a0.config.Bytes, .int .i64 a0.config.Reserve, .map (some b5), .int .i64 a0.entries, .int .i64 a0.bytes] 89 (0, 0))] ++ (G6), [(b10, .cells #[.int .i64 a1.Address, .int .i64 a1.Instance] 34 (0, 0))]] := S350.objs (by simp)
      exact ⟨[(p0, .cells #[.int .i64 a0.config.Clients, .int .i64 a0.config.Entries, .int .i64 a0.config.Bytes, .int .i64 a0.config.Reserve, .map (some b5), .int .i64 a0.entries, .int .i64 a0.bytes] 89 (0, 0))] ++ (G6), rfl, hO351, St.keep (As := [[(p0, .cells #[.int .i64 a0.config.Clients, .int .i64 a0.config.Entries, .int .i64 a0.config.Bytes, .int .i64 a0.config.Reserve, .map (some b5), .int .i64 a0.entries, .int .i64 a0.bytes] 89 (0, 0))] ++ (G6)]) S352⟩

end Go.Proofs.Ytpdpfiaediadgaa
