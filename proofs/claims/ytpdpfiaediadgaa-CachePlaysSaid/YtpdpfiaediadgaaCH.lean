/- Functions and their walks (printed by auto.py over the engine). -/
import Derived.Test.YtpdpfiaediadgaaProg
import Derived.Test.YtpdpfiaediadgaaCB
namespace Go.Proofs.Ytpdpfiaediadgaa
open Go Go.Eng
set_option linter.unusedSimpArgs false
set_option linter.unusedVariables false

theorem T.call39 : Callable Try.prog 39 := Callable.mk Try.func39 (by kernel_rfl) (by kernel_rfl)
theorem T.call40 : Callable Try.prog 40 := Callable.mk Try.func40 (by kernel_rfl) (by kernel_rfl)
theorem T.call41 : Callable Try.prog 41 := Callable.mk Try.func41 (by kernel_rfl) (by kernel_rfl)
theorem T.call42 : Callable Try.prog 42 := Callable.mk Try.func42 (by kernel_rfl) (by kernel_rfl)
theorem T.call43 : Callable Try.prog 43 := Callable.mk Try.func43 (by kernel_rfl) (by kernel_rfl)
theorem T.call44 : Callable Try.prog 44 := Callable.mk Try.func44 (by kernel_rfl) (by kernel_rfl)
theorem T.call45 : Callable Try.prog 45 := Callable.mk Try.func45 (by kernel_rfl) (by kernel_rfl)
theorem T.fld60_0 : fldOff Try.prog 60 0 = some 0 := by kernel_rfl
theorem T.fld60_1 : fldOff Try.prog 60 1 = some 1 := by kernel_rfl
theorem T.one28 : isOneT Try.prog 28 = true := by kernel_rfl
theorem T.one56 : isOneT Try.prog 56 = true := by kernel_rfl



def ca_step.j2 (q106 : Nat) (t63 : Int × (List UInt8) × Cache) (t82 : Int × (List UInt8) × Cache104) (b103 : Bool) : Option (Bool × Cache × Cache104) := (some (b103, t63.2.2, t82.2.2))
def ca_step.j3 (q123 : Nat) (a0_0 : Cache) (a0_1 : Cache104) (a1 : OpC) (t37 : WhoC × Int × Int) (b120 : Bool) : Option (Bool × Cache × Cache104) := (if b120 = true then (Option.bind (ca_Done q123 a0_0 t37.1 t37.2.1 a1.Reply) fun t130 => (Option.bind (rc_Done q123 a0_1 t37.1 t37.2.1 a1.Reply) fun t149 => (some (decide (t130.1 = t149.1), t130.2, t149.2)))) else (if a1.What = 6 then (Option.bind (ca_Busy q123 a0_0 t37.1 t37.2.1) fun t180 => (Option.bind (rc_Busy q123 a0_1 t37.1 t37.2.1) fun t187 => (some ((t180 == t187), a0_0, a0_1)))) else (if a1.What = 7 then (Option.bind (ca_Water q123 a0_0 t37.1) fun t204 => (Option.bind (rc_Water q123 a0_1 t37.1) fun t211 => (some (decide (t204 = t211), a0_0, a0_1)))) else (Option.bind (ca_Clients q123 a0_0) fun t227 => (Option.bind (rc_Clients q123 a0_1) fun t234 => (if t227 = t234 then (Option.bind (ca_Entries q123 a0_0) fun t242 => (Option.bind (rc_Entries q123 a0_1) fun t249 => (if t242 = t249 then (Option.bind (ca_Bytes q123 a0_0) fun t257 => (Option.bind (rc_Bytes q123 a0_1) fun t264 => (some (decide (t257 = t264), a0_0, a0_1)))) else (some (false, a0_0, a0_1))))) else (some (false, a0_0, a0_1))))))))
def ca_step.j1 (q54 : Nat) (a0_0 : Cache) (a0_1 : Cache104) (a1 : OpC) (t37 : WhoC × Int × Int) (b51 : Bool) : Option (Bool × Cache × Cache104) := (if b51 = true then (Option.bind (ca_Ask q54 a0_0 t37.1 t37.2.1 t37.2.2) fun t63 => (Option.bind (rc_Ask q54 a0_1 t37.1 t37.2.1 t37.2.2) fun t82 => (if t63.1 = t82.1 then (ca_step.j2 q54 t63 t82 (decide (t63.2.1 = t82.2.1))) else (ca_step.j2 q54 t63 t82 false)))) else (if a1.What = 4 then (ca_step.j3 q54 a0_0 a0_1 a1 t37 true) else (ca_step.j3 q54 a0_0 a0_1 a1 t37 (decide (a1.What = 5)))))
def ca_step (k : Nat) (a0_0 : Cache) (a0_1 : Cache104) (a1 : OpC) : Option (Bool × Cache × Cache104) := (Option.bind (ca_names k a1) fun t37 => (if 0 ≤ a1.What then (ca_step.j1 k a0_0 a0_1 a1 t37 (decide (a1.What ≤ 3))) else (ca_step.j1 k a0_0 a0_1 a1 t37 false)))
set_option maxRecDepth 100000 in
set_option maxHeartbeats 1000000 in
theorem ca_step_calls (k : Nat) (a0_0 : Cache) {p0_0 : Nat} {G0_0 : Grp} (a0_1 : Cache104) {p0_1 : Nat} {G0_1 : Grp} (a1 : OpC) {w : World} (hO0_0 : ObjO 89 Cache.rp p0_0 a0_0 G0_0) (hO0_1 : ObjO 104 Cache104.rp p0_1 a0_1 G0_1) {r_ : Bool × Cache × Cache104} (h_ : ca_step k a0_0 a0_1 a1 = some r_) (hp_ : Hp w ([G0_0, G0_1]).flatten) :
    Calls Try.prog 24 [.agg #[.pointer (some ⟨p0_0, 0, none⟩), .pointer (some ⟨p0_1, 0, none⟩)], .agg #[.bool a1.Other, .bool a1.Raw, .int .i64 a1.What, .int .i64 a1.Who, .int .i64 a1.Sequence, .int .i64 a1.Water, .int .i64 a1.Whose.Address, .int .i64 a1.Whose.Instance, .string (bs a1.Reply)]].toArray w fun e w' => ∃ Go0_0' : Grp, ∃ Go0_1' : Grp, e = .returned (.bool r_.1) ∧ ObjO 89 Cache.rp p0_0 (r_.2.1) Go0_0' ∧ ObjO 104 Cache104.rp p0_1 (r_.2.2) Go0_1' ∧ St w (KS [G0_0, G0_1]) w' [Go0_0', Go0_1'] := by
 have hF := h_
 clear h_
 unfold ca_step at hF
 have S := St.initK [G0_0, G0_1] hp_
 obtain ⟨cs1, G2, ho3, hg4⟩ := hO0_0
 obtain ⟨b5, G6, rfl, hO7, hq8⟩ := ho3
 have S9 : St _ _ _ [[(p0_0, .cells #[.int .i64 a0_0.config.Clients, .int .i64 a0_0.config.Entries, .int .i64 a0_0.config.Bytes, .int .i64 a0_0.config.Reserve, .map (some b5), .int .i64 a0_0.entries, .int .i64 a0_0.bytes] 89 (0, 0))], G6, G0_1] := S.objs (by rw [hg4, hq8]; simp)
 have S10 := S9.front 2 rfl
 change St _ _ _ [G0_1, [(p0_0, .cells #[.int .i64 a0_0.config.Clients, .int .i64 a0_0.config.Entries, .int .i64 a0_0.config.Bytes, .int .i64 a0_0.config.Reserve, .map (some b5), .int .i64 a0_0.entries, .int .i64 a0_0.bytes] 89 (0, 0))], G6] at S10
 obtain ⟨cs11, G12, ho13, hg14⟩ := hO0_1
 obtain ⟨A15, c16, G17, A19, c20, G21, rfl, hO18, hO22, hq23⟩ := ho13
 have S24 : St _ _ _ [[(p0_1, .cells #[.int .i64 a0_1.C.Clients, .int .i64 a0_1.C.Entries, .int .i64 a0_1.C.Bytes, .int .i64 a0_1.C.Reserve, .slice A15 a0_1.L.length c16, .slice A19 a0_1.I.length c20] 104 (0, 0))], G17, G21, [(p0_0, .cells #[.int .i64 a0_0.config.Clients, .int .i64 a0_0.config.Entries, .int .i64 a0_0.config.Bytes, .int .i64 a0_0.config.Reserve, .map (some b5), .int .i64 a0_0.entries, .int .i64 a0_0.bytes] 89 (0, 0))], G6] := S10.objs (by rw [hg14, hq23]; simp)
 refine enter 132 [(0, .agg #[.pointer (some ⟨p0_0, 0, none⟩), .pointer (some ⟨p0_1, 0, none⟩)]), (1, .agg #[.bool a1.Other, .bool a1.Raw, .int .i64 a1.What, .int .i64 a1.Who, .int .i64 a1.Sequence, .int .i64 a1.Water, .int .i64 a1.Whose.Address, .int .i64 a1.Whose.Instance, .string (bs a1.Reply)])] Try.func24 rfl rfl rfl rfl ?_
 refine WCode.seq ?_
 refine WCode.region ?_
 obtain ⟨b25, w26, E27, S28, X29, L30⟩ := St.box S24 Try.prog 60 (.agg #[.pointer (some ⟨p0_0, 0, none⟩), .pointer (some ⟨p0_1, 0, none⟩)])
 change St _ _ _ [[(b25, .cells #[.pointer (some ⟨p0_0, 0, none⟩), .pointer (some ⟨p0_1, 0, none⟩)] 60 (0, 0))], [(p0_1, .cells #[.int .i64 a0_1.C.Clients, .int .i64 a0_1.C.Entries, .int .i64 a0_1.C.Bytes, .int .i64 a0_1.C.Reserve, .slice A15 a0_1.L.length c16, .slice A19 a0_1.I.length c20] 104 (0, 0))], G17, G21, [(p0_0, .cells #[.int .i64 a0_0.config.Clients, .int .i64 a0_0.config.Entries, .int .i64 a0_0.config.Bytes, .int .i64 a0_0.config.Reserve, .map (some b5), .int .i64 a0_0.entries, .int .i64 a0_0.bytes] 89 (0, 0))], G6] at S28
 refine WOps.e (E27 rfl) rfl ?_
 obtain ⟨b31, w32, E33, S34, X35, L36⟩ := St.box S28 Try.prog 36 (.agg #[.bool a1.Other, .bool a1.Raw, .int .i64 a1.What, .int .i64 a1.Who, .int .i64 a1.Sequence, .int .i64 a1.Water, .int .i64 a1.Whose.Address, .int .i64 a1.Whose.Instance, .string (bs a1.Reply)])
 change St _ _ _ [[(b31, .cells #[.bool a1.Other, .bool a1.Raw, .int .i64 a1.What, .int .i64 a1.Who, .int .i64 a1.Sequence, .int .i64 a1.Water, .int .i64 a1.Whose.Address, .int .i64 a1.Whose.Instance, .string (bs a1.Reply)] 36 (0, 0))], [(b25, .cells #[.pointer (some ⟨p0_0, 0, none⟩), .pointer (some ⟨p0_1, 0, none⟩)] 60 (0, 0))], [(p0_1, .cells #[.int .i64 a0_1.C.Clients, .int .i64 a0_1.C.Entries, .int .i64 a0_1.C.Bytes, .int .i64 a0_1.C.Reserve, .slice A15 a0_1.L.length c16, .slice A19 a0_1.I.length c20] 104 (0, 0))], G17, G21, [(p0_0, .cells #[.int .i64 a0_0.config.Clients, .int .i64 a0_0.config.Entries, .int .i64 a0_0.config.Bytes, .int .i64 a0_0.config.Reserve, .map (some b5), .int .i64 a0_0.entries, .int .i64 a0_0.bytes] 89 (0, 0))], G6] at S34
 refine WOps.e (E33 rfl) rfl ?_
 refine WOps.p (G.assign rfl) rfl ?_
 refine WOps.nil ?_
 refine WEx.then_ ?_
 refine WCode.seq ?_
 refine WCode.region ?_
 refine WOps.r (G.loada T.agg36_9 rfl (cs := [.bool a1.Other, .bool a1.Raw, .int .i64 a1.What, .int .i64 a1.Who, .int .i64 a1.Sequence, .int .i64 a1.Water, .int .i64 a1.Whose.Address, .int .i64 a1.Whose.Instance, .string (bs a1.Reply)]) (cellsAt.of_blk (S34.blk 0 rfl) rfl)) rfl ?_
 obtain ⟨t37, hc38, hF⟩ := bind_some hF
 refine WOps.call T.call14 (evs_cons rfl evs_nil) rfl ?_
 refine (ca_names_calls k a1 hc38).mono ?_
 rintro _ w39 ⟨rfl, T40⟩
 have S41 := St.callN (As := []) S34 T40
 change St _ _ _ [[(b31, .cells #[.bool a1.Other, .bool a1.Raw, .int .i64 a1.What, .int .i64 a1.Who, .int .i64 a1.Sequence, .int .i64 a1.Water, .int .i64 a1.Whose.Address, .int .i64 a1.Whose.Instance, .string (bs a1.Reply)] 36 (0, 0))], [(b25, .cells #[.pointer (some ⟨p0_0, 0, none⟩), .pointer (some ⟨p0_1, 0, none⟩)] 60 (0, 0))], [(p0_1, .cells #[.int .i64 a0_1.C.Clients, .int .i64 a0_1.C.Entries, .int .i64 a0_1.C.Bytes, .int .i64 a0_1.C.Reserve, .slice A15 a0_1.L.length c16, .slice A19 a0_1.I.length c20] 104 (0, 0))], G17, G21, [(p0_0, .cells #[.int .i64 a0_0.config.Clients, .int .i64 a0_0.config.Entries, .int .i64 a0_0.config.Bytes, .int .i64 a0_0.config.Reserve, .map (some b5), .int .i64 a0_0.entries, .int .i64 a0_0.bytes] 89 (0, 0))], G6] at S41
 refine ⟨_, rfl, ?_⟩
 refine WOps.p (G.move rfl) rfl ?_
 refine WOps.p (G.extract rfl rfl) rfl ?_
 refine WOps.p (G.extract rfl rfl) rfl ?_
 refine WOps.p (G.extract rfl rfl) rfl ?_
 obtain ⟨b42, w43, E44, S45, X46, L47⟩ := St.var S41 (z := .agg #[.int .i64 0, .int .i64 0]) T.zero34
 change St _ _ _ [[(b42, .cells #[.int .i64 0, .int .i64 0] 34 (0, 0))], [(b31, .cells #[.bool a1.Other, .bool a1.Raw, .int .i64 a1.What, .int .i64 a1.Who, .int .i64 a1.Sequence, .int .i64 a1.Water, .int .i64 a1.Whose.Address, .int .i64 a1.Whose.Instance, .string (bs a1.Reply)] 36 (0, 0))], [(b25, .cells #[.pointer (some ⟨p0_0, 0, none⟩), .pointer (some ⟨p0_1, 0, none⟩)] 60 (0, 0))], [(p0_1, .cells #[.int .i64 a0_1.C.Clients, .int .i64 a0_1.C.Entries, .int .i64 a0_1.C.Bytes, .int .i64 a0_1.C.Reserve, .slice A15 a0_1.L.length c16, .slice A19 a0_1.I.length c20] 104 (0, 0))], G17, G21, [(p0_0, .cells #[.int .i64 a0_0.config.Clients, .int .i64 a0_0.config.Entries, .int .i64 a0_0.config.Bytes, .int .i64 a0_0.config.Reserve, .map (some b5), .int .i64 a0_0.entries, .int .i64 a0_0.bytes] 89 (0, 0))], G6] at S45
 refine WOps.e E44 rfl ?_
 obtain ⟨w48, E49, S50⟩ := St.store (P := Try.prog) S45 0 34 (.agg #[.int .i64 t37.1.Address, .int .i64 t37.1.Instance]) (off := 0) (cur' := #[.int .i64 t37.1.Address, .int .i64 t37.1.Instance]) rfl T.size34_2 rfl rfl rfl
 change St _ _ _ [[(b42, .cells #[.int .i64 t37.1.Address, .int .i64 t37.1.Instance] 34 (0, 0))], [(b31, .cells #[.bool a1.Other, .bool a1.Raw, .int .i64 a1.What, .int .i64 a1.Who, .int .i64 a1.Sequence, .int .i64 a1.Water, .int .i64 a1.Whose.Address, .int .i64 a1.Whose.Instance, .string (bs a1.Reply)] 36 (0, 0))], [(b25, .cells #[.pointer (some ⟨p0_0, 0, none⟩), .pointer (some ⟨p0_1, 0, none⟩)] 60 (0, 0))], [(p0_1, .cells #[.int .i64 a0_1.C.Clients, .int .i64 a0_1.C.Entries, .int .i64 a0_1.C.Bytes, .int .i64 a0_1.C.Reserve, .slice A15 a0_1.L.length c16, .slice A19 a0_1.I.length c20] 104 (0, 0))], G17, G21, [(p0_0, .cells #[.int .i64 a0_0.config.Clients, .int .i64 a0_0.config.Entries, .int .i64 a0_0.config.Bytes, .int .i64 a0_0.config.Reserve, .map (some b5), .int .i64 a0_0.entries, .int .i64 a0_0.bytes] 89 (0, 0))], G6] at S50
 refine WOps.u (E49 rfl rfl) ?_
 refine WOps.p (G.assign rfl) rfl ?_
 refine WOps.p (G.assign rfl) rfl ?_
 refine WOps.nil ?_
 refine WEx.then_ ?_
 refine WCode.seq ?_
 refine WCode.block ?_
 refine WCode.cutseq (fun l_ w_ => ∃ q54 : Nat, ∃ b51 : Bool, l_ = [(2, .pointer (some ⟨b25, 0, none⟩)), (3, .pointer (some ⟨b31, 0, none⟩)), (5, .pointer (some ⟨b42, 0, none⟩)), (6, .int .i64 t37.2.1), (7, .int .i64 t37.2.2), (19, .bool b51)] ∧ ca_step.j1 q54 a0_0 a0_1 a1 t37 b51 = some r_ ∧ St w (KS [G0_0, G0_1]) w_ [[(b42, .cells #[.int .i64 t37.1.Address, .int .i64 t37.1.Instance] 34 (0, 0))], [(b31, .cells #[.bool a1.Other, .bool a1.Raw, .int .i64 a1.What, .int .i64 a1.Who, .int .i64 a1.Sequence, .int .i64 a1.Water, .int .i64 a1.Whose.Address, .int .i64 a1.Whose.Instance, .string (bs a1.Reply)] 36 (0, 0))], [(b25, .cells #[.pointer (some ⟨p0_0, 0, none⟩), .pointer (some ⟨p0_1, 0, none⟩)] 60 (0, 0))], [(p0_1, .cells #[.int .i64 a0_1.C.Clients, .int .i64 a0_1.C.Entries, .int .i64 a0_1.C.Bytes, .int .i64 a0_1.C.Reserve, .slice A15 a0_1.L.length c16, .slice A19 a0_1.I.length c20] 104 (0, 0))], [(p0_0, .cells #[.int .i64 a0_0.config.Clients, .int .i64 a0_0.config.Entries, .int .i64 a0_0.config.Bytes, .int .i64 a0_0.config.Reserve, .map (some b5), .int .i64 a0_0.entries, .int .i64 a0_0.bytes] 89 (0, 0))], G17, G21, G6]) ?_ ?_
 ·
  refine WCode.region ?_
  refine WOps.p (G.field T.fld36_2 rfl (show 0 + 2 = 2 from rfl)) rfl ?_
  refine WOps.r (G.load1 T.one3 rfl (cell_blk (S50.blk 1 rfl) rfl)) rfl ?_
  refine WOps.p (G.geq rfl rfl rfl) rfl ?_
  refine WOps.p (G.move rfl) rfl ?_
  rcases ite_some hF with ⟨h56, hF⟩ | ⟨h56, hF⟩
  ·
   refine WOps.on rfl (kbl (b := decide (0 ≤ a1.What)) rfl (decide_eq_true h56)) ?_
   refine WOps.p (G.field T.fld36_2 rfl (show 0 + 2 = 2 from rfl)) rfl ?_
   refine WOps.on rfl (kbl (b := decide (0 ≤ a1.What)) rfl (decide_eq_true h56)) ?_
   refine WOps.r (G.load1 T.one3 rfl (cell_blk (S50.blk 1 rfl) rfl)) rfl ?_
   refine WOps.on rfl (kbl (b := decide (0 ≤ a1.What)) rfl (decide_eq_true h56)) ?_
   refine WOps.p (G.leq rfl rfl rfl) rfl ?_
   refine WOps.p (G.pick_t (kb (b := decide (0 ≤ a1.What)) rfl (decide_eq_true h56)) rfl) rfl ?_
   refine WOps.p (G.assign rfl) rfl ?_
   refine WOps.nil ?_
   have S57 := (((((((S50.front 7 rfl).front 6 rfl).front 6 rfl).front 7 rfl).front 7 rfl).front 7 rfl).front 7 rfl).front 7 rfl
   change St _ _ _ [[(b42, .cells #[.int .i64 t37.1.Address, .int .i64 t37.1.Instance] 34 (0, 0))], [(b31, .cells #[.bool a1.Other, .bool a1.Raw, .int .i64 a1.What, .int .i64 a1.Who, .int .i64 a1.Sequence, .int .i64 a1.Water, .int .i64 a1.Whose.Address, .int .i64 a1.Whose.Instance, .string (bs a1.Reply)] 36 (0, 0))], [(b25, .cells #[.pointer (some ⟨p0_0, 0, none⟩), .pointer (some ⟨p0_1, 0, none⟩)] 60 (0, 0))], [(p0_1, .cells #[.int .i64 a0_1.C.Clients, .int .i64 a0_1.C.Entries, .int .i64 a0_1.C.Bytes, .int .i64 a0_1.C.Reserve, .slice A15 a0_1.L.length c16, .slice A19 a0_1.I.length c20] 104 (0, 0))], [(p0_0, .cells #[.int .i64 a0_0.config.Clients, .int .i64 a0_0.config.Entries, .int .i64 a0_0.config.Bytes, .int .i64 a0_0.config.Reserve, .map (some b5), .int .i64 a0_0.entries, .int .i64 a0_0.bytes] 89 (0, 0))], G17, G21, G6] at S57
   refine WEx.cutend _ ?_ ⟨k, decide (a1.What ≤ 3), rfl, hF, S57⟩
   exact ⟨rfl, rfl, rfl, rfl, rfl, rfl, trivial⟩
  ·
   refine WOps.off rfl (kbl (b := decide (0 ≤ a1.What)) rfl (decide_eq_false h56)) rfl rfl ?_
   refine WOps.off rfl (kbl (b := decide (0 ≤ a1.What)) rfl (decide_eq_false h56)) rfl rfl ?_
   refine WOps.off rfl (kbl (b := decide (0 ≤ a1.What)) rfl (decide_eq_false h56)) rfl rfl ?_
   refine WOps.p (G.pick_f (kb (b := decide (0 ≤ a1.What)) rfl (decide_eq_false h56)) rfl) rfl ?_
   refine WOps.p (G.assign rfl) rfl ?_
   refine WOps.nil ?_
   have S58 := (((((((S50.front 7 rfl).front 6 rfl).front 6 rfl).front 7 rfl).front 7 rfl).front 7 rfl).front 7 rfl).front 7 rfl
   change St _ _ _ [[(b42, .cells #[.int .i64 t37.1.Address, .int .i64 t37.1.Instance] 34 (0, 0))], [(b31, .cells #[.bool a1.Other, .bool a1.Raw, .int .i64 a1.What, .int .i64 a1.Who, .int .i64 a1.Sequence, .int .i64 a1.Water, .int .i64 a1.Whose.Address, .int .i64 a1.Whose.Instance, .string (bs a1.Reply)] 36 (0, 0))], [(b25, .cells #[.pointer (some ⟨p0_0, 0, none⟩), .pointer (some ⟨p0_1, 0, none⟩)] 60 (0, 0))], [(p0_1, .cells #[.int .i64 a0_1.C.Clients, .int .i64 a0_1.C.Entries, .int .i64 a0_1.C.Bytes, .int .i64 a0_1.C.Reserve, .slice A15 a0_1.L.length c16, .slice A19 a0_1.I.length c20] 104 (0, 0))], [(p0_0, .cells #[.int .i64 a0_0.config.Clients, .int .i64 a0_0.config.Entries, .int .i64 a0_0.config.Bytes, .int .i64 a0_0.config.Reserve, .map (some b5), .int .i64 a0_0.entries, .int .i64 a0_0.bytes] 89 (0, 0))], G17, G21, G6] at S58
   refine WEx.cutend _ ?_ ⟨k, false, rfl, hF, S58⟩
   exact ⟨rfl, rfl, rfl, rfl, rfl, rfl, trivial⟩
 ·
  rintro _ w52 ⟨q54, b51, rfl, hF, S53⟩
  unfold ca_step.j1 at hF
  rcases ite_some hF with ⟨h59, hF⟩ | ⟨h59, hF⟩
  ·
   refine WCode.cond_t (kb (b := b51) rfl h59) ?_
   refine WCode.seq ?_
   refine WCode.region ?_
   refine WOps.p (G.field T.fld60_0 rfl (show 0 + 0 = 0 from rfl)) rfl ?_
   refine WOps.r (G.load1 T.one28 rfl (cell_blk (S53.blk 2 rfl) rfl)) rfl ?_
   refine WOps.r (G.loada T.agg34_2 rfl (cs := [.int .i64 t37.1.Address, .int .i64 t37.1.Instance]) (cellsAt.of_blk (S53.blk 0 rfl) rfl)) rfl ?_
   refine WOps.p (G.move rfl) rfl ?_
   refine WOps.p (G.move rfl) rfl ?_
   have S60 := (S53.front 7 rfl).front 5 rfl
   change St _ _ _ [[(p0_0, .cells #[.int .i64 a0_0.config.Clients, .int .i64 a0_0.config.Entries, .int .i64 a0_0.config.Bytes, .int .i64 a0_0.config.Reserve, .map (some b5), .int .i64 a0_0.entries, .int .i64 a0_0.bytes] 89 (0, 0))], G6, [(b42, .cells #[.int .i64 t37.1.Address, .int .i64 t37.1.Instance] 34 (0, 0))], [(b31, .cells #[.bool a1.Other, .bool a1.Raw, .int .i64 a1.What, .int .i64 a1.Who, .int .i64 a1.Sequence, .int .i64 a1.Water, .int .i64 a1.Whose.Address, .int .i64 a1.Whose.Instance, .string (bs a1.Reply)] 36 (0, 0))], [(b25, .cells #[.pointer (some ⟨p0_0, 0, none⟩), .pointer (some ⟨p0_1, 0, none⟩)] 60 (0, 0))], [(p0_1, .cells #[.int .i64 a0_1.C.Clients, .int .i64 a0_1.C.Entries, .int .i64 a0_1.C.Bytes, .int .i64 a0_1.C.Reserve, .slice A15 a0_1.L.length c16, .slice A19 a0_1.I.length c20] 104 (0, 0))], G17, G21] at S60
   have hO61 : ObjO 89 Cache.rp p0_0 a0_0 ([(p0_0, .cells #[.int .i64 a0_0.config.Clients, .int .i64 a0_0.config.Entries, .int .i64 a0_0.config.Bytes, .int .i64 a0_0.config.Reserve, .map (some b5), .int .i64 a0_0.entries, .int .i64 a0_0.bytes] 89 (0, 0))] ++ (G6)) := ⟨_, _, ⟨b5, G6, rfl, hO7, rfl⟩, rfl⟩
   have S62 : St _ _ _ [[(p0_0, .cells #[.int .i64 a0_0.config.Clients, .int .i64 a0_0.config.Entries, .int .i64 a0_0.config.Bytes, .int .i64 a0_0.config.Reserve, .map (some b5), .int .i64 a0_0.entries, .int .i64 a0_0.bytes] 89 (0, 0))] ++ (G6), [(b42, .cells #[.int .i64 t37.1.Address, .int .i64 t37.1.Instance] 34 (0, 0))], [(b31, .cells #[.bool a1.Other, .bool a1.Raw, .int .i64 a1.What, .int .i64 a1.Who, .int .i64 a1.Sequence, .int .i64 a1.Water, .int .i64 a1.Whose.Address, .int .i64 a1.Whose.Instance, .string (bs a1.Reply)] 36 (0, 0))], [(b25, .cells #[.pointer (some ⟨p0_0, 0, none⟩), .pointer (some ⟨p0_1, 0, none⟩)] 60 (0, 0))], [(p0_1, .cells #[.int .i64 a0_1.C.Clients, .int .i64 a0_1.C.Entries, .int .i64 a0_1.C.Bytes, .int .i64 a0_1.C.Reserve, .slice A15 a0_1.L.length c16, .slice A19 a0_1.I.length c20] 104 (0, 0))], G17, G21] := S60.objs (by simp)
   obtain ⟨t63, hc64, hF⟩ := bind_some hF
   refine WOps.call T.call17 (evs_cons rfl (evs_cons rfl (evs_cons rfl (evs_cons rfl evs_nil)))) rfl ?_
   refine (ca_Ask_calls q54 a0_0 t37.1 t37.2.1 t37.2.2 hO61 hc64 (St.hpN (As := [[(p0_0, .cells #[.int .i64 a0_0.config.Clients, .int .i64 a0_0.config.Entries, .int .i64 a0_0.config.Bytes, .int .i64 a0_0.config.Reserve, .map (some b5), .int .i64 a0_0.entries, .int .i64 a0_0.bytes] 89 (0, 0))] ++ (G6)]) S62)).mono ?_
   rintro _ w65 ⟨G68, rfl, hO69, T66⟩
   have S67 := St.callN (As := [[(p0_0, .cells #[.int .i64 a0_0.config.Clients, .int .i64 a0_0.config.Entries, .int .i64 a0_0.config.Bytes, .int .i64 a0_0.config.Reserve, .map (some b5), .int .i64 a0_0.entries, .int .i64 a0_0.bytes] 89 (0, 0))] ++ (G6)]) S62 T66
   change St _ _ _ [G68, [(b42, .cells #[.int .i64 t37.1.Address, .int .i64 t37.1.Instance] 34 (0, 0))], [(b31, .cells #[.bool a1.Other, .bool a1.Raw, .int .i64 a1.What, .int .i64 a1.Who, .int .i64 a1.Sequence, .int .i64 a1.Water, .int .i64 a1.Whose.Address, .int .i64 a1.Whose.Instance, .string (bs a1.Reply)] 36 (0, 0))], [(b25, .cells #[.pointer (some ⟨p0_0, 0, none⟩), .pointer (some ⟨p0_1, 0, none⟩)] 60 (0, 0))], [(p0_1, .cells #[.int .i64 a0_1.C.Clients, .int .i64 a0_1.C.Entries, .int .i64 a0_1.C.Bytes, .int .i64 a0_1.C.Reserve, .slice A15 a0_1.L.length c16, .slice A19 a0_1.I.length c20] 104 (0, 0))], G17, G21] at S67
   refine ⟨_, rfl, ?_⟩
   obtain ⟨cs70, G71, ho72, hg73⟩ := hO69
   obtain ⟨b74, G75, rfl, hO76, hq77⟩ := ho72
   have S78 : St _ _ _ [[(p0_0, .cells #[.int .i64 t63.2.2.config.Clients, .int .i64 t63.2.2.config.Entries, .int .i64 t63.2.2.config.Bytes, .int .i64 t63.2.2.config.Reserve, .map (some b74), .int .i64 t63.2.2.entries, .int .i64 t63.2.2.bytes] 89 (0, 0))], G75, [(b42, .cells #[.int .i64 t37.1.Address, .int .i64 t37.1.Instance] 34 (0, 0))], [(b31, .cells #[.bool a1.Other, .bool a1.Raw, .int .i64 a1.What, .int .i64 a1.Who, .int .i64 a1.Sequence, .int .i64 a1.Water, .int .i64 a1.Whose.Address, .int .i64 a1.Whose.Instance, .string (bs a1.Reply)] 36 (0, 0))], [(b25, .cells #[.pointer (some ⟨p0_0, 0, none⟩), .pointer (some ⟨p0_1, 0, none⟩)] 60 (0, 0))], [(p0_1, .cells #[.int .i64 a0_1.C.Clients, .int .i64 a0_1.C.Entries, .int .i64 a0_1.C.Bytes, .int .i64 a0_1.C.Reserve, .slice A15 a0_1.L.length c16, .slice A19 a0_1.I.length c20] 104 (0, 0))], G17, G21] := S67.objs (by rw [hg73, hq77]; simp)
   refine WOps.p (G.move rfl) rfl ?_
   refine WOps.p (G.extract rfl rfl) rfl ?_
   refine WOps.p (G.extract rfl rfl) rfl ?_
   refine WOps.p (G.assign rfl) rfl ?_
   refine WOps.p (G.assign rfl) rfl ?_
   refine WOps.nil ?_
   refine WEx.then_ ?_
   refine WCode.forget (l' := [(2, .pointer (some ⟨b25, 0, none⟩)), (5, .pointer (some ⟨b42, 0, none⟩)), (6, .int .i64 t37.2.1), (7, .int .i64 t37.2.2), (8, .int .i64 t63.1), (9, .string (bs t63.2.1))]) ⟨rfl, rfl, rfl, rfl, rfl, rfl, trivial⟩ ?_
   refine WCode.seq ?_
   refine WCode.region ?_
   refine WOps.p (G.field T.fld60_1 rfl (show 0 + 1 = 1 from rfl)) rfl ?_
   refine WOps.r (G.load1 T.one56 rfl (cell_blk (S78.blk 4 rfl) rfl)) rfl ?_
   refine WOps.r (G.loada T.agg34_2 rfl (cs := [.int .i64 t37.1.Address, .int .i64 t37.1.Instance]) (cellsAt.of_blk (S78.blk 2 rfl) rfl)) rfl ?_
   refine WOps.p (G.move rfl) rfl ?_
   refine WOps.p (G.move rfl) rfl ?_
   have S79 := ((S78.front 7 rfl).front 7 rfl).front 7 rfl
   change St _ _ _ [[(p0_1, .cells #[.int .i64 a0_1.C.Clients, .int .i64 a0_1.C.Entries, .int .i64 a0_1.C.Bytes, .int .i64 a0_1.C.Reserve, .slice A15 a0_1.L.length c16, .slice A19 a0_1.I.length c20] 104 (0, 0))], G17, G21, [(p0_0, .cells #[.int .i64 t63.2.2.config.Clients, .int .i64 t63.2.2.config.Entries, .int .i64 t63.2.2.config.Bytes, .int .i64 t63.2.2.config.Reserve, .map (some b74), .int .i64 t63.2.2.entries, .int .i64 t63.2.2.bytes] 89 (0, 0))], G75, [(b42, .cells #[.int .i64 t37.1.Address, .int .i64 t37.1.Instance] 34 (0, 0))], [(b31, .cells #[.bool a1.Other, .bool a1.Raw, .int .i64 a1.What, .int .i64 a1.Who, .int .i64 a1.Sequence, .int .i64 a1.Water, .int .i64 a1.Whose.Address, .int .i64 a1.Whose.Instance, .string (bs a1.Reply)] 36 (0, 0))], [(b25, .cells #[.pointer (some ⟨p0_0, 0, none⟩), .pointer (some ⟨p0_1, 0, none⟩)] 60 (0, 0))]] at S79
   have hO80 : ObjO 104 Cache104.rp p0_1 a0_1 ([(p0_1, .cells #[.int .i64 a0_1.C.Clients, .int .i64 a0_1.C.Entries, .int .i64 a0_1.C.Bytes, .int .i64 a0_1.C.Reserve, .slice A15 a0_1.L.length c16, .slice A19 a0_1.I.length c20] 104 (0, 0))] ++ (G17 ++ (G21))) := ⟨_, _, ⟨A15, c16, G17, A19, c20, G21, rfl, hO18, hO22, rfl⟩, rfl⟩
   have S81 : St _ _ _ [[(p0_1, .cells #[.int .i64 a0_1.C.Clients, .int .i64 a0_1.C.Entries, .int .i64 a0_1.C.Bytes, .int .i64 a0_1.C.Reserve, .slice A15 a0_1.L.length c16, .slice A19 a0_1.I.length c20] 104 (0, 0))] ++ (G17 ++ (G21)), [(p0_0, .cells #[.int .i64 t63.2.2.config.Clients, .int .i64 t63.2.2.config.Entries, .int .i64 t63.2.2.config.Bytes, .int .i64 t63.2.2.config.Reserve, .map (some b74), .int .i64 t63.2.2.entries, .int .i64 t63.2.2.bytes] 89 (0, 0))], G75, [(b42, .cells #[.int .i64 t37.1.Address, .int .i64 t37.1.Instance] 34 (0, 0))], [(b31, .cells #[.bool a1.Other, .bool a1.Raw, .int .i64 a1.What, .int .i64 a1.Who, .int .i64 a1.Sequence, .int .i64 a1.Water, .int .i64 a1.Whose.Address, .int .i64 a1.Whose.Instance, .string (bs a1.Reply)] 36 (0, 0))], [(b25, .cells #[.pointer (some ⟨p0_0, 0, none⟩), .pointer (some ⟨p0_1, 0, none⟩)] 60 (0, 0))]] := S79.objs (by simp)
   obtain ⟨t82, hc83, hF⟩ := bind_some hF
   refine WOps.call T.call39 (evs_cons rfl (evs_cons rfl (evs_cons rfl (evs_cons rfl evs_nil)))) rfl ?_
   refine (rc_Ask_calls q54 a0_1 t37.1 t37.2.1 t37.2.2 hO80 hc83 (St.hpN (As := [[(p0_1, .cells #[.int .i64 a0_1.C.Clients, .int .i64 a0_1.C.Entries, .int .i64 a0_1.C.Bytes, .int .i64 a0_1.C.Reserve, .slice A15 a0_1.L.length c16, .slice A19 a0_1.I.length c20] 104 (0, 0))] ++ (G17 ++ (G21))]) S81)).mono ?_
   rintro _ w84 ⟨G87, rfl, hO88, T85⟩
   have S86 := St.callN (As := [[(p0_1, .cells #[.int .i64 a0_1.C.Clients, .int .i64 a0_1.C.Entries, .int .i64 a0_1.C.Bytes, .int .i64 a0_1.C.Reserve, .slice A15 a0_1.L.length c16, .slice A19 a0_1.I.length c20] 104 (0, 0))] ++ (G17 ++ (G21))]) S81 T85
   change St _ _ _ [G87, [(p0_0, .cells #[.int .i64 t63.2.2.config.Clients, .int .i64 t63.2.2.config.Entries, .int .i64 t63.2.2.config.Bytes, .int .i64 t63.2.2.config.Reserve, .map (some b74), .int .i64 t63.2.2.entries, .int .i64 t63.2.2.bytes] 89 (0, 0))], G75, [(b42, .cells #[.int .i64 t37.1.Address, .int .i64 t37.1.Instance] 34 (0, 0))], [(b31, .cells #[.bool a1.Other, .bool a1.Raw, .int .i64 a1.What, .int .i64 a1.Who, .int .i64 a1.Sequence, .int .i64 a1.Water, .int .i64 a1.Whose.Address, .int .i64 a1.Whose.Instance, .string (bs a1.Reply)] 36 (0, 0))], [(b25, .cells #[.pointer (some ⟨p0_0, 0, none⟩), .pointer (some ⟨p0_1, 0, none⟩)] 60 (0, 0))]] at S86
   refine ⟨_, rfl, ?_⟩
   obtain ⟨cs89, G90, ho91, hg92⟩ := hO88
   obtain ⟨A93, c94, G95, A97, c98, G99, rfl, hO96, hO100, hq101⟩ := ho91
   have S102 : St _ _ _ [[(p0_1, .cells #[.int .i64 t82.2.2.C.Clients, .int .i64 t82.2.2.C.Entries, .int .i64 t82.2.2.C.Bytes, .int .i64 t82.2.2.C.Reserve, .slice A93 t82.2.2.L.length c94, .slice A97 t82.2.2.I.length c98] 104 (0, 0))], G95, G99, [(p0_0, .cells #[.int .i64 t63.2.2.config.Clients, .int .i64 t63.2.2.config.Entries, .int .i64 t63.2.2.config.Bytes, .int .i64 t63.2.2.config.Reserve, .map (some b74), .int .i64 t63.2.2.entries, .int .i64 t63.2.2.bytes] 89 (0, 0))], G75, [(b42, .cells #[.int .i64 t37.1.Address, .int .i64 t37.1.Instance] 34 (0, 0))], [(b31, .cells #[.bool a1.Other, .bool a1.Raw, .int .i64 a1.What, .int .i64 a1.Who, .int .i64 a1.Sequence, .int .i64 a1.Water, .int .i64 a1.Whose.Address, .int .i64 a1.Whose.Instance, .string (bs a1.Reply)] 36 (0, 0))], [(b25, .cells #[.pointer (some ⟨p0_0, 0, none⟩), .pointer (some ⟨p0_1, 0, none⟩)] 60 (0, 0))]] := S86.objs (by rw [hg92, hq101]; simp)
   refine WOps.p (G.move rfl) rfl ?_
   refine WOps.p (G.extract rfl rfl) rfl ?_
   refine WOps.p (G.extract rfl rfl) rfl ?_
   refine WOps.p (G.assign rfl) rfl ?_
   refine WOps.p (G.assign rfl) rfl ?_
   refine WOps.nil ?_
   refine WEx.then_ ?_
   refine WCode.forget (l' := [(8, .int .i64 t63.1), (9, .string (bs t63.2.1)), (10, .int .i64 t82.1), (11, .string (bs t82.2.1))]) ⟨rfl, rfl, rfl, rfl, trivial⟩ ?_
   refine WCode.cutseq (fun l_ w_ => ∃ q106 : Nat, ∃ b103 : Bool, l_ = [(4, .bool b103)] ∧ ca_step.j2 q106 t63 t82 b103 = some r_ ∧ St w (KS [G0_0, G0_1]) w_ [[(p0_1, .cells #[.int .i64 t82.2.2.C.Clients, .int .i64 t82.2.2.C.Entries, .int .i64 t82.2.2.C.Bytes, .int .i64 t82.2.2.C.Reserve, .slice A93 t82.2.2.L.length c94, .slice A97 t82.2.2.I.length c98] 104 (0, 0))], [(p0_0, .cells #[.int .i64 t63.2.2.config.Clients, .int .i64 t63.2.2.config.Entries, .int .i64 t63.2.2.config.Bytes, .int .i64 t63.2.2.config.Reserve, .map (some b74), .int .i64 t63.2.2.entries, .int .i64 t63.2.2.bytes] 89 (0, 0))], G95, G99, G75]) ?_ ?_
   ·
    refine WCode.region ?_
    refine WOps.p (G.move rfl) rfl ?_
    refine WOps.p (G.move rfl) rfl ?_
    refine WOps.p (G.eql rfl rfl rfl) rfl ?_
    refine WOps.p (G.move rfl) rfl ?_
    rcases ite_some hF with ⟨h108, hF⟩ | ⟨h108, hF⟩
    ·
     refine WOps.on rfl (kbl (b := decide (t63.1 = t82.1)) rfl (decide_eq_true h108)) ?_
     refine WOps.p (G.move rfl) rfl ?_
     refine WOps.on rfl (kbl (b := decide (t63.1 = t82.1)) rfl (decide_eq_true h108)) ?_
     refine WOps.p (G.move rfl) rfl ?_
     refine WOps.on rfl (kbl (b := decide (t63.1 = t82.1)) rfl (decide_eq_true h108)) ?_
     refine WOps.p (G.eqlb' rfl rfl rfl) rfl ?_
     refine WOps.p (G.pick_t (kb (b := decide (t63.1 = t82.1)) rfl (decide_eq_true h108)) rfl) rfl ?_
     refine WOps.p (G.assign rfl) rfl ?_
     refine WOps.nil ?_
     have S109 := ((((S102.front 4 rfl).front 3 rfl).front 3 rfl).front 4 rfl).front 4 rfl
     change St _ _ _ [[(p0_1, .cells #[.int .i64 t82.2.2.C.Clients, .int .i64 t82.2.2.C.Entries, .int .i64 t82.2.2.C.Bytes, .int .i64 t82.2.2.C.Reserve, .slice A93 t82.2.2.L.length c94, .slice A97 t82.2.2.I.length c98] 104 (0, 0))], [(p0_0, .cells #[.int .i64 t63.2.2.config.Clients, .int .i64 t63.2.2.config.Entries, .int .i64 t63.2.2.config.Bytes, .int .i64 t63.2.2.config.Reserve, .map (some b74), .int .i64 t63.2.2.entries, .int .i64 t63.2.2.bytes] 89 (0, 0))], G95, G99, G75, [(b42, .cells #[.int .i64 t37.1.Address, .int .i64 t37.1.Instance] 34 (0, 0))], [(b31, .cells #[.bool a1.Other, .bool a1.Raw, .int .i64 a1.What, .int .i64 a1.Who, .int .i64 a1.Sequence, .int .i64 a1.Water, .int .i64 a1.Whose.Address, .int .i64 a1.Whose.Instance, .string (bs a1.Reply)] 36 (0, 0))], [(b25, .cells #[.pointer (some ⟨p0_0, 0, none⟩), .pointer (some ⟨p0_1, 0, none⟩)] 60 (0, 0))]] at S109
     have S110 := St.keep (As := [[(p0_1, .cells #[.int .i64 t82.2.2.C.Clients, .int .i64 t82.2.2.C.Entries, .int .i64 t82.2.2.C.Bytes, .int .i64 t82.2.2.C.Reserve, .slice A93 t82.2.2.L.length c94, .slice A97 t82.2.2.I.length c98] 104 (0, 0))], [(p0_0, .cells #[.int .i64 t63.2.2.config.Clients, .int .i64 t63.2.2.config.Entries, .int .i64 t63.2.2.config.Bytes, .int .i64 t63.2.2.config.Reserve, .map (some b74), .int .i64 t63.2.2.entries, .int .i64 t63.2.2.bytes] 89 (0, 0))], G95, G99, G75]) S109
     refine WEx.cutend _ ?_ ⟨q54, decide (t63.2.1 = t82.2.1), rfl, hF, S110⟩
     exact ⟨rfl, trivial⟩
    ·
     refine WOps.off rfl (kbl (b := decide (t63.1 = t82.1)) rfl (decide_eq_false h108)) rfl rfl ?_
     refine WOps.off rfl (kbl (b := decide (t63.1 = t82.1)) rfl (decide_eq_false h108)) rfl rfl ?_
     refine WOps.off rfl (kbl (b := decide (t63.1 = t82.1)) rfl (decide_eq_false h108)) rfl rfl ?_
     refine WOps.p (G.pick_f (kb (b := decide (t63.1 = t82.1)) rfl (decide_eq_false h108)) rfl) rfl ?_
     refine WOps.p (G.assign rfl) rfl ?_
     refine WOps.nil ?_
     have S111 := ((((S102.front 4 rfl).front 3 rfl).front 3 rfl).front 4 rfl).front 4 rfl
     change St _ _ _ [[(p0_1, .cells #[.int .i64 t82.2.2.C.Clients, .int .i64 t82.2.2.C.Entries, .int .i64 t82.2.2.C.Bytes, .int .i64 t82.2.2.C.Reserve, .slice A93 t82.2.2.L.length c94, .slice A97 t82.2.2.I.length c98] 104 (0, 0))], [(p0_0, .cells #[.int .i64 t63.2.2.config.Clients, .int .i64 t63.2.2.config.Entries, .int .i64 t63.2.2.config.Bytes, .int .i64 t63.2.2.config.Reserve, .map (some b74), .int .i64 t63.2.2.entries, .int .i64 t63.2.2.bytes] 89 (0, 0))], G95, G99, G75, [(b42, .cells #[.int .i64 t37.1.Address, .int .i64 t37.1.Instance] 34 (0, 0))], [(b31, .cells #[.bool a1.Other, .bool a1.Raw, .int .i64 a1.What, .int .i64 a1.Who, .int .i64 a1.Sequence, .int .i64 a1.Water, .int .i64 a1.Whose.Address, .int .i64 a1.Whose.Instance, .string (bs a1.Reply)] 36 (0, 0))], [(b25, .cells #[.pointer (some ⟨p0_0, 0, none⟩), .pointer (some ⟨p0_1, 0, none⟩)] 60 (0, 0))]] at S111
     have S112 := St.keep (As := [[(p0_1, .cells #[.int .i64 t82.2.2.C.Clients, .int .i64 t82.2.2.C.Entries, .int .i64 t82.2.2.C.Bytes, .int .i64 t82.2.2.C.Reserve, .slice A93 t82.2.2.L.length c94, .slice A97 t82.2.2.I.length c98] 104 (0, 0))], [(p0_0, .cells #[.int .i64 t63.2.2.config.Clients, .int .i64 t63.2.2.config.Entries, .int .i64 t63.2.2.config.Bytes, .int .i64 t63.2.2.config.Reserve, .map (some b74), .int .i64 t63.2.2.entries, .int .i64 t63.2.2.bytes] 89 (0, 0))], G95, G99, G75]) S111
     refine WEx.cutend _ ?_ ⟨q54, false, rfl, hF, S112⟩
     exact ⟨rfl, trivial⟩
   ·
    rintro _ w104 ⟨q106, b103, rfl, hF, S105⟩
    unfold ca_step.j2 at hF
    refine WCode.ret ?_
    refine WEx.in_ret ?_
    refine WEx.then_ret ?_
    obtain rfl := some_eq hF
    refine WEx.ret1 rfl rfl ?_
    have S113 := (S105.front 4 rfl).front 2 rfl
    change St _ _ _ [[(p0_0, .cells #[.int .i64 t63.2.2.config.Clients, .int .i64 t63.2.2.config.Entries, .int .i64 t63.2.2.config.Bytes, .int .i64 t63.2.2.config.Reserve, .map (some b74), .int .i64 t63.2.2.entries, .int .i64 t63.2.2.bytes] 89 (0, 0))], G75, [(p0_1, .cells #[.int .i64 t82.2.2.C.Clients, .int .i64 t82.2.2.C.Entries, .int .i64 t82.2.2.C.Bytes, .int .i64 t82.2.2.C.Reserve, .slice A93 t82.2.2.L.length c94, .slice A97 t82.2.2.I.length c98] 104 (0, 0))], G95, G99] at S113
    have hO114 : ObjO 89 Cache.rp p0_0 t63.2.2 ([(p0_0, .cells #[.int .i64 t63.2.2.config.Clients, .int .i64 t63.2.2.config.Entries, .int .i64 t63.2.2.config.Bytes, .int .i64 t63.2.2.config.Reserve, .map (some b74), .int .i64 t63.2.2.entries, .int .i64 t63.2.2.bytes] 89 (0, 0))] ++ (G75)) := ⟨_, _, ⟨b74, G75, rfl, hO76, rfl⟩, rfl⟩
    have S115 : St _ _ _ [[(p0_0, .cells #[.int .i64 t63.2.2.config.Clients, .int .i64 t63.2.2.config.Entries, .int .i64 t63.2.2.config.Bytes, .int .i64 t63.2.2.config.Reserve, .map (some b74), .int .i64 t63.2.2.entries, .int .i64 t63.2.2.bytes] 89 (0, 0))] ++ (G75), [(p0_1, .cells #[.int .i64 t82.2.2.C.Clients, .int .i64 t82.2.2.C.Entries, .int .i64 t82.2.2.C.Bytes, .int .i64 t82.2.2.C.Reserve, .slice A93 t82.2.2.L.length c94, .slice A97 t82.2.2.I.length c98] 104 (0, 0))], G95, G99] := S113.objs (by simp)
    have S116 := ((S115.front 3 rfl).front 3 rfl).front 3 rfl
    change St _ _ _ [[(p0_1, .cells #[.int .i64 t82.2.2.C.Clients, .int .i64 t82.2.2.C.Entries, .int .i64 t82.2.2.C.Bytes, .int .i64 t82.2.2.C.Reserve, .slice A93 t82.2.2.L.length c94, .slice A97 t82.2.2.I.length c98] 104 (0, 0))], G95, G99, [(p0_0, .cells #[.int .i64 t63.2.2.config.Clients, .int .i64 t63.2.2.config.Entries, .int .i64 t63.2.2.config.Bytes, .int .i64 t63.2.2.config.Reserve, .map (some b74), .int .i64 t63.2.2.entries, .int .i64 t63.2.2.bytes] 89 (0, 0))] ++ (G75)] at S116
    have hO117 : ObjO 104 Cache104.rp p0_1 t82.2.2 ([(p0_1, .cells #[.int .i64 t82.2.2.C.Clients, .int .i64 t82.2.2.C.Entries, .int .i64 t82.2.2.C.Bytes, .int .i64 t82.2.2.C.Reserve, .slice A93 t82.2.2.L.length c94, .slice A97 t82.2.2.I.length c98] 104 (0, 0))] ++ (G95 ++ (G99))) := ⟨_, _, ⟨A93, c94, G95, A97, c98, G99, rfl, hO96, hO100, rfl⟩, rfl⟩
    have S118 : St _ _ _ [[(p0_1, .cells #[.int .i64 t82.2.2.C.Clients, .int .i64 t82.2.2.C.Entries, .int .i64 t82.2.2.C.Bytes, .int .i64 t82.2.2.C.Reserve, .slice A93 t82.2.2.L.length c94, .slice A97 t82.2.2.I.length c98] 104 (0, 0))] ++ (G95 ++ (G99)), [(p0_0, .cells #[.int .i64 t63.2.2.config.Clients, .int .i64 t63.2.2.config.Entries, .int .i64 t63.2.2.config.Bytes, .int .i64 t63.2.2.config.Reserve, .map (some b74), .int .i64 t63.2.2.entries, .int .i64 t63.2.2.bytes] 89 (0, 0))] ++ (G75)] := S116.objs (by simp)
    have S119 := S118.front 1 rfl
    change St _ _ _ [[(p0_0, .cells #[.int .i64 t63.2.2.config.Clients, .int .i64 t63.2.2.config.Entries, .int .i64 t63.2.2.config.Bytes, .int .i64 t63.2.2.config.Reserve, .map (some b74), .int .i64 t63.2.2.entries, .int .i64 t63.2.2.bytes] 89 (0, 0))] ++ (G75), [(p0_1, .cells #[.int .i64 t82.2.2.C.Clients, .int .i64 t82.2.2.C.Entries, .int .i64 t82.2.2.C.Bytes, .int .i64 t82.2.2.C.Reserve, .slice A93 t82.2.2.L.length c94, .slice A97 t82.2.2.I.length c98] 104 (0, 0))] ++ (G95 ++ (G99))] at S119
    exact ⟨[(p0_0, .cells #[.int .i64 t63.2.2.config.Clients, .int .i64 t63.2.2.config.Entries, .int .i64 t63.2.2.config.Bytes, .int .i64 t63.2.2.config.Reserve, .map (some b74), .int .i64 t63.2.2.entries, .int .i64 t63.2.2.bytes] 89 (0, 0))] ++ (G75), [(p0_1, .cells #[.int .i64 t82.2.2.C.Clients, .int .i64 t82.2.2.C.Entries, .int .i64 t82.2.2.C.Bytes, .int .i64 t82.2.2.C.Reserve, .slice A93 t82.2.2.L.length c94, .slice A97 t82.2.2.I.length c98] 104 (0, 0))] ++ (G95 ++ (G99)), rfl, hO114, hO117, St.keep (As := [[(p0_0, .cells #[.int .i64 t63.2.2.config.Clients, .int .i64 t63.2.2.config.Entries, .int .i64 t63.2.2.config.Bytes, .int .i64 t63.2.2.config.Reserve, .map (some b74), .int .i64 t63.2.2.entries, .int .i64 t63.2.2.bytes] 89 (0, 0))] ++ (G75), [(p0_1, .cells #[.int .i64 t82.2.2.C.Clients, .int .i64 t82.2.2.C.Entries, .int .i64 t82.2.2.C.Bytes, .int .i64 t82.2.2.C.Reserve, .slice A93 t82.2.2.L.length c94, .slice A97 t82.2.2.I.length c98] 104 (0, 0))] ++ (G95 ++ (G99))]) S119⟩
  ·
   refine WCode.cond_f (kb (b := b51) rfl (Bool.eq_false_iff.2 h59)) ?_
   refine WCode.cutseq (fun l_ w_ => ∃ q123 : Nat, ∃ b120 : Bool, l_ = [(2, .pointer (some ⟨b25, 0, none⟩)), (3, .pointer (some ⟨b31, 0, none⟩)), (5, .pointer (some ⟨b42, 0, none⟩)), (6, .int .i64 t37.2.1), (54, .bool b120)] ∧ ca_step.j3 q123 a0_0 a0_1 a1 t37 b120 = some r_ ∧ St w (KS [G0_0, G0_1]) w_ [[(b42, .cells #[.int .i64 t37.1.Address, .int .i64 t37.1.Instance] 34 (0, 0))], [(b31, .cells #[.bool a1.Other, .bool a1.Raw, .int .i64 a1.What, .int .i64 a1.Who, .int .i64 a1.Sequence, .int .i64 a1.Water, .int .i64 a1.Whose.Address, .int .i64 a1.Whose.Instance, .string (bs a1.Reply)] 36 (0, 0))], [(b25, .cells #[.pointer (some ⟨p0_0, 0, none⟩), .pointer (some ⟨p0_1, 0, none⟩)] 60 (0, 0))], [(p0_1, .cells #[.int .i64 a0_1.C.Clients, .int .i64 a0_1.C.Entries, .int .i64 a0_1.C.Bytes, .int .i64 a0_1.C.Reserve, .slice A15 a0_1.L.length c16, .slice A19 a0_1.I.length c20] 104 (0, 0))], [(p0_0, .cells #[.int .i64 a0_0.config.Clients, .int .i64 a0_0.config.Entries, .int .i64 a0_0.config.Bytes, .int .i64 a0_0.config.Reserve, .map (some b5), .int .i64 a0_0.entries, .int .i64 a0_0.bytes] 89 (0, 0))], G17, G21, G6]) ?_ ?_
   ·
    refine WCode.region ?_
    refine WOps.p (G.field T.fld36_2 rfl (show 0 + 2 = 2 from rfl)) rfl ?_
    refine WOps.r (G.load1 T.one3 rfl (cell_blk (S53.blk 1 rfl) rfl)) rfl ?_
    refine WOps.p (G.eql rfl rfl rfl) rfl ?_
    refine WOps.p (G.move rfl) rfl ?_
    rcases ite_some hF with ⟨h125, hF⟩ | ⟨h125, hF⟩
    ·
     refine WOps.off rfl (kbl (b := decide (a1.What = 4)) rfl (decide_eq_true h125)) rfl rfl ?_
     refine WOps.off rfl (kbl (b := decide (a1.What = 4)) rfl (decide_eq_true h125)) rfl rfl ?_
     refine WOps.off rfl (kbl (b := decide (a1.What = 4)) rfl (decide_eq_true h125)) rfl rfl ?_
     refine WOps.p (G.pick_t (kb (b := decide (a1.What = 4)) rfl (decide_eq_true h125)) rfl) rfl ?_
     refine WOps.p (G.assign rfl) rfl ?_
     refine WOps.nil ?_
     refine WEx.cutend _ ?_ ⟨q54, true, rfl, hF, S53⟩
     exact ⟨rfl, rfl, rfl, rfl, rfl, trivial⟩
    ·
     refine WOps.on rfl (kbl (b := decide (a1.What = 4)) rfl (decide_eq_false h125)) ?_
     refine WOps.p (G.field T.fld36_2 rfl (show 0 + 2 = 2 from rfl)) rfl ?_
     refine WOps.on rfl (kbl (b := decide (a1.What = 4)) rfl (decide_eq_false h125)) ?_
     refine WOps.r (G.load1 T.one3 rfl (cell_blk (S53.blk 1 rfl) rfl)) rfl ?_
     refine WOps.on rfl (kbl (b := decide (a1.What = 4)) rfl (decide_eq_false h125)) ?_
     refine WOps.p (G.eql rfl rfl rfl) rfl ?_
     refine WOps.p (G.pick_f (kb (b := decide (a1.What = 4)) rfl (decide_eq_false h125)) rfl) rfl ?_
     refine WOps.p (G.assign rfl) rfl ?_
     refine WOps.nil ?_
     refine WEx.cutend _ ?_ ⟨q54, decide (a1.What = 5), rfl, hF, S53⟩
     exact ⟨rfl, rfl, rfl, rfl, rfl, trivial⟩
   ·
    rintro _ w121 ⟨q123, b120, rfl, hF, S122⟩
    unfold ca_step.j3 at hF
    rcases ite_some hF with ⟨h126, hF⟩ | ⟨h126, hF⟩
    ·
     refine WCode.cond_t (kb (b := b120) rfl h126) ?_
     refine WCode.seq ?_
     refine WCode.region ?_
     refine WOps.p (G.field T.fld60_0 rfl (show 0 + 0 = 0 from rfl)) rfl ?_
     refine WOps.r (G.load1 T.one28 rfl (cell_blk (S122.blk 2 rfl) rfl)) rfl ?_
     refine WOps.r (G.loada T.agg34_2 rfl (cs := [.int .i64 t37.1.Address, .int .i64 t37.1.Instance]) (cellsAt.of_blk (S122.blk 0 rfl) rfl)) rfl ?_
     refine WOps.p (G.move rfl) rfl ?_
     refine WOps.p (G.field T.fld36_7 rfl (show 0 + 8 = 8 from rfl)) rfl ?_
     refine WOps.r (G.load1 T.one9 rfl (cell_blk (S122.blk 1 rfl) rfl)) rfl ?_
     have S127 := (S122.front 7 rfl).front 5 rfl
     change St _ _ _ [[(p0_0, .cells #[.int .i64 a0_0.config.Clients, .int .i64 a0_0.config.Entries, .int .i64 a0_0.config.Bytes, .int .i64 a0_0.config.Reserve, .map (some b5), .int .i64 a0_0.entries, .int .i64 a0_0.bytes] 89 (0, 0))], G6, [(b42, .cells #[.int .i64 t37.1.Address, .int .i64 t37.1.Instance] 34 (0, 0))], [(b31, .cells #[.bool a1.Other, .bool a1.Raw, .int .i64 a1.What, .int .i64 a1.Who, .int .i64 a1.Sequence, .int .i64 a1.Water, .int .i64 a1.Whose.Address, .int .i64 a1.Whose.Instance, .string (bs a1.Reply)] 36 (0, 0))], [(b25, .cells #[.pointer (some ⟨p0_0, 0, none⟩), .pointer (some ⟨p0_1, 0, none⟩)] 60 (0, 0))], [(p0_1, .cells #[.int .i64 a0_1.C.Clients, .int .i64 a0_1.C.Entries, .int .i64 a0_1.C.Bytes, .int .i64 a0_1.C.Reserve, .slice A15 a0_1.L.length c16, .slice A19 a0_1.I.length c20] 104 (0, 0))], G17, G21] at S127
     have hO128 : ObjO 89 Cache.rp p0_0 a0_0 ([(p0_0, .cells #[.int .i64 a0_0.config.Clients, .int .i64 a0_0.config.Entries, .int .i64 a0_0.config.Bytes, .int .i64 a0_0.config.Reserve, .map (some b5), .int .i64 a0_0.entries, .int .i64 a0_0.bytes] 89 (0, 0))] ++ (G6)) := ⟨_, _, ⟨b5, G6, rfl, hO7, rfl⟩, rfl⟩
     have S129 : St _ _ _ [[(p0_0, .cells #[.int .i64 a0_0.config.Clients, .int .i64 a0_0.config.Entries, .int .i64 a0_0.config.Bytes, .int .i64 a0_0.config.Reserve, .map (some b5), .int .i64 a0_0.entries, .int .i64 a0_0.bytes] 89 (0, 0))] ++ (G6), [(b42, .cells #[.int .i64 t37.1.Address, .int .i64 t37.1.Instance] 34 (0, 0))], [(b31, .cells #[.bool a1.Other, .bool a1.Raw, .int .i64 a1.What, .int .i64 a1.Who, .int .i64 a1.Sequence, .int .i64 a1.Water, .int .i64 a1.Whose.Address, .int .i64 a1.Whose.Instance, .string (bs a1.Reply)] 36 (0, 0))], [(b25, .cells #[.pointer (some ⟨p0_0, 0, none⟩), .pointer (some ⟨p0_1, 0, none⟩)] 60 (0, 0))], [(p0_1, .cells #[.int .i64 a0_1.C.Clients, .int .i64 a0_1.C.Entries, .int .i64 a0_1.C.Bytes, .int .i64 a0_1.C.Reserve, .slice A15 a0_1.L.length c16, .slice A19 a0_1.I.length c20] 104 (0, 0))], G17, G21] := S127.objs (by simp)
     obtain ⟨t130, hc131, hF⟩ := bind_some hF
     refine WOps.call T.call15 (evs_cons rfl (evs_cons rfl (evs_cons rfl (evs_cons rfl evs_nil)))) rfl ?_
     refine (ca_Done_calls q123 a0_0 t37.1 t37.2.1 a1.Reply hO128 hc131 (St.hpN (As := [[(p0_0, .cells #[.int .i64 a0_0.config.Clients, .int .i64 a0_0.config.Entries, .int .i64 a0_0.config.Bytes, .int .i64 a0_0.config.Reserve, .map (some b5), .int .i64 a0_0.entries, .int .i64 a0_0.bytes] 89 (0, 0))] ++ (G6)]) S129)).mono ?_
     rintro _ w132 ⟨G135, rfl, hO136, T133⟩
     have S134 := St.callN (As := [[(p0_0, .cells #[.int .i64 a0_0.config.Clients, .int .i64 a0_0.config.Entries, .int .i64 a0_0.config.Bytes, .int .i64 a0_0.config.Reserve, .map (some b5), .int .i64 a0_0.entries, .int .i64 a0_0.bytes] 89 (0, 0))] ++ (G6)]) S129 T133
     change St _ _ _ [G135, [(b42, .cells #[.int .i64 t37.1.Address, .int .i64 t37.1.Instance] 34 (0, 0))], [(b31, .cells #[.bool a1.Other, .bool a1.Raw, .int .i64 a1.What, .int .i64 a1.Who, .int .i64 a1.Sequence, .int .i64 a1.Water, .int .i64 a1.Whose.Address, .int .i64 a1.Whose.Instance, .string (bs a1.Reply)] 36 (0, 0))], [(b25, .cells #[.pointer (some ⟨p0_0, 0, none⟩), .pointer (some ⟨p0_1, 0, none⟩)] 60 (0, 0))], [(p0_1, .cells #[.int .i64 a0_1.C.Clients, .int .i64 a0_1.C.Entries, .int .i64 a0_1.C.Bytes, .int .i64 a0_1.C.Reserve, .slice A15 a0_1.L.length c16, .slice A19 a0_1.I.length c20] 104 (0, 0))], G17, G21] at S134
     refine ⟨_, rfl, ?_⟩
     obtain ⟨cs137, G138, ho139, hg140⟩ := hO136
     obtain ⟨b141, G142, rfl, hO143, hq144⟩ := ho139
     have S145 : St _ _ _ [[(p0_0, .cells #[.int .i64 t130.2.config.Clients, .int .i64 t130.2.config.Entries, .int .i64 t130.2.config.Bytes, .int .i64 t130.2.config.Reserve, .map (some b141), .int .i64 t130.2.entries, .int .i64 t130.2.bytes] 89 (0, 0))], G142, [(b42, .cells #[.int .i64 t37.1.Address, .int .i64 t37.1.Instance] 34 (0, 0))], [(b31, .cells #[.bool a1.Other, .bool a1.Raw, .int .i64 a1.What, .int .i64 a1.Who, .int .i64 a1.Sequence, .int .i64 a1.Water, .int .i64 a1.Whose.Address, .int .i64 a1.Whose.Instance, .string (bs a1.Reply)] 36 (0, 0))], [(b25, .cells #[.pointer (some ⟨p0_0, 0, none⟩), .pointer (some ⟨p0_1, 0, none⟩)] 60 (0, 0))], [(p0_1, .cells #[.int .i64 a0_1.C.Clients, .int .i64 a0_1.C.Entries, .int .i64 a0_1.C.Bytes, .int .i64 a0_1.C.Reserve, .slice A15 a0_1.L.length c16, .slice A19 a0_1.I.length c20] 104 (0, 0))], G17, G21] := S134.objs (by rw [hg140, hq144]; simp)
     refine WOps.p (G.assign rfl) rfl ?_
     refine WOps.nil ?_
     refine WEx.then_ ?_
     refine WCode.seq ?_
     refine WCode.region ?_
     refine WOps.p (G.move rfl) rfl ?_
     refine WOps.p (G.field T.fld60_1 rfl (show 0 + 1 = 1 from rfl)) rfl ?_
     refine WOps.r (G.load1 T.one56 rfl (cell_blk (S145.blk 4 rfl) rfl)) rfl ?_
     refine WOps.r (G.loada T.agg34_2 rfl (cs := [.int .i64 t37.1.Address, .int .i64 t37.1.Instance]) (cellsAt.of_blk (S145.blk 2 rfl) rfl)) rfl ?_
     refine WOps.p (G.move rfl) rfl ?_
     refine WOps.p (G.field T.fld36_7 rfl (show 0 + 8 = 8 from rfl)) rfl ?_
     refine WOps.r (G.load1 T.one9 rfl (cell_blk (S145.blk 3 rfl) rfl)) rfl ?_
     have S146 := ((S145.front 7 rfl).front 7 rfl).front 7 rfl
     change St _ _ _ [[(p0_1, .cells #[.int .i64 a0_1.C.Clients, .int .i64 a0_1.C.Entries, .int .i64 a0_1.C.Bytes, .int .i64 a0_1.C.Reserve, .slice A15 a0_1.L.length c16, .slice A19 a0_1.I.length c20] 104 (0, 0))], G17, G21, [(p0_0, .cells #[.int .i64 t130.2.config.Clients, .int .i64 t130.2.config.Entries, .int .i64 t130.2.config.Bytes, .int .i64 t130.2.config.Reserve, .map (some b141), .int .i64 t130.2.entries, .int .i64 t130.2.bytes] 89 (0, 0))], G142, [(b42, .cells #[.int .i64 t37.1.Address, .int .i64 t37.1.Instance] 34 (0, 0))], [(b31, .cells #[.bool a1.Other, .bool a1.Raw, .int .i64 a1.What, .int .i64 a1.Who, .int .i64 a1.Sequence, .int .i64 a1.Water, .int .i64 a1.Whose.Address, .int .i64 a1.Whose.Instance, .string (bs a1.Reply)] 36 (0, 0))], [(b25, .cells #[.pointer (some ⟨p0_0, 0, none⟩), .pointer (some ⟨p0_1, 0, none⟩)] 60 (0, 0))]] at S146
     have hO147 : ObjO 104 Cache104.rp p0_1 a0_1 ([(p0_1, .cells #[.int .i64 a0_1.C.Clients, .int .i64 a0_1.C.Entries, .int .i64 a0_1.C.Bytes, .int .i64 a0_1.C.Reserve, .slice A15 a0_1.L.length c16, .slice A19 a0_1.I.length c20] 104 (0, 0))] ++ (G17 ++ (G21))) := ⟨_, _, ⟨A15, c16, G17, A19, c20, G21, rfl, hO18, hO22, rfl⟩, rfl⟩
     have S148 : St _ _ _ [[(p0_1, .cells #[.int .i64 a0_1.C.Clients, .int .i64 a0_1.C.Entries, .int .i64 a0_1.C.Bytes, .int .i64 a0_1.C.Reserve, .slice A15 a0_1.L.length c16, .slice A19 a0_1.I.length c20] 104 (0, 0))] ++ (G17 ++ (G21)), [(p0_0, .cells #[.int .i64 t130.2.config.Clients, .int .i64 t130.2.config.Entries, .int .i64 t130.2.config.Bytes, .int .i64 t130.2.config.Reserve, .map (some b141), .int .i64 t130.2.entries, .int .i64 t130.2.bytes] 89 (0, 0))], G142, [(b42, .cells #[.int .i64 t37.1.Address, .int .i64 t37.1.Instance] 34 (0, 0))], [(b31, .cells #[.bool a1.Other, .bool a1.Raw, .int .i64 a1.What, .int .i64 a1.Who, .int .i64 a1.Sequence, .int .i64 a1.Water, .int .i64 a1.Whose.Address, .int .i64 a1.Whose.Instance, .string (bs a1.Reply)] 36 (0, 0))], [(b25, .cells #[.pointer (some ⟨p0_0, 0, none⟩), .pointer (some ⟨p0_1, 0, none⟩)] 60 (0, 0))]] := S146.objs (by simp)
     obtain ⟨t149, hc150, hF⟩ := bind_some hF
     refine WOps.call T.call40 (evs_cons rfl (evs_cons rfl (evs_cons rfl (evs_cons rfl evs_nil)))) rfl ?_
     refine (rc_Done_calls q123 a0_1 t37.1 t37.2.1 a1.Reply hO147 hc150 (St.hpN (As := [[(p0_1, .cells #[.int .i64 a0_1.C.Clients, .int .i64 a0_1.C.Entries, .int .i64 a0_1.C.Bytes, .int .i64 a0_1.C.Reserve, .slice A15 a0_1.L.length c16, .slice A19 a0_1.I.length c20] 104 (0, 0))] ++ (G17 ++ (G21))]) S148)).mono ?_
     rintro _ w151 ⟨G154, rfl, hO155, T152⟩
     have S153 := St.callN (As := [[(p0_1, .cells #[.int .i64 a0_1.C.Clients, .int .i64 a0_1.C.Entries, .int .i64 a0_1.C.Bytes, .int .i64 a0_1.C.Reserve, .slice A15 a0_1.L.length c16, .slice A19 a0_1.I.length c20] 104 (0, 0))] ++ (G17 ++ (G21))]) S148 T152
     change St _ _ _ [G154, [(p0_0, .cells #[.int .i64 t130.2.config.Clients, .int .i64 t130.2.config.Entries, .int .i64 t130.2.config.Bytes, .int .i64 t130.2.config.Reserve, .map (some b141), .int .i64 t130.2.entries, .int .i64 t130.2.bytes] 89 (0, 0))], G142, [(b42, .cells #[.int .i64 t37.1.Address, .int .i64 t37.1.Instance] 34 (0, 0))], [(b31, .cells #[.bool a1.Other, .bool a1.Raw, .int .i64 a1.What, .int .i64 a1.Who, .int .i64 a1.Sequence, .int .i64 a1.Water, .int .i64 a1.Whose.Address, .int .i64 a1.Whose.Instance, .string (bs a1.Reply)] 36 (0, 0))], [(b25, .cells #[.pointer (some ⟨p0_0, 0, none⟩), .pointer (some ⟨p0_1, 0, none⟩)] 60 (0, 0))]] at S153
     refine ⟨_, rfl, ?_⟩
     obtain ⟨cs156, G157, ho158, hg159⟩ := hO155
     obtain ⟨A160, c161, G162, A164, c165, G166, rfl, hO163, hO167, hq168⟩ := ho158
     have S169 : St _ _ _ [[(p0_1, .cells #[.int .i64 t149.2.C.Clients, .int .i64 t149.2.C.Entries, .int .i64 t149.2.C.Bytes, .int .i64 t149.2.C.Reserve, .slice A160 t149.2.L.length c161, .slice A164 t149.2.I.length c165] 104 (0, 0))], G162, G166, [(p0_0, .cells #[.int .i64 t130.2.config.Clients, .int .i64 t130.2.config.Entries, .int .i64 t130.2.config.Bytes, .int .i64 t130.2.config.Reserve, .map (some b141), .int .i64 t130.2.entries, .int .i64 t130.2.bytes] 89 (0, 0))], G142, [(b42, .cells #[.int .i64 t37.1.Address, .int .i64 t37.1.Instance] 34 (0, 0))], [(b31, .cells #[.bool a1.Other, .bool a1.Raw, .int .i64 a1.What, .int .i64 a1.Who, .int .i64 a1.Sequence, .int .i64 a1.Water, .int .i64 a1.Whose.Address, .int .i64 a1.Whose.Instance, .string (bs a1.Reply)] 36 (0, 0))], [(b25, .cells #[.pointer (some ⟨p0_0, 0, none⟩), .pointer (some ⟨p0_1, 0, none⟩)] 60 (0, 0))]] := S153.objs (by rw [hg159, hq168]; simp)
     refine WOps.p (G.eql rfl rfl rfl) rfl ?_
     refine WOps.p (G.assign rfl) rfl ?_
     refine WOps.nil ?_
     refine WEx.then_ ?_
     refine WCode.forget (l' := [(4, .bool (decide (t130.1 = t149.1)))]) ⟨rfl, trivial⟩ ?_
     refine WCode.ret ?_
     refine WEx.in_ret ?_
     refine WEx.then_ret ?_
     obtain rfl := some_eq hF
     refine WEx.ret1 rfl rfl ?_
     have S170 := (S169.front 4 rfl).front 4 rfl
     change St _ _ _ [[(p0_0, .cells #[.int .i64 t130.2.config.Clients, .int .i64 t130.2.config.Entries, .int .i64 t130.2.config.Bytes, .int .i64 t130.2.config.Reserve, .map (some b141), .int .i64 t130.2.entries, .int .i64 t130.2.bytes] 89 (0, 0))], G142, [(p0_1, .cells #[.int .i64 t149.2.C.Clients, .int .i64 t149.2.C.Entries, .int .i64 t149.2.C.Bytes, .int .i64 t149.2.C.Reserve, .slice A160 t149.2.L.length c161, .slice A164 t149.2.I.length c165] 104 (0, 0))], G162, G166, [(b42, .cells #[.int .i64 t37.1.Address, .int .i64 t37.1.Instance] 34 (0, 0))], [(b31, .cells #[.bool a1.Other, .bool a1.Raw, .int .i64 a1.What, .int .i64 a1.Who, .int .i64 a1.Sequence, .int .i64 a1.Water, .int .i64 a1.Whose.Address, .int .i64 a1.Whose.Instance, .string (bs a1.Reply)] 36 (0, 0))], [(b25, .cells #[.pointer (some ⟨p0_0, 0, none⟩), .pointer (some ⟨p0_1, 0, none⟩)] 60 (0, 0))]] at S170
     have hO171 : ObjO 89 Cache.rp p0_0 t130.2 ([(p0_0, .cells #[.int .i64 t130.2.config.Clients, .int .i64 t130.2.config.Entries, .int .i64 t130.2.config.Bytes, .int .i64 t130.2.config.Reserve, .map (some b141), .int .i64 t130.2.entries, .int .i64 t130.2.bytes] 89 (0, 0))] ++ (G142)) := ⟨_, _, ⟨b141, G142, rfl, hO143, rfl⟩, rfl⟩
     have S172 : St _ _ _ [[(p0_0, .cells #[.int .i64 t130.2.config.Clients, .int .i64 t130.2.config.Entries, .int .i64 t130.2.config.Bytes, .int .i64 t130.2.config.Reserve, .map (some b141), .int .i64 t130.2.entries, .int .i64 t130.2.bytes] 89 (0, 0))] ++ (G142), [(p0_1, .cells #[.int .i64 t149.2.C.Clients, .int .i64 t149.2.C.Entries, .int .i64 t149.2.C.Bytes, .int .i64 t149.2.C.Reserve, .slice A160 t149.2.L.length c161, .slice A164 t149.2.I.length c165] 104 (0, 0))], G162, G166, [(b42, .cells #[.int .i64 t37.1.Address, .int .i64 t37.1.Instance] 34 (0, 0))], [(b31, .cells #[.bool a1.Other, .bool a1.Raw, .int .i64 a1.What, .int .i64 a1.Who, .int .i64 a1.Sequence, .int .i64 a1.Water, .int .i64 a1.Whose.Address, .int .i64 a1.Whose.Instance, .string (bs a1.Reply)] 36 (0, 0))], [(b25, .cells #[.pointer (some ⟨p0_0, 0, none⟩), .pointer (some ⟨p0_1, 0, none⟩)] 60 (0, 0))]] := S170.objs (by simp)
     have S173 := ((S172.front 3 rfl).front 3 rfl).front 3 rfl
     change St _ _ _ [[(p0_1, .cells #[.int .i64 t149.2.C.Clients, .int .i64 t149.2.C.Entries, .int .i64 t149.2.C.Bytes, .int .i64 t149.2.C.Reserve, .slice A160 t149.2.L.length c161, .slice A164 t149.2.I.length c165] 104 (0, 0))], G162, G166, [(p0_0, .cells #[.int .i64 t130.2.config.Clients, .int .i64 t130.2.config.Entries, .int .i64 t130.2.config.Bytes, .int .i64 t130.2.config.Reserve, .map (some b141), .int .i64 t130.2.entries, .int .i64 t130.2.bytes] 89 (0, 0))] ++ (G142), [(b42, .cells #[.int .i64 t37.1.Address, .int .i64 t37.1.Instance] 34 (0, 0))], [(b31, .cells #[.bool a1.Other, .bool a1.Raw, .int .i64 a1.What, .int .i64 a1.Who, .int .i64 a1.Sequence, .int .i64 a1.Water, .int .i64 a1.Whose.Address, .int .i64 a1.Whose.Instance, .string (bs a1.Reply)] 36 (0, 0))], [(b25, .cells #[.pointer (some ⟨p0_0, 0, none⟩), .pointer (some ⟨p0_1, 0, none⟩)] 60 (0, 0))]] at S173
     have hO174 : ObjO 104 Cache104.rp p0_1 t149.2 ([(p0_1, .cells #[.int .i64 t149.2.C.Clients, .int .i64 t149.2.C.Entries, .int .i64 t149.2.C.Bytes, .int .i64 t149.2.C.Reserve, .slice A160 t149.2.L.length c161, .slice A164 t149.2.I.length c165] 104 (0, 0))] ++ (G162 ++ (G166))) := ⟨_, _, ⟨A160, c161, G162, A164, c165, G166, rfl, hO163, hO167, rfl⟩, rfl⟩
     have S175 : St _ _ _ [[(p0_1, .cells #[.int .i64 t149.2.C.Clients, .int .i64 t149.2.C.Entries, .int .i64 t149.2.C.Bytes, .int .i64 t149.2.C.Reserve, .slice A160 t149.2.L.length c161, .slice A164 t149.2.I.length c165] 104 (0, 0))] ++ (G162 ++ (G166)), [(p0_0, .cells #[.int .i64 t130.2.config.Clients, .int .i64 t130.2.config.Entries, .int .i64 t130.2.config.Bytes, .int .i64 t130.2.config.Reserve, .map (some b141), .int .i64 t130.2.entries, .int .i64 t130.2.bytes] 89 (0, 0))] ++ (G142), [(b42, .cells #[.int .i64 t37.1.Address, .int .i64 t37.1.Instance] 34 (0, 0))], [(b31, .cells #[.bool a1.Other, .bool a1.Raw, .int .i64 a1.What, .int .i64 a1.Who, .int .i64 a1.Sequence, .int .i64 a1.Water, .int .i64 a1.Whose.Address, .int .i64 a1.Whose.Instance, .string (bs a1.Reply)] 36 (0, 0))], [(b25, .cells #[.pointer (some ⟨p0_0, 0, none⟩), .pointer (some ⟨p0_1, 0, none⟩)] 60 (0, 0))]] := S173.objs (by simp)
     have S176 := S175.front 1 rfl
     change St _ _ _ [[(p0_0, .cells #[.int .i64 t130.2.config.Clients, .int .i64 t130.2.config.Entries, .int .i64 t130.2.config.Bytes, .int .i64 t130.2.config.Reserve, .map (some b141), .int .i64 t130.2.entries, .int .i64 t130.2.bytes] 89 (0, 0))] ++ (G142), [(p0_1, .cells #[.int .i64 t149.2.C.Clients, .int .i64 t149.2.C.Entries, .int .i64 t149.2.C.Bytes, .int .i64 t149.2.C.Reserve, .slice A160 t149.2.L.length c161, .slice A164 t149.2.I.length c165] 104 (0, 0))] ++ (G162 ++ (G166)), [(b42, .cells #[.int .i64 t37.1.Address, .int .i64 t37.1.Instance] 34 (0, 0))], [(b31, .cells #[.bool a1.Other, .bool a1.Raw, .int .i64 a1.What, .int .i64 a1.Who, .int .i64 a1.Sequence, .int .i64 a1.Water, .int .i64 a1.Whose.Address, .int .i64 a1.Whose.Instance, .string (bs a1.Reply)] 36 (0, 0))], [(b25, .cells #[.pointer (some ⟨p0_0, 0, none⟩), .pointer (some ⟨p0_1, 0, none⟩)] 60 (0, 0))]] at S176
     exact ⟨[(p0_0, .cells #[.int .i64 t130.2.config.Clients, .int .i64 t130.2.config.Entries, .int .i64 t130.2.config.Bytes, .int .i64 t130.2.config.Reserve, .map (some b141), .int .i64 t130.2.entries, .int .i64 t130.2.bytes] 89 (0, 0))] ++ (G142), [(p0_1, .cells #[.int .i64 t149.2.C.Clients, .int .i64 t149.2.C.Entries, .int .i64 t149.2.C.Bytes, .int .i64 t149.2.C.Reserve, .slice A160 t149.2.L.length c161, .slice A164 t149.2.I.length c165] 104 (0, 0))] ++ (G162 ++ (G166)), rfl, hO171, hO174, St.keep (As := [[(p0_0, .cells #[.int .i64 t130.2.config.Clients, .int .i64 t130.2.config.Entries, .int .i64 t130.2.config.Bytes, .int .i64 t130.2.config.Reserve, .map (some b141), .int .i64 t130.2.entries, .int .i64 t130.2.bytes] 89 (0, 0))] ++ (G142), [(p0_1, .cells #[.int .i64 t149.2.C.Clients, .int .i64 t149.2.C.Entries, .int .i64 t149.2.C.Bytes, .int .i64 t149.2.C.Reserve, .slice A160 t149.2.L.length c161, .slice A164 t149.2.I.length c165] 104 (0, 0))] ++ (G162 ++ (G166))]) S176⟩
    ·
     refine WCode.cond_f (kb (b := b120) rfl (Bool.eq_false_iff.2 h126)) ?_
     refine WCode.seq ?_
     refine WCode.region ?_
     refine WOps.p (G.field T.fld36_2 rfl (show 0 + 2 = 2 from rfl)) rfl ?_
     refine WOps.r (G.load1 T.one3 rfl (cell_blk (S122.blk 1 rfl) rfl)) rfl ?_
     refine WOps.p (G.eql rfl rfl rfl) rfl ?_
     refine WOps.p (G.assign rfl) rfl ?_
     refine WOps.nil ?_
     refine WEx.then_ ?_
     rcases ite_some hF with ⟨h177, hF⟩ | ⟨h177, hF⟩
     ·
      refine WCode.cond_t (kb (b := decide (a1.What = 6)) rfl (decide_eq_true h177)) ?_
      refine WCode.seq ?_
      refine WCode.drawH (.one 0 0 (.one 3 0 (.one 5 0 (.one 8 0 (.one 1 1 (.one 2 1 (.one 6 1 (.one 7 1 (.one 4 2 (.one 9 2 (.one 10 0 (.one 11 0 .nil)))))))))))) (fun W_ => cellsAt W_ b25 0 [.pointer (some ⟨p0_0, 0, none⟩), .pointer (some ⟨p0_1, 0, none⟩)] ∧ cellsAt W_ b42 0 [.int .i64 t37.1.Address, .int .i64 t37.1.Instance] ∧ True) T.mixed (by kernel_rfl) (by intro _ _ d _ _ h; cases d <;> exact h) rfl rfl (by kernel_rfl) ?_ ?_
      all_goals have S178 := S122.drew
      all_goals generalize w121.drew = w179 at *
      · exact ⟨cellsAt.of_blk (S178.blk 2 rfl) rfl, cellsAt.of_blk (S178.blk 0 rfl) rfl, trivial⟩
      refine WH.p rfl wants (G.field T.fld60_0 rfl (show 0 + 0 = 0 from rfl)) rfl ?_
      refine WH.p rfl wants (G.move rfl) rfl ?_
      refine WH.p rfl wants (G.field T.fld60_1 rfl (show 0 + 1 = 1 from rfl)) rfl ?_
      refine WH.p rfl wants (G.move rfl) rfl ?_
      refine WH.r rfl wants (fun _ h_ => G.load1 T.one28 rfl (cellsAt.at h_.1 0 rfl)) rfl ?_
      refine WH.r rfl wants (fun _ h_ => G.loada T.agg34_2 rfl (cs := [.int .i64 t37.1.Address, .int .i64 t37.1.Instance]) (cellsAt.part h_.2.1 0 rfl)) rfl ?_
      refine WH.r rfl wants (fun _ h_ => G.load1 T.one56 rfl (cellsAt.at h_.1 1 rfl)) rfl ?_
      refine WH.r rfl wants (fun _ h_ => G.loada T.agg34_2 rfl (cs := [.int .i64 t37.1.Address, .int .i64 t37.1.Instance]) (cellsAt.part h_.2.1 0 rfl)) rfl ?_
      obtain ⟨t180, hc181, hF⟩ := bind_some hF
      have S182 := (S178.front 7 rfl).front 5 rfl
      change St _ _ _ [[(p0_0, .cells #[.int .i64 a0_0.config.Clients, .int .i64 a0_0.config.Entries, .int .i64 a0_0.config.Bytes, .int .i64 a0_0.config.Reserve, .map (some b5), .int .i64 a0_0.entries, .int .i64 a0_0.bytes] 89 (0, 0))], G6, [(b42, .cells #[.int .i64 t37.1.Address, .int .i64 t37.1.Instance] 34 (0, 0))], [(b31, .cells #[.bool a1.Other, .bool a1.Raw, .int .i64 a1.What, .int .i64 a1.Who, .int .i64 a1.Sequence, .int .i64 a1.Water, .int .i64 a1.Whose.Address, .int .i64 a1.Whose.Instance, .string (bs a1.Reply)] 36 (0, 0))], [(b25, .cells #[.pointer (some ⟨p0_0, 0, none⟩), .pointer (some ⟨p0_1, 0, none⟩)] 60 (0, 0))], [(p0_1, .cells #[.int .i64 a0_1.C.Clients, .int .i64 a0_1.C.Entries, .int .i64 a0_1.C.Bytes, .int .i64 a0_1.C.Reserve, .slice A15 a0_1.L.length c16, .slice A19 a0_1.I.length c20] 104 (0, 0))], G17, G21] at S182
      have hP183 : PtR 89 Cache.rp w179 (KS [[(p0_0, .cells #[.int .i64 a0_0.config.Clients, .int .i64 a0_0.config.Entries, .int .i64 a0_0.config.Bytes, .int .i64 a0_0.config.Reserve, .map (some b5), .int .i64 a0_0.entries, .int .i64 a0_0.bytes] 89 (0, 0))], G6]) p0_0 a0_0 := ⟨_, S182.blk 0 rfl, KS_at 0 rfl (by simp [keys]), ⟨b5, rfl, ((hO7.rd (fun b o hb => S182.grp 1 rfl hb)).mono (fun b hb => KS_at 1 rfl hb))⟩⟩
      refine WH.call rfl wants T.call41 (evs_cons rfl (evs_cons rfl (evs_cons rfl evs_nil))) rfl ?_
      refine (ca_Busy_calls q123 a0_0 t37.1 t37.2.1 hP183 (St.outN (Bs := []) (As := [[(p0_0, .cells #[.int .i64 a0_0.config.Clients, .int .i64 a0_0.config.Entries, .int .i64 a0_0.config.Bytes, .int .i64 a0_0.config.Reserve, .map (some b5), .int .i64 a0_0.entries, .int .i64 a0_0.bytes] 89 (0, 0))], G6]) S182) hc181).mono ?_
      rintro _ w184 ⟨rfl, T185⟩
      have S186 := St.callN (As := []) S182 T185
      change St _ _ _ [[(p0_0, .cells #[.int .i64 a0_0.config.Clients, .int .i64 a0_0.config.Entries, .int .i64 a0_0.config.Bytes, .int .i64 a0_0.config.Reserve, .map (some b5), .int .i64 a0_0.entries, .int .i64 a0_0.bytes] 89 (0, 0))], G6, [(b42, .cells #[.int .i64 t37.1.Address, .int .i64 t37.1.Instance] 34 (0, 0))], [(b31, .cells #[.bool a1.Other, .bool a1.Raw, .int .i64 a1.What, .int .i64 a1.Who, .int .i64 a1.Sequence, .int .i64 a1.Water, .int .i64 a1.Whose.Address, .int .i64 a1.Whose.Instance, .string (bs a1.Reply)] 36 (0, 0))], [(b25, .cells #[.pointer (some ⟨p0_0, 0, none⟩), .pointer (some ⟨p0_1, 0, none⟩)] 60 (0, 0))], [(p0_1, .cells #[.int .i64 a0_1.C.Clients, .int .i64 a0_1.C.Entries, .int .i64 a0_1.C.Bytes, .int .i64 a0_1.C.Reserve, .slice A15 a0_1.L.length c16, .slice A19 a0_1.I.length c20] 104 (0, 0))], G17, G21] at S186
      refine ⟨_, rfl, ?_⟩
      refine ⟨⟨cellsAt.of_blk (S186.blk 4 rfl) rfl, cellsAt.of_blk (S186.blk 2 rfl) rfl, trivial⟩, ?_⟩
      obtain ⟨t187, hc188, hF⟩ := bind_some hF
      have S189 := ((S186.front 7 rfl).front 7 rfl).front 7 rfl
      change St _ _ _ [[(p0_1, .cells #[.int .i64 a0_1.C.Clients, .int .i64 a0_1.C.Entries, .int .i64 a0_1.C.Bytes, .int .i64 a0_1.C.Reserve, .slice A15 a0_1.L.length c16, .slice A19 a0_1.I.length c20] 104 (0, 0))], G17, G21, [(p0_0, .cells #[.int .i64 a0_0.config.Clients, .int .i64 a0_0.config.Entries, .int .i64 a0_0.config.Bytes, .int .i64 a0_0.config.Reserve, .map (some b5), .int .i64 a0_0.entries, .int .i64 a0_0.bytes] 89 (0, 0))], G6, [(b42, .cells #[.int .i64 t37.1.Address, .int .i64 t37.1.Instance] 34 (0, 0))], [(b31, .cells #[.bool a1.Other, .bool a1.Raw, .int .i64 a1.What, .int .i64 a1.Who, .int .i64 a1.Sequence, .int .i64 a1.Water, .int .i64 a1.Whose.Address, .int .i64 a1.Whose.Instance, .string (bs a1.Reply)] 36 (0, 0))], [(b25, .cells #[.pointer (some ⟨p0_0, 0, none⟩), .pointer (some ⟨p0_1, 0, none⟩)] 60 (0, 0))]] at S189
      have hP190 : PtR 104 Cache104.rp w184 (KS [[(p0_1, .cells #[.int .i64 a0_1.C.Clients, .int .i64 a0_1.C.Entries, .int .i64 a0_1.C.Bytes, .int .i64 a0_1.C.Reserve, .slice A15 a0_1.L.length c16, .slice A19 a0_1.I.length c20] 104 (0, 0))], G17, G21]) p0_1 a0_1 := ⟨_, S189.blk 0 rfl, KS_at 0 rfl (by simp [keys]), ⟨A15, c16, A19, c20, rfl, ((hO18.rd (fun b o hb => S189.grp 1 rfl hb)).mono (fun b hb => KS_at 1 rfl hb)), ((hO22.rd (fun b o hb => S189.grp 2 rfl hb)).mono (fun b hb => KS_at 2 rfl hb))⟩⟩
      refine WH.call rfl wants T.call42 (evs_cons rfl (evs_cons rfl (evs_cons rfl evs_nil))) rfl ?_
      refine (rc_Busy_calls q123 a0_1 t37.1 t37.2.1 hP190 (St.outN (Bs := []) (As := [[(p0_1, .cells #[.int .i64 a0_1.C.Clients, .int .i64 a0_1.C.Entries, .int .i64 a0_1.C.Bytes, .int .i64 a0_1.C.Reserve, .slice A15 a0_1.L.length c16, .slice A19 a0_1.I.length c20] 104 (0, 0))], G17, G21]) S189) hc188).mono ?_
      rintro _ w191 ⟨rfl, T192⟩
      have S193 := St.callN (As := []) S189 T192
      change St _ _ _ [[(p0_1, .cells #[.int .i64 a0_1.C.Clients, .int .i64 a0_1.C.Entries, .int .i64 a0_1.C.Bytes, .int .i64 a0_1.C.Reserve, .slice A15 a0_1.L.length c16, .slice A19 a0_1.I.length c20] 104 (0, 0))], G17, G21, [(p0_0, .cells #[.int .i64 a0_0.config.Clients, .int .i64 a0_0.config.Entries, .int .i64 a0_0.config.Bytes, .int .i64 a0_0.config.Reserve, .map (some b5), .int .i64 a0_0.entries, .int .i64 a0_0.bytes] 89 (0, 0))], G6, [(b42, .cells #[.int .i64 t37.1.Address, .int .i64 t37.1.Instance] 34 (0, 0))], [(b31, .cells #[.bool a1.Other, .bool a1.Raw, .int .i64 a1.What, .int .i64 a1.Who, .int .i64 a1.Sequence, .int .i64 a1.Water, .int .i64 a1.Whose.Address, .int .i64 a1.Whose.Instance, .string (bs a1.Reply)] 36 (0, 0))], [(b25, .cells #[.pointer (some ⟨p0_0, 0, none⟩), .pointer (some ⟨p0_1, 0, none⟩)] 60 (0, 0))]] at S193
      refine ⟨_, rfl, ?_⟩
      refine ⟨⟨cellsAt.of_blk (S193.blk 7 rfl) rfl, cellsAt.of_blk (S193.blk 5 rfl) rfl, trivial⟩, ?_⟩
      refine WH.p rfl wants (G.eqlb Try.underlying4 rfl rfl rfl) rfl ?_
      refine WH.p rfl wants (G.assign rfl) rfl ?_
      refine WH.nil ?_
      refine WEx.then_ ?_
      refine WCode.forget (l' := [(4, .bool (t180 == t187))]) ⟨rfl, trivial⟩ ?_
      refine WCode.ret ?_
      refine WEx.in_ret ?_
      refine WEx.then_ret ?_
      obtain rfl := some_eq hF
      refine WEx.ret1 rfl rfl ?_
      have S194 := (S193.front 4 rfl).front 4 rfl
      change St _ _ _ [[(p0_0, .cells #[.int .i64 a0_0.config.Clients, .int .i64 a0_0.config.Entries, .int .i64 a0_0.config.Bytes, .int .i64 a0_0.config.Reserve, .map (some b5), .int .i64 a0_0.entries, .int .i64 a0_0.bytes] 89 (0, 0))], G6, [(p0_1, .cells #[.int .i64 a0_1.C.Clients, .int .i64 a0_1.C.Entries, .int .i64 a0_1.C.Bytes, .int .i64 a0_1.C.Reserve, .slice A15 a0_1.L.length c16, .slice A19 a0_1.I.length c20] 104 (0, 0))], G17, G21, [(b42, .cells #[.int .i64 t37.1.Address, .int .i64 t37.1.Instance] 34 (0, 0))], [(b31, .cells #[.bool a1.Other, .bool a1.Raw, .int .i64 a1.What, .int .i64 a1.Who, .int .i64 a1.Sequence, .int .i64 a1.Water, .int .i64 a1.Whose.Address, .int .i64 a1.Whose.Instance, .string (bs a1.Reply)] 36 (0, 0))], [(b25, .cells #[.pointer (some ⟨p0_0, 0, none⟩), .pointer (some ⟨p0_1, 0, none⟩)] 60 (0, 0))]] at S194
      have hO195 : ObjO 89 Cache.rp p0_0 a0_0 ([(p0_0, .cells #[.int .i64 a0_0.config.Clients, .int .i64 a0_0.config.Entries, .int .i64 a0_0.config.Bytes, .int .i64 a0_0.config.Reserve, .map (some b5), .int .i64 a0_0.entries, .int .i64 a0_0.bytes] 89 (0, 0))] ++ (G6)) := ⟨_, _, ⟨b5, G6, rfl, hO7, rfl⟩, rfl⟩
      have S196 : St _ _ _ [[(p0_0, .cells #[.int .i64 a0_0.config.Clients, .int .i64 a0_0.config.Entries, .int .i64 a0_0.config.Bytes, .int .i64 a0_0.config.Reserve, .map (some b5), .int .i64 a0_0.entries, .int .i64 a0_0.bytes] 89 (0, 0))] ++ (G6), [(p0_1, .cells #[.int .i64 a0_1.C.Clients, .int .i64 a0_1.C.Entries, .int .i64 a0_1.C.Bytes, .int .i64 a0_1.C.Reserve, .slice A15 a0_1.L.length c16, .slice A19 a0_1.I.length c20] 104 (0, 0))], G17, G21, [(b42, .cells #[.int .i64 t37.1.Address, .int .i64 t37.1.Instance] 34 (0, 0))], [(b31, .cells #[.bool a1.Other, .bool a1.Raw, .int .i64 a1.What, .int .i64 a1.Who, .int .i64 a1.Sequence, .int .i64 a1.Water, .int .i64 a1.Whose.Address, .int .i64 a1.Whose.Instance, .string (bs a1.Reply)] 36 (0, 0))], [(b25, .cells #[.pointer (some ⟨p0_0, 0, none⟩), .pointer (some ⟨p0_1, 0, none⟩)] 60 (0, 0))]] := S194.objs (by simp)
      have S197 := ((S196.front 3 rfl).front 3 rfl).front 3 rfl
      change St _ _ _ [[(p0_1, .cells #[.int .i64 a0_1.C.Clients, .int .i64 a0_1.C.Entries, .int .i64 a0_1.C.Bytes, .int .i64 a0_1.C.Reserve, .slice A15 a0_1.L.length c16, .slice A19 a0_1.I.length c20] 104 (0, 0))], G17, G21, [(p0_0, .cells #[.int .i64 a0_0.config.Clients, .int .i64 a0_0.config.Entries, .int .i64 a0_0.config.Bytes, .int .i64 a0_0.config.Reserve, .map (some b5), .int .i64 a0_0.entries, .int .i64 a0_0.bytes] 89 (0, 0))] ++ (G6), [(b42, .cells #[.int .i64 t37.1.Address, .int .i64 t37.1.Instance] 34 (0, 0))], [(b31, .cells #[.bool a1.Other, .bool a1.Raw, .int .i64 a1.What, .int .i64 a1.Who, .int .i64 a1.Sequence, .int .i64 a1.Water, .int .i64 a1.Whose.Address, .int .i64 a1.Whose.Instance, .string (bs a1.Reply)] 36 (0, 0))], [(b25, .cells #[.pointer (some ⟨p0_0, 0, none⟩), .pointer (some ⟨p0_1, 0, none⟩)] 60 (0, 0))]] at S197
      have hO198 : ObjO 104 Cache104.rp p0_1 a0_1 ([(p0_1, .cells #[.int .i64 a0_1.C.Clients, .int .i64 a0_1.C.Entries, .int .i64 a0_1.C.Bytes, .int .i64 a0_1.C.Reserve, .slice A15 a0_1.L.length c16, .slice A19 a0_1.I.length c20] 104 (0, 0))] ++ (G17 ++ (G21))) := ⟨_, _, ⟨A15, c16, G17, A19, c20, G21, rfl, hO18, hO22, rfl⟩, rfl⟩
      have S199 : St _ _ _ [[(p0_1, .cells #[.int .i64 a0_1.C.Clients, .int .i64 a0_1.C.Entries, .int .i64 a0_1.C.Bytes, .int .i64 a0_1.C.Reserve, .slice A15 a0_1.L.length c16, .slice A19 a0_1.I.length c20] 104 (0, 0))] ++ (G17 ++ (G21)), [(p0_0, .cells #[.int .i64 a0_0.config.Clients, .int .i64 a0_0.config.Entries, .int .i64 a0_0.config.Bytes, .int .i64 a0_0.config.Reserve, .map (some b5), .int .i64 a0_0.entries, .int .i64 a0_0.bytes] 89 (0, 0))] ++ (G6), [(b42, .cells #[.int .i64 t37.1.Address, .int .i64 t37.1.Instance] 34 (0, 0))], [(b31, .cells #[.bool a1.Other, .bool a1.Raw, .int .i64 a1.What, .int .i64 a1.Who, .int .i64 a1.Sequence, .int .i64 a1.Water, .int .i64 a1.Whose.Address, .int .i64 a1.Whose.Instance, .string (bs a1.Reply)] 36 (0, 0))], [(b25, .cells #[.pointer (some ⟨p0_0, 0, none⟩), .pointer (some ⟨p0_1, 0, none⟩)] 60 (0, 0))]] := S197.objs (by simp)
      have S200 := S199.front 1 rfl
      change St _ _ _ [[(p0_0, .cells #[.int .i64 a0_0.config.Clients, .int .i64 a0_0.config.Entries, .int .i64 a0_0.config.Bytes, .int .i64 a0_0.config.Reserve, .map (some b5), .int .i64 a0_0.entries, .int .i64 a0_0.bytes] 89 (0, 0))] ++ (G6), [(p0_1, .cells #[.int .i64 a0_1.C.Clients, .int .i64 a0_1.C.Entries, .int .i64 a0_1.C.Bytes, .int .i64 a0_1.C.Reserve, .slice A15 a0_1.L.length c16, .slice A19 a0_1.I.length c20] 104 (0, 0))] ++ (G17 ++ (G21)), [(b42, .cells #[.int .i64 t37.1.Address, .int .i64 t37.1.Instance] 34 (0, 0))], [(b31, .cells #[.bool a1.Other, .bool a1.Raw, .int .i64 a1.What, .int .i64 a1.Who, .int .i64 a1.Sequence, .int .i64 a1.Water, .int .i64 a1.Whose.Address, .int .i64 a1.Whose.Instance, .string (bs a1.Reply)] 36 (0, 0))], [(b25, .cells #[.pointer (some ⟨p0_0, 0, none⟩), .pointer (some ⟨p0_1, 0, none⟩)] 60 (0, 0))]] at S200
      exact ⟨[(p0_0, .cells #[.int .i64 a0_0.config.Clients, .int .i64 a0_0.config.Entries, .int .i64 a0_0.config.Bytes, .int .i64 a0_0.config.Reserve, .map (some b5), .int .i64 a0_0.entries, .int .i64 a0_0.bytes] 89 (0, 0))] ++ (G6), [(p0_1, .cells #[.int .i64 a0_1.C.Clients, .int .i64 a0_1.C.Entries, .int .i64 a0_1.C.Bytes, .int .i64 a0_1.C.Reserve, .slice A15 a0_1.L.length c16, .slice A19 a0_1.I.length c20] 104 (0, 0))] ++ (G17 ++ (G21)), rfl, hO195, hO198, St.keep (As := [[(p0_0, .cells #[.int .i64 a0_0.config.Clients, .int .i64 a0_0.config.Entries, .int .i64 a0_0.config.Bytes, .int .i64 a0_0.config.Reserve, .map (some b5), .int .i64 a0_0.entries, .int .i64 a0_0.bytes] 89 (0, 0))] ++ (G6), [(p0_1, .cells #[.int .i64 a0_1.C.Clients, .int .i64 a0_1.C.Entries, .int .i64 a0_1.C.Bytes, .int .i64 a0_1.C.Reserve, .slice A15 a0_1.L.length c16, .slice A19 a0_1.I.length c20] 104 (0, 0))] ++ (G17 ++ (G21))]) S200⟩
     ·
      refine WCode.cond_f (kb (b := decide (a1.What = 6)) rfl (decide_eq_false h177)) ?_
      refine WCode.seq ?_
      refine WCode.region ?_
      refine WOps.p (G.field T.fld36_2 rfl (show 0 + 2 = 2 from rfl)) rfl ?_
      refine WOps.r (G.load1 T.one3 rfl (cell_blk (S122.blk 1 rfl) rfl)) rfl ?_
      refine WOps.p (G.eql rfl rfl rfl) rfl ?_
      refine WOps.p (G.assign rfl) rfl ?_
      refine WOps.nil ?_
      refine WEx.then_ ?_
      refine WCode.forget (l' := [(2, .pointer (some ⟨b25, 0, none⟩)), (5, .pointer (some ⟨b42, 0, none⟩)), (94, .bool (decide (a1.What = 7)))]) ⟨rfl, rfl, rfl, trivial⟩ ?_
      rcases ite_some hF with ⟨h201, hF⟩ | ⟨h201, hF⟩
      ·
       refine WCode.cond_t (kb (b := decide (a1.What = 7)) rfl (decide_eq_true h201)) ?_
       refine WCode.seq ?_
       refine WCode.drawH (.one 0 0 (.one 4 0 (.one 1 1 (.one 2 1 (.one 5 1 (.one 6 1 (.one 3 2 (.one 7 2 (.one 8 0 (.one 9 0 .nil)))))))))) (fun W_ => cellsAt W_ b25 0 [.pointer (some ⟨p0_0, 0, none⟩), .pointer (some ⟨p0_1, 0, none⟩)] ∧ cellsAt W_ b42 0 [.int .i64 t37.1.Address, .int .i64 t37.1.Instance] ∧ True) T.mixed (by kernel_rfl) (by intro _ _ d _ _ h; cases d <;> exact h) rfl rfl (by kernel_rfl) ?_ ?_
       all_goals have S202 := S122.drew
       all_goals generalize w121.drew = w203 at *
       · exact ⟨cellsAt.of_blk (S202.blk 2 rfl) rfl, cellsAt.of_blk (S202.blk 0 rfl) rfl, trivial⟩
       refine WH.p rfl wants (G.field T.fld60_0 rfl (show 0 + 0 = 0 from rfl)) rfl ?_
       refine WH.p rfl wants (G.field T.fld60_1 rfl (show 0 + 1 = 1 from rfl)) rfl ?_
       refine WH.r rfl wants (fun _ h_ => G.load1 T.one28 rfl (cellsAt.at h_.1 0 rfl)) rfl ?_
       refine WH.r rfl wants (fun _ h_ => G.loada T.agg34_2 rfl (cs := [.int .i64 t37.1.Address, .int .i64 t37.1.Instance]) (cellsAt.part h_.2.1 0 rfl)) rfl ?_
       refine WH.r rfl wants (fun _ h_ => G.load1 T.one56 rfl (cellsAt.at h_.1 1 rfl)) rfl ?_
       refine WH.r rfl wants (fun _ h_ => G.loada T.agg34_2 rfl (cs := [.int .i64 t37.1.Address, .int .i64 t37.1.Instance]) (cellsAt.part h_.2.1 0 rfl)) rfl ?_
       obtain ⟨t204, hc205, hF⟩ := bind_some hF
       have S206 := (S202.front 7 rfl).front 5 rfl
       change St _ _ _ [[(p0_0, .cells #[.int .i64 a0_0.config.Clients, .int .i64 a0_0.config.Entries, .int .i64 a0_0.config.Bytes, .int .i64 a0_0.config.Reserve, .map (some b5), .int .i64 a0_0.entries, .int .i64 a0_0.bytes] 89 (0, 0))], G6, [(b42, .cells #[.int .i64 t37.1.Address, .int .i64 t37.1.Instance] 34 (0, 0))], [(b31, .cells #[.bool a1.Other, .bool a1.Raw, .int .i64 a1.What, .int .i64 a1.Who, .int .i64 a1.Sequence, .int .i64 a1.Water, .int .i64 a1.Whose.Address, .int .i64 a1.Whose.Instance, .string (bs a1.Reply)] 36 (0, 0))], [(b25, .cells #[.pointer (some ⟨p0_0, 0, none⟩), .pointer (some ⟨p0_1, 0, none⟩)] 60 (0, 0))], [(p0_1, .cells #[.int .i64 a0_1.C.Clients, .int .i64 a0_1.C.Entries, .int .i64 a0_1.C.Bytes, .int .i64 a0_1.C.Reserve, .slice A15 a0_1.L.length c16, .slice A19 a0_1.I.length c20] 104 (0, 0))], G17, G21] at S206
       have hP207 : PtR 89 Cache.rp w203 (KS [[(p0_0, .cells #[.int .i64 a0_0.config.Clients, .int .i64 a0_0.config.Entries, .int .i64 a0_0.config.Bytes, .int .i64 a0_0.config.Reserve, .map (some b5), .int .i64 a0_0.entries, .int .i64 a0_0.bytes] 89 (0, 0))], G6]) p0_0 a0_0 := ⟨_, S206.blk 0 rfl, KS_at 0 rfl (by simp [keys]), ⟨b5, rfl, ((hO7.rd (fun b o hb => S206.grp 1 rfl hb)).mono (fun b hb => KS_at 1 rfl hb))⟩⟩
       refine WH.call rfl wants T.call16 (evs_cons rfl (evs_cons rfl evs_nil)) rfl ?_
       refine (ca_Water_calls q123 a0_0 t37.1 hP207 (St.outN (Bs := []) (As := [[(p0_0, .cells #[.int .i64 a0_0.config.Clients, .int .i64 a0_0.config.Entries, .int .i64 a0_0.config.Bytes, .int .i64 a0_0.config.Reserve, .map (some b5), .int .i64 a0_0.entries, .int .i64 a0_0.bytes] 89 (0, 0))], G6]) S206) hc205).mono ?_
       rintro _ w208 ⟨rfl, T209⟩
       have S210 := St.callN (As := []) S206 T209
       change St _ _ _ [[(p0_0, .cells #[.int .i64 a0_0.config.Clients, .int .i64 a0_0.config.Entries, .int .i64 a0_0.config.Bytes, .int .i64 a0_0.config.Reserve, .map (some b5), .int .i64 a0_0.entries, .int .i64 a0_0.bytes] 89 (0, 0))], G6, [(b42, .cells #[.int .i64 t37.1.Address, .int .i64 t37.1.Instance] 34 (0, 0))], [(b31, .cells #[.bool a1.Other, .bool a1.Raw, .int .i64 a1.What, .int .i64 a1.Who, .int .i64 a1.Sequence, .int .i64 a1.Water, .int .i64 a1.Whose.Address, .int .i64 a1.Whose.Instance, .string (bs a1.Reply)] 36 (0, 0))], [(b25, .cells #[.pointer (some ⟨p0_0, 0, none⟩), .pointer (some ⟨p0_1, 0, none⟩)] 60 (0, 0))], [(p0_1, .cells #[.int .i64 a0_1.C.Clients, .int .i64 a0_1.C.Entries, .int .i64 a0_1.C.Bytes, .int .i64 a0_1.C.Reserve, .slice A15 a0_1.L.length c16, .slice A19 a0_1.I.length c20] 104 (0, 0))], G17, G21] at S210
       refine ⟨_, rfl, ?_⟩
       refine ⟨⟨cellsAt.of_blk (S210.blk 4 rfl) rfl, cellsAt.of_blk (S210.blk 2 rfl) rfl, trivial⟩, ?_⟩
       obtain ⟨t211, hc212, hF⟩ := bind_some hF
       have S213 := ((S210.front 7 rfl).front 7 rfl).front 7 rfl
       change St _ _ _ [[(p0_1, .cells #[.int .i64 a0_1.C.Clients, .int .i64 a0_1.C.Entries, .int .i64 a0_1.C.Bytes, .int .i64 a0_1.C.Reserve, .slice A15 a0_1.L.length c16, .slice A19 a0_1.I.length c20] 104 (0, 0))], G17, G21, [(p0_0, .cells #[.int .i64 a0_0.config.Clients, .int .i64 a0_0.config.Entries, .int .i64 a0_0.config.Bytes, .int .i64 a0_0.config.Reserve, .map (some b5), .int .i64 a0_0.entries, .int .i64 a0_0.bytes] 89 (0, 0))], G6, [(b42, .cells #[.int .i64 t37.1.Address, .int .i64 t37.1.Instance] 34 (0, 0))], [(b31, .cells #[.bool a1.Other, .bool a1.Raw, .int .i64 a1.What, .int .i64 a1.Who, .int .i64 a1.Sequence, .int .i64 a1.Water, .int .i64 a1.Whose.Address, .int .i64 a1.Whose.Instance, .string (bs a1.Reply)] 36 (0, 0))], [(b25, .cells #[.pointer (some ⟨p0_0, 0, none⟩), .pointer (some ⟨p0_1, 0, none⟩)] 60 (0, 0))]] at S213
       have hP214 : PtR 104 Cache104.rp w208 (KS [[(p0_1, .cells #[.int .i64 a0_1.C.Clients, .int .i64 a0_1.C.Entries, .int .i64 a0_1.C.Bytes, .int .i64 a0_1.C.Reserve, .slice A15 a0_1.L.length c16, .slice A19 a0_1.I.length c20] 104 (0, 0))], G17, G21]) p0_1 a0_1 := ⟨_, S213.blk 0 rfl, KS_at 0 rfl (by simp [keys]), ⟨A15, c16, A19, c20, rfl, ((hO18.rd (fun b o hb => S213.grp 1 rfl hb)).mono (fun b hb => KS_at 1 rfl hb)), ((hO22.rd (fun b o hb => S213.grp 2 rfl hb)).mono (fun b hb => KS_at 2 rfl hb))⟩⟩
       refine WH.call rfl wants T.call43 (evs_cons rfl (evs_cons rfl evs_nil)) rfl ?_
       refine (rc_Water_calls q123 a0_1 t37.1 hP214 (St.outN (Bs := []) (As := [[(p0_1, .cells #[.int .i64 a0_1.C.Clients, .int .i64 a0_1.C.Entries, .int .i64 a0_1.C.Bytes, .int .i64 a0_1.C.Reserve, .slice A15 a0_1.L.length c16, .slice A19 a0_1.I.length c20] 104 (0, 0))], G17, G21]) S213) hc212).mono ?_
       rintro _ w215 ⟨rfl, T216⟩
       have S217 := St.callN (As := []) S213 T216
       change St _ _ _ [[(p0_1, .cells #[.int .i64 a0_1.C.Clients, .int .i64 a0_1.C.Entries, .int .i64 a0_1.C.Bytes, .int .i64 a0_1.C.Reserve, .slice A15 a0_1.L.length c16, .slice A19 a0_1.I.length c20] 104 (0, 0))], G17, G21, [(p0_0, .cells #[.int .i64 a0_0.config.Clients, .int .i64 a0_0.config.Entries, .int .i64 a0_0.config.Bytes, .int .i64 a0_0.config.Reserve, .map (some b5), .int .i64 a0_0.entries, .int .i64 a0_0.bytes] 89 (0, 0))], G6, [(b42, .cells #[.int .i64 t37.1.Address, .int .i64 t37.1.Instance] 34 (0, 0))], [(b31, .cells #[.bool a1.Other, .bool a1.Raw, .int .i64 a1.What, .int .i64 a1.Who, .int .i64 a1.Sequence, .int .i64 a1.Water, .int .i64 a1.Whose.Address, .int .i64 a1.Whose.Instance, .string (bs a1.Reply)] 36 (0, 0))], [(b25, .cells #[.pointer (some ⟨p0_0, 0, none⟩), .pointer (some ⟨p0_1, 0, none⟩)] 60 (0, 0))]] at S217
       refine ⟨_, rfl, ?_⟩
       refine ⟨⟨cellsAt.of_blk (S217.blk 7 rfl) rfl, cellsAt.of_blk (S217.blk 5 rfl) rfl, trivial⟩, ?_⟩
       refine WH.p rfl wants (G.eql rfl rfl rfl) rfl ?_
       refine WH.p rfl wants (G.assign rfl) rfl ?_
       refine WH.nil ?_
       refine WEx.then_ ?_
       refine WCode.forget (l' := [(4, .bool (decide (t204 = t211)))]) ⟨rfl, trivial⟩ ?_
       refine WCode.ret ?_
       refine WEx.in_ret ?_
       refine WEx.then_ret ?_
       obtain rfl := some_eq hF
       refine WEx.ret1 rfl rfl ?_
       have S218 := (S217.front 4 rfl).front 4 rfl
       change St _ _ _ [[(p0_0, .cells #[.int .i64 a0_0.config.Clients, .int .i64 a0_0.config.Entries, .int .i64 a0_0.config.Bytes, .int .i64 a0_0.config.Reserve, .map (some b5), .int .i64 a0_0.entries, .int .i64 a0_0.bytes] 89 (0, 0))], G6, [(p0_1, .cells #[.int .i64 a0_1.C.Clients, .int .i64 a0_1.C.Entries, .int .i64 a0_1.C.Bytes, .int .i64 a0_1.C.Reserve, .slice A15 a0_1.L.length c16, .slice A19 a0_1.I.length c20] 104 (0, 0))], G17, G21, [(b42, .cells #[.int .i64 t37.1.Address, .int .i64 t37.1.Instance] 34 (0, 0))], [(b31, .cells #[.bool a1.Other, .bool a1.Raw, .int .i64 a1.What, .int .i64 a1.Who, .int .i64 a1.Sequence, .int .i64 a1.Water, .int .i64 a1.Whose.Address, .int .i64 a1.Whose.Instance, .string (bs a1.Reply)] 36 (0, 0))], [(b25, .cells #[.pointer (some ⟨p0_0, 0, none⟩), .pointer (some ⟨p0_1, 0, none⟩)] 60 (0, 0))]] at S218
       have hO219 : ObjO 89 Cache.rp p0_0 a0_0 ([(p0_0, .cells #[.int .i64 a0_0.config.Clients, .int .i64 a0_0.config.Entries, .int .i64 a0_0.config.Bytes, .int .i64 a0_0.config.Reserve, .map (some b5), .int .i64 a0_0.entries, .int .i64 a0_0.bytes] 89 (0, 0))] ++ (G6)) := ⟨_, _, ⟨b5, G6, rfl, hO7, rfl⟩, rfl⟩
       have S220 : St _ _ _ [[(p0_0, .cells #[.int .i64 a0_0.config.Clients, .int .i64 a0_0.config.Entries, .int .i64 a0_0.config.Bytes, .int .i64 a0_0.config.Reserve, .map (some b5), .int .i64 a0_0.entries, .int .i64 a0_0.bytes] 89 (0, 0))] ++ (G6), [(p0_1, .cells #[.int .i64 a0_1.C.Clients, .int .i64 a0_1.C.Entries, .int .i64 a0_1.C.Bytes, .int .i64 a0_1.C.Reserve, .slice A15 a0_1.L.length c16, .slice A19 a0_1.I.length c20] 104 (0, 0))], G17, G21, [(b42, .cells #[.int .i64 t37.1.Address, .int .i64 t37.1.Instance] 34 (0, 0))], [(b31, .cells #[.bool a1.Other, .bool a1.Raw, .int .i64 a1.What, .int .i64 a1.Who, .int .i64 a1.Sequence, .int .i64 a1.Water, .int .i64 a1.Whose.Address, .int .i64 a1.Whose.Instance, .string (bs a1.Reply)] 36 (0, 0))], [(b25, .cells #[.pointer (some ⟨p0_0, 0, none⟩), .pointer (some ⟨p0_1, 0, none⟩)] 60 (0, 0))]] := S218.objs (by simp)
       have S221 := ((S220.front 3 rfl).front 3 rfl).front 3 rfl
       change St _ _ _ [[(p0_1, .cells #[.int .i64 a0_1.C.Clients, .int .i64 a0_1.C.Entries, .int .i64 a0_1.C.Bytes, .int .i64 a0_1.C.Reserve, .slice A15 a0_1.L.length c16, .slice A19 a0_1.I.length c20] 104 (0, 0))], G17, G21, [(p0_0, .cells #[.int .i64 a0_0.config.Clients, .int .i64 a0_0.config.Entries, .int .i64 a0_0.config.Bytes, .int .i64 a0_0.config.Reserve, .map (some b5), .int .i64 a0_0.entries, .int .i64 a0_0.bytes] 89 (0, 0))] ++ (G6), [(b42, .cells #[.int .i64 t37.1.Address, .int .i64 t37.1.Instance] 34 (0, 0))], [(b31, .cells #[.bool a1.Other, .bool a1.Raw, .int .i64 a1.What, .int .i64 a1.Who, .int .i64 a1.Sequence, .int .i64 a1.Water, .int .i64 a1.Whose.Address, .int .i64 a1.Whose.Instance, .string (bs a1.Reply)] 36 (0, 0))], [(b25, .cells #[.pointer (some ⟨p0_0, 0, none⟩), .pointer (some ⟨p0_1, 0, none⟩)] 60 (0, 0))]] at S221
       have hO222 : ObjO 104 Cache104.rp p0_1 a0_1 ([(p0_1, .cells #[.int .i64 a0_1.C.Clients, .int .i64 a0_1.C.Entries, .int .i64 a0_1.C.Bytes, .int .i64 a0_1.C.Reserve, .slice A15 a0_1.L.length c16, .slice A19 a0_1.I.length c20] 104 (0, 0))] ++ (G17 ++ (G21))) := ⟨_, _, ⟨A15, c16, G17, A19, c20, G21, rfl, hO18, hO22, rfl⟩, rfl⟩
       have S223 : St _ _ _ [[(p0_1, .cells #[.int .i64 a0_1.C.Clients, .int .i64 a0_1.C.Entries, .int .i64 a0_1.C.Bytes, .int .i64 a0_1.C.Reserve, .slice A15 a0_1.L.length c16, .slice A19 a0_1.I.length c20] 104 (0, 0))] ++ (G17 ++ (G21)), [(p0_0, .cells #[.int .i64 a0_0.config.Clients, .int .i64 a0_0.config.Entries, .int .i64 a0_0.config.Bytes, .int .i64 a0_0.config.Reserve, .map (some b5), .int .i64 a0_0.entries, .int .i64 a0_0.bytes] 89 (0, 0))] ++ (G6), [(b42, .cells #[.int .i64 t37.1.Address, .int .i64 t37.1.Instance] 34 (0, 0))], [(b31, .cells #[.bool a1.Other, .bool a1.Raw, .int .i64 a1.What, .int .i64 a1.Who, .int .i64 a1.Sequence, .int .i64 a1.Water, .int .i64 a1.Whose.Address, .int .i64 a1.Whose.Instance, .string (bs a1.Reply)] 36 (0, 0))], [(b25, .cells #[.pointer (some ⟨p0_0, 0, none⟩), .pointer (some ⟨p0_1, 0, none⟩)] 60 (0, 0))]] := S221.objs (by simp)
       have S224 := S223.front 1 rfl
       change St _ _ _ [[(p0_0, .cells #[.int .i64 a0_0.config.Clients, .int .i64 a0_0.config.Entries, .int .i64 a0_0.config.Bytes, .int .i64 a0_0.config.Reserve, .map (some b5), .int .i64 a0_0.entries, .int .i64 a0_0.bytes] 89 (0, 0))] ++ (G6), [(p0_1, .cells #[.int .i64 a0_1.C.Clients, .int .i64 a0_1.C.Entries, .int .i64 a0_1.C.Bytes, .int .i64 a0_1.C.Reserve, .slice A15 a0_1.L.length c16, .slice A19 a0_1.I.length c20] 104 (0, 0))] ++ (G17 ++ (G21)), [(b42, .cells #[.int .i64 t37.1.Address, .int .i64 t37.1.Instance] 34 (0, 0))], [(b31, .cells #[.bool a1.Other, .bool a1.Raw, .int .i64 a1.What, .int .i64 a1.Who, .int .i64 a1.Sequence, .int .i64 a1.Water, .int .i64 a1.Whose.Address, .int .i64 a1.Whose.Instance, .string (bs a1.Reply)] 36 (0, 0))], [(b25, .cells #[.pointer (some ⟨p0_0, 0, none⟩), .pointer (some ⟨p0_1, 0, none⟩)] 60 (0, 0))]] at S224
       exact ⟨[(p0_0, .cells #[.int .i64 a0_0.config.Clients, .int .i64 a0_0.config.Entries, .int .i64 a0_0.config.Bytes, .int .i64 a0_0.config.Reserve, .map (some b5), .int .i64 a0_0.entries, .int .i64 a0_0.bytes] 89 (0, 0))] ++ (G6), [(p0_1, .cells #[.int .i64 a0_1.C.Clients, .int .i64 a0_1.C.Entries, .int .i64 a0_1.C.Bytes, .int .i64 a0_1.C.Reserve, .slice A15 a0_1.L.length c16, .slice A19 a0_1.I.length c20] 104 (0, 0))] ++ (G17 ++ (G21)), rfl, hO219, hO222, St.keep (As := [[(p0_0, .cells #[.int .i64 a0_0.config.Clients, .int .i64 a0_0.config.Entries, .int .i64 a0_0.config.Bytes, .int .i64 a0_0.config.Reserve, .map (some b5), .int .i64 a0_0.entries, .int .i64 a0_0.bytes] 89 (0, 0))] ++ (G6), [(p0_1, .cells #[.int .i64 a0_1.C.Clients, .int .i64 a0_1.C.Entries, .int .i64 a0_1.C.Bytes, .int .i64 a0_1.C.Reserve, .slice A15 a0_1.L.length c16, .slice A19 a0_1.I.length c20] 104 (0, 0))] ++ (G17 ++ (G21))]) S224⟩
      ·
       refine WCode.cond_f (kb (b := decide (a1.What = 7)) rfl (decide_eq_false h201)) ?_
       refine WCode.skip ?_
       refine WEx.in_normal ?_
       refine WEx.then_ ?_
       refine WCode.seq ?_
       refine WCode.drawH (.one 0 0 (.one 3 0 (.one 1 1 (.one 4 1 (.one 2 2 (.one 5 2 (.one 6 0 (.one 7 0 (.one 8 0 (.one 11 0 (.one 9 1 (.one 12 1 (.one 10 2 (.one 13 2 (.one 14 0 (.one 15 0 (.one 16 0 (.one 17 0 (.one 20 0 (.one 18 1 (.one 21 1 (.one 19 2 (.one 22 2 (.one 23 0 (.one 24 0 (.one 25 0 .nil)))))))))))))))))))))))))) (fun W_ => cellsAt W_ b25 0 [.pointer (some ⟨p0_0, 0, none⟩), .pointer (some ⟨p0_1, 0, none⟩)] ∧ True) T.mixed (by kernel_rfl) (by intro _ _ d _ _ h; cases d <;> exact h) rfl rfl (by kernel_rfl) ?_ ?_
       all_goals have S225 := S122.drew
       all_goals generalize w121.drew = w226 at *
       · exact ⟨cellsAt.of_blk (S225.blk 2 rfl) rfl, trivial⟩
       refine WH.p rfl wants (G.field T.fld60_0 rfl (show 0 + 0 = 0 from rfl)) rfl ?_
       refine WH.p rfl wants (G.field T.fld60_1 rfl (show 0 + 1 = 1 from rfl)) rfl ?_
       refine WH.r rfl wants (fun _ h_ => G.load1 T.one28 rfl (cellsAt.at h_.1 0 rfl)) rfl ?_
       refine WH.r rfl wants (fun _ h_ => G.load1 T.one56 rfl (cellsAt.at h_.1 1 rfl)) rfl ?_
       obtain ⟨t227, hc228, hF⟩ := bind_some hF
       have S229 := (S225.front 7 rfl).front 5 rfl
       change St _ _ _ [[(p0_0, .cells #[.int .i64 a0_0.config.Clients, .int .i64 a0_0.config.Entries, .int .i64 a0_0.config.Bytes, .int .i64 a0_0.config.Reserve, .map (some b5), .int .i64 a0_0.entries, .int .i64 a0_0.bytes] 89 (0, 0))], G6, [(b42, .cells #[.int .i64 t37.1.Address, .int .i64 t37.1.Instance] 34 (0, 0))], [(b31, .cells #[.bool a1.Other, .bool a1.Raw, .int .i64 a1.What, .int .i64 a1.Who, .int .i64 a1.Sequence, .int .i64 a1.Water, .int .i64 a1.Whose.Address, .int .i64 a1.Whose.Instance, .string (bs a1.Reply)] 36 (0, 0))], [(b25, .cells #[.pointer (some ⟨p0_0, 0, none⟩), .pointer (some ⟨p0_1, 0, none⟩)] 60 (0, 0))], [(p0_1, .cells #[.int .i64 a0_1.C.Clients, .int .i64 a0_1.C.Entries, .int .i64 a0_1.C.Bytes, .int .i64 a0_1.C.Reserve, .slice A15 a0_1.L.length c16, .slice A19 a0_1.I.length c20] 104 (0, 0))], G17, G21] at S229
       have hP230 : PtR 89 Cache.rp w226 (KS [[(p0_0, .cells #[.int .i64 a0_0.config.Clients, .int .i64 a0_0.config.Entries, .int .i64 a0_0.config.Bytes, .int .i64 a0_0.config.Reserve, .map (some b5), .int .i64 a0_0.entries, .int .i64 a0_0.bytes] 89 (0, 0))], G6]) p0_0 a0_0 := ⟨_, S229.blk 0 rfl, KS_at 0 rfl (by simp [keys]), ⟨b5, rfl, ((hO7.rd (fun b o hb => S229.grp 1 rfl hb)).mono (fun b hb => KS_at 1 rfl hb))⟩⟩
       refine WH.call rfl wants T.call18 (evs_cons rfl evs_nil) rfl ?_
       refine (ca_Clients_calls q123 a0_0 hP230 (St.outN (Bs := []) (As := [[(p0_0, .cells #[.int .i64 a0_0.config.Clients, .int .i64 a0_0.config.Entries, .int .i64 a0_0.config.Bytes, .int .i64 a0_0.config.Reserve, .map (some b5), .int .i64 a0_0.entries, .int .i64 a0_0.bytes] 89 (0, 0))], G6]) S229) hc228).mono ?_
       rintro _ w231 ⟨rfl, T232⟩
       have S233 := St.callN (As := []) S229 T232
       change St _ _ _ [[(p0_0, .cells #[.int .i64 a0_0.config.Clients, .int .i64 a0_0.config.Entries, .int .i64 a0_0.config.Bytes, .int .i64 a0_0.config.Reserve, .map (some b5), .int .i64 a0_0.entries, .int .i64 a0_0.bytes] 89 (0, 0))], G6, [(b42, .cells #[.int .i64 t37.1.Address, .int .i64 t37.1.Instance] 34 (0, 0))], [(b31, .cells #[.bool a1.Other, .bool a1.Raw, .int .i64 a1.What, .int .i64 a1.Who, .int .i64 a1.Sequence, .int .i64 a1.Water, .int .i64 a1.Whose.Address, .int .i64 a1.Whose.Instance, .string (bs a1.Reply)] 36 (0, 0))], [(b25, .cells #[.pointer (some ⟨p0_0, 0, none⟩), .pointer (some ⟨p0_1, 0, none⟩)] 60 (0, 0))], [(p0_1, .cells #[.int .i64 a0_1.C.Clients, .int .i64 a0_1.C.Entries, .int .i64 a0_1.C.Bytes, .int .i64 a0_1.C.Reserve, .slice A15 a0_1.L.length c16, .slice A19 a0_1.I.length c20] 104 (0, 0))], G17, G21] at S233
       refine ⟨_, rfl, ?_⟩
       refine ⟨⟨cellsAt.of_blk (S233.blk 4 rfl) rfl, trivial⟩, ?_⟩
       obtain ⟨t234, hc235, hF⟩ := bind_some hF
       have S236 := ((S233.front 7 rfl).front 7 rfl).front 7 rfl
       change St _ _ _ [[(p0_1, .cells #[.int .i64 a0_1.C.Clients, .int .i64 a0_1.C.Entries, .int .i64 a0_1.C.Bytes, .int .i64 a0_1.C.Reserve, .slice A15 a0_1.L.length c16, .slice A19 a0_1.I.length c20] 104 (0, 0))], G17, G21, [(p0_0, .cells #[.int .i64 a0_0.config.Clients, .int .i64 a0_0.config.Entries, .int .i64 a0_0.config.Bytes, .int .i64 a0_0.config.Reserve, .map (some b5), .int .i64 a0_0.entries, .int .i64 a0_0.bytes] 89 (0, 0))], G6, [(b42, .cells #[.int .i64 t37.1.Address, .int .i64 t37.1.Instance] 34 (0, 0))], [(b31, .cells #[.bool a1.Other, .bool a1.Raw, .int .i64 a1.What, .int .i64 a1.Who, .int .i64 a1.Sequence, .int .i64 a1.Water, .int .i64 a1.Whose.Address, .int .i64 a1.Whose.Instance, .string (bs a1.Reply)] 36 (0, 0))], [(b25, .cells #[.pointer (some ⟨p0_0, 0, none⟩), .pointer (some ⟨p0_1, 0, none⟩)] 60 (0, 0))]] at S236
       have hP237 : PtR 104 Cache104.rp w231 (KS [[(p0_1, .cells #[.int .i64 a0_1.C.Clients, .int .i64 a0_1.C.Entries, .int .i64 a0_1.C.Bytes, .int .i64 a0_1.C.Reserve, .slice A15 a0_1.L.length c16, .slice A19 a0_1.I.length c20] 104 (0, 0))], G17, G21]) p0_1 a0_1 := ⟨_, S236.blk 0 rfl, KS_at 0 rfl (by simp [keys]), ⟨A15, c16, A19, c20, rfl, ((hO18.rd (fun b o hb => S236.grp 1 rfl hb)).mono (fun b hb => KS_at 1 rfl hb)), ((hO22.rd (fun b o hb => S236.grp 2 rfl hb)).mono (fun b hb => KS_at 2 rfl hb))⟩⟩
       refine WH.call rfl wants T.call44 (evs_cons rfl evs_nil) rfl ?_
       refine (rc_Clients_calls q123 a0_1 hP237 (St.outN (Bs := []) (As := [[(p0_1, .cells #[.int .i64 a0_1.C.Clients, .int .i64 a0_1.C.Entries, .int .i64 a0_1.C.Bytes, .int .i64 a0_1.C.Reserve, .slice A15 a0_1.L.length c16, .slice A19 a0_1.I.length c20] 104 (0, 0))], G17, G21]) S236) hc235).mono ?_
       rintro _ w238 ⟨rfl, T239⟩
       have S240 := St.callN (As := []) S236 T239
       change St _ _ _ [[(p0_1, .cells #[.int .i64 a0_1.C.Clients, .int .i64 a0_1.C.Entries, .int .i64 a0_1.C.Bytes, .int .i64 a0_1.C.Reserve, .slice A15 a0_1.L.length c16, .slice A19 a0_1.I.length c20] 104 (0, 0))], G17, G21, [(p0_0, .cells #[.int .i64 a0_0.config.Clients, .int .i64 a0_0.config.Entries, .int .i64 a0_0.config.Bytes, .int .i64 a0_0.config.Reserve, .map (some b5), .int .i64 a0_0.entries, .int .i64 a0_0.bytes] 89 (0, 0))], G6, [(b42, .cells #[.int .i64 t37.1.Address, .int .i64 t37.1.Instance] 34 (0, 0))], [(b31, .cells #[.bool a1.Other, .bool a1.Raw, .int .i64 a1.What, .int .i64 a1.Who, .int .i64 a1.Sequence, .int .i64 a1.Water, .int .i64 a1.Whose.Address, .int .i64 a1.Whose.Instance, .string (bs a1.Reply)] 36 (0, 0))], [(b25, .cells #[.pointer (some ⟨p0_0, 0, none⟩), .pointer (some ⟨p0_1, 0, none⟩)] 60 (0, 0))]] at S240
       refine ⟨_, rfl, ?_⟩
       refine ⟨⟨cellsAt.of_blk (S240.blk 7 rfl) rfl, trivial⟩, ?_⟩
       refine WH.p rfl wants (G.eql rfl rfl rfl) rfl ?_
       refine WH.p rfl wants (G.move rfl) rfl ?_
       rcases ite_some hF with ⟨h241, hF⟩ | ⟨h241, hF⟩
       ·
        refine WH.p rfl (wants_on rfl (kbl (b := decide (t227 = t234)) rfl (decide_eq_true h241))) (G.field T.fld60_0 rfl (show 0 + 0 = 0 from rfl)) rfl ?_
        refine WH.p rfl (wants_on rfl (kbl (b := decide (t227 = t234)) rfl (decide_eq_true h241))) (G.field T.fld60_1 rfl (show 0 + 1 = 1 from rfl)) rfl ?_
        refine WH.r rfl (wants_on rfl (kbl (b := decide (t227 = t234)) rfl (decide_eq_true h241))) (fun _ h_ => G.load1 T.one28 rfl (cellsAt.at h_.1 0 rfl)) rfl ?_
        refine WH.r rfl (wants_on rfl (kbl (b := decide (t227 = t234)) rfl (decide_eq_true h241))) (fun _ h_ => G.load1 T.one56 rfl (cellsAt.at h_.1 1 rfl)) rfl ?_
        obtain ⟨t242, hc243, hF⟩ := bind_some hF
        have S244 := (S240.front 4 rfl).front 4 rfl
        change St _ _ _ [[(p0_0, .cells #[.int .i64 a0_0.config.Clients, .int .i64 a0_0.config.Entries, .int .i64 a0_0.config.Bytes, .int .i64 a0_0.config.Reserve, .map (some b5), .int .i64 a0_0.entries, .int .i64 a0_0.bytes] 89 (0, 0))], G6, [(p0_1, .cells #[.int .i64 a0_1.C.Clients, .int .i64 a0_1.C.Entries, .int .i64 a0_1.C.Bytes, .int .i64 a0_1.C.Reserve, .slice A15 a0_1.L.length c16, .slice A19 a0_1.I.length c20] 104 (0, 0))], G17, G21, [(b42, .cells #[.int .i64 t37.1.Address, .int .i64 t37.1.Instance] 34 (0, 0))], [(b31, .cells #[.bool a1.Other, .bool a1.Raw, .int .i64 a1.What, .int .i64 a1.Who, .int .i64 a1.Sequence, .int .i64 a1.Water, .int .i64 a1.Whose.Address, .int .i64 a1.Whose.Instance, .string (bs a1.Reply)] 36 (0, 0))], [(b25, .cells #[.pointer (some ⟨p0_0, 0, none⟩), .pointer (some ⟨p0_1, 0, none⟩)] 60 (0, 0))]] at S244
        have hP245 : PtR 89 Cache.rp w238 (KS [[(p0_0, .cells #[.int .i64 a0_0.config.Clients, .int .i64 a0_0.config.Entries, .int .i64 a0_0.config.Bytes, .int .i64 a0_0.config.Reserve, .map (some b5), .int .i64 a0_0.entries, .int .i64 a0_0.bytes] 89 (0, 0))], G6]) p0_0 a0_0 := ⟨_, S244.blk 0 rfl, KS_at 0 rfl (by simp [keys]), ⟨b5, rfl, ((hO7.rd (fun b o hb => S244.grp 1 rfl hb)).mono (fun b hb => KS_at 1 rfl hb))⟩⟩
        refine WH.call rfl (wants_on rfl (kbl (b := decide (t227 = t234)) rfl (decide_eq_true h241))) T.call20 (evs_cons rfl evs_nil) rfl ?_
        refine (ca_Entries_calls q123 a0_0 hP245 (St.outN (Bs := []) (As := [[(p0_0, .cells #[.int .i64 a0_0.config.Clients, .int .i64 a0_0.config.Entries, .int .i64 a0_0.config.Bytes, .int .i64 a0_0.config.Reserve, .map (some b5), .int .i64 a0_0.entries, .int .i64 a0_0.bytes] 89 (0, 0))], G6]) S244) hc243).mono ?_
        rintro _ w246 ⟨rfl, T247⟩
        have S248 := St.callN (As := []) S244 T247
        change St _ _ _ [[(p0_0, .cells #[.int .i64 a0_0.config.Clients, .int .i64 a0_0.config.Entries, .int .i64 a0_0.config.Bytes, .int .i64 a0_0.config.Reserve, .map (some b5), .int .i64 a0_0.entries, .int .i64 a0_0.bytes] 89 (0, 0))], G6, [(p0_1, .cells #[.int .i64 a0_1.C.Clients, .int .i64 a0_1.C.Entries, .int .i64 a0_1.C.Bytes, .int .i64 a0_1.C.Reserve, .slice A15 a0_1.L.length c16, .slice A19 a0_1.I.length c20] 104 (0, 0))], G17, G21, [(b42, .cells #[.int .i64 t37.1.Address, .int .i64 t37.1.Instance] 34 (0, 0))], [(b31, .cells #[.bool a1.Other, .bool a1.Raw, .int .i64 a1.What, .int .i64 a1.Who, .int .i64 a1.Sequence, .int .i64 a1.Water, .int .i64 a1.Whose.Address, .int .i64 a1.Whose.Instance, .string (bs a1.Reply)] 36 (0, 0))], [(b25, .cells #[.pointer (some ⟨p0_0, 0, none⟩), .pointer (some ⟨p0_1, 0, none⟩)] 60 (0, 0))]] at S248
        refine ⟨_, rfl, ?_⟩
        refine ⟨⟨cellsAt.of_blk (S248.blk 7 rfl) rfl, trivial⟩, ?_⟩
        obtain ⟨t249, hc250, hF⟩ := bind_some hF
        have S251 := ((S248.front 4 rfl).front 4 rfl).front 4 rfl
        change St _ _ _ [[(p0_1, .cells #[.int .i64 a0_1.C.Clients, .int .i64 a0_1.C.Entries, .int .i64 a0_1.C.Bytes, .int .i64 a0_1.C.Reserve, .slice A15 a0_1.L.length c16, .slice A19 a0_1.I.length c20] 104 (0, 0))], G17, G21, [(p0_0, .cells #[.int .i64 a0_0.config.Clients, .int .i64 a0_0.config.Entries, .int .i64 a0_0.config.Bytes, .int .i64 a0_0.config.Reserve, .map (some b5), .int .i64 a0_0.entries, .int .i64 a0_0.bytes] 89 (0, 0))], G6, [(b42, .cells #[.int .i64 t37.1.Address, .int .i64 t37.1.Instance] 34 (0, 0))], [(b31, .cells #[.bool a1.Other, .bool a1.Raw, .int .i64 a1.What, .int .i64 a1.Who, .int .i64 a1.Sequence, .int .i64 a1.Water, .int .i64 a1.Whose.Address, .int .i64 a1.Whose.Instance, .string (bs a1.Reply)] 36 (0, 0))], [(b25, .cells #[.pointer (some ⟨p0_0, 0, none⟩), .pointer (some ⟨p0_1, 0, none⟩)] 60 (0, 0))]] at S251
        have hP252 : PtR 104 Cache104.rp w246 (KS [[(p0_1, .cells #[.int .i64 a0_1.C.Clients, .int .i64 a0_1.C.Entries, .int .i64 a0_1.C.Bytes, .int .i64 a0_1.C.Reserve, .slice A15 a0_1.L.length c16, .slice A19 a0_1.I.length c20] 104 (0, 0))], G17, G21]) p0_1 a0_1 := ⟨_, S251.blk 0 rfl, KS_at 0 rfl (by simp [keys]), ⟨A15, c16, A19, c20, rfl, ((hO18.rd (fun b o hb => S251.grp 1 rfl hb)).mono (fun b hb => KS_at 1 rfl hb)), ((hO22.rd (fun b o hb => S251.grp 2 rfl hb)).mono (fun b hb => KS_at 2 rfl hb))⟩⟩
        refine WH.call rfl (wants_on rfl (kbl (b := decide (t227 = t234)) rfl (decide_eq_true h241))) T.call45 (evs_cons rfl evs_nil) rfl ?_
        refine (rc_Entries_calls q123 a0_1 hP252 (St.outN (Bs := []) (As := [[(p0_1, .cells #[.int .i64 a0_1.C.Clients, .int .i64 a0_1.C.Entries, .int .i64 a0_1.C.Bytes, .int .i64 a0_1.C.Reserve, .slice A15 a0_1.L.length c16, .slice A19 a0_1.I.length c20] 104 (0, 0))], G17, G21]) S251) hc250).mono ?_
        rintro _ w253 ⟨rfl, T254⟩
        have S255 := St.callN (As := []) S251 T254
        change St _ _ _ [[(p0_1, .cells #[.int .i64 a0_1.C.Clients, .int .i64 a0_1.C.Entries, .int .i64 a0_1.C.Bytes, .int .i64 a0_1.C.Reserve, .slice A15 a0_1.L.length c16, .slice A19 a0_1.I.length c20] 104 (0, 0))], G17, G21, [(p0_0, .cells #[.int .i64 a0_0.config.Clients, .int .i64 a0_0.config.Entries, .int .i64 a0_0.config.Bytes, .int .i64 a0_0.config.Reserve, .map (some b5), .int .i64 a0_0.entries, .int .i64 a0_0.bytes] 89 (0, 0))], G6, [(b42, .cells #[.int .i64 t37.1.Address, .int .i64 t37.1.Instance] 34 (0, 0))], [(b31, .cells #[.bool a1.Other, .bool a1.Raw, .int .i64 a1.What, .int .i64 a1.Who, .int .i64 a1.Sequence, .int .i64 a1.Water, .int .i64 a1.Whose.Address, .int .i64 a1.Whose.Instance, .string (bs a1.Reply)] 36 (0, 0))], [(b25, .cells #[.pointer (some ⟨p0_0, 0, none⟩), .pointer (some ⟨p0_1, 0, none⟩)] 60 (0, 0))]] at S255
        refine ⟨_, rfl, ?_⟩
        refine ⟨⟨cellsAt.of_blk (S255.blk 7 rfl) rfl, trivial⟩, ?_⟩
        refine WH.p rfl (wants_on rfl (kbl (b := decide (t227 = t234)) rfl (decide_eq_true h241))) (G.eql rfl rfl rfl) rfl ?_
        refine WH.p rfl wants (G.pick_t (kb (b := decide (t227 = t234)) rfl (decide_eq_true h241)) rfl) rfl ?_
        refine WH.p rfl wants (G.move rfl) rfl ?_
        rcases ite_some hF with ⟨h256, hF⟩ | ⟨h256, hF⟩
        ·
         refine WH.p rfl (wants_on rfl (kbl (b := decide (t242 = t249)) rfl (decide_eq_true h256))) (G.field T.fld60_0 rfl (show 0 + 0 = 0 from rfl)) rfl ?_
         refine WH.p rfl (wants_on rfl (kbl (b := decide (t242 = t249)) rfl (decide_eq_true h256))) (G.field T.fld60_1 rfl (show 0 + 1 = 1 from rfl)) rfl ?_
         refine WH.r rfl (wants_on rfl (kbl (b := decide (t242 = t249)) rfl (decide_eq_true h256))) (fun _ h_ => G.load1 T.one28 rfl (cellsAt.at h_.1 0 rfl)) rfl ?_
         refine WH.r rfl (wants_on rfl (kbl (b := decide (t242 = t249)) rfl (decide_eq_true h256))) (fun _ h_ => G.load1 T.one56 rfl (cellsAt.at h_.1 1 rfl)) rfl ?_
         obtain ⟨t257, hc258, hF⟩ := bind_some hF
         have S259 := (S255.front 4 rfl).front 4 rfl
         change St _ _ _ [[(p0_0, .cells #[.int .i64 a0_0.config.Clients, .int .i64 a0_0.config.Entries, .int .i64 a0_0.config.Bytes, .int .i64 a0_0.config.Reserve, .map (some b5), .int .i64 a0_0.entries, .int .i64 a0_0.bytes] 89 (0, 0))], G6, [(p0_1, .cells #[.int .i64 a0_1.C.Clients, .int .i64 a0_1.C.Entries, .int .i64 a0_1.C.Bytes, .int .i64 a0_1.C.Reserve, .slice A15 a0_1.L.length c16, .slice A19 a0_1.I.length c20] 104 (0, 0))], G17, G21, [(b42, .cells #[.int .i64 t37.1.Address, .int .i64 t37.1.Instance] 34 (0, 0))], [(b31, .cells #[.bool a1.Other, .bool a1.Raw, .int .i64 a1.What, .int .i64 a1.Who, .int .i64 a1.Sequence, .int .i64 a1.Water, .int .i64 a1.Whose.Address, .int .i64 a1.Whose.Instance, .string (bs a1.Reply)] 36 (0, 0))], [(b25, .cells #[.pointer (some ⟨p0_0, 0, none⟩), .pointer (some ⟨p0_1, 0, none⟩)] 60 (0, 0))]] at S259
         have hP260 : PtR 89 Cache.rp w253 (KS [[(p0_0, .cells #[.int .i64 a0_0.config.Clients, .int .i64 a0_0.config.Entries, .int .i64 a0_0.config.Bytes, .int .i64 a0_0.config.Reserve, .map (some b5), .int .i64 a0_0.entries, .int .i64 a0_0.bytes] 89 (0, 0))], G6]) p0_0 a0_0 := ⟨_, S259.blk 0 rfl, KS_at 0 rfl (by simp [keys]), ⟨b5, rfl, ((hO7.rd (fun b o hb => S259.grp 1 rfl hb)).mono (fun b hb => KS_at 1 rfl hb))⟩⟩
         refine WH.call rfl (wants_on rfl (kbl (b := decide (t242 = t249)) rfl (decide_eq_true h256))) T.call19 (evs_cons rfl evs_nil) rfl ?_
         refine (ca_Bytes_calls q123 a0_0 hP260 (St.outN (Bs := []) (As := [[(p0_0, .cells #[.int .i64 a0_0.config.Clients, .int .i64 a0_0.config.Entries, .int .i64 a0_0.config.Bytes, .int .i64 a0_0.config.Reserve, .map (some b5), .int .i64 a0_0.entries, .int .i64 a0_0.bytes] 89 (0, 0))], G6]) S259) hc258).mono ?_
         rintro _ w261 ⟨rfl, T262⟩
         have S263 := St.callN (As := []) S259 T262
         change St _ _ _ [[(p0_0, .cells #[.int .i64 a0_0.config.Clients, .int .i64 a0_0.config.Entries, .int .i64 a0_0.config.Bytes, .int .i64 a0_0.config.Reserve, .map (some b5), .int .i64 a0_0.entries, .int .i64 a0_0.bytes] 89 (0, 0))], G6, [(p0_1, .cells #[.int .i64 a0_1.C.Clients, .int .i64 a0_1.C.Entries, .int .i64 a0_1.C.Bytes, .int .i64 a0_1.C.Reserve, .slice A15 a0_1.L.length c16, .slice A19 a0_1.I.length c20] 104 (0, 0))], G17, G21, [(b42, .cells #[.int .i64 t37.1.Address, .int .i64 t37.1.Instance] 34 (0, 0))], [(b31, .cells #[.bool a1.Other, .bool a1.Raw, .int .i64 a1.What, .int .i64 a1.Who, .int .i64 a1.Sequence, .int .i64 a1.Water, .int .i64 a1.Whose.Address, .int .i64 a1.Whose.Instance, .string (bs a1.Reply)] 36 (0, 0))], [(b25, .cells #[.pointer (some ⟨p0_0, 0, none⟩), .pointer (some ⟨p0_1, 0, none⟩)] 60 (0, 0))]] at S263
         refine ⟨_, rfl, ?_⟩
         refine ⟨⟨cellsAt.of_blk (S263.blk 7 rfl) rfl, trivial⟩, ?_⟩
         obtain ⟨t264, hc265, hF⟩ := bind_some hF
         have S266 := ((S263.front 4 rfl).front 4 rfl).front 4 rfl
         change St _ _ _ [[(p0_1, .cells #[.int .i64 a0_1.C.Clients, .int .i64 a0_1.C.Entries, .int .i64 a0_1.C.Bytes, .int .i64 a0_1.C.Reserve, .slice A15 a0_1.L.length c16, .slice A19 a0_1.I.length c20] 104 (0, 0))], G17, G21, [(p0_0, .cells #[.int .i64 a0_0.config.Clients, .int .i64 a0_0.config.Entries, .int .i64 a0_0.config.Bytes, .int .i64 a0_0.config.Reserve, .map (some b5), .int .i64 a0_0.entries, .int .i64 a0_0.bytes] 89 (0, 0))], G6, [(b42, .cells #[.int .i64 t37.1.Address, .int .i64 t37.1.Instance] 34 (0, 0))], [(b31, .cells #[.bool a1.Other, .bool a1.Raw, .int .i64 a1.What, .int .i64 a1.Who, .int .i64 a1.Sequence, .int .i64 a1.Water, .int .i64 a1.Whose.Address, .int .i64 a1.Whose.Instance, .string (bs a1.Reply)] 36 (0, 0))], [(b25, .cells #[.pointer (some ⟨p0_0, 0, none⟩), .pointer (some ⟨p0_1, 0, none⟩)] 60 (0, 0))]] at S266
         have hP267 : PtR 104 Cache104.rp w261 (KS [[(p0_1, .cells #[.int .i64 a0_1.C.Clients, .int .i64 a0_1.C.Entries, .int .i64 a0_1.C.Bytes, .int .i64 a0_1.C.Reserve, .slice A15 a0_1.L.length c16, .slice A19 a0_1.I.length c20] 104 (0, 0))], G17, G21]) p0_1 a0_1 := ⟨_, S266.blk 0 rfl, KS_at 0 rfl (by simp [keys]), ⟨A15, c16, A19, c20, rfl, ((hO18.rd (fun b o hb => S266.grp 1 rfl hb)).mono (fun b hb => KS_at 1 rfl hb)), ((hO22.rd (fun b o hb => S266.grp 2 rfl hb)).mono (fun b hb => KS_at 2 rfl hb))⟩⟩
         refine WH.call rfl (wants_on rfl (kbl (b := decide (t242 = t249)) rfl (decide_eq_true h256))) T.call46 (evs_cons rfl evs_nil) rfl ?_
         refine (rc_Bytes_calls q123 a0_1 hP267 (St.outN (Bs := []) (As := [[(p0_1, .cells #[.int .i64 a0_1.C.Clients, .int .i64 a0_1.C.Entries, .int .i64 a0_1.C.Bytes, .int .i64 a0_1.C.Reserve, .slice A15 a0_1.L.length c16, .slice A19 a0_1.I.length c20] 104 (0, 0))], G17, G21]) S266) hc265).mono ?_
         rintro _ w268 ⟨rfl, T269⟩
         have S270 := St.callN (As := []) S266 T269
         change St _ _ _ [[(p0_1, .cells #[.int .i64 a0_1.C.Clients, .int .i64 a0_1.C.Entries, .int .i64 a0_1.C.Bytes, .int .i64 a0_1.C.Reserve, .slice A15 a0_1.L.length c16, .slice A19 a0_1.I.length c20] 104 (0, 0))], G17, G21, [(p0_0, .cells #[.int .i64 a0_0.config.Clients, .int .i64 a0_0.config.Entries, .int .i64 a0_0.config.Bytes, .int .i64 a0_0.config.Reserve, .map (some b5), .int .i64 a0_0.entries, .int .i64 a0_0.bytes] 89 (0, 0))], G6, [(b42, .cells #[.int .i64 t37.1.Address, .int .i64 t37.1.Instance] 34 (0, 0))], [(b31, .cells #[.bool a1.Other, .bool a1.Raw, .int .i64 a1.What, .int .i64 a1.Who, .int .i64 a1.Sequence, .int .i64 a1.Water, .int .i64 a1.Whose.Address, .int .i64 a1.Whose.Instance, .string (bs a1.Reply)] 36 (0, 0))], [(b25, .cells #[.pointer (some ⟨p0_0, 0, none⟩), .pointer (some ⟨p0_1, 0, none⟩)] 60 (0, 0))]] at S270
         refine ⟨_, rfl, ?_⟩
         refine ⟨⟨cellsAt.of_blk (S270.blk 7 rfl) rfl, trivial⟩, ?_⟩
         refine WH.p rfl (wants_on rfl (kbl (b := decide (t242 = t249)) rfl (decide_eq_true h256))) (G.eql rfl rfl rfl) rfl ?_
         refine WH.p rfl wants (G.pick_t (kb (b := decide (t242 = t249)) rfl (decide_eq_true h256)) rfl) rfl ?_
         refine WH.p rfl wants (G.assign rfl) rfl ?_
         refine WH.nil ?_
         refine WEx.then_ ?_
         refine WCode.forget (l' := [(4, .bool (decide (t257 = t264)))]) ⟨rfl, trivial⟩ ?_
         refine WCode.ret ?_
         obtain rfl := some_eq hF
         refine WEx.ret1 rfl rfl ?_
         have S271 := (S270.front 4 rfl).front 4 rfl
         change St _ _ _ [[(p0_0, .cells #[.int .i64 a0_0.config.Clients, .int .i64 a0_0.config.Entries, .int .i64 a0_0.config.Bytes, .int .i64 a0_0.config.Reserve, .map (some b5), .int .i64 a0_0.entries, .int .i64 a0_0.bytes] 89 (0, 0))], G6, [(p0_1, .cells #[.int .i64 a0_1.C.Clients, .int .i64 a0_1.C.Entries, .int .i64 a0_1.C.Bytes, .int .i64 a0_1.C.Reserve, .slice A15 a0_1.L.length c16, .slice A19 a0_1.I.length c20] 104 (0, 0))], G17, G21, [(b42, .cells #[.int .i64 t37.1.Address, .int .i64 t37.1.Instance] 34 (0, 0))], [(b31, .cells #[.bool a1.Other, .bool a1.Raw, .int .i64 a1.What, .int .i64 a1.Who, .int .i64 a1.Sequence, .int .i64 a1.Water, .int .i64 a1.Whose.Address, .int .i64 a1.Whose.Instance, .string (bs a1.Reply)] 36 (0, 0))], [(b25, .cells #[.pointer (some ⟨p0_0, 0, none⟩), .pointer (some ⟨p0_1, 0, none⟩)] 60 (0, 0))]] at S271
         have hO272 : ObjO 89 Cache.rp p0_0 a0_0 ([(p0_0, .cells #[.int .i64 a0_0.config.Clients, .int .i64 a0_0.config.Entries, .int .i64 a0_0.config.Bytes, .int .i64 a0_0.config.Reserve, .map (some b5), .int .i64 a0_0.entries, .int .i64 a0_0.bytes] 89 (0, 0))] ++ (G6)) := ⟨_, _, ⟨b5, G6, rfl, hO7, rfl⟩, rfl⟩
         have S273 : St _ _ _ [[(p0_0, .cells #[.int .i64 a0_0.config.Clients, .int .i64 a0_0.config.Entries, .int .i64 a0_0.config.Bytes, .int .i64 a0_0.config.Reserve, .map (some b5), .int .i64 a0_0.entries, .int .i64 a0_0.bytes] 89 (0, 0))] ++ (G6), [(p0_1, .cells #[.int .i64 a0_1.C.Clients, .int .i64 a0_1.C.Entries, .int .i64 a0_1.C.Bytes, .int .i64 a0_1.C.Reserve, .slice A15 a0_1.L.length c16, .slice A19 a0_1.I.length c20] 104 (0, 0))], G17, G21, [(b42, .cells #[.int .i64 t37.1.Address, .int .i64 t37.1.Instance] 34 (0, 0))], [(b31, .cells #[.bool a1.Other, .bool a1.Raw, .int .i64 a1.What, .int .i64 a1.Who, .int .i64 a1.Sequence, .int .i64 a1.Water, .int .i64 a1.Whose.Address, .int .i64 a1.Whose.Instance, .string (bs a1.Reply)] 36 (0, 0))], [(b25, .cells #[.pointer (some ⟨p0_0, 0, none⟩), .pointer (some ⟨p0_1, 0, none⟩)] 60 (0, 0))]] := S271.objs (by simp)
         have S274 := ((S273.front 3 rfl).front 3 rfl).front 3 rfl
         change St _ _ _ [[(p0_1, .cells #[.int .i64 a0_1.C.Clients, .int .i64 a0_1.C.Entries, .int .i64 a0_1.C.Bytes, .int .i64 a0_1.C.Reserve, .slice A15 a0_1.L.length c16, .slice A19 a0_1.I.length c20] 104 (0, 0))], G17, G21, [(p0_0, .cells #[.int .i64 a0_0.config.Clients, .int .i64 a0_0.config.Entries, .int .i64 a0_0.config.Bytes, .int .i64 a0_0.config.Reserve, .map (some b5), .int .i64 a0_0.entries, .int .i64 a0_0.bytes] 89 (0, 0))] ++ (G6), [(b42, .cells #[.int .i64 t37.1.Address, .int .i64 t37.1.Instance] 34 (0, 0))], [(b31, .cells #[.bool a1.Other, .bool a1.Raw, .int .i64 a1.What, .int .i64 a1.Who, .int .i64 a1.Sequence, .int .i64 a1.Water, .int .i64 a1.Whose.Address, .int .i64 a1.Whose.Instance, .string (bs a1.Reply)] 36 (0, 0))], [(b25, .cells #[.pointer (some ⟨p0_0, 0, none⟩), .pointer (some ⟨p0_1, 0, none⟩)] 60 (0, 0))]] at S274
         have hO275 : ObjO 104 Cache104.rp p0_1 a0_1 ([(p0_1, .cells #[.int .i64 a0_1.C.Clients, .int .i64 a0_1.C.Entries, .int .i64 a0_1.C.Bytes, .int .i64 a0_1.C.Reserve, .slice A15 a0_1.L.length c16, .slice A19 a0_1.I.length c20] 104 (0, 0))] ++ (G17 ++ (G21))) := ⟨_, _, ⟨A15, c16, G17, A19, c20, G21, rfl, hO18, hO22, rfl⟩, rfl⟩
         have S276 : St _ _ _ [[(p0_1, .cells #[.int .i64 a0_1.C.Clients, .int .i64 a0_1.C.Entries, .int .i64 a0_1.C.Bytes, .int .i64 a0_1.C.Reserve, .slice A15 a0_1.L.length c16, .slice A19 a0_1.I.length c20] 104 (0, 0))] ++ (G17 ++ (G21)), [(p0_0, .cells #[.int .i64 a0_0.config.Clients, .int .i64 a0_0.config.Entries, .int .i64 a0_0.config.Bytes, .int .i64 a0_0.config.Reserve, .map (some b5), .int .i64 a0_0.entries, .int .i64 a0_0.bytes] 89 (0, 0))] ++ (G6), [(b42, .cells #[.int .i64 t37.1.Address, .int .i64 t37.1.Instance] 34 (0, 0))], [(b31, .cells #[.bool a1.Other, .bool a1.Raw, .int .i64 a1.What, .int .i64 a1.Who, .int .i64 a1.Sequence, .int .i64 a1.Water, .int .i64 a1.Whose.Address, .int .i64 a1.Whose.Instance, .string (bs a1.Reply)] 36 (0, 0))], [(b25, .cells #[.pointer (some ⟨p0_0, 0, none⟩), .pointer (some ⟨p0_1, 0, none⟩)] 60 (0, 0))]] := S274.objs (by simp)
         have S277 := S276.front 1 rfl
         change St _ _ _ [[(p0_0, .cells #[.int .i64 a0_0.config.Clients, .int .i64 a0_0.config.Entries, .int .i64 a0_0.config.Bytes, .int .i64 a0_0.config.Reserve, .map (some b5), .int .i64 a0_0.entries, .int .i64 a0_0.bytes] 89 (0, 0))] ++ (G6), [(p0_1, .cells #[.int .i64 a0_1.C.Clients, .int .i64 a0_1.C.Entries, .int .i64 a0_1.C.Bytes, .int .i64 a0_1.C.Reserve, .slice A15 a0_1.L.length c16, .slice A19 a0_1.I.length c20] 104 (0, 0))] ++ (G17 ++ (G21)), [(b42, .cells #[.int .i64 t37.1.Address, .int .i64 t37.1.Instance] 34 (0, 0))], [(b31, .cells #[.bool a1.Other, .bool a1.Raw, .int .i64 a1.What, .int .i64 a1.Who, .int .i64 a1.Sequence, .int .i64 a1.Water, .int .i64 a1.Whose.Address, .int .i64 a1.Whose.Instance, .string (bs a1.Reply)] 36 (0, 0))], [(b25, .cells #[.pointer (some ⟨p0_0, 0, none⟩), .pointer (some ⟨p0_1, 0, none⟩)] 60 (0, 0))]] at S277
         exact ⟨[(p0_0, .cells #[.int .i64 a0_0.config.Clients, .int .i64 a0_0.config.Entries, .int .i64 a0_0.config.Bytes, .int .i64 a0_0.config.Reserve, .map (some b5), .int .i64 a0_0.entries, .int .i64 a0_0.bytes] 89 (0, 0))] ++ (G6), [(p0_1, .cells #[.int .i64 a0_1.C.Clients, .int .i64 a0_1.C.Entries, .int .i64 a0_1.C.Bytes, .int .i64 a0_1.C.Reserve, .slice A15 a0_1.L.length c16, .slice A19 a0_1.I.length c20] 104 (0, 0))] ++ (G17 ++ (G21)), rfl, hO272, hO275, St.keep (As := [[(p0_0, .cells #[.int .i64 a0_0.config.Clients, .int .i64 a0_0.config.Entries, .int .i64 a0_0.config.Bytes, .int .i64 a0_0.config.Reserve, .map (some b5), .int .i64 a0_0.entries, .int .i64 a0_0.bytes] 89 (0, 0))] ++ (G6), [(p0_1, .cells #[.int .i64 a0_1.C.Clients, .int .i64 a0_1.C.Entries, .int .i64 a0_1.C.Bytes, .int .i64 a0_1.C.Reserve, .slice A15 a0_1.L.length c16, .slice A19 a0_1.I.length c20] 104 (0, 0))] ++ (G17 ++ (G21))]) S277⟩
        ·
         refine WH.off rfl rfl (kbl (b := decide (t242 = t249)) rfl (decide_eq_false h256)) rfl rfl rfl ?_
         refine WH.off rfl rfl (kbl (b := decide (t242 = t249)) rfl (decide_eq_false h256)) rfl rfl rfl ?_
         refine WH.off rfl rfl (kbl (b := decide (t242 = t249)) rfl (decide_eq_false h256)) rfl rfl rfl ?_
         refine WH.off rfl rfl (kbl (b := decide (t242 = t249)) rfl (decide_eq_false h256)) rfl rfl rfl ?_
         refine WH.off2 rfl rfl (kbl (b := decide (t242 = t249)) rfl (decide_eq_false h256)) rfl rfl ⟨cellsAt.of_blk (S255.blk 7 rfl) rfl, trivial⟩ ?_
         refine WH.off2 rfl rfl (kbl (b := decide (t242 = t249)) rfl (decide_eq_false h256)) rfl rfl ⟨cellsAt.of_blk (S255.blk 7 rfl) rfl, trivial⟩ ?_
         refine WH.off rfl rfl (kbl (b := decide (t242 = t249)) rfl (decide_eq_false h256)) rfl rfl rfl ?_
         refine WH.p rfl wants (G.pick_f (kb (b := decide (t242 = t249)) rfl (decide_eq_false h256)) rfl) rfl ?_
         refine WH.p rfl wants (G.assign rfl) rfl ?_
         refine WH.nil ?_
         refine WEx.then_ ?_
         refine WCode.forget (l' := [(4, .bool false)]) ⟨rfl, trivial⟩ ?_
         refine WCode.ret ?_
         obtain rfl := some_eq hF
         refine WEx.ret1 rfl rfl ?_
         have S278 := (S255.front 4 rfl).front 4 rfl
         change St _ _ _ [[(p0_0, .cells #[.int .i64 a0_0.config.Clients, .int .i64 a0_0.config.Entries, .int .i64 a0_0.config.Bytes, .int .i64 a0_0.config.Reserve, .map (some b5), .int .i64 a0_0.entries, .int .i64 a0_0.bytes] 89 (0, 0))], G6, [(p0_1, .cells #[.int .i64 a0_1.C.Clients, .int .i64 a0_1.C.Entries, .int .i64 a0_1.C.Bytes, .int .i64 a0_1.C.Reserve, .slice A15 a0_1.L.length c16, .slice A19 a0_1.I.length c20] 104 (0, 0))], G17, G21, [(b42, .cells #[.int .i64 t37.1.Address, .int .i64 t37.1.Instance] 34 (0, 0))], [(b31, .cells #[.bool a1.Other, .bool a1.Raw, .int .i64 a1.What, .int .i64 a1.Who, .int .i64 a1.Sequence, .int .i64 a1.Water, .int .i64 a1.Whose.Address, .int .i64 a1.Whose.Instance, .string (bs a1.Reply)] 36 (0, 0))], [(b25, .cells #[.pointer (some ⟨p0_0, 0, none⟩), .pointer (some ⟨p0_1, 0, none⟩)] 60 (0, 0))]] at S278
         have hO279 : ObjO 89 Cache.rp p0_0 a0_0 ([(p0_0, .cells #[.int .i64 a0_0.config.Clients, .int .i64 a0_0.config.Entries, .int .i64 a0_0.config.Bytes, .int .i64 a0_0.config.Reserve, .map (some b5), .int .i64 a0_0.entries, .int .i64 a0_0.bytes] 89 (0, 0))] ++ (G6)) := ⟨_, _, ⟨b5, G6, rfl, hO7, rfl⟩, rfl⟩
         have S280 : St _ _ _ [[(p0_0, .cells #[.int .i64 a0_0.config.Clients, .int .i64 a0_0.config.Entries, .int .i64 a0_0.config.Bytes, .int .i64 a0_0.config.Reserve, .map (some b5), .int .i64 a0_0.entries, .int .i64 a0_0.bytes] 89 (0, 0))] ++ (G6), [(p0_1, .cells #[.int .i64 a0_1.C.Clients, .int .i64 a0_1.C.Entries, .int .i64 a0_1.C.Bytes, .int .i64 a0_1.C.Reserve, .slice A15 a0_1.L.length c16, .slice A19 a0_1.I.length c20] 104 (0, 0))], G17, G21, [(b42, .cells #[.int .i64 t37.1.Address, .int .i64 t37.1.Instance] 34 (0, 0))], [(b31, .cells #[.bool a1.Other, .bool a1.Raw, .int .i64 a1.What, .int .i64 a1.Who, .int .i64 a1.Sequence, .int .i64 a1.Water, .int .i64 a1.Whose.Address, .int .i64 a1.Whose.Instance, .string (bs a1.Reply)] 36 (0, 0))], [(b25, .cells #[.pointer (some ⟨p0_0, 0, none⟩), .pointer (some ⟨p0_1, 0, none⟩)] 60 (0, 0))]] := S278.objs (by simp)
         have S281 := ((S280.front 3 rfl).front 3 rfl).front 3 rfl
         change St _ _ _ [[(p0_1, .cells #[.int .i64 a0_1.C.Clients, .int .i64 a0_1.C.Entries, .int .i64 a0_1.C.Bytes, .int .i64 a0_1.C.Reserve, .slice A15 a0_1.L.length c16, .slice A19 a0_1.I.length c20] 104 (0, 0))], G17, G21, [(p0_0, .cells #[.int .i64 a0_0.config.Clients, .int .i64 a0_0.config.Entries, .int .i64 a0_0.config.Bytes, .int .i64 a0_0.config.Reserve, .map (some b5), .int .i64 a0_0.entries, .int .i64 a0_0.bytes] 89 (0, 0))] ++ (G6), [(b42, .cells #[.int .i64 t37.1.Address, .int .i64 t37.1.Instance] 34 (0, 0))], [(b31, .cells #[.bool a1.Other, .bool a1.Raw, .int .i64 a1.What, .int .i64 a1.Who, .int .i64 a1.Sequence, .int .i64 a1.Water, .int .i64 a1.Whose.Address, .int .i64 a1.Whose.Instance, .string (bs a1.Reply)] 36 (0, 0))], [(b25, .cells #[.pointer (some ⟨p0_0, 0, none⟩), .pointer (some ⟨p0_1, 0, none⟩)] 60 (0, 0))]] at S281
         have hO282 : ObjO 104 Cache104.rp p0_1 a0_1 ([(p0_1, .cells #[.int .i64 a0_1.C.Clients, .int .i64 a0_1.C.Entries, .int .i64 a0_1.C.Bytes, .int .i64 a0_1.C.Reserve, .slice A15 a0_1.L.length c16, .slice A19 a0_1.I.length c20] 104 (0, 0))] ++ (G17 ++ (G21))) := ⟨_, _, ⟨A15, c16, G17, A19, c20, G21, rfl, hO18, hO22, rfl⟩, rfl⟩
         have S283 : St _ _ _ [[(p0_1, .cells #[.int .i64 a0_1.C.Clients, .int .i64 a0_1.C.Entries, .int .i64 a0_1.C.Bytes, .int .i64 a0_1.C.Reserve, .slice A15 a0_1.L.length c16, .slice A19 a0_1.I.length c20] 104 (0, 0))] ++ (G17 ++ (G21)), [(p0_0, .cells #[.int .i64 a0_0.config.Clients, .int .i64 a0_0.config.Entries, .int .i64 a0_0.config.Bytes, .int .i64 a0_0.config.Reserve, .map (some b5), .int .i64 a0_0.entries, .int .i64 a0_0.bytes] 89 (0, 0))] ++ (G6), [(b42, .cells #[.int .i64 t37.1.Address, .int .i64 t37.1.Instance] 34 (0, 0))], [(b31, .cells #[.bool a1.Other, .bool a1.Raw, .int .i64 a1.What, .int .i64 a1.Who, .int .i64 a1.Sequence, .int .i64 a1.Water, .int .i64 a1.Whose.Address, .int .i64 a1.Whose.Instance, .string (bs a1.Reply)] 36 (0, 0))], [(b25, .cells #[.pointer (some ⟨p0_0, 0, none⟩), .pointer (some ⟨p0_1, 0, none⟩)] 60 (0, 0))]] := S281.objs (by simp)
         have S284 := S283.front 1 rfl
         change St _ _ _ [[(p0_0, .cells #[.int .i64 a0_0.config.Clients, .int .i64 a0_0.config.Entries, .int .i64 a0_0.config.Bytes, .int .i64 a0_0.config.Reserve, .map (some b5), .int .i64 a0_0.entries, .int .i64 a0_0.bytes] 89 (0, 0))] ++ (G6), [(p0_1, .cells #[.int .i64 a0_1.C.Clients, .int .i64 a0_1.C.Entries, .int .i64 a0_1.C.Bytes, .int .i64 a0_1.C.Reserve, .slice A15 a0_1.L.length c16, .slice A19 a0_1.I.length c20] 104 (0, 0))] ++ (G17 ++ (G21)), [(b42, .cells #[.int .i64 t37.1.Address, .int .i64 t37.1.Instance] 34 (0, 0))], [(b31, .cells #[.bool a1.Other, .bool a1.Raw, .int .i64 a1.What, .int .i64 a1.Who, .int .i64 a1.Sequence, .int .i64 a1.Water, .int .i64 a1.Whose.Address, .int .i64 a1.Whose.Instance, .string (bs a1.Reply)] 36 (0, 0))], [(b25, .cells #[.pointer (some ⟨p0_0, 0, none⟩), .pointer (some ⟨p0_1, 0, none⟩)] 60 (0, 0))]] at S284
         exact ⟨[(p0_0, .cells #[.int .i64 a0_0.config.Clients, .int .i64 a0_0.config.Entries, .int .i64 a0_0.config.Bytes, .int .i64 a0_0.config.Reserve, .map (some b5), .int .i64 a0_0.entries, .int .i64 a0_0.bytes] 89 (0, 0))] ++ (G6), [(p0_1, .cells #[.int .i64 a0_1.C.Clients, .int .i64 a0_1.C.Entries, .int .i64 a0_1.C.Bytes, .int .i64 a0_1.C.Reserve, .slice A15 a0_1.L.length c16, .slice A19 a0_1.I.length c20] 104 (0, 0))] ++ (G17 ++ (G21)), rfl, hO279, hO282, St.keep (As := [[(p0_0, .cells #[.int .i64 a0_0.config.Clients, .int .i64 a0_0.config.Entries, .int .i64 a0_0.config.Bytes, .int .i64 a0_0.config.Reserve, .map (some b5), .int .i64 a0_0.entries, .int .i64 a0_0.bytes] 89 (0, 0))] ++ (G6), [(p0_1, .cells #[.int .i64 a0_1.C.Clients, .int .i64 a0_1.C.Entries, .int .i64 a0_1.C.Bytes, .int .i64 a0_1.C.Reserve, .slice A15 a0_1.L.length c16, .slice A19 a0_1.I.length c20] 104 (0, 0))] ++ (G17 ++ (G21))]) S284⟩
       ·
        refine WH.off rfl rfl (kbl (b := decide (t227 = t234)) rfl (decide_eq_false h241)) rfl rfl rfl ?_
        refine WH.off rfl rfl (kbl (b := decide (t227 = t234)) rfl (decide_eq_false h241)) rfl rfl rfl ?_
        refine WH.off rfl rfl (kbl (b := decide (t227 = t234)) rfl (decide_eq_false h241)) rfl rfl rfl ?_
        refine WH.off rfl rfl (kbl (b := decide (t227 = t234)) rfl (decide_eq_false h241)) rfl rfl rfl ?_
        refine WH.off2 rfl rfl (kbl (b := decide (t227 = t234)) rfl (decide_eq_false h241)) rfl rfl ⟨cellsAt.of_blk (S240.blk 7 rfl) rfl, trivial⟩ ?_
        refine WH.off2 rfl rfl (kbl (b := decide (t227 = t234)) rfl (decide_eq_false h241)) rfl rfl ⟨cellsAt.of_blk (S240.blk 7 rfl) rfl, trivial⟩ ?_
        refine WH.off rfl rfl (kbl (b := decide (t227 = t234)) rfl (decide_eq_false h241)) rfl rfl rfl ?_
        refine WH.p rfl wants (G.pick_f (kb (b := decide (t227 = t234)) rfl (decide_eq_false h241)) rfl) rfl ?_
        refine WH.p rfl wants (G.move rfl) rfl ?_
        refine WH.off rfl rfl rfl rfl rfl rfl ?_
        refine WH.off rfl rfl rfl rfl rfl rfl ?_
        refine WH.off rfl rfl rfl rfl rfl rfl ?_
        refine WH.off rfl rfl rfl rfl rfl rfl ?_
        refine WH.off2 rfl rfl rfl rfl rfl ⟨cellsAt.of_blk (S240.blk 7 rfl) rfl, trivial⟩ ?_
        refine WH.off2 rfl rfl rfl rfl rfl ⟨cellsAt.of_blk (S240.blk 7 rfl) rfl, trivial⟩ ?_
        refine WH.off rfl rfl rfl rfl rfl rfl ?_
        refine WH.p rfl wants (G.pick_f rfl rfl) rfl ?_
        refine WH.p rfl wants (G.assign rfl) rfl ?_
        refine WH.nil ?_
        refine WEx.then_ ?_
        refine WCode.forget (l' := [(4, .bool false)]) ⟨rfl, trivial⟩ ?_
        refine WCode.ret ?_
        obtain rfl := some_eq hF
        refine WEx.ret1 rfl rfl ?_
        have S285 := (S240.front 4 rfl).front 4 rfl
        change St _ _ _ [[(p0_0, .cells #[.int .i64 a0_0.config.Clients, .int .i64 a0_0.config.Entries, .int .i64 a0_0.config.Bytes, .int .i64 a0_0.config.Reserve, .map (some b5), .int .i64 a0_0.entries, .int .i64 a0_0.bytes] 89 (0, 0))], G6, [(p0_1, .cells #[.int .i64 a0_1.C.Clients, .int .i64 a0_1.C.Entries, .int .i64 a0_1.C.Bytes, .int .i64 a0_1.C.Reserve, .slice A15 a0_1.L.length c16, .slice A19 a0_1.I.length c20] 104 (0, 0))], G17, G21, [(b42, .cells #[.int .i64 t37.1.Address, .int .i64 t37.1.Instance] 34 (0, 0))], [(b31, .cells #[.bool a1.Other, .bool a1.Raw, .int .i64 a1.What, .int .i64 a1.Who, .int .i64 a1.Sequence, .int .i64 a1.Water, .int .i64 a1.Whose.Address, .int .i64 a1.Whose.Instance, .string (bs a1.Reply)] 36 (0, 0))], [(b25, .cells #[.pointer (some ⟨p0_0, 0, none⟩), .pointer (some ⟨p0_1, 0, none⟩)] 60 (0, 0))]] at S285
        have hO286 : ObjO 89 Cache.rp p0_0 a0_0 ([(p0_0, .cells #[.int .i64 a0_0.config.Clients, .int .i64 a0_0.config.Entries, .int .i64 a0_0.config.Bytes, .int .i64 a0_0.config.Reserve, .map (some b5), .int .i64 a0_0.entries, .int .i64 a0_0.bytes] 89 (0, 0))] ++ (G6)) := ⟨_, _, ⟨b5, G6, rfl, hO7, rfl⟩, rfl⟩
        have S287 : St _ _ _ [[(p0_0, .cells #[.int .i64 a0_0.config.Clients, .int .i64 a0_0.config.Entries, .int .i64 a0_0.config.Bytes, .int .i64 a0_0.config.Reserve, .map (some b5), .int .i64 a0_0.entries, .int .i64 a0_0.bytes] 89 (0, 0))] ++ (G6), [(p0_1, .cells #[.int .i64 a0_1.C.Clients, .int .i64 a0_1.C.Entries, .int .i64 a0_1.C.Bytes, .int .i64 a0_1.C.Reserve, .slice A15 a0_1.L.length c16, .slice A19 a0_1.I.length c20] 104 (0, 0))], G17, G21, [(b42, .cells #[.int .i64 t37.1.Address, .int .i64 t37.1.Instance] 34 (0, 0))], [(b31, .cells #[.bool a1.Other, .bool a1.Raw, .int .i64 a1.What, .int .i64 a1.Who, .int .i64 a1.Sequence, .int .i64 a1.Water, .int .i64 a1.Whose.Address, .int .i64 a1.Whose.Instance, .string (bs a1.Reply)] 36 (0, 0))], [(b25, .cells #[.pointer (some ⟨p0_0, 0, none⟩), .pointer (some ⟨p0_1, 0, none⟩)] 60 (0, 0))]] := S285.objs (by simp)
        have S288 := ((S287.front 3 rfl).front 3 rfl).front 3 rfl
        change St _ _ _ [[(p0_1, .cells #[.int .i64 a0_1.C.Clients, .int .i64 a0_1.C.Entries, .int .i64 a0_1.C.Bytes, .int .i64 a0_1.C.Reserve, .slice A15 a0_1.L.length c16, .slice A19 a0_1.I.length c20] 104 (0, 0))], G17, G21, [(p0_0, .cells #[.int .i64 a0_0.config.Clients, .int .i64 a0_0.config.Entries, .int .i64 a0_0.config.Bytes, .int .i64 a0_0.config.Reserve, .map (some b5), .int .i64 a0_0.entries, .int .i64 a0_0.bytes] 89 (0, 0))] ++ (G6), [(b42, .cells #[.int .i64 t37.1.Address, .int .i64 t37.1.Instance] 34 (0, 0))], [(b31, .cells #[.bool a1.Other, .bool a1.Raw, .int .i64 a1.What, .int .i64 a1.Who, .int .i64 a1.Sequence, .int .i64 a1.Water, .int .i64 a1.Whose.Address, .int .i64 a1.Whose.Instance, .string (bs a1.Reply)] 36 (0, 0))], [(b25, .cells #[.pointer (some ⟨p0_0, 0, none⟩), .pointer (some ⟨p0_1, 0, none⟩)] 60 (0, 0))]] at S288
        have hO289 : ObjO 104 Cache104.rp p0_1 a0_1 ([(p0_1, .cells #[.int .i64 a0_1.C.Clients, .int .i64 a0_1.C.Entries, .int .i64 a0_1.C.Bytes, .int .i64 a0_1.C.Reserve, .slice A15 a0_1.L.length c16, .slice A19 a0_1.I.length c20] 104 (0, 0))] ++ (G17 ++ (G21))) := ⟨_, _, ⟨A15, c16, G17, A19, c20, G21, rfl, hO18, hO22, rfl⟩, rfl⟩
        have S290 : St _ _ _ [[(p0_1, .cells #[.int .i64 a0_1.C.Clients, .int .i64 a0_1.C.Entries, .int .i64 a0_1.C.Bytes, .int .i64 a0_1.C.Reserve, .slice A15 a0_1.L.length c16, .slice A19 a0_1.I.length c20] 104 (0, 0))] ++ (G17 ++ (G21)), [(p0_0, .cells #[.int .i64 a0_0.config.Clients, .int .i64 a0_0.config.Entries, .int .i64 a0_0.config.Bytes, .int .i64 a0_0.config.Reserve, .map (some b5), .int .i64 a0_0.entries, .int .i64 a0_0.bytes] 89 (0, 0))] ++ (G6), [(b42, .cells #[.int .i64 t37.1.Address, .int .i64 t37.1.Instance] 34 (0, 0))], [(b31, .cells #[.bool a1.Other, .bool a1.Raw, .int .i64 a1.What, .int .i64 a1.Who, .int .i64 a1.Sequence, .int .i64 a1.Water, .int .i64 a1.Whose.Address, .int .i64 a1.Whose.Instance, .string (bs a1.Reply)] 36 (0, 0))], [(b25, .cells #[.pointer (some ⟨p0_0, 0, none⟩), .pointer (some ⟨p0_1, 0, none⟩)] 60 (0, 0))]] := S288.objs (by simp)
        have S291 := S290.front 1 rfl
        change St _ _ _ [[(p0_0, .cells #[.int .i64 a0_0.config.Clients, .int .i64 a0_0.config.Entries, .int .i64 a0_0.config.Bytes, .int .i64 a0_0.config.Reserve, .map (some b5), .int .i64 a0_0.entries, .int .i64 a0_0.bytes] 89 (0, 0))] ++ (G6), [(p0_1, .cells #[.int .i64 a0_1.C.Clients, .int .i64 a0_1.C.Entries, .int .i64 a0_1.C.Bytes, .int .i64 a0_1.C.Reserve, .slice A15 a0_1.L.length c16, .slice A19 a0_1.I.length c20] 104 (0, 0))] ++ (G17 ++ (G21)), [(b42, .cells #[.int .i64 t37.1.Address, .int .i64 t37.1.Instance] 34 (0, 0))], [(b31, .cells #[.bool a1.Other, .bool a1.Raw, .int .i64 a1.What, .int .i64 a1.Who, .int .i64 a1.Sequence, .int .i64 a1.Water, .int .i64 a1.Whose.Address, .int .i64 a1.Whose.Instance, .string (bs a1.Reply)] 36 (0, 0))], [(b25, .cells #[.pointer (some ⟨p0_0, 0, none⟩), .pointer (some ⟨p0_1, 0, none⟩)] 60 (0, 0))]] at S291
        exact ⟨[(p0_0, .cells #[.int .i64 a0_0.config.Clients, .int .i64 a0_0.config.Entries, .int .i64 a0_0.config.Bytes, .int .i64 a0_0.config.Reserve, .map (some b5), .int .i64 a0_0.entries, .int .i64 a0_0.bytes] 89 (0, 0))] ++ (G6), [(p0_1, .cells #[.int .i64 a0_1.C.Clients, .int .i64 a0_1.C.Entries, .int .i64 a0_1.C.Bytes, .int .i64 a0_1.C.Reserve, .slice A15 a0_1.L.length c16, .slice A19 a0_1.I.length c20] 104 (0, 0))] ++ (G17 ++ (G21)), rfl, hO286, hO289, St.keep (As := [[(p0_0, .cells #[.int .i64 a0_0.config.Clients, .int .i64 a0_0.config.Entries, .int .i64 a0_0.config.Bytes, .int .i64 a0_0.config.Reserve, .map (some b5), .int .i64 a0_0.entries, .int .i64 a0_0.bytes] 89 (0, 0))] ++ (G6), [(p0_1, .cells #[.int .i64 a0_1.C.Clients, .int .i64 a0_1.C.Entries, .int .i64 a0_1.C.Bytes, .int .i64 a0_1.C.Reserve, .slice A15 a0_1.L.length c16, .slice A19 a0_1.I.length c20] 104 (0, 0))] ++ (G17 ++ (G21))]) S291⟩

end Go.Proofs.Ytpdpfiaediadgaa
