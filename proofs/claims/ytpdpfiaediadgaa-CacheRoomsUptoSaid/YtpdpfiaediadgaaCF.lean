/- Functions and their walks (printed by auto.py over the engine). -/
import Derived.Test.YtpdpfiaediadgaaProg
import Derived.Test.YtpdpfiaediadgaaCE
namespace Go.Proofs.Ytpdpfiaediadgaa
open Go Go.Eng
set_option linter.unusedSimpArgs false
set_option linter.unusedVariables false

theorem T.call13 : Callable Try.prog 13 := Callable.mk Try.func13 (by kernel_rfl) (by kernel_rfl)
theorem T.call15 : Callable Try.prog 15 := Callable.mk Try.func15 (by kernel_rfl) (by kernel_rfl)
theorem T.call16 : Callable Try.prog 16 := Callable.mk Try.func16 (by kernel_rfl) (by kernel_rfl)
theorem T.call17 : Callable Try.prog 17 := Callable.mk Try.func17 (by kernel_rfl) (by kernel_rfl)
theorem T.call18 : Callable Try.prog 18 := Callable.mk Try.func18 (by kernel_rfl) (by kernel_rfl)
theorem T.call19 : Callable Try.prog 19 := Callable.mk Try.func19 (by kernel_rfl) (by kernel_rfl)
theorem T.call20 : Callable Try.prog 20 := Callable.mk Try.func20 (by kernel_rfl) (by kernel_rfl)



def ca_known (k : Nat) : Option Bool := (Option.bind (ca_New k (⟨1, 2, 300, 100⟩ : CacheConfig)) fun t1 => (if (t1.1).isSome = true then (Option.bind (t1.1) fun x10 => (if t1.2 = 0 then (Option.bind (ca_Ask k x10 (⟨65537, 7⟩ : WhoC) 1 1) fun t38 => (Option.bind (ca_Ask k t38.2.2 (⟨65537, 7⟩ : WhoC) 1 1) fun t56 => (Option.bind (ca_Bytes k t56.2.2) fun t72 => (Option.bind (ca_Done k t56.2.2 (⟨65537, 7⟩ : WhoC) 1 ([121, 101, 115, 33] : List UInt8)) fun t80 => (Option.bind (ca_Ask k t80.2 (⟨65537, 7⟩ : WhoC) 1 1) fun t98 => (Option.bind (ca_Ask k t98.2.2 (⟨65537, 7⟩ : WhoC) 2 1) fun t116 => (Option.bind (ca_Ask k t116.2.2 (⟨65537, 7⟩ : WhoC) 3 1) fun t134 => (Option.bind (ca_Ask k t134.2.2 (⟨65537, 7⟩ : WhoC) 3 2) fun t152 => (if t38.1 = 1 then (if t56.1 = 2 then (if t72 = 100 then (if t80.1 = 0 then (if t98.1 = 3 then (if t98.2.1 = ([121, 101, 115, 33] : List UInt8) then (if t134.1 = 5 then (if t152.1 = 1 then (Option.bind (ca_Entries k t152.2.2) fun t176 => (if t176 = 2 then (Option.bind (ca_Water k t152.2.2 (⟨65537, 7⟩ : WhoC)) fun t183 => (if t183 = 2 then (Option.bind (ca_Clients k t152.2.2) fun t190 => (some (decide (t190 = 1)))) else (some false))) else (some false))) else (some false)) else (some false)) else (some false)) else (some false)) else (some false)) else (some false)) else (some false)) else (some false)))))))))) else (some false))) else (some false)))
set_option maxRecDepth 100000 in
set_option maxHeartbeats 1000000 in
theorem ca_known_calls (k : Nat)  {w : World} {r_ : Bool} (h_ : ca_known k = some r_) :
    Calls Try.prog 11 [].toArray w fun e w' => e = .returned (.bool r_) ∧ St w (KS []) w' [] := by
 have hF := h_
 clear h_
 unfold ca_known at hF
 have S := St.ofFalse (As := []) (St.init0 w)
 refine enter 112 [] Try.func11 rfl rfl rfl rfl ?_
 refine WCode.seq ?_
 refine WCode.region ?_
 refine WOps.p (G.assign rfl) rfl ?_
 refine WOps.nil ?_
 refine WEx.then_ ?_
 refine WCode.seq ?_
 refine WCode.region ?_
 refine WOps.p (G.build (cells := #[.int .i64 1, .int .i64 2, .int .i64 300, .int .i64 100]) (evp_spec (evp_cons rfl (evp_cons rfl (evp_cons rfl (evp_cons rfl evp_nil))))) (by kernel_rfl)) rfl ?_
 obtain ⟨t1, hc2, hF⟩ := bind_some hF
 refine WOps.call T.call13 (evs_cons rfl evs_nil) rfl ?_
 refine (ca_New_calls k (⟨1, 2, 300, 100⟩ : CacheConfig) hc2).mono ?_
 rintro _ w3 ⟨v6, G7, rfl, hO8, T4⟩
 have S5 := St.callN (As := []) S T4
 change St _ _ _ [G7] at S5
 refine ⟨_, rfl, ?_⟩
 refine WOps.p (G.move rfl) rfl ?_
 refine WOps.p (G.extract rfl rfl) rfl ?_
 refine WOps.p (G.extract rfl rfl) rfl ?_
 refine WOps.p (G.assign rfl) rfl ?_
 refine WOps.p (G.assign rfl) rfl ?_
 refine WOps.nil ?_
 refine WEx.then_ ?_
 refine WCode.seq ?_
 refine WCode.seq ?_
 refine WCode.region ?_
 refine WOps.p (G.move rfl) rfl ?_
 rcases ite_some hF with ⟨h9, hF⟩ | ⟨h9, hF⟩
 ·
  obtain ⟨x10, hc11, hF⟩ := bind_some hF
  have ho12 := hO8
  rw [hc11] at ho12
  obtain ⟨p13, hv14, hO15⟩ := ho12
  subst hv14
  obtain ⟨cs16, G17, ho18, hg19⟩ := hO15
  obtain ⟨b20, G21, rfl, hO22, hq23⟩ := ho18
  have S24 : St _ _ _ [[(p13, .cells #[.int .i64 x10.config.Clients, .int .i64 x10.config.Entries, .int .i64 x10.config.Bytes, .int .i64 x10.config.Reserve, .map (some b20), .int .i64 x10.entries, .int .i64 x10.bytes] 89 (0, 0))], G21] := S5.objs (by rw [hg19, hq23]; simp)
  refine WOps.p (G.eqp_nil Try.underlying28 rfl rfl rfl) rfl ?_
  refine WOps.p (G.move rfl) rfl ?_
  refine WOps.on rfl rfl ?_
  refine WOps.p (G.move rfl) rfl ?_
  refine WOps.on rfl rfl ?_
  refine WOps.p (G.neq rfl rfl rfl) rfl ?_
  refine WOps.p (G.pick_f rfl rfl) rfl ?_
  refine WOps.nil ?_
  refine WEx.then_ ?_
  refine WCode.forget (l' := [(1, .pointer (some ⟨p13, 0, none⟩)), (26, .bool (!(decide (t1.2 = 0))))]) ⟨rfl, rfl, trivial⟩ ?_
  rcases ite_some hF with ⟨h25, hF⟩ | ⟨h25, hF⟩
  ·
   refine WCode.cond_f (kb (b := !(decide (t1.2 = 0))) rfl (show (!(decide (t1.2 = 0))) = false from by rw [(decide_eq_true h25)]; rfl)) ?_
   refine WCode.skip ?_
   refine WEx.then_ ?_
   refine WCode.seq ?_
   refine WCode.region ?_
   refine WOps.p (G.build (cells := #[.int .i64 65537, .int .i64 7]) (evp_spec (evp_cons rfl (evp_cons rfl evp_nil))) (by kernel_rfl)) rfl ?_
   obtain ⟨b26, w27, E28, S29, X30, L31⟩ := St.var S24 (z := .agg #[.int .i64 0, .int .i64 0]) T.zero34
   change St _ _ _ [[(b26, .cells #[.int .i64 0, .int .i64 0] 34 (0, 0))], [(p13, .cells #[.int .i64 x10.config.Clients, .int .i64 x10.config.Entries, .int .i64 x10.config.Bytes, .int .i64 x10.config.Reserve, .map (some b20), .int .i64 x10.entries, .int .i64 x10.bytes] 89 (0, 0))], G21] at S29
   refine WOps.e E28 rfl ?_
   obtain ⟨w32, E33, S34⟩ := St.store (P := Try.prog) S29 0 34 (.agg #[.int .i64 65537, .int .i64 7]) (off := 0) (cur' := #[.int .i64 65537, .int .i64 7]) rfl T.size34_2 rfl rfl rfl
   change St _ _ _ [[(b26, .cells #[.int .i64 65537, .int .i64 7] 34 (0, 0))], [(p13, .cells #[.int .i64 x10.config.Clients, .int .i64 x10.config.Entries, .int .i64 x10.config.Bytes, .int .i64 x10.config.Reserve, .map (some b20), .int .i64 x10.entries, .int .i64 x10.bytes] 89 (0, 0))], G21] at S34
   refine WOps.u (E33 rfl rfl) ?_
   refine WOps.nil ?_
   refine WEx.then_ ?_
   refine WCode.seq ?_
   refine WCode.region ?_
   refine WOps.p (G.move rfl) rfl ?_
   refine WOps.r (G.loada T.agg34_2 rfl (cs := [.int .i64 65537, .int .i64 7]) (cellsAt.of_blk (S34.blk 0 rfl) rfl)) rfl ?_
   have S35 := (S34.front 2 rfl).front 2 rfl
   change St _ _ _ [[(p13, .cells #[.int .i64 x10.config.Clients, .int .i64 x10.config.Entries, .int .i64 x10.config.Bytes, .int .i64 x10.config.Reserve, .map (some b20), .int .i64 x10.entries, .int .i64 x10.bytes] 89 (0, 0))], G21, [(b26, .cells #[.int .i64 65537, .int .i64 7] 34 (0, 0))]] at S35
   have hO36 : ObjO 89 Cache.rp p13 x10 ([(p13, .cells #[.int .i64 x10.config.Clients, .int .i64 x10.config.Entries, .int .i64 x10.config.Bytes, .int .i64 x10.config.Reserve, .map (some b20), .int .i64 x10.entries, .int .i64 x10.bytes] 89 (0, 0))] ++ (G21)) := ⟨_, _, ⟨b20, G21, rfl, hO22, rfl⟩, rfl⟩
   have S37 : St _ _ _ [[(p13, .cells #[.int .i64 x10.config.Clients, .int .i64 x10.config.Entries, .int .i64 x10.config.Bytes, .int .i64 x10.config.Reserve, .map (some b20), .int .i64 x10.entries, .int .i64 x10.bytes] 89 (0, 0))] ++ (G21), [(b26, .cells #[.int .i64 65537, .int .i64 7] 34 (0, 0))]] := S35.objs (by simp)
   obtain ⟨t38, hc39, hF⟩ := bind_some hF
   refine WOps.call T.call17 (evs_cons rfl (evs_cons rfl (evs_cons rfl (evs_cons rfl evs_nil)))) rfl ?_
   refine (ca_Ask_calls k x10 (⟨65537, 7⟩ : WhoC) 1 1 hO36 hc39 (St.hpN (As := [[(p13, .cells #[.int .i64 x10.config.Clients, .int .i64 x10.config.Entries, .int .i64 x10.config.Bytes, .int .i64 x10.config.Reserve, .map (some b20), .int .i64 x10.entries, .int .i64 x10.bytes] 89 (0, 0))] ++ (G21)]) S37)).mono ?_
   rintro _ w40 ⟨G43, rfl, hO44, T41⟩
   have S42 := St.callN (As := [[(p13, .cells #[.int .i64 x10.config.Clients, .int .i64 x10.config.Entries, .int .i64 x10.config.Bytes, .int .i64 x10.config.Reserve, .map (some b20), .int .i64 x10.entries, .int .i64 x10.bytes] 89 (0, 0))] ++ (G21)]) S37 T41
   change St _ _ _ [G43, [(b26, .cells #[.int .i64 65537, .int .i64 7] 34 (0, 0))]] at S42
   refine ⟨_, rfl, ?_⟩
   obtain ⟨cs45, G46, ho47, hg48⟩ := hO44
   obtain ⟨b49, G50, rfl, hO51, hq52⟩ := ho47
   have S53 : St _ _ _ [[(p13, .cells #[.int .i64 t38.2.2.config.Clients, .int .i64 t38.2.2.config.Entries, .int .i64 t38.2.2.config.Bytes, .int .i64 t38.2.2.config.Reserve, .map (some b49), .int .i64 t38.2.2.entries, .int .i64 t38.2.2.bytes] 89 (0, 0))], G50, [(b26, .cells #[.int .i64 65537, .int .i64 7] 34 (0, 0))]] := S42.objs (by rw [hg48, hq52]; simp)
   refine WOps.p (G.move rfl) rfl ?_
   refine WOps.p (G.extract rfl rfl) rfl ?_
   refine WOps.p (G.extract rfl rfl) rfl ?_
   refine WOps.p (G.assign rfl) rfl ?_
   refine WOps.p (G.assign rfl) rfl ?_
   refine WOps.nil ?_
   refine WEx.then_ ?_
   refine WCode.seq ?_
   refine WCode.region ?_
   refine WOps.p (G.move rfl) rfl ?_
   refine WOps.r (G.loada T.agg34_2 rfl (cs := [.int .i64 65537, .int .i64 7]) (cellsAt.of_blk (S53.blk 2 rfl) rfl)) rfl ?_
   have hO54 : ObjO 89 Cache.rp p13 t38.2.2 ([(p13, .cells #[.int .i64 t38.2.2.config.Clients, .int .i64 t38.2.2.config.Entries, .int .i64 t38.2.2.config.Bytes, .int .i64 t38.2.2.config.Reserve, .map (some b49), .int .i64 t38.2.2.entries, .int .i64 t38.2.2.bytes] 89 (0, 0))] ++ (G50)) := ⟨_, _, ⟨b49, G50, rfl, hO51, rfl⟩, rfl⟩
   have S55 : St _ _ _ [[(p13, .cells #[.int .i64 t38.2.2.config.Clients, .int .i64 t38.2.2.config.Entries, .int .i64 t38.2.2.config.Bytes, .int .i64 t38.2.2.config.Reserve, .map (some b49), .int .i64 t38.2.2.entries, .int .i64 t38.2.2.bytes] 89 (0, 0))] ++ (G50), [(b26, .cells #[.int .i64 65537, .int .i64 7] 34 (0, 0))]] := S53.objs (by simp)
   obtain ⟨t56, hc57, hF⟩ := bind_some hF
   refine WOps.call T.call17 (evs_cons rfl (evs_cons rfl (evs_cons rfl (evs_cons rfl evs_nil)))) rfl ?_
   refine (ca_Ask_calls k t38.2.2 (⟨65537, 7⟩ : WhoC) 1 1 hO54 hc57 (St.hpN (As := [[(p13, .cells #[.int .i64 t38.2.2.config.Clients, .int .i64 t38.2.2.config.Entries, .int .i64 t38.2.2.config.Bytes, .int .i64 t38.2.2.config.Reserve, .map (some b49), .int .i64 t38.2.2.entries, .int .i64 t38.2.2.bytes] 89 (0, 0))] ++ (G50)]) S55)).mono ?_
   rintro _ w58 ⟨G61, rfl, hO62, T59⟩
   have S60 := St.callN (As := [[(p13, .cells #[.int .i64 t38.2.2.config.Clients, .int .i64 t38.2.2.config.Entries, .int .i64 t38.2.2.config.Bytes, .int .i64 t38.2.2.config.Reserve, .map (some b49), .int .i64 t38.2.2.entries, .int .i64 t38.2.2.bytes] 89 (0, 0))] ++ (G50)]) S55 T59
   change St _ _ _ [G61, [(b26, .cells #[.int .i64 65537, .int .i64 7] 34 (0, 0))]] at S60
   refine ⟨_, rfl, ?_⟩
   obtain ⟨cs63, G64, ho65, hg66⟩ := hO62
   obtain ⟨b67, G68, rfl, hO69, hq70⟩ := ho65
   have S71 : St _ _ _ [[(p13, .cells #[.int .i64 t56.2.2.config.Clients, .int .i64 t56.2.2.config.Entries, .int .i64 t56.2.2.config.Bytes, .int .i64 t56.2.2.config.Reserve, .map (some b67), .int .i64 t56.2.2.entries, .int .i64 t56.2.2.bytes] 89 (0, 0))], G68, [(b26, .cells #[.int .i64 65537, .int .i64 7] 34 (0, 0))]] := S60.objs (by rw [hg66, hq70]; simp)
   refine WOps.p (G.move rfl) rfl ?_
   refine WOps.p (G.extract rfl rfl) rfl ?_
   refine WOps.p (G.extract rfl rfl) rfl ?_
   refine WOps.p (G.assign rfl) rfl ?_
   refine WOps.p (G.assign rfl) rfl ?_
   refine WOps.nil ?_
   refine WEx.then_ ?_
   refine WCode.forget (l' := [(1, .pointer (some ⟨p13, 0, none⟩)), (3, .pointer (some ⟨b26, 0, none⟩)), (4, .int .i64 t38.1), (6, .int .i64 t56.1)]) ⟨rfl, rfl, rfl, rfl, trivial⟩ ?_
   refine WCode.seq ?_
   refine WCode.region ?_
   refine WOps.p (G.move rfl) rfl ?_
   obtain ⟨t72, hc73, hF⟩ := bind_some hF
   have hP74 : PtR 89 Cache.rp w58 (KS [[(p13, .cells #[.int .i64 t56.2.2.config.Clients, .int .i64 t56.2.2.config.Entries, .int .i64 t56.2.2.config.Bytes, .int .i64 t56.2.2.config.Reserve, .map (some b67), .int .i64 t56.2.2.entries, .int .i64 t56.2.2.bytes] 89 (0, 0))], G68]) p13 t56.2.2 := ⟨_, S71.blk 0 rfl, KS_at 0 rfl (by simp [keys]), ⟨b67, rfl, ((hO69.rd (fun b o hb => S71.grp 1 rfl hb)).mono (fun b hb => KS_at 1 rfl hb))⟩⟩
   refine WOps.call T.call19 (evs_cons rfl evs_nil) rfl ?_
   refine (ca_Bytes_calls k t56.2.2 hP74 (St.outN (Bs := []) (As := [[(p13, .cells #[.int .i64 t56.2.2.config.Clients, .int .i64 t56.2.2.config.Entries, .int .i64 t56.2.2.config.Bytes, .int .i64 t56.2.2.config.Reserve, .map (some b67), .int .i64 t56.2.2.entries, .int .i64 t56.2.2.bytes] 89 (0, 0))], G68]) S71) hc73).mono ?_
   rintro _ w75 ⟨rfl, T76⟩
   have S77 := St.callN (As := []) S71 T76
   change St _ _ _ [[(p13, .cells #[.int .i64 t56.2.2.config.Clients, .int .i64 t56.2.2.config.Entries, .int .i64 t56.2.2.config.Bytes, .int .i64 t56.2.2.config.Reserve, .map (some b67), .int .i64 t56.2.2.entries, .int .i64 t56.2.2.bytes] 89 (0, 0))], G68, [(b26, .cells #[.int .i64 65537, .int .i64 7] 34 (0, 0))]] at S77
   refine ⟨_, rfl, ?_⟩
   refine WOps.p (G.assign rfl) rfl ?_
   refine WOps.nil ?_
   refine WEx.then_ ?_
   refine WCode.seq ?_
   refine WCode.region ?_
   refine WOps.p (G.move rfl) rfl ?_
   refine WOps.r (G.loada T.agg34_2 rfl (cs := [.int .i64 65537, .int .i64 7]) (cellsAt.of_blk (S77.blk 2 rfl) rfl)) rfl ?_
   have hO78 : ObjO 89 Cache.rp p13 t56.2.2 ([(p13, .cells #[.int .i64 t56.2.2.config.Clients, .int .i64 t56.2.2.config.Entries, .int .i64 t56.2.2.config.Bytes, .int .i64 t56.2.2.config.Reserve, .map (some b67), .int .i64 t56.2.2.entries, .int .i64 t56.2.2.bytes] 89 (0, 0))] ++ (G68)) := ⟨_, _, ⟨b67, G68, rfl, hO69, rfl⟩, rfl⟩
   have S79 : St _ _ _ [[(p13, .cells #[.int .i64 t56.2.2.config.Clients, .int .i64 t56.2.2.config.Entries, .int .i64 t56.2.2.config.Bytes, .int .i64 t56.2.2.config.Reserve, .map (some b67), .int .i64 t56.2.2.entries, .int .i64 t56.2.2.bytes] 89 (0, 0))] ++ (G68), [(b26, .cells #[.int .i64 65537, .int .i64 7] 34 (0, 0))]] := S77.objs (by simp)
   obtain ⟨t80, hc81, hF⟩ := bind_some hF
   refine WOps.call T.call15 (evs_cons rfl (evs_cons rfl (evs_cons rfl (evs_cons rfl evs_nil)))) rfl ?_
   refine (ca_Done_calls k t56.2.2 (⟨65537, 7⟩ : WhoC) 1 ([121, 101, 115, 33] : List UInt8) hO78 hc81 (St.hpN (As := [[(p13, .cells #[.int .i64 t56.2.2.config.Clients, .int .i64 t56.2.2.config.Entries, .int .i64 t56.2.2.config.Bytes, .int .i64 t56.2.2.config.Reserve, .map (some b67), .int .i64 t56.2.2.entries, .int .i64 t56.2.2.bytes] 89 (0, 0))] ++ (G68)]) S79)).mono ?_
   rintro _ w82 ⟨G85, rfl, hO86, T83⟩
   have S84 := St.callN (As := [[(p13, .cells #[.int .i64 t56.2.2.config.Clients, .int .i64 t56.2.2.config.Entries, .int .i64 t56.2.2.config.Bytes, .int .i64 t56.2.2.config.Reserve, .map (some b67), .int .i64 t56.2.2.entries, .int .i64 t56.2.2.bytes] 89 (0, 0))] ++ (G68)]) S79 T83
   change St _ _ _ [G85, [(b26, .cells #[.int .i64 65537, .int .i64 7] 34 (0, 0))]] at S84
   refine ⟨_, rfl, ?_⟩
   obtain ⟨cs87, G88, ho89, hg90⟩ := hO86
   obtain ⟨b91, G92, rfl, hO93, hq94⟩ := ho89
   have S95 : St _ _ _ [[(p13, .cells #[.int .i64 t80.2.config.Clients, .int .i64 t80.2.config.Entries, .int .i64 t80.2.config.Bytes, .int .i64 t80.2.config.Reserve, .map (some b91), .int .i64 t80.2.entries, .int .i64 t80.2.bytes] 89 (0, 0))], G92, [(b26, .cells #[.int .i64 65537, .int .i64 7] 34 (0, 0))]] := S84.objs (by rw [hg90, hq94]; simp)
   refine WOps.p (G.assign rfl) rfl ?_
   refine WOps.nil ?_
   refine WEx.then_ ?_
   refine WCode.seq ?_
   refine WCode.region ?_
   refine WOps.p (G.move rfl) rfl ?_
   refine WOps.r (G.loada T.agg34_2 rfl (cs := [.int .i64 65537, .int .i64 7]) (cellsAt.of_blk (S95.blk 2 rfl) rfl)) rfl ?_
   have hO96 : ObjO 89 Cache.rp p13 t80.2 ([(p13, .cells #[.int .i64 t80.2.config.Clients, .int .i64 t80.2.config.Entries, .int .i64 t80.2.config.Bytes, .int .i64 t80.2.config.Reserve, .map (some b91), .int .i64 t80.2.entries, .int .i64 t80.2.bytes] 89 (0, 0))] ++ (G92)) := ⟨_, _, ⟨b91, G92, rfl, hO93, rfl⟩, rfl⟩
   have S97 : St _ _ _ [[(p13, .cells #[.int .i64 t80.2.config.Clients, .int .i64 t80.2.config.Entries, .int .i64 t80.2.config.Bytes, .int .i64 t80.2.config.Reserve, .map (some b91), .int .i64 t80.2.entries, .int .i64 t80.2.bytes] 89 (0, 0))] ++ (G92), [(b26, .cells #[.int .i64 65537, .int .i64 7] 34 (0, 0))]] := S95.objs (by simp)
   obtain ⟨t98, hc99, hF⟩ := bind_some hF
   refine WOps.call T.call17 (evs_cons rfl (evs_cons rfl (evs_cons rfl (evs_cons rfl evs_nil)))) rfl ?_
   refine (ca_Ask_calls k t80.2 (⟨65537, 7⟩ : WhoC) 1 1 hO96 hc99 (St.hpN (As := [[(p13, .cells #[.int .i64 t80.2.config.Clients, .int .i64 t80.2.config.Entries, .int .i64 t80.2.config.Bytes, .int .i64 t80.2.config.Reserve, .map (some b91), .int .i64 t80.2.entries, .int .i64 t80.2.bytes] 89 (0, 0))] ++ (G92)]) S97)).mono ?_
   rintro _ w100 ⟨G103, rfl, hO104, T101⟩
   have S102 := St.callN (As := [[(p13, .cells #[.int .i64 t80.2.config.Clients, .int .i64 t80.2.config.Entries, .int .i64 t80.2.config.Bytes, .int .i64 t80.2.config.Reserve, .map (some b91), .int .i64 t80.2.entries, .int .i64 t80.2.bytes] 89 (0, 0))] ++ (G92)]) S97 T101
   change St _ _ _ [G103, [(b26, .cells #[.int .i64 65537, .int .i64 7] 34 (0, 0))]] at S102
   refine ⟨_, rfl, ?_⟩
   obtain ⟨cs105, G106, ho107, hg108⟩ := hO104
   obtain ⟨b109, G110, rfl, hO111, hq112⟩ := ho107
   have S113 : St _ _ _ [[(p13, .cells #[.int .i64 t98.2.2.config.Clients, .int .i64 t98.2.2.config.Entries, .int .i64 t98.2.2.config.Bytes, .int .i64 t98.2.2.config.Reserve, .map (some b109), .int .i64 t98.2.2.entries, .int .i64 t98.2.2.bytes] 89 (0, 0))], G110, [(b26, .cells #[.int .i64 65537, .int .i64 7] 34 (0, 0))]] := S102.objs (by rw [hg108, hq112]; simp)
   refine WOps.p (G.move rfl) rfl ?_
   refine WOps.p (G.extract rfl rfl) rfl ?_
   refine WOps.p (G.extract rfl rfl) rfl ?_
   refine WOps.p (G.assign rfl) rfl ?_
   refine WOps.p (G.assign rfl) rfl ?_
   refine WOps.nil ?_
   refine WEx.then_ ?_
   refine WCode.forget (l' := [(1, .pointer (some ⟨p13, 0, none⟩)), (3, .pointer (some ⟨b26, 0, none⟩)), (4, .int .i64 t38.1), (6, .int .i64 t56.1), (8, .int .i64 t72), (9, .int .i64 t80.1), (10, .int .i64 t98.1), (11, .string (bs t98.2.1))]) ⟨rfl, rfl, rfl, rfl, rfl, rfl, rfl, rfl, trivial⟩ ?_
   refine WCode.seq ?_
   refine WCode.region ?_
   refine WOps.p (G.move rfl) rfl ?_
   refine WOps.r (G.loada T.agg34_2 rfl (cs := [.int .i64 65537, .int .i64 7]) (cellsAt.of_blk (S113.blk 2 rfl) rfl)) rfl ?_
   have hO114 : ObjO 89 Cache.rp p13 t98.2.2 ([(p13, .cells #[.int .i64 t98.2.2.config.Clients, .int .i64 t98.2.2.config.Entries, .int .i64 t98.2.2.config.Bytes, .int .i64 t98.2.2.config.Reserve, .map (some b109), .int .i64 t98.2.2.entries, .int .i64 t98.2.2.bytes] 89 (0, 0))] ++ (G110)) := ⟨_, _, ⟨b109, G110, rfl, hO111, rfl⟩, rfl⟩
   have S115 : St _ _ _ [[(p13, .cells #[.int .i64 t98.2.2.config.Clients, .int .i64 t98.2.2.config.Entries, .int .i64 t98.2.2.config.Bytes, .int .i64 t98.2.2.config.Reserve, .map (some b109), .int .i64 t98.2.2.entries, .int .i64 t98.2.2.bytes] 89 (0, 0))] ++ (G110), [(b26, .cells #[.int .i64 65537, .int .i64 7] 34 (0, 0))]] := S113.objs (by simp)
   obtain ⟨t116, hc117, hF⟩ := bind_some hF
   refine WOps.call T.call17 (evs_cons rfl (evs_cons rfl (evs_cons rfl (evs_cons rfl evs_nil)))) rfl ?_
   refine (ca_Ask_calls k t98.2.2 (⟨65537, 7⟩ : WhoC) 2 1 hO114 hc117 (St.hpN (As := [[(p13, .cells #[.int .i64 t98.2.2.config.Clients, .int .i64 t98.2.2.config.Entries, .int .i64 t98.2.2.config.Bytes, .int .i64 t98.2.2.config.Reserve, .map (some b109), .int .i64 t98.2.2.entries, .int .i64 t98.2.2.bytes] 89 (0, 0))] ++ (G110)]) S115)).mono ?_
   rintro _ w118 ⟨G121, rfl, hO122, T119⟩
   have S120 := St.callN (As := [[(p13, .cells #[.int .i64 t98.2.2.config.Clients, .int .i64 t98.2.2.config.Entries, .int .i64 t98.2.2.config.Bytes, .int .i64 t98.2.2.config.Reserve, .map (some b109), .int .i64 t98.2.2.entries, .int .i64 t98.2.2.bytes] 89 (0, 0))] ++ (G110)]) S115 T119
   change St _ _ _ [G121, [(b26, .cells #[.int .i64 65537, .int .i64 7] 34 (0, 0))]] at S120
   refine ⟨_, rfl, ?_⟩
   obtain ⟨cs123, G124, ho125, hg126⟩ := hO122
   obtain ⟨b127, G128, rfl, hO129, hq130⟩ := ho125
   have S131 : St _ _ _ [[(p13, .cells #[.int .i64 t116.2.2.config.Clients, .int .i64 t116.2.2.config.Entries, .int .i64 t116.2.2.config.Bytes, .int .i64 t116.2.2.config.Reserve, .map (some b127), .int .i64 t116.2.2.entries, .int .i64 t116.2.2.bytes] 89 (0, 0))], G128, [(b26, .cells #[.int .i64 65537, .int .i64 7] 34 (0, 0))]] := S120.objs (by rw [hg126, hq130]; simp)
   refine WOps.nil ?_
   refine WEx.then_ ?_
   refine WCode.seq ?_
   refine WCode.region ?_
   refine WOps.p (G.move rfl) rfl ?_
   refine WOps.r (G.loada T.agg34_2 rfl (cs := [.int .i64 65537, .int .i64 7]) (cellsAt.of_blk (S131.blk 2 rfl) rfl)) rfl ?_
   have hO132 : ObjO 89 Cache.rp p13 t116.2.2 ([(p13, .cells #[.int .i64 t116.2.2.config.Clients, .int .i64 t116.2.2.config.Entries, .int .i64 t116.2.2.config.Bytes, .int .i64 t116.2.2.config.Reserve, .map (some b127), .int .i64 t116.2.2.entries, .int .i64 t116.2.2.bytes] 89 (0, 0))] ++ (G128)) := ⟨_, _, ⟨b127, G128, rfl, hO129, rfl⟩, rfl⟩
   have S133 : St _ _ _ [[(p13, .cells #[.int .i64 t116.2.2.config.Clients, .int .i64 t116.2.2.config.Entries, .int .i64 t116.2.2.config.Bytes, .int .i64 t116.2.2.config.Reserve, .map (some b127), .int .i64 t116.2.2.entries, .int .i64 t116.2.2.bytes] 89 (0, 0))] ++ (G128), [(b26, .cells #[.int .i64 65537, .int .i64 7] 34 (0, 0))]] := S131.objs (by simp)
   obtain ⟨t134, hc135, hF⟩ := bind_some hF
   refine WOps.call T.call17 (evs_cons rfl (evs_cons rfl (evs_cons rfl (evs_cons rfl evs_nil)))) rfl ?_
   refine (ca_Ask_calls k t116.2.2 (⟨65537, 7⟩ : WhoC) 3 1 hO132 hc135 (St.hpN (As := [[(p13, .cells #[.int .i64 t116.2.2.config.Clients, .int .i64 t116.2.2.config.Entries, .int .i64 t116.2.2.config.Bytes, .int .i64 t116.2.2.config.Reserve, .map (some b127), .int .i64 t116.2.2.entries, .int .i64 t116.2.2.bytes] 89 (0, 0))] ++ (G128)]) S133)).mono ?_
   rintro _ w136 ⟨G139, rfl, hO140, T137⟩
   have S138 := St.callN (As := [[(p13, .cells #[.int .i64 t116.2.2.config.Clients, .int .i64 t116.2.2.config.Entries, .int .i64 t116.2.2.config.Bytes, .int .i64 t116.2.2.config.Reserve, .map (some b127), .int .i64 t116.2.2.entries, .int .i64 t116.2.2.bytes] 89 (0, 0))] ++ (G128)]) S133 T137
   change St _ _ _ [G139, [(b26, .cells #[.int .i64 65537, .int .i64 7] 34 (0, 0))]] at S138
   refine ⟨_, rfl, ?_⟩
   obtain ⟨cs141, G142, ho143, hg144⟩ := hO140
   obtain ⟨b145, G146, rfl, hO147, hq148⟩ := ho143
   have S149 : St _ _ _ [[(p13, .cells #[.int .i64 t134.2.2.config.Clients, .int .i64 t134.2.2.config.Entries, .int .i64 t134.2.2.config.Bytes, .int .i64 t134.2.2.config.Reserve, .map (some b145), .int .i64 t134.2.2.entries, .int .i64 t134.2.2.bytes] 89 (0, 0))], G146, [(b26, .cells #[.int .i64 65537, .int .i64 7] 34 (0, 0))]] := S138.objs (by rw [hg144, hq148]; simp)
   refine WOps.p (G.move rfl) rfl ?_
   refine WOps.p (G.extract rfl rfl) rfl ?_
   refine WOps.p (G.extract rfl rfl) rfl ?_
   refine WOps.p (G.assign rfl) rfl ?_
   refine WOps.p (G.assign rfl) rfl ?_
   refine WOps.nil ?_
   refine WEx.then_ ?_
   refine WCode.forget (l' := [(1, .pointer (some ⟨p13, 0, none⟩)), (3, .pointer (some ⟨b26, 0, none⟩)), (4, .int .i64 t38.1), (6, .int .i64 t56.1), (8, .int .i64 t72), (9, .int .i64 t80.1), (10, .int .i64 t98.1), (11, .string (bs t98.2.1)), (12, .int .i64 t134.1)]) ⟨rfl, rfl, rfl, rfl, rfl, rfl, rfl, rfl, rfl, trivial⟩ ?_
   refine WCode.seq ?_
   refine WCode.region ?_
   refine WOps.p (G.move rfl) rfl ?_
   refine WOps.r (G.loada T.agg34_2 rfl (cs := [.int .i64 65537, .int .i64 7]) (cellsAt.of_blk (S149.blk 2 rfl) rfl)) rfl ?_
   have hO150 : ObjO 89 Cache.rp p13 t134.2.2 ([(p13, .cells #[.int .i64 t134.2.2.config.Clients, .int .i64 t134.2.2.config.Entries, .int .i64 t134.2.2.config.Bytes, .int .i64 t134.2.2.config.Reserve, .map (some b145), .int .i64 t134.2.2.entries, .int .i64 t134.2.2.bytes] 89 (0, 0))] ++ (G146)) := ⟨_, _, ⟨b145, G146, rfl, hO147, rfl⟩, rfl⟩
   have S151 : St _ _ _ [[(p13, .cells #[.int .i64 t134.2.2.config.Clients, .int .i64 t134.2.2.config.Entries, .int .i64 t134.2.2.config.Bytes, .int .i64 t134.2.2.config.Reserve, .map (some b145), .int .i64 t134.2.2.entries, .int .i64 t134.2.2.bytes] 89 (0, 0))] ++ (G146), [(b26, .cells #[.int .i64 65537, .int .i64 7] 34 (0, 0))]] := S149.objs (by simp)
   obtain ⟨t152, hc153, hF⟩ := bind_some hF
   refine WOps.call T.call17 (evs_cons rfl (evs_cons rfl (evs_cons rfl (evs_cons rfl evs_nil)))) rfl ?_
   refine (ca_Ask_calls k t134.2.2 (⟨65537, 7⟩ : WhoC) 3 2 hO150 hc153 (St.hpN (As := [[(p13, .cells #[.int .i64 t134.2.2.config.Clients, .int .i64 t134.2.2.config.Entries, .int .i64 t134.2.2.config.Bytes, .int .i64 t134.2.2.config.Reserve, .map (some b145), .int .i64 t134.2.2.entries, .int .i64 t134.2.2.bytes] 89 (0, 0))] ++ (G146)]) S151)).mono ?_
   rintro _ w154 ⟨G157, rfl, hO158, T155⟩
   have S156 := St.callN (As := [[(p13, .cells #[.int .i64 t134.2.2.config.Clients, .int .i64 t134.2.2.config.Entries, .int .i64 t134.2.2.config.Bytes, .int .i64 t134.2.2.config.Reserve, .map (some b145), .int .i64 t134.2.2.entries, .int .i64 t134.2.2.bytes] 89 (0, 0))] ++ (G146)]) S151 T155
   change St _ _ _ [G157, [(b26, .cells #[.int .i64 65537, .int .i64 7] 34 (0, 0))]] at S156
   refine ⟨_, rfl, ?_⟩
   obtain ⟨cs159, G160, ho161, hg162⟩ := hO158
   obtain ⟨b163, G164, rfl, hO165, hq166⟩ := ho161
   have S167 : St _ _ _ [[(p13, .cells #[.int .i64 t152.2.2.config.Clients, .int .i64 t152.2.2.config.Entries, .int .i64 t152.2.2.config.Bytes, .int .i64 t152.2.2.config.Reserve, .map (some b163), .int .i64 t152.2.2.entries, .int .i64 t152.2.2.bytes] 89 (0, 0))], G164, [(b26, .cells #[.int .i64 65537, .int .i64 7] 34 (0, 0))]] := S156.objs (by rw [hg162, hq166]; simp)
   refine WOps.p (G.move rfl) rfl ?_
   refine WOps.p (G.extract rfl rfl) rfl ?_
   refine WOps.p (G.extract rfl rfl) rfl ?_
   refine WOps.p (G.assign rfl) rfl ?_
   refine WOps.p (G.assign rfl) rfl ?_
   refine WOps.nil ?_
   refine WEx.then_ ?_
   refine WCode.seq ?_
   refine WCode.region ?_
   refine WOps.p (G.move rfl) rfl ?_
   refine WOps.p (G.eql rfl rfl rfl) rfl ?_
   refine WOps.p (G.move rfl) rfl ?_
   rcases ite_some hF with ⟨h168, hF⟩ | ⟨h168, hF⟩
   ·
    refine WOps.on rfl (kbl (b := decide (t38.1 = 1)) rfl (decide_eq_true h168)) ?_
    refine WOps.p (G.move rfl) rfl ?_
    refine WOps.on rfl (kbl (b := decide (t38.1 = 1)) rfl (decide_eq_true h168)) ?_
    refine WOps.p (G.eql rfl rfl rfl) rfl ?_
    refine WOps.p (G.pick_t (kb (b := decide (t38.1 = 1)) rfl (decide_eq_true h168)) rfl) rfl ?_
    refine WOps.p (G.move rfl) rfl ?_
    rcases ite_some hF with ⟨h169, hF⟩ | ⟨h169, hF⟩
    ·
     refine WOps.on rfl (kbl (b := decide (t56.1 = 2)) rfl (decide_eq_true h169)) ?_
     refine WOps.p (G.move rfl) rfl ?_
     refine WOps.on rfl (kbl (b := decide (t56.1 = 2)) rfl (decide_eq_true h169)) ?_
     refine WOps.p (G.eql rfl rfl rfl) rfl ?_
     refine WOps.p (G.pick_t (kb (b := decide (t56.1 = 2)) rfl (decide_eq_true h169)) rfl) rfl ?_
     refine WOps.p (G.move rfl) rfl ?_
     rcases ite_some hF with ⟨h170, hF⟩ | ⟨h170, hF⟩
     ·
      refine WOps.on rfl (kbl (b := decide (t72 = 100)) rfl (decide_eq_true h170)) ?_
      refine WOps.p (G.move rfl) rfl ?_
      refine WOps.on rfl (kbl (b := decide (t72 = 100)) rfl (decide_eq_true h170)) ?_
      refine WOps.p (G.eql rfl rfl rfl) rfl ?_
      refine WOps.p (G.pick_t (kb (b := decide (t72 = 100)) rfl (decide_eq_true h170)) rfl) rfl ?_
      refine WOps.p (G.move rfl) rfl ?_
      rcases ite_some hF with ⟨h171, hF⟩ | ⟨h171, hF⟩
      ·
       refine WOps.on rfl (kbl (b := decide (t80.1 = 0)) rfl (decide_eq_true h171)) ?_
       refine WOps.p (G.move rfl) rfl ?_
       refine WOps.on rfl (kbl (b := decide (t80.1 = 0)) rfl (decide_eq_true h171)) ?_
       refine WOps.p (G.eql rfl rfl rfl) rfl ?_
       refine WOps.p (G.pick_t (kb (b := decide (t80.1 = 0)) rfl (decide_eq_true h171)) rfl) rfl ?_
       refine WOps.p (G.move rfl) rfl ?_
       rcases ite_some hF with ⟨h172, hF⟩ | ⟨h172, hF⟩
       ·
        refine WOps.on rfl (kbl (b := decide (t98.1 = 3)) rfl (decide_eq_true h172)) ?_
        refine WOps.p (G.move rfl) rfl ?_
        refine WOps.on rfl (kbl (b := decide (t98.1 = 3)) rfl (decide_eq_true h172)) ?_
        refine WOps.p (G.eqlb' rfl rfl rfl) rfl ?_
        refine WOps.p (G.pick_t (kb (b := decide (t98.1 = 3)) rfl (decide_eq_true h172)) rfl) rfl ?_
        refine WOps.p (G.move rfl) rfl ?_
        rcases ite_some hF with ⟨h173, hF⟩ | ⟨h173, hF⟩
        ·
         refine WOps.on rfl (kbl (b := decide (t98.2.1 = ([121, 101, 115, 33] : List UInt8))) rfl (decide_eq_true h173)) ?_
         refine WOps.p (G.move rfl) rfl ?_
         refine WOps.on rfl (kbl (b := decide (t98.2.1 = ([121, 101, 115, 33] : List UInt8))) rfl (decide_eq_true h173)) ?_
         refine WOps.p (G.eql rfl rfl rfl) rfl ?_
         refine WOps.p (G.pick_t (kb (b := decide (t98.2.1 = ([121, 101, 115, 33] : List UInt8))) rfl (decide_eq_true h173)) rfl) rfl ?_
         refine WOps.p (G.move rfl) rfl ?_
         rcases ite_some hF with ⟨h174, hF⟩ | ⟨h174, hF⟩
         ·
          refine WOps.on rfl (kbl (b := decide (t134.1 = 5)) rfl (decide_eq_true h174)) ?_
          refine WOps.p (G.move rfl) rfl ?_
          refine WOps.on rfl (kbl (b := decide (t134.1 = 5)) rfl (decide_eq_true h174)) ?_
          refine WOps.p (G.eql rfl rfl rfl) rfl ?_
          refine WOps.p (G.pick_t (kb (b := decide (t134.1 = 5)) rfl (decide_eq_true h174)) rfl) rfl ?_
          refine WOps.p (G.move rfl) rfl ?_
          rcases ite_some hF with ⟨h175, hF⟩ | ⟨h175, hF⟩
          ·
           refine WOps.on rfl (kbl (b := decide (t152.1 = 1)) rfl (decide_eq_true h175)) ?_
           refine WOps.p (G.move rfl) rfl ?_
           refine WOps.on rfl (kbl (b := decide (t152.1 = 1)) rfl (decide_eq_true h175)) ?_
           obtain ⟨t176, hc177, hF⟩ := bind_some hF
           have hP178 : PtR 89 Cache.rp w154 (KS [[(p13, .cells #[.int .i64 t152.2.2.config.Clients, .int .i64 t152.2.2.config.Entries, .int .i64 t152.2.2.config.Bytes, .int .i64 t152.2.2.config.Reserve, .map (some b163), .int .i64 t152.2.2.entries, .int .i64 t152.2.2.bytes] 89 (0, 0))], G164]) p13 t152.2.2 := ⟨_, S167.blk 0 rfl, KS_at 0 rfl (by simp [keys]), ⟨b163, rfl, ((hO165.rd (fun b o hb => S167.grp 1 rfl hb)).mono (fun b hb => KS_at 1 rfl hb))⟩⟩
           refine WOps.call T.call20 (evs_cons rfl evs_nil) rfl ?_
           refine (ca_Entries_calls k t152.2.2 hP178 (St.outN (Bs := []) (As := [[(p13, .cells #[.int .i64 t152.2.2.config.Clients, .int .i64 t152.2.2.config.Entries, .int .i64 t152.2.2.config.Bytes, .int .i64 t152.2.2.config.Reserve, .map (some b163), .int .i64 t152.2.2.entries, .int .i64 t152.2.2.bytes] 89 (0, 0))], G164]) S167) hc177).mono ?_
           rintro _ w179 ⟨rfl, T180⟩
           have S181 := St.callN (As := []) S167 T180
           change St _ _ _ [[(p13, .cells #[.int .i64 t152.2.2.config.Clients, .int .i64 t152.2.2.config.Entries, .int .i64 t152.2.2.config.Bytes, .int .i64 t152.2.2.config.Reserve, .map (some b163), .int .i64 t152.2.2.entries, .int .i64 t152.2.2.bytes] 89 (0, 0))], G164, [(b26, .cells #[.int .i64 65537, .int .i64 7] 34 (0, 0))]] at S181
           refine ⟨_, rfl, ?_⟩
           refine WOps.on rfl (kbl (b := decide (t152.1 = 1)) rfl (decide_eq_true h175)) ?_
           refine WOps.p (G.eql rfl rfl rfl) rfl ?_
           refine WOps.p (G.pick_t (kb (b := decide (t152.1 = 1)) rfl (decide_eq_true h175)) rfl) rfl ?_
           refine WOps.p (G.move rfl) rfl ?_
           rcases ite_some hF with ⟨h182, hF⟩ | ⟨h182, hF⟩
           ·
            refine WOps.on rfl (kbl (b := decide (t176 = 2)) rfl (decide_eq_true h182)) ?_
            refine WOps.p (G.move rfl) rfl ?_
            refine WOps.on rfl (kbl (b := decide (t176 = 2)) rfl (decide_eq_true h182)) ?_
            refine WOps.r (G.loada T.agg34_2 rfl (cs := [.int .i64 65537, .int .i64 7]) (cellsAt.of_blk (S181.blk 2 rfl) rfl)) rfl ?_
            refine WOps.on rfl (kbl (b := decide (t176 = 2)) rfl (decide_eq_true h182)) ?_
            obtain ⟨t183, hc184, hF⟩ := bind_some hF
            have hP185 : PtR 89 Cache.rp w179 (KS [[(p13, .cells #[.int .i64 t152.2.2.config.Clients, .int .i64 t152.2.2.config.Entries, .int .i64 t152.2.2.config.Bytes, .int .i64 t152.2.2.config.Reserve, .map (some b163), .int .i64 t152.2.2.entries, .int .i64 t152.2.2.bytes] 89 (0, 0))], G164]) p13 t152.2.2 := ⟨_, S181.blk 0 rfl, KS_at 0 rfl (by simp [keys]), ⟨b163, rfl, ((hO165.rd (fun b o hb => S181.grp 1 rfl hb)).mono (fun b hb => KS_at 1 rfl hb))⟩⟩
            refine WOps.call T.call16 (evs_cons rfl (evs_cons rfl evs_nil)) rfl ?_
            refine (ca_Water_calls k t152.2.2 (⟨65537, 7⟩ : WhoC) hP185 (St.outN (Bs := []) (As := [[(p13, .cells #[.int .i64 t152.2.2.config.Clients, .int .i64 t152.2.2.config.Entries, .int .i64 t152.2.2.config.Bytes, .int .i64 t152.2.2.config.Reserve, .map (some b163), .int .i64 t152.2.2.entries, .int .i64 t152.2.2.bytes] 89 (0, 0))], G164]) S181) hc184).mono ?_
            rintro _ w186 ⟨rfl, T187⟩
            have S188 := St.callN (As := []) S181 T187
            change St _ _ _ [[(p13, .cells #[.int .i64 t152.2.2.config.Clients, .int .i64 t152.2.2.config.Entries, .int .i64 t152.2.2.config.Bytes, .int .i64 t152.2.2.config.Reserve, .map (some b163), .int .i64 t152.2.2.entries, .int .i64 t152.2.2.bytes] 89 (0, 0))], G164, [(b26, .cells #[.int .i64 65537, .int .i64 7] 34 (0, 0))]] at S188
            refine ⟨_, rfl, ?_⟩
            refine WOps.on rfl (kbl (b := decide (t176 = 2)) rfl (decide_eq_true h182)) ?_
            refine WOps.p (G.eql rfl rfl rfl) rfl ?_
            refine WOps.p (G.pick_t (kb (b := decide (t176 = 2)) rfl (decide_eq_true h182)) rfl) rfl ?_
            refine WOps.p (G.move rfl) rfl ?_
            rcases ite_some hF with ⟨h189, hF⟩ | ⟨h189, hF⟩
            ·
             refine WOps.on rfl (kbl (b := decide (t183 = 2)) rfl (decide_eq_true h189)) ?_
             refine WOps.p (G.move rfl) rfl ?_
             refine WOps.on rfl (kbl (b := decide (t183 = 2)) rfl (decide_eq_true h189)) ?_
             obtain ⟨t190, hc191, hF⟩ := bind_some hF
             have hP192 : PtR 89 Cache.rp w186 (KS [[(p13, .cells #[.int .i64 t152.2.2.config.Clients, .int .i64 t152.2.2.config.Entries, .int .i64 t152.2.2.config.Bytes, .int .i64 t152.2.2.config.Reserve, .map (some b163), .int .i64 t152.2.2.entries, .int .i64 t152.2.2.bytes] 89 (0, 0))], G164]) p13 t152.2.2 := ⟨_, S188.blk 0 rfl, KS_at 0 rfl (by simp [keys]), ⟨b163, rfl, ((hO165.rd (fun b o hb => S188.grp 1 rfl hb)).mono (fun b hb => KS_at 1 rfl hb))⟩⟩
             refine WOps.call T.call18 (evs_cons rfl evs_nil) rfl ?_
             refine (ca_Clients_calls k t152.2.2 hP192 (St.outN (Bs := []) (As := [[(p13, .cells #[.int .i64 t152.2.2.config.Clients, .int .i64 t152.2.2.config.Entries, .int .i64 t152.2.2.config.Bytes, .int .i64 t152.2.2.config.Reserve, .map (some b163), .int .i64 t152.2.2.entries, .int .i64 t152.2.2.bytes] 89 (0, 0))], G164]) S188) hc191).mono ?_
             rintro _ w193 ⟨rfl, T194⟩
             have S195 := St.callN (As := []) S188 T194
             change St _ _ _ [[(p13, .cells #[.int .i64 t152.2.2.config.Clients, .int .i64 t152.2.2.config.Entries, .int .i64 t152.2.2.config.Bytes, .int .i64 t152.2.2.config.Reserve, .map (some b163), .int .i64 t152.2.2.entries, .int .i64 t152.2.2.bytes] 89 (0, 0))], G164, [(b26, .cells #[.int .i64 65537, .int .i64 7] 34 (0, 0))]] at S195
             refine ⟨_, rfl, ?_⟩
             refine WOps.on rfl (kbl (b := decide (t183 = 2)) rfl (decide_eq_true h189)) ?_
             refine WOps.p (G.eql rfl rfl rfl) rfl ?_
             refine WOps.p (G.pick_t (kb (b := decide (t183 = 2)) rfl (decide_eq_true h189)) rfl) rfl ?_
             refine WOps.p (G.assign rfl) rfl ?_
             refine WOps.nil ?_
             refine WEx.then_ ?_
             refine WCode.forget (l' := [(0, .bool (decide (t190 = 1)))]) ⟨rfl, trivial⟩ ?_
             refine WCode.ret ?_
             obtain rfl := some_eq hF
             refine WEx.ret1 rfl rfl ?_
             exact ⟨rfl, St.keep (As := []) S195⟩
            ·
             refine WOps.off rfl (kbl (b := decide (t183 = 2)) rfl (decide_eq_false h189)) rfl rfl ?_
             refine WOps.off rfl (kbl (b := decide (t183 = 2)) rfl (decide_eq_false h189)) rfl rfl ?_
             refine WOps.off rfl (kbl (b := decide (t183 = 2)) rfl (decide_eq_false h189)) rfl rfl ?_
             refine WOps.p (G.pick_f (kb (b := decide (t183 = 2)) rfl (decide_eq_false h189)) rfl) rfl ?_
             refine WOps.p (G.assign rfl) rfl ?_
             refine WOps.nil ?_
             refine WEx.then_ ?_
             refine WCode.forget (l' := [(0, .bool false)]) ⟨rfl, trivial⟩ ?_
             refine WCode.ret ?_
             obtain rfl := some_eq hF
             refine WEx.ret1 rfl rfl ?_
             exact ⟨rfl, St.keep (As := []) S188⟩
           ·
            refine WOps.off rfl (kbl (b := decide (t176 = 2)) rfl (decide_eq_false h182)) rfl rfl ?_
            refine WOps.off rfl (kbl (b := decide (t176 = 2)) rfl (decide_eq_false h182)) rfl rfl ?_
            refine WOps.off rfl (kbl (b := decide (t176 = 2)) rfl (decide_eq_false h182)) rfl rfl ?_
            refine WOps.off rfl (kbl (b := decide (t176 = 2)) rfl (decide_eq_false h182)) rfl rfl ?_
            refine WOps.p (G.pick_f (kb (b := decide (t176 = 2)) rfl (decide_eq_false h182)) rfl) rfl ?_
            refine WOps.p (G.move rfl) rfl ?_
            refine WOps.off rfl rfl rfl rfl ?_
            refine WOps.off rfl rfl rfl rfl ?_
            refine WOps.off rfl rfl rfl rfl ?_
            refine WOps.p (G.pick_f rfl rfl) rfl ?_
            refine WOps.p (G.assign rfl) rfl ?_
            refine WOps.nil ?_
            refine WEx.then_ ?_
            refine WCode.forget (l' := [(0, .bool false)]) ⟨rfl, trivial⟩ ?_
            refine WCode.ret ?_
            obtain rfl := some_eq hF
            refine WEx.ret1 rfl rfl ?_
            exact ⟨rfl, St.keep (As := []) S181⟩
          ·
           refine WOps.off rfl (kbl (b := decide (t152.1 = 1)) rfl (decide_eq_false h175)) rfl rfl ?_
           refine WOps.off rfl (kbl (b := decide (t152.1 = 1)) rfl (decide_eq_false h175)) rfl rfl ?_
           refine WOps.off rfl (kbl (b := decide (t152.1 = 1)) rfl (decide_eq_false h175)) rfl rfl ?_
           refine WOps.p (G.pick_f (kb (b := decide (t152.1 = 1)) rfl (decide_eq_false h175)) rfl) rfl ?_
           refine WOps.p (G.move rfl) rfl ?_
           refine WOps.off rfl rfl rfl rfl ?_
           refine WOps.off rfl rfl rfl rfl ?_
           refine WOps.off rfl rfl rfl rfl ?_
           refine WOps.off rfl rfl rfl rfl ?_
           refine WOps.p (G.pick_f rfl rfl) rfl ?_
           refine WOps.p (G.move rfl) rfl ?_
           refine WOps.off rfl rfl rfl rfl ?_
           refine WOps.off rfl rfl rfl rfl ?_
           refine WOps.off rfl rfl rfl rfl ?_
           refine WOps.p (G.pick_f rfl rfl) rfl ?_
           refine WOps.p (G.assign rfl) rfl ?_
           refine WOps.nil ?_
           refine WEx.then_ ?_
           refine WCode.forget (l' := [(0, .bool false)]) ⟨rfl, trivial⟩ ?_
           refine WCode.ret ?_
           obtain rfl := some_eq hF
           refine WEx.ret1 rfl rfl ?_
           exact ⟨rfl, St.keep (As := []) S167⟩
         ·
          refine WOps.off rfl (kbl (b := decide (t134.1 = 5)) rfl (decide_eq_false h174)) rfl rfl ?_
          refine WOps.off rfl (kbl (b := decide (t134.1 = 5)) rfl (decide_eq_false h174)) rfl rfl ?_
          refine WOps.p (G.pick_f (kb (b := decide (t134.1 = 5)) rfl (decide_eq_false h174)) rfl) rfl ?_
          refine WOps.p (G.move rfl) rfl ?_
          refine WOps.off rfl rfl rfl rfl ?_
          refine WOps.off rfl rfl rfl rfl ?_
          refine WOps.off rfl rfl rfl rfl ?_
          refine WOps.p (G.pick_f rfl rfl) rfl ?_
          refine WOps.p (G.move rfl) rfl ?_
          refine WOps.off rfl rfl rfl rfl ?_
          refine WOps.off rfl rfl rfl rfl ?_
          refine WOps.off rfl rfl rfl rfl ?_
          refine WOps.off rfl rfl rfl rfl ?_
          refine WOps.p (G.pick_f rfl rfl) rfl ?_
          refine WOps.p (G.move rfl) rfl ?_
          refine WOps.off rfl rfl rfl rfl ?_
          refine WOps.off rfl rfl rfl rfl ?_
          refine WOps.off rfl rfl rfl rfl ?_
          refine WOps.p (G.pick_f rfl rfl) rfl ?_
          refine WOps.p (G.assign rfl) rfl ?_
          refine WOps.nil ?_
          refine WEx.then_ ?_
          refine WCode.forget (l' := [(0, .bool false)]) ⟨rfl, trivial⟩ ?_
          refine WCode.ret ?_
          obtain rfl := some_eq hF
          refine WEx.ret1 rfl rfl ?_
          exact ⟨rfl, St.keep (As := []) S167⟩
        ·
         refine WOps.off rfl (kbl (b := decide (t98.2.1 = ([121, 101, 115, 33] : List UInt8))) rfl (decide_eq_false h173)) rfl rfl ?_
         refine WOps.off rfl (kbl (b := decide (t98.2.1 = ([121, 101, 115, 33] : List UInt8))) rfl (decide_eq_false h173)) rfl rfl ?_
         refine WOps.p (G.pick_f (kb (b := decide (t98.2.1 = ([121, 101, 115, 33] : List UInt8))) rfl (decide_eq_false h173)) rfl) rfl ?_
         refine WOps.p (G.move rfl) rfl ?_
         refine WOps.off rfl rfl rfl rfl ?_
         refine WOps.off rfl rfl rfl rfl ?_
         refine WOps.p (G.pick_f rfl rfl) rfl ?_
         refine WOps.p (G.move rfl) rfl ?_
         refine WOps.off rfl rfl rfl rfl ?_
         refine WOps.off rfl rfl rfl rfl ?_
         refine WOps.off rfl rfl rfl rfl ?_
         refine WOps.p (G.pick_f rfl rfl) rfl ?_
         refine WOps.p (G.move rfl) rfl ?_
         refine WOps.off rfl rfl rfl rfl ?_
         refine WOps.off rfl rfl rfl rfl ?_
         refine WOps.off rfl rfl rfl rfl ?_
         refine WOps.off rfl rfl rfl rfl ?_
         refine WOps.p (G.pick_f rfl rfl) rfl ?_
         refine WOps.p (G.move rfl) rfl ?_
         refine WOps.off rfl rfl rfl rfl ?_
         refine WOps.off rfl rfl rfl rfl ?_
         refine WOps.off rfl rfl rfl rfl ?_
         refine WOps.p (G.pick_f rfl rfl) rfl ?_
         refine WOps.p (G.assign rfl) rfl ?_
         refine WOps.nil ?_
         refine WEx.then_ ?_
         refine WCode.forget (l' := [(0, .bool false)]) ⟨rfl, trivial⟩ ?_
         refine WCode.ret ?_
         obtain rfl := some_eq hF
         refine WEx.ret1 rfl rfl ?_
         exact ⟨rfl, St.keep (As := []) S167⟩
       ·
        refine WOps.off rfl (kbl (b := decide (t98.1 = 3)) rfl (decide_eq_false h172)) rfl rfl ?_
        refine WOps.off rfl (kbl (b := decide (t98.1 = 3)) rfl (decide_eq_false h172)) rfl rfl ?_
        refine WOps.p (G.pick_f (kb (b := decide (t98.1 = 3)) rfl (decide_eq_false h172)) rfl) rfl ?_
        refine WOps.p (G.move rfl) rfl ?_
        refine WOps.off rfl rfl rfl rfl ?_
        refine WOps.off rfl rfl rfl rfl ?_
        refine WOps.p (G.pick_f rfl rfl) rfl ?_
        refine WOps.p (G.move rfl) rfl ?_
        refine WOps.off rfl rfl rfl rfl ?_
        refine WOps.off rfl rfl rfl rfl ?_
        refine WOps.p (G.pick_f rfl rfl) rfl ?_
        refine WOps.p (G.move rfl) rfl ?_
        refine WOps.off rfl rfl rfl rfl ?_
        refine WOps.off rfl rfl rfl rfl ?_
        refine WOps.off rfl rfl rfl rfl ?_
        refine WOps.p (G.pick_f rfl rfl) rfl ?_
        refine WOps.p (G.move rfl) rfl ?_
        refine WOps.off rfl rfl rfl rfl ?_
        refine WOps.off rfl rfl rfl rfl ?_
        refine WOps.off rfl rfl rfl rfl ?_
        refine WOps.off rfl rfl rfl rfl ?_
        refine WOps.p (G.pick_f rfl rfl) rfl ?_
        refine WOps.p (G.move rfl) rfl ?_
        refine WOps.off rfl rfl rfl rfl ?_
        refine WOps.off rfl rfl rfl rfl ?_
        refine WOps.off rfl rfl rfl rfl ?_
        refine WOps.p (G.pick_f rfl rfl) rfl ?_
        refine WOps.p (G.assign rfl) rfl ?_
        refine WOps.nil ?_
        refine WEx.then_ ?_
        refine WCode.forget (l' := [(0, .bool false)]) ⟨rfl, trivial⟩ ?_
        refine WCode.ret ?_
        obtain rfl := some_eq hF
        refine WEx.ret1 rfl rfl ?_
        exact ⟨rfl, St.keep (As := []) S167⟩
      ·
       refine WOps.off rfl (kbl (b := decide (t80.1 = 0)) rfl (decide_eq_false h171)) rfl rfl ?_
       refine WOps.off rfl (kbl (b := decide (t80.1 = 0)) rfl (decide_eq_false h171)) rfl rfl ?_
       refine WOps.p (G.pick_f (kb (b := decide (t80.1 = 0)) rfl (decide_eq_false h171)) rfl) rfl ?_
       refine WOps.p (G.move rfl) rfl ?_
       refine WOps.off rfl rfl rfl rfl ?_
       refine WOps.off rfl rfl rfl rfl ?_
       refine WOps.p (G.pick_f rfl rfl) rfl ?_
       refine WOps.p (G.move rfl) rfl ?_
       refine WOps.off rfl rfl rfl rfl ?_
       refine WOps.off rfl rfl rfl rfl ?_
       refine WOps.p (G.pick_f rfl rfl) rfl ?_
       refine WOps.p (G.move rfl) rfl ?_
       refine WOps.off rfl rfl rfl rfl ?_
       refine WOps.off rfl rfl rfl rfl ?_
       refine WOps.p (G.pick_f rfl rfl) rfl ?_
       refine WOps.p (G.move rfl) rfl ?_
       refine WOps.off rfl rfl rfl rfl ?_
       refine WOps.off rfl rfl rfl rfl ?_
       refine WOps.off rfl rfl rfl rfl ?_
       refine WOps.p (G.pick_f rfl rfl) rfl ?_
       refine WOps.p (G.move rfl) rfl ?_
       refine WOps.off rfl rfl rfl rfl ?_
       refine WOps.off rfl rfl rfl rfl ?_
       refine WOps.off rfl rfl rfl rfl ?_
       refine WOps.off rfl rfl rfl rfl ?_
       refine WOps.p (G.pick_f rfl rfl) rfl ?_
       refine WOps.p (G.move rfl) rfl ?_
       refine WOps.off rfl rfl rfl rfl ?_
       refine WOps.off rfl rfl rfl rfl ?_
       refine WOps.off rfl rfl rfl rfl ?_
       refine WOps.p (G.pick_f rfl rfl) rfl ?_
       refine WOps.p (G.assign rfl) rfl ?_
       refine WOps.nil ?_
       refine WEx.then_ ?_
       refine WCode.forget (l' := [(0, .bool false)]) ⟨rfl, trivial⟩ ?_
       refine WCode.ret ?_
       obtain rfl := some_eq hF
       refine WEx.ret1 rfl rfl ?_
       exact ⟨rfl, St.keep (As := []) S167⟩
     ·
      refine WOps.off rfl (kbl (b := decide (t72 = 100)) rfl (decide_eq_false h170)) rfl rfl ?_
      refine WOps.off rfl (kbl (b := decide (t72 = 100)) rfl (decide_eq_false h170)) rfl rfl ?_
      refine WOps.p (G.pick_f (kb (b := decide (t72 = 100)) rfl (decide_eq_false h170)) rfl) rfl ?_
      refine WOps.p (G.move rfl) rfl ?_
      refine WOps.off rfl rfl rfl rfl ?_
      refine WOps.off rfl rfl rfl rfl ?_
      refine WOps.p (G.pick_f rfl rfl) rfl ?_
      refine WOps.p (G.move rfl) rfl ?_
      refine WOps.off rfl rfl rfl rfl ?_
      refine WOps.off rfl rfl rfl rfl ?_
      refine WOps.p (G.pick_f rfl rfl) rfl ?_
      refine WOps.p (G.move rfl) rfl ?_
      refine WOps.off rfl rfl rfl rfl ?_
      refine WOps.off rfl rfl rfl rfl ?_
      refine WOps.p (G.pick_f rfl rfl) rfl ?_
      refine WOps.p (G.move rfl) rfl ?_
      refine WOps.off rfl rfl rfl rfl ?_
      refine WOps.off rfl rfl rfl rfl ?_
      refine WOps.p (G.pick_f rfl rfl) rfl ?_
      refine WOps.p (G.move rfl) rfl ?_
      refine WOps.off rfl rfl rfl rfl ?_
      refine WOps.off rfl rfl rfl rfl ?_
      refine WOps.off rfl rfl rfl rfl ?_
      refine WOps.p (G.pick_f rfl rfl) rfl ?_
      refine WOps.p (G.move rfl) rfl ?_
      refine WOps.off rfl rfl rfl rfl ?_
      refine WOps.off rfl rfl rfl rfl ?_
      refine WOps.off rfl rfl rfl rfl ?_
      refine WOps.off rfl rfl rfl rfl ?_
      refine WOps.p (G.pick_f rfl rfl) rfl ?_
      refine WOps.p (G.move rfl) rfl ?_
      refine WOps.off rfl rfl rfl rfl ?_
      refine WOps.off rfl rfl rfl rfl ?_
      refine WOps.off rfl rfl rfl rfl ?_
      refine WOps.p (G.pick_f rfl rfl) rfl ?_
      refine WOps.p (G.assign rfl) rfl ?_
      refine WOps.nil ?_
      refine WEx.then_ ?_
      refine WCode.forget (l' := [(0, .bool false)]) ⟨rfl, trivial⟩ ?_
      refine WCode.ret ?_
      obtain rfl := some_eq hF
      refine WEx.ret1 rfl rfl ?_
      exact ⟨rfl, St.keep (As := []) S167⟩
    ·
     refine WOps.off rfl (kbl (b := decide (t56.1 = 2)) rfl (decide_eq_false h169)) rfl rfl ?_
     refine WOps.off rfl (kbl (b := decide (t56.1 = 2)) rfl (decide_eq_false h169)) rfl rfl ?_
     refine WOps.p (G.pick_f (kb (b := decide (t56.1 = 2)) rfl (decide_eq_false h169)) rfl) rfl ?_
     refine WOps.p (G.move rfl) rfl ?_
     refine WOps.off rfl rfl rfl rfl ?_
     refine WOps.off rfl rfl rfl rfl ?_
     refine WOps.p (G.pick_f rfl rfl) rfl ?_
     refine WOps.p (G.move rfl) rfl ?_
     refine WOps.off rfl rfl rfl rfl ?_
     refine WOps.off rfl rfl rfl rfl ?_
     refine WOps.p (G.pick_f rfl rfl) rfl ?_
     refine WOps.p (G.move rfl) rfl ?_
     refine WOps.off rfl rfl rfl rfl ?_
     refine WOps.off rfl rfl rfl rfl ?_
     refine WOps.p (G.pick_f rfl rfl) rfl ?_
     refine WOps.p (G.move rfl) rfl ?_
     refine WOps.off rfl rfl rfl rfl ?_
     refine WOps.off rfl rfl rfl rfl ?_
     refine WOps.p (G.pick_f rfl rfl) rfl ?_
     refine WOps.p (G.move rfl) rfl ?_
     refine WOps.off rfl rfl rfl rfl ?_
     refine WOps.off rfl rfl rfl rfl ?_
     refine WOps.p (G.pick_f rfl rfl) rfl ?_
     refine WOps.p (G.move rfl) rfl ?_
     refine WOps.off rfl rfl rfl rfl ?_
     refine WOps.off rfl rfl rfl rfl ?_
     refine WOps.off rfl rfl rfl rfl ?_
     refine WOps.p (G.pick_f rfl rfl) rfl ?_
     refine WOps.p (G.move rfl) rfl ?_
     refine WOps.off rfl rfl rfl rfl ?_
     refine WOps.off rfl rfl rfl rfl ?_
     refine WOps.off rfl rfl rfl rfl ?_
     refine WOps.off rfl rfl rfl rfl ?_
     refine WOps.p (G.pick_f rfl rfl) rfl ?_
     refine WOps.p (G.move rfl) rfl ?_
     refine WOps.off rfl rfl rfl rfl ?_
     refine WOps.off rfl rfl rfl rfl ?_
     refine WOps.off rfl rfl rfl rfl ?_
     refine WOps.p (G.pick_f rfl rfl) rfl ?_
     refine WOps.p (G.assign rfl) rfl ?_
     refine WOps.nil ?_
     refine WEx.then_ ?_
     refine WCode.forget (l' := [(0, .bool false)]) ⟨rfl, trivial⟩ ?_
     refine WCode.ret ?_
     obtain rfl := some_eq hF
     refine WEx.ret1 rfl rfl ?_
     exact ⟨rfl, St.keep (As := []) S167⟩
   ·
    refine WOps.off rfl (kbl (b := decide (t38.1 = 1)) rfl (decide_eq_false h168)) rfl rfl ?_
    refine WOps.off rfl (kbl (b := decide (t38.1 = 1)) rfl (decide_eq_false h168)) rfl rfl ?_
    refine WOps.p (G.pick_f (kb (b := decide (t38.1 = 1)) rfl (decide_eq_false h168)) rfl) rfl ?_
    refine WOps.p (G.move rfl) rfl ?_
    refine WOps.off rfl rfl rfl rfl ?_
    refine WOps.off rfl rfl rfl rfl ?_
    refine WOps.p (G.pick_f rfl rfl) rfl ?_
    refine WOps.p (G.move rfl) rfl ?_
    refine WOps.off rfl rfl rfl rfl ?_
    refine WOps.off rfl rfl rfl rfl ?_
    refine WOps.p (G.pick_f rfl rfl) rfl ?_
    refine WOps.p (G.move rfl) rfl ?_
    refine WOps.off rfl rfl rfl rfl ?_
    refine WOps.off rfl rfl rfl rfl ?_
    refine WOps.p (G.pick_f rfl rfl) rfl ?_
    refine WOps.p (G.move rfl) rfl ?_
    refine WOps.off rfl rfl rfl rfl ?_
    refine WOps.off rfl rfl rfl rfl ?_
    refine WOps.p (G.pick_f rfl rfl) rfl ?_
    refine WOps.p (G.move rfl) rfl ?_
    refine WOps.off rfl rfl rfl rfl ?_
    refine WOps.off rfl rfl rfl rfl ?_
    refine WOps.p (G.pick_f rfl rfl) rfl ?_
    refine WOps.p (G.move rfl) rfl ?_
    refine WOps.off rfl rfl rfl rfl ?_
    refine WOps.off rfl rfl rfl rfl ?_
    refine WOps.p (G.pick_f rfl rfl) rfl ?_
    refine WOps.p (G.move rfl) rfl ?_
    refine WOps.off rfl rfl rfl rfl ?_
    refine WOps.off rfl rfl rfl rfl ?_
    refine WOps.off rfl rfl rfl rfl ?_
    refine WOps.p (G.pick_f rfl rfl) rfl ?_
    refine WOps.p (G.move rfl) rfl ?_
    refine WOps.off rfl rfl rfl rfl ?_
    refine WOps.off rfl rfl rfl rfl ?_
    refine WOps.off rfl rfl rfl rfl ?_
    refine WOps.off rfl rfl rfl rfl ?_
    refine WOps.p (G.pick_f rfl rfl) rfl ?_
    refine WOps.p (G.move rfl) rfl ?_
    refine WOps.off rfl rfl rfl rfl ?_
    refine WOps.off rfl rfl rfl rfl ?_
    refine WOps.off rfl rfl rfl rfl ?_
    refine WOps.p (G.pick_f rfl rfl) rfl ?_
    refine WOps.p (G.assign rfl) rfl ?_
    refine WOps.nil ?_
    refine WEx.then_ ?_
    refine WCode.forget (l' := [(0, .bool false)]) ⟨rfl, trivial⟩ ?_
    refine WCode.ret ?_
    obtain rfl := some_eq hF
    refine WEx.ret1 rfl rfl ?_
    exact ⟨rfl, St.keep (As := []) S167⟩
  ·
   refine WCode.cond_t (kb (b := !(decide (t1.2 = 0))) rfl (show (!(decide (t1.2 = 0))) = true from by rw [(decide_eq_false h25)]; rfl)) ?_
   refine WCode.seq ?_
   refine WCode.region ?_
   refine WOps.p (G.assign rfl) rfl ?_
   refine WOps.nil ?_
   refine WEx.then_ ?_
   refine WCode.ret ?_
   refine WEx.then_ret ?_
   obtain rfl := some_eq hF
   refine WEx.ret1 rfl rfl ?_
   exact ⟨rfl, St.keep (As := []) S24⟩
 ·
  have hn197 := Option.not_isSome_iff_eq_none.1 h9
  have ho196 := hO8
  rw [hn197] at ho196
  obtain ⟨hv198, hg199⟩ := ho196
  subst hv198
  have S200 : St _ _ _ [] := S5.objs (by rw [hg199]; simp)
  refine WOps.p (G.eqp_nil Try.underlying28 rfl rfl rfl) rfl ?_
  refine WOps.p (G.move rfl) rfl ?_
  refine WOps.off rfl rfl rfl rfl ?_
  refine WOps.off rfl rfl rfl rfl ?_
  refine WOps.p (G.pick_t rfl rfl) rfl ?_
  refine WOps.nil ?_
  refine WEx.then_ ?_
  refine WCode.forget (l' := [(1, .pointer none), (26, .bool true)]) ⟨rfl, rfl, trivial⟩ ?_
  refine WCode.cond_t rfl ?_
  refine WCode.seq ?_
  refine WCode.region ?_
  refine WOps.p (G.assign rfl) rfl ?_
  refine WOps.nil ?_
  refine WEx.then_ ?_
  refine WCode.ret ?_
  refine WEx.then_ret ?_
  obtain rfl := some_eq hF
  refine WEx.ret1 rfl rfl ?_
  exact ⟨rfl, St.keep (As := []) S200⟩

end Go.Proofs.Ytpdpfiaediadgaa
