/- Functions and their walks (printed by auto.py over the engine). -/
import Derived.Test.YtpdpfiaediadgaaProg
import Derived.Test.YtpdpfiaediadgaaCE
namespace Go.Proofs.Ytpdpfiaediadgaa
open Go Go.Eng
set_option linter.unusedSimpArgs false
set_option linter.unusedVariables false

theorem T.call13 : Callable Try.prog 13 := Callable.mk Try.func13 (by kernel_rfl) (by kernel_rfl)
theorem T.call15 : Callable Try.prog 15 := Callable.mk Try.func15 (by kernel_rfl) (by kernel_rfl)
theorem T.call16 : Callable Try.prog 16 := Callable.mk Try.func16 (by kernel_rfl) (by kernel_rfl)
theorem T.call17 : Callable Try.prog 17 := Callable.mk Try.func17 (by kernel_rfl) (by kernel_rfl)
theorem T.call18 : Callable Try.prog 18 := Callable.mk Try.func18 (by kernel_rfl) (by kernel_rfl)
theorem T.call19 : Callable Try.prog 19 := Callable.mk Try.func19 (by kernel_rfl) (by kernel_rfl)
theorem T.call20 : Callable Try.prog 20 := Callable.mk Try.func20 (by kernel_rfl) (by kernel_rfl)



def ca_known (k : Nat) : Option Bool := (Option.bind (ca_New k (⟨1, 2, 300, 100⟩ : CacheConfig)) fun t1 => (if (t1.1).isSome = true then (Option.bind (t1.1) fun x10 => (if t1.2 = 0 then (Option.bind (ca_Ask k x10 (⟨65537, 7⟩ : WhoC) 1 1) fun t39 => (Option.bind (ca_Ask k t39.2.2 (⟨65537, 7⟩ : WhoC) 1 1) fun t57 => (Option.bind (ca_Bytes k t57.2.2) fun t73 => (Option.bind (ca_Done k t57.2.2 (⟨65537, 7⟩ : WhoC) 1 ([121, 101, 115, 33] : List UInt8)) fun t81 => (Option.bind (ca_Ask k t81.2 (⟨65537, 7⟩ : WhoC) 1 1) fun t99 => (Option.bind (ca_Ask k t99.2.2 (⟨65537, 7⟩ : WhoC) 2 1) fun t117 => (Option.bind (ca_Ask k t117.2.2 (⟨65537, 7⟩ : WhoC) 3 1) fun t135 => (Option.bind (ca_Ask k t135.2.2 (⟨65537, 7⟩ : WhoC) 3 2) fun t153 => (if t39.1 = 1 then (if t57.1 = 2 then (if t73 = 100 then (if t81.1 = 0 then (if t99.1 = 3 then (if t99.2.1 = ([121, 101, 115, 33] : List UInt8) then (if t135.1 = 5 then (if t153.1 = 1 then (Option.bind (ca_Entries k t153.2.2) fun t177 => (if t177 = 2 then (Option.bind (ca_Water k t153.2.2 (⟨65537, 7⟩ : WhoC)) fun t184 => (if t184 = 2 then (Option.bind (ca_Clients k t153.2.2) fun t191 => (some (decide (t191 = 1)))) else (some false))) else (some false))) else (some false)) else (some false)) else (some false)) else (some false)) else (some false)) else (some false)) else (some false)) else (some false)))))))))) else (some false))) else (some false)))
set_option maxRecDepth 100000 in
set_option maxHeartbeats 1000000 in
theorem ca_known_calls (k : Nat)  {w : World} {r_ : Bool} (h_ : ca_known k = some r_) :
    Calls Try.prog 11 [].toArray w fun e w' => e = .returned (.bool r_) ∧ St w (KS []) w' [] := by
  have hF := h_
  clear h_
  unfold ca_known at hF
  have S := St.ofFalse (As := []) (St.init0 w)
  refine enter 112 [] Try.func11 rfl rfl rfl rfl ?_
  refine WCode.seq ?_
  refine WCode.region ?_
  refine WOps.p (G.assign rfl) rfl ?_
  refine WOps.nil ?_
  refine WEx.then_ ?_
  refine WCode.seq ?_
  refine WCode.region ?_
  refine WOps.p (G.build (cells := #[.int .i64 1, .int .i64 2, .int .i64 300, .int .i64 100]) (evp_spec (evp_cons rfl (evp_cons rfl (evp_cons rfl (evp_cons rfl evp_nil))))) (by kernel_rfl)) rfl ?_
  obtain ⟨t1, hc2, hF⟩ := bind_some hF
  refine WOps.call T.call13 (evs_cons rfl evs_nil) rfl ?_
  refine (ca_New_calls k (⟨1, 2, 300, 100⟩ : CacheConfig) hc2).mono ?_
  rintro _ w3 ⟨v6, G7, rfl, hO8, T4⟩
  have S5 := St.callN (As := []) S T4
  change St _ _ _ [G7] at S5
  refine ⟨_, rfl, ?_⟩
  refine WOps.p (G.move rfl) rfl ?_
  refine WOps.p (G.extract rfl rfl) rfl ?_
  refine WOps.p (G.extract rfl rfl) rfl ?_
  refine WOps.p (G.assign rfl) rfl ?_
  refine WOps.p (G.assign rfl) rfl ?_
  refine WOps.nil ?_
  refine WEx.then_ ?_
  refine WCode.seq ?_
  refine WCode.seq ?_
  refine WCode.region ?_
  refine WOps.p (G.move rfl) rfl ?_
  rcases ite_some hF with ⟨h9, hF⟩ | ⟨h9, hF⟩
  ·
    obtain ⟨x10, hc11, hF⟩ := bind_some hF
    have ho12 := hO8
    rw [hc11] at ho12
    obtain ⟨p13, hv14, hO15⟩ := ho12
    subst hv14
    obtain ⟨cs16, G17, ho18, hg19⟩ := hO15
    obtain ⟨b20, G21, rfl, hO22, hq23⟩ := ho18
    have S24 : St _ _ _ [[(p13, .cells #[.int .i64 x10.config.Clients, .int .i64 x10.config.Entries, .int .i64 x10.config.Bytes, .int .i64 x10.config.Reserve, .map (some b20), .int .i64 x10.entries, .int .i64 x10.bytes] 89 (0, 0))], G21] := S5.objs (by rw [hg19, hq23]; simp)
    refine WOps.p (G.eqp_nil Try.underlying28 rfl rfl rfl) rfl ?_
    refine WOps.p (G.move rfl) rfl ?_
    refine WOps.on rfl rfl ?_
    refine WOps.p (G.move rfl) rfl ?_
    refine WOps.on rfl rfl ?_
    refine WOps.p (G.neq rfl rfl rfl) rfl ?_
    refine WOps.p (G.pick_f rfl rfl) rfl ?_
    refine WOps.nil ?_
    refine WEx.then_ ?_
    refine WCode.forget (l' := [(1, .pointer (some ⟨p13, 0, none⟩)), (26, .bool (!(decide (t1.2 = 0))))]) ⟨rfl, rfl, trivial⟩ ?_
    rcases ite_some hF with ⟨h25, hF⟩ | ⟨h25, hF⟩
    ·
      refine WCode.cond_f (kb (b := !(decide (t1.2 = 0))) rfl (show (!(decide (t1.2 = 0))) = false from by rw [(decide_eq_true h25)]; rfl)) ?_
      refine WCode.skip ?_
      refine WEx.then_ ?_
      refine WCode.seq ?_
      refine WCode.region ?_
      refine WOps.p (G.build (cells := #[.int .i64 65537, .int .i64 7]) (evp_spec (evp_cons rfl (evp_cons rfl evp_nil))) (by kernel_rfl)) rfl ?_
      obtain ⟨b26, w27, E28, S29, X30, L31⟩ := St.var S24 (z := .agg #[.int .i64 0, .int .i64 0]) T.zero34
      change St _ _ _ [[(b26, .cells #[.int .i64 0, .int .i64 0] 34 (0, 0))], [(p13, .cells #[.int .i64 x10.config.Clients, .int .i64 x10.config.Entries, .int .i64 x10.config.Bytes, .int .i64 x10.config.Reserve, .map (some b20), .int .i64 x10.entries, .int .i64 x10.bytes] 89 (0, 0))], G21] at S29
      refine WOps.e E28 rfl ?_
      obtain ⟨w32, E33, S34⟩ := St.store (P := Try.prog) S29 0 34 (.agg #[.int .i64 65537, .int .i64 7]) (off := 0) (cur' := #[.int .i64 65537, .int .i64 7]) rfl T.size34_2 rfl rfl rfl
      change St _ _ _ [[(b26, .cells #[.int .i64 65537, .int .i64 7] 34 (0, 0))], [(p13, .cells #[.int .i64 x10.config.Clients, .int .i64 x10.config.Entries, .int .i64 x10.config.Bytes, .int .i64 x10.config.Reserve, .map (some b20), .int .i64 x10.entries, .int .i64 x10.bytes] 89 (0, 0))], G21] at S34
      refine WOps.u (E33 rfl rfl) ?_
      refine WOps.nil ?_
      refine WEx.then_ ?_
      refine WCode.seq ?_
      refine WCode.region ?_
      refine WOps.p (G.move rfl) rfl ?_
      refine WOps.r (G.loada T.agg34_2 rfl (cs := [.int .i64 65537, .int .i64 7]) (cellsAt.of_blk (S34.blk 0 rfl) rfl)) rfl ?_
      have S35 := S34.front 2 rfl
      change St _ _ _ [G21, [(b26, .cells #[.int .i64 65537, .int .i64 7] 34 (0, 0))], [(p13, .cells #[.int .i64 x10.config.Clients, .int .i64 x10.config.Entries, .int .i64 x10.config.Bytes, .int .i64 x10.config.Reserve, .map (some b20), .int .i64 x10.entries, .int .i64 x10.bytes] 89 (0, 0))]] at S35
      have S36 := S35.front 2 rfl
      change St _ _ _ [[(p13, .cells #[.int .i64 x10.config.Clients, .int .i64 x10.config.Entries, .int .i64 x10.config.Bytes, .int .i64 x10.config.Reserve, .map (some b20), .int .i64 x10.entries, .int .i64 x10.bytes] 89 (0, 0))], G21, [(b26, .cells #[.int .i64 65537, .int .i64 7] 34 (0, 0))]] at S36
      have hO37 : ObjO 89 Cache.rp p13 x10 ([(p13, .cells #[.int .i64 x10.config.Clients, .int .i64 x10.config.Entries, .int .i64 x10.config.Bytes, .int .i64 x10.config.Reserve, .map (some b20), .int .i64 x10.entries, .int .i64 x10.bytes] 89 (0, 0))] ++ (G21)) := ⟨_, _, ⟨b20, G21, rfl, hO22, rfl⟩, rfl⟩
      have S38 : St _ _ _ [[(p13, .cells #[.int .i64 x10.config.Clients, .int .i64 x10.config.Entries, .int .i64 x10.config.Bytes, .int .i64 x10.config.Reserve, .map (some b20), .int .i64 x10.entries, .int .i64 x10.bytes] 89 (0, 0))] ++ (G21), [(b26, .cells #[.int .i64 65537, .int .i64 7] 34 (0, 0))]] := S36.objs (by simp)
      obtain ⟨t39, hc40, hF⟩ := bind_some hF
      refine WOps.call T.call17 (evs_cons rfl (evs_cons rfl (evs_cons rfl (evs_cons rfl evs_nil)))) rfl ?_
      refine (ca_Ask_calls k x10 (⟨65537, 7⟩ : WhoC) 1 1 hO37 hc40 (St.hpN (As := [[(p13, .cells #[.int .i64 x10.config.Clients, .int .i64 x10.config.Entries, .int .i64 x10.config.Bytes, .int .i64 x10.config.Reserve, .map (some b20), .int .i64 x10.entries, .int .i64 x10.bytes] 89 (0, 0))] ++ (G21)]) S38)).mono ?_
      rintro _ w41 ⟨G44, rfl, hO45, T42⟩
      have S43 := St.callN (As := [[(p13, .cells #[.int .i64 x10.config.Clients, .int .i64 x10.config.Entries, .int .i64 x10.config.Bytes, .int .i64 x10.config.Reserve, .map (some b20), .int .i64 x10.entries, .int .i64 x10.bytes] 89 (0, 0))] ++ (G21)]) S38 T42
      change St _ _ _ [G44, [(b26, .cells #[.int .i64 65537, .int .i64 7] 34 (0, 0))]] at S43
      refine ⟨_, rfl, ?_⟩
      obtain ⟨cs46, G47, ho48, hg49⟩ := hO45
      obtain ⟨b50, G51, rfl, hO52, hq53⟩ := ho48
      have S54 : St _ _ _ [[(p13, .cells #[.int .i64 t39.2.2.config.Clients, .int .i64 t39.2.2.config.Entries, .int .i64 t39.2.2.config.Bytes, .int .i64 t39.2.2.config.Reserve, .map (some b50), .int .i64 t39.2.2.entries, .int .i64 t39.2.2.bytes] 89 (0, 0))], G51, [(b26, .cells #[.int .i64 65537, .int .i64 7] 34 (0, 0))]] := S43.objs (by rw [hg49, hq53]; simp)
      refine WOps.p (G.move rfl) rfl ?_
      refine WOps.p (G.extract rfl rfl) rfl ?_
      refine WOps.p (G.extract rfl rfl) rfl ?_
      refine WOps.p (G.assign rfl) rfl ?_
      refine WOps.p (G.assign rfl) rfl ?_
      refine WOps.nil ?_
      refine WEx.then_ ?_
      refine WCode.seq ?_
      refine WCode.region ?_
      refine WOps.p (G.move rfl) rfl ?_
      refine WOps.r (G.loada T.agg34_2 rfl (cs := [.int .i64 65537, .int .i64 7]) (cellsAt.of_blk (S54.blk 2 rfl) rfl)) rfl ?_
      have hO55 : ObjO 89 Cache.rp p13 t39.2.2 ([(p13, .cells #[.int .i64 t39.2.2.config.Clients, .int .i64 t39.2.2.config.Entries, .int .i64 t39.2.2.config.Bytes, .int .i64 t39.2.2.config.Reserve, .map (some b50), .int .i64 t39.2.2.entries, .int .i64 t39.2.2.bytes] 89 (0, 0))] ++ (G51)) := ⟨_, _, ⟨b50, G51, rfl, hO52, rfl⟩, rfl⟩
      have S56 : St _ _ _ [[(p13, .cells #[.int .i64 t39.2.2.config.Clients, .int .i64 t39.2.2.config.Entries, .int .i64 t39.2.2.config.Bytes, .int .i64 t39.2.2.config.Reserve, .map (some b50), .int .i64 t39.2.2.entries, .int .i64 t39.2.2.bytes] 89 (0, 0))] ++ (G51), [(b26, .cells #[.int .i64 65537, .int .i64 7] 34 (0, 0))]] := S54.objs (by simp)
      obtain ⟨t57, hc58, hF⟩ := bind_some hF
      refine WOps.call T.call17 (evs_cons rfl (evs_cons rfl (evs_cons rfl (evs_cons rfl evs_nil)))) rfl ?_
      refine (ca_Ask_calls k t39.2.2 (⟨65537, 7⟩ : WhoC) 1 1 hO55 hc58 (St.hpN (As := [[(p13, .cells #[.int .i64 t39.2.2.config.Clients, .int .i64 t39.2.2.config.Entries, .int .i64 t39.2.2.config.Bytes, .int .i64 t39.2.2.config.Reserve, .map (some b50), .int .i64 t39.2.2.entries, .int .i64 t39.2.2.bytes] 89 (0, 0))] ++ (G51)]) S56)).mono ?_
      rintro _ w59 ⟨G62, rfl, hO63, T60⟩
      have S61 := St.callN (As := [[(p13, .cells #[.int .i64 t39.2.2.config.Clients, .int .i64 t39.2.2.config.Entries, .int .i64 t39.2.2.config.Bytes, .int .i64 t39.2.2.config.Reserve, .map (some b50), .int .i64 t39.2.2.entries, .int .i64 t39.2.2.bytes] 89 (0, 0))] ++ (G51)]) S56 T60
      change St _ _ _ [G62, [(b26, .cells #[.int .i64 65537, .int .i64 7] 34 (0, 0))]] at S61
      refine ⟨_, rfl, ?_⟩
      obtain ⟨cs64, G65, ho66, hg67⟩ := hO63
      obtain ⟨b68, G69, rfl, hO70, hq71⟩ := ho66
      have S72 : St _ _ _ [[(p13, .cells #[.int .i64 t57.2.2.config.Clients, .int .i64 t57.2.2.config.Entries, .int .i64 t57.2.2.config.Bytes, .int .i64 t57.2.2.config.Reserve, .map (some b68), .int .i64 t57.2.2.entries, .int .i64 t57.2.2.bytes] 89 (0, 0))], G69, [(b26, .cells #[.int .i64 65537, .int .i64 7] 34 (0, 0))]] := S61.objs (by rw [hg67, hq71]; simp)
      refine WOps.p (G.move rfl) rfl ?_
      refine WOps.p (G.extract rfl rfl) rfl ?_
      refine WOps.p (G.extract rfl rfl) rfl ?_
      refine WOps.p (G.assign rfl) rfl ?_
      refine WOps.p (G.assign rfl) rfl ?_
      refine WOps.nil ?_
      refine WEx.then_ ?_
      refine WCode.forget (l' := [(1, .pointer (some ⟨p13, 0, none⟩)), (3, .pointer (some ⟨b26, 0, none⟩)), (4, .int .i64 t39.1), (6, .int .i64 t57.1)]) ⟨rfl, rfl, rfl, rfl, trivial⟩ ?_
      refine WCode.seq ?_
      refine WCode.region ?_
      refine WOps.p (G.move rfl) rfl ?_
      obtain ⟨t73, hc74, hF⟩ := bind_some hF
      have hP75 : PtR 89 Cache.rp w59 (KS [[(p13, .cells #[.int .i64 t57.2.2.config.Clients, .int .i64 t57.2.2.config.Entries, .int .i64 t57.2.2.config.Bytes, .int .i64 t57.2.2.config.Reserve, .map (some b68), .int .i64 t57.2.2.entries, .int .i64 t57.2.2.bytes] 89 (0, 0))], G69]) p13 t57.2.2 := ⟨_, S72.blk 0 rfl, KS_at 0 rfl (by simp [keys]), ⟨b68, rfl, ((hO70.rd (fun b o hb => S72.grp 1 rfl hb)).mono (fun b hb => KS_at 1 rfl hb))⟩⟩
      refine WOps.call T.call19 (evs_cons rfl evs_nil) rfl ?_
      refine (ca_Bytes_calls k t57.2.2 hP75 (St.outN (Bs := []) (As := [[(p13, .cells #[.int .i64 t57.2.2.config.Clients, .int .i64 t57.2.2.config.Entries, .int .i64 t57.2.2.config.Bytes, .int .i64 t57.2.2.config.Reserve, .map (some b68), .int .i64 t57.2.2.entries, .int .i64 t57.2.2.bytes] 89 (0, 0))], G69]) S72) hc74).mono ?_
      rintro _ w76 ⟨rfl, T77⟩
      have S78 := St.callN (As := []) S72 T77
      change St _ _ _ [[(p13, .cells #[.int .i64 t57.2.2.config.Clients, .int .i64 t57.2.2.config.Entries, .int .i64 t57.2.2.config.Bytes, .int .i64 t57.2.2.config.Reserve, .map (some b68), .int .i64 t57.2.2.entries, .int .i64 t57.2.2.bytes] 89 (0, 0))], G69, [(b26, .cells #[.int .i64 65537, .int .i64 7] 34 (0, 0))]] at S78
      refine ⟨_, rfl, ?_⟩
      refine WOps.p (G.assign rfl) rfl ?_
      refine WOps.nil ?_
      refine WEx.then_ ?_
      refine WCode.seq ?_
      refine WCode.region ?_
      refine WOps.p (G.move rfl) rfl ?_
      refine WOps.r (G.loada T.agg34_2 rfl (cs := [.int .i64 65537, .int .i64 7]) (cellsAt.of_blk (S78.blk 2 rfl) rfl)) rfl ?_
      have hO79 : ObjO 89 Cache.rp p13 t57.2.2 ([(p13, .cells #[.int .i64 t57.2.2.config.Clients, .int .i64 t57.2.2.config.Entries, .int .i64 t57.2.2.config.Bytes, .int .i64 t57.2.2.config.Reserve, .map (some b68), .int .i64 t57.2.2.entries, .int .i64 t57.2.2.bytes] 89 (0, 0))] ++ (G69)) := ⟨_, _, ⟨b68, G69, rfl, hO70, rfl⟩, rfl⟩
      have S80 : St _ _ _ [[(p13, .cells #[.int .i64 t57.2.2.config.Clients, .int .i64 t57.2.2.config.Entries, .int .i64 t57.2.2.config.Bytes, .int .i64 t57.2.2.config.Reserve, .map (some b68), .int .i64 t57.2.2.entries, .int .i64 t57.2.2.bytes] 89 (0, 0))] ++ (G69), [(b26, .cells #[.int .i64 65537, .int .i64 7] 34 (0, 0))]] := S78.objs (by simp)
      obtain ⟨t81, hc82, hF⟩ := bind_some hF
      refine WOps.call T.call15 (evs_cons rfl (evs_cons rfl (evs_cons rfl (evs_cons rfl evs_nil)))) rfl ?_
      refine (ca_Done_calls k t57.2.2 (⟨65537, 7⟩ : WhoC) 1 ([121, 101, 115, 33] : List UInt8) hO79 hc82 (St.hpN (As := [[(p13, .cells #[.int .i64 t57.2.2.config.Clients, .int .i64 t57.2.2.config.Entries, .int .i64 t57.2.2.config.Bytes, .int .i64 t57.2.2.config.Reserve, .map (some b68), .int .i64 t57.2.2.entries, .int .i64 t57.2.2.bytes] 89 (0, 0))] ++ (G69)]) S80)).mono ?_
      rintro _ w83 ⟨G86, rfl, hO87, T84⟩
      have S85 := St.callN (As := [[(p13, .cells #[.int .i64 t57.2.2.config.Clients, .int .i64 t57.2.2.config.Entries, .int .i64 t57.2.2.config.Bytes, .int .i64 t57.2.2.config.Reserve, .map (some b68), .int .i64 t57.2.2.entries, .int .i64 t57.2.2.bytes] 89 (0, 0))] ++ (G69)]) S80 T84
      change St _ _ _ [G86, [(b26, .cells #[.int .i64 65537, .int .i64 7] 34 (0, 0))]] at S85
      refine ⟨_, rfl, ?_⟩
      obtain ⟨cs88, G89, ho90, hg91⟩ := hO87
      obtain ⟨b92, G93, rfl, hO94, hq95⟩ := ho90
      have S96 : St _ _ _ [[(p13, .cells #[.int .i64 t81.2.config.Clients, .int .i64 t81.2.config.Entries, .int .i64 t81.2.config.Bytes, .int .i64 t81.2.config.Reserve, .map (some b92), .int .i64 t81.2.entries, .int .i64 t81.2.bytes] 89 (0, 0))], G93, [(b26, .cells #[.int .i64 65537, .int .i64 7] 34 (0, 0))]] := S85.objs (by rw [hg91, hq95]; simp)
      refine WOps.p (G.assign rfl) rfl ?_
      refine WOps.nil ?_
      refine WEx.then_ ?_
      refine WCode.seq ?_
      refine WCode.region ?_
      refine WOps.p (G.move rfl) rfl ?_
      refine WOps.r (G.loada T.agg34_2 rfl (cs := [.int .i64 65537, .int .i64 7]) (cellsAt.of_blk (S96.blk 2 rfl) rfl)) rfl ?_
      have hO97 : ObjO 89 Cache.rp p13 t81.2 ([(p13, .cells #[.int .i64 t81.2.config.Clients, .int .i64 t81.2.config.Entries, .int .i64 t81.2.config.Bytes, .int .i64 t81.2.config.Reserve, .map (some b92), .int .i64 t81.2.entries, .int .i64 t81.2.bytes] 89 (0, 0))] ++ (G93)) := ⟨_, _, ⟨b92, G93, rfl, hO94, rfl⟩, rfl⟩
      have S98 : St _ _ _ [[(p13, .cells #[.int .i64 t81.2.config.Clients, .int .i64 t81.2.config.Entries, .int .i64 t81.2.config.Bytes, .int .i64 t81.2.config.Reserve, .map (some b92), .int .i64 t81.2.entries, .int .i64 t81.2.bytes] 89 (0, 0))] ++ (G93), [(b26, .cells #[.int .i64 65537, .int .i64 7] 34 (0, 0))]] := S96.objs (by simp)
      obtain ⟨t99, hc100, hF⟩ := bind_some hF
      refine WOps.call T.call17 (evs_cons rfl (evs_cons rfl (evs_cons rfl (evs_cons rfl evs_nil)))) rfl ?_
      refine (ca_Ask_calls k t81.2 (⟨65537, 7⟩ : WhoC) 1 1 hO97 hc100 (St.hpN (As := [[(p13, .cells #[.int .i64 t81.2.config.Clients, .int .i64 t81.2.config.Entries, .int .i64 t81.2.config.Bytes, .int .i64 t81.2.config.Reserve, .map (some b92), .int .i64 t81.2.entries, .int .i64 t81.2.bytes] 89 (0, 0))] ++ (G93)]) S98)).mono ?_
      rintro _ w101 ⟨G104, rfl, hO105, T102⟩
      have S103 := St.callN (As := [[(p13, .cells #[.int .i64 t81.2.config.Clients, .int .i64 t81.2.config.Entries, .int .i64 t81.2.config.Bytes, .int .i64 t81.2.config.Reserve, .map (some b92), .int .i64 t81.2.entries, .int .i64 t81.2.bytes] 89 (0, 0))] ++ (G93)]) S98 T102
      change St _ _ _ [G104, [(b26, .cells #[.int .i64 65537, .int .i64 7] 34 (0, 0))]] at S103
      refine ⟨_, rfl, ?_⟩
      obtain ⟨cs106, G107, ho108, hg109⟩ := hO105
      obtain ⟨b110, G111, rfl, hO112, hq113⟩ := ho108
      have S114 : St _ _ _ [[(p13, .cells #[.int .i64 t99.2.2.config.Clients, .int .i64 t99.2.2.config.Entries, .int .i64 t99.2.2.config.Bytes, .int .i64 t99.2.2.config.Reserve, .map (some b110), .int .i64 t99.2.2.entries, .int .i64 t99.2.2.bytes] 89 (0, 0))], G111, [(b26, .cells #[.int .i64 65537, .int .i64 7] 34 (0, 0))]] := S103.objs (by rw [hg109, hq113]; simp)
      refine WOps.p (G.move rfl) rfl ?_
      refine WOps.p (G.extract rfl rfl) rfl ?_
      refine WOps.p (G.extract rfl rfl) rfl ?_
      refine WOps.p (G.assign rfl) rfl ?_
      refine WOps.p (G.assign rfl) rfl ?_
      refine WOps.nil ?_
      refine WEx.then_ ?_
      refine WCode.forget (l' := [(1, .pointer (some ⟨p13, 0, none⟩)), (3, .pointer (some ⟨b26, 0, none⟩)), (4, .int .i64 t39.1), (6, .int .i64 t57.1), (8, .int .i64 t73), (9, .int .i64 t81.1), (10, .int .i64 t99.1), (11, .string (bs t99.2.1))]) ⟨rfl, rfl, rfl, rfl, rfl, rfl, rfl, rfl, trivial⟩ ?_
      refine WCode.seq ?_
      refine WCode.region ?_
      refine WOps.p (G.move rfl) rfl ?_
      refine WOps.r (G.loada T.agg34_2 rfl (cs := [.int .i64 65537, .int .i64 7]) (cellsAt.of_blk (S114.blk 2 rfl) rfl)) rfl ?_
      have hO115 : ObjO 89 Cache.rp p13 t99.2.2 ([(p13, .cells #[.int .i64 t99.2.2.config.Clients, .int .i64 t99.2.2.config.Entries, .int .i64 t99.2.2.config.Bytes, .int .i64 t99.2.2.config.Reserve, .map (some b110), .int .i64 t99.2.2.entries, .int .i64 t99.2.2.bytes] 89 (0, 0))] ++ (G111)) := ⟨_, _, ⟨b110, G111, rfl, hO112, rfl⟩, rfl⟩
      have S116 : St _ _ _ [[(p13, .cells #[.int .i64 t99.2.2.config.Clients, .int .i64 t99.2.2.config.Entries, .int .i64 t99.2.2.config.Bytes, .int .i64 t99.2.2.config.Reserve, .map (some b110), .int .i64 t99.2.2.entries, .int .i64 t99.2.2.bytes] 89 (0, 0))] ++ (G111), [(b26, .cells #[.int .i64 65537, .int .i64 7] 34 (0, 0))]] := S114.objs (by simp)
      obtain ⟨t117, hc118, hF⟩ := bind_some hF
      refine WOps.call T.call17 (evs_cons rfl (evs_cons rfl (evs_cons rfl (evs_cons rfl evs_nil)))) rfl ?_
      refine (ca_Ask_calls k t99.2.2 (⟨65537, 7⟩ : WhoC) 2 1 hO115 hc118 (St.hpN (As := [[(p13, .cells #[.int .i64 t99.2.2.config.Clients, .int .i64 t99.2.2.config.Entries, .int .i64 t99.2.2.config.Bytes, .int .i64 t99.2.2.config.Reserve, .map (some b110), .int .i64 t99.2.2.entries, .int .i64 t99.2.2.bytes] 89 (0, 0))] ++ (G111)]) S116)).mono ?_
      rintro _ w119 ⟨G122, rfl, hO123, T120⟩
      have S121 := St.callN (As := [[(p13, .cells #[.int .i64 t99.2.2.config.Clients, .int .i64 t99.2.2.config.Entries, .int .i64 t99.2.2.config.Bytes, .int .i64 t99.2.2.config.Reserve, .map (some b110), .int .i64 t99.2.2.entries, .int .i64 t99.2.2.bytes] 89 (0, 0))] ++ (G111)]) S116 T120
      change St _ _ _ [G122, [(b26, .cells #[.int .i64 65537, .int .i64 7] 34 (0, 0))]] at S121
      refine ⟨_, rfl, ?_⟩
      obtain ⟨cs124, G125, ho126, hg127⟩ := hO123
      obtain ⟨b128, G129, rfl, hO130, hq131⟩ := ho126
      have S132 : St _ _ _ [[(p13, .cells #[.int .i64 t117.2.2.config.Clients, .int .i64 t117.2.2.config.Entries, .int .i64 t117.2.2.config.Bytes, .int .i64 t117.2.2.config.Reserve, .map (some b128), .int .i64 t117.2.2.entries, .int .i64 t117.2.2.bytes] 89 (0, 0))], G129, [(b26, .cells #[.int .i64 65537, .int .i64 7] 34 (0, 0))]] := S121.objs (by rw [hg127, hq131]; simp)
      refine WOps.nil ?_
      refine WEx.then_ ?_
      refine WCode.seq ?_
      refine WCode.region ?_
      refine WOps.p (G.move rfl) rfl ?_
      refine WOps.r (G.loada T.agg34_2 rfl (cs := [.int .i64 65537, .int .i64 7]) (cellsAt.of_blk (S132.blk 2 rfl) rfl)) rfl ?_
      have hO133 : ObjO 89 Cache.rp p13 t117.2.2 ([(p13, .cells #[.int .i64 t117.2.2.config.Clients, .int .i64 t117.2.2.config.Entries, .int .i64 t117.2.2.config.Bytes, .int .i64 t117.2.2.config.Reserve, .map (some b128), .int .i64 t117.2.2.entries, .int .i64 t117.2.2.bytes] 89 (0, 0))] ++ (G129)) := ⟨_, _, ⟨b128, G129, rfl, hO130, rfl⟩, rfl⟩
      have S134 : St _ _ _ [[(p13, .cells #[.int .i64 t117.2.2.config.Clients, .int .i64 t117.2.2.config.Entries, .int .i64 t117.2.2.config.Bytes, .int .i64 t117.2.2.config.Reserve, .map (some b128), .int .i64 t117.2.2.entries, .int .i64 t117.2.2.bytes] 89 (0, 0))] ++ (G129), [(b26, .cells #[.int .i64 65537, .int .i64 7] 34 (0, 0))]] := S132.objs (by simp)
      obtain ⟨t135, hc136, hF⟩ := bind_some hF
      refine WOps.call T.call17 (evs_cons rfl (evs_cons rfl (evs_cons rfl (evs_cons rfl evs_nil)))) rfl ?_
      refine (ca_Ask_calls k t117.2.2 (⟨65537, 7⟩ : WhoC) 3 1 hO133 hc136 (St.hpN (As := [[(p13, .cells #[.int .i64 t117.2.2.config.Clients, .int .i64 t117.2.2.config.Entries, .int .i64 t117.2.2.config.Bytes, .int .i64 t117.2.2.config.Reserve, .map (some b128), .int .i64 t117.2.2.entries, .int .i64 t117.2.2.bytes] 89 (0, 0))] ++ (G129)]) S134)).mono ?_
      rintro _ w137 ⟨G140, rfl, hO141, T138⟩
      have S139 := St.callN (As := [[(p13, .cells #[.int .i64 t117.2.2.config.Clients, .int .i64 t117.2.2.config.Entries, .int .i64 t117.2.2.config.Bytes, .int .i64 t117.2.2.config.Reserve, .map (some b128), .int .i64 t117.2.2.entries, .int .i64 t117.2.2.bytes] 89 (0, 0))] ++ (G129)]) S134 T138
      change St _ _ _ [G140, [(b26, .cells #[.int .i64 65537, .int .i64 7] 34 (0, 0))]] at S139
      refine ⟨_, rfl, ?_⟩
      obtain ⟨cs142, G143, ho144, hg145⟩ := hO141
      obtain ⟨b146, G147, rfl, hO148, hq149⟩ := ho144
      have S150 : St _ _ _ [[(p13, .cells #[.int .i64 t135.2.2.config.Clients, .int .i64 t135.2.2.config.Entries, .int .i64 t135.2.2.config.Bytes, .int .i64 t135.2.2.config.Reserve, .map (some b146), .int .i64 t135.2.2.entries, .int .i64 t135.2.2.bytes] 89 (0, 0))], G147, [(b26, .cells #[.int .i64 65537, .int .i64 7] 34 (0, 0))]] := S139.objs (by rw [hg145, hq149]; simp)
      refine WOps.p (G.move rfl) rfl ?_
      refine WOps.p (G.extract rfl rfl) rfl ?_
      refine WOps.p (G.extract rfl rfl) rfl ?_
      refine WOps.p (G.assign rfl) rfl ?_
      refine WOps.p (G.assign rfl) rfl ?_
      refine WOps.nil ?_
      refine WEx.then_ ?_
      refine WCode.forget (l' := [(1, .pointer (some ⟨p13, 0, none⟩)), (3, .pointer (some ⟨b26, 0, none⟩)), (4, .int .i64 t39.1), (6, .int .i64 t57.1), (8, .int .i64 t73), (9, .int .i64 t81.1), (10, .int .i64 t99.1), (11, .string (bs t99.2.1)), (12, .int .i64 t135.1)]) ⟨rfl, rfl, rfl, rfl, rfl, rfl, rfl, rfl, rfl, trivial⟩ ?_
      refine WCode.seq ?_
      refine WCode.region ?_
      refine WOps.p (G.move rfl) rfl ?_
      refine WOps.r (G.loada T.agg34_2 rfl (cs := [.int .i64 65537, .int .i64 7]) (cellsAt.of_blk (S150.blk 2 rfl) rfl)) rfl ?_
      have hO151 : ObjO 89 Cache.rp p13 t135.2.2 ([(p13, .cells #[.int .i64 t135.2.2.config.Clients, .int .i64 t135.2.2.config.Entries, .int .i64 t135.2.2.config.Bytes, .int .i64 t135.2.2.config.Reserve, .map (some b146), .int .i64 t135.2.2.entries, .int .i64 t135.2.2.bytes] 89 (0, 0))] ++ (G147)) := ⟨_, _, ⟨b146, G147, rfl, hO148, rfl⟩, rfl⟩
      have S152 : St _ _ _ [[(p13, .cells #[.int .i64 t135.2.2.config.Clients, .int .i64 t135.2.2.config.Entries, .int .i64 t135.2.2.config.Bytes, .int .i64 t135.2.2.config.Reserve, .map (some b146), .int .i64 t135.2.2.entries, .int .i64 t135.2.2.bytes] 89 (0, 0))] ++ (G147), [(b26, .cells #[.int .i64 65537, .int .i64 7] 34 (0, 0))]] := S150.objs (by simp)
      obtain ⟨t153, hc154, hF⟩ := bind_some hF
      refine WOps.call T.call17 (evs_cons rfl (evs_cons rfl (evs_cons rfl (evs_cons rfl evs_nil)))) rfl ?_
      refine (ca_Ask_calls k t135.2.2 (⟨65537, 7⟩ : WhoC) 3 2 hO151 hc154 (St.hpN (As := [[(p13, .cells #[.int .i64 t135.2.2.config.Clients, .int .i64 t135.2.2.config.Entries, .int .i64 t135.2.2.config.Bytes, .int .i64 t135.2.2.config.Reserve, .map (some b146), .int .i64 t135.2.2.entries, .int .i64 t135.2.2.bytes] 89 (0, 0))] ++ (G147)]) S152)).mono ?_
      rintro _ w155 ⟨G158, rfl, hO159, T156⟩
      have S157 := St.callN (As := [[(p13, .cells #[.int .i64 t135.2.2.config.Clients, .int .i64 t135.2.2.config.Entries, .int .i64 t135.2.2.config.Bytes, .int .i64 t135.2.2.config.Reserve, .map (some b146), .int .i64 t135.2.2.entries, .int .i64 t135.2.2.bytes] 89 (0, 0))] ++ (G147)]) S152 T156
      change St _ _ _ [G158, [(b26, .cells #[.int .i64 65537, .int .i64 7] 34 (0, 0))]] at S157
      refine ⟨_, rfl, ?_⟩
      obtain ⟨cs160, G161, ho162, hg163⟩ := hO159
      obtain ⟨b164, G165, rfl, hO166, hq167⟩ := ho162
      have S168 : St _ _ _ [[(p13, .cells #[.int .i64 t153.2.2.config.Clients, .int .i64 t153.2.2.config.Entries, .int .i64 t153.2.2.config.Bytes, .int .i64 t153.2.2.config.Reserve, .map (some b164), .int .i64 t153.2.2.entries, .int .i64 t153.2.2.bytes] 89 (0, 0))], G165, [(b26, .cells #[.int .i64 65537, .int .i64 7] 34 (0, 0))]] := S157.objs (by rw [hg163, hq167]; simp)
      refine WOps.p (G.move rfl) rfl ?_
      refine WOps.p (G.extract rfl rfl) rfl ?_
      refine WOps.p (G.extract rfl rfl) rfl ?_
      refine WOps.p (G.assign rfl) rfl ?_
      refine WOps.p (G.assign rfl) rfl ?_
      refine WOps.nil ?_
      refine WEx.then_ ?_
      refine WCode.seq ?_
      refine WCode.region ?_
      refine WOps.p (G.move rfl) rfl ?_
      refine WOps.p (G.eql rfl rfl rfl) rfl ?_
      refine WOps.p (G.move rfl) rfl ?_
      rcases ite_some hF with ⟨h169, hF⟩ | ⟨h169, hF⟩
      ·
        refine WOps.on rfl (kbl (b := decide (t39.1 = 1)) rfl (decide_eq_true h169)) ?_
        refine WOps.p (G.move rfl) rfl ?_
        refine WOps.on rfl (kbl (b := decide (t39.1 = 1)) rfl (decide_eq_true h169)) ?_
        refine WOps.p (G.eql rfl rfl rfl) rfl ?_
        refine WOps.p (G.pick_t (kb (b := decide (t39.1 = 1)) rfl (decide_eq_true h169)) rfl) rfl ?_
        refine WOps.p (G.move rfl) rfl ?_
        rcases ite_some hF with ⟨h170, hF⟩ | ⟨h170, hF⟩
        ·
          refine WOps.on rfl (kbl (b := decide (t57.1 = 2)) rfl (decide_eq_true h170)) ?_
          refine WOps.p (G.move rfl) rfl ?_
          refine WOps.on rfl (kbl (b := decide (t57.1 = 2)) rfl (decide_eq_true h170)) ?_
          refine WOps.p (G.eql rfl rfl rfl) rfl ?_
          refine WOps.p (G.pick_t (kb (b := decide (t57.1 = 2)) rfl (decide_eq_true h170)) rfl) rfl ?_
          refine WOps.p (G.move rfl) rfl ?_
          rcases ite_some hF with ⟨h171, hF⟩ | ⟨h171, hF⟩
          ·
            refine WOps.on rfl (kbl (b := decide (t73 = 100)) rfl (decide_eq_true h171)) ?_
            refine WOps.p (G.move rfl) rfl ?_
            refine WOps.on rfl (kbl (b := decide (t73 = 100)) rfl (decide_eq_true h171)) ?_
            refine WOps.p (G.eql rfl rfl rfl) rfl ?_
            refine WOps.p (G.pick_t (kb (b := decide (t73 = 100)) rfl (decide_eq_true h171)) rfl) rfl ?_
            refine WOps.p (G.move rfl) rfl ?_
            rcases ite_some hF with ⟨h172, hF⟩ | ⟨h172, hF⟩
            ·
              refine WOps.on rfl (kbl (b := decide (t81.1 = 0)) rfl (decide_eq_true h172)) ?_
              refine WOps.p (G.move rfl) rfl ?_
              refine WOps.on rfl (kbl (b := decide (t81.1 = 0)) rfl (decide_eq_true h172)) ?_
              refine WOps.p (G.eql rfl rfl rfl) rfl ?_
              refine WOps.p (G.pick_t (kb (b := decide (t81.1 = 0)) rfl (decide_eq_true h172)) rfl) rfl ?_
              refine WOps.p (G.move rfl) rfl ?_
              rcases ite_some hF with ⟨h173, hF⟩ | ⟨h173, hF⟩
              ·
                refine WOps.on rfl (kbl (b := decide (t99.1 = 3)) rfl (decide_eq_true h173)) ?_
                refine WOps.p (G.move rfl) rfl ?_
                refine WOps.on rfl (kbl (b := decide (t99.1 = 3)) rfl (decide_eq_true h173)) ?_
                refine WOps.p (G.eqlb' rfl rfl rfl) rfl ?_
                refine WOps.p (G.pick_t (kb (b := decide (t99.1 = 3)) rfl (decide_eq_true h173)) rfl) rfl ?_
                refine WOps.p (G.move rfl) rfl ?_
                rcases ite_some hF with ⟨h174, hF⟩ | ⟨h174, hF⟩
                ·
                  refine WOps.on rfl (kbl (b := decide (t99.2.1 = ([121, 101, 115, 33] : List UInt8))) rfl (decide_eq_true h174)) ?_
                  refine WOps.p (G.move rfl) rfl ?_
                  refine WOps.on rfl (kbl (b := decide (t99.2.1 = ([121, 101, 115, 33] : List UInt8))) rfl (decide_eq_true h174)) ?_
                  refine WOps.p (G.eql rfl rfl rfl) rfl ?_
                  refine WOps.p (G.pick_t (kb (b := decide (t99.2.1 = ([121, 101, 115, 33] : List UInt8))) rfl (decide_eq_true h174)) rfl) rfl ?_
                  refine WOps.p (G.move rfl) rfl ?_
                  rcases ite_some hF with ⟨h175, hF⟩ | ⟨h175, hF⟩
                  ·
                    refine WOps.on rfl (kbl (b := decide (t135.1 = 5)) rfl (decide_eq_true h175)) ?_
                    refine WOps.p (G.move rfl) rfl ?_
                    refine WOps.on rfl (kbl (b := decide (t135.1 = 5)) rfl (decide_eq_true h175)) ?_
                    refine WOps.p (G.eql rfl rfl rfl) rfl ?_
                    refine WOps.p (G.pick_t (kb (b := decide (t135.1 = 5)) rfl (decide_eq_true h175)) rfl) rfl ?_
                    refine WOps.p (G.move rfl) rfl ?_
                    rcases ite_some hF with ⟨h176, hF⟩ | ⟨h176, hF⟩
                    ·
                      refine WOps.on rfl (kbl (b := decide (t153.1 = 1)) rfl (decide_eq_true h176)) ?_
                      refine WOps.p (G.move rfl) rfl ?_
                      refine WOps.on rfl (kbl (b := decide (t153.1 = 1)) rfl (decide_eq_true h176)) ?_
                      obtain ⟨t177, hc178, hF⟩ := bind_some hF
                      have hP179 : PtR 89 Cache.rp w155 (KS [[(p13, .cells #[.int .i64 t153.2.2.config.Clients, .int .i64 t153.2.2.config.Entries, .int .i64 t153.2.2.config.Bytes, .int .i64 t153.2.2.config.Reserve, .map (some b164), .int .i64 t153.2.2.entries, .int .i64 t153.2.2.bytes] 89 (0, 0))], G165]) p13 t153.2.2 := ⟨_, S168.blk 0 rfl, KS_at 0 rfl (by simp [keys]), ⟨b164, rfl, ((hO166.rd (fun b o hb => S168.grp 1 rfl hb)).mono (fun b hb => KS_at 1 rfl hb))⟩⟩
                      refine WOps.call T.call20 (evs_cons rfl evs_nil) rfl ?_
                      refine (ca_Entries_calls k t153.2.2 hP179 (St.outN (Bs := []) (As := [[(p13, .cells #[.int .i64 t153.2.2.config.Clients, .int .i64 t153.2.2.config.Entries, .int .i64 t153.2.2.config.Bytes, .int .i64 t153.2.2.config.Reserve, .map (some b164), .int .i64 t153.2.2.entries, .int .i64 t153.2.2.bytes] 89 (0, 0))], G165]) S168) hc178).mono ?_
                      rintro _ w180 ⟨rfl, T181⟩
                      have S182 := St.callN (As := []) S168 T181
                      change St _ _ _ [[(p13, .cells #[.int .i64 t153.2.2.config.Clients, .int .i64 t153.2.2.config.Entries, .int .i64 t153.2.2.config.Bytes, .int .i64 t153.2.2.config.Reserve, .map (some b164), .int .i64 t153.2.2.entries, .int .i64 t153.2.2.bytes] 89 (0, 0))], G165, [(b26, .cells #[.int .i64 65537, .int .i64 7] 34 (0, 0))]] at S182
                      refine ⟨_, rfl, ?_⟩
                      refine WOps.on rfl (kbl (b := decide (t153.1 = 1)) rfl (decide_eq_true h176)) ?_
                      refine WOps.p (G.eql rfl rfl rfl) rfl ?_
                      refine WOps.p (G.pick_t (kb (b := decide (t153.1 = 1)) rfl (decide_eq_true h176)) rfl) rfl ?_
                      refine WOps.p (G.move rfl) rfl ?_
                      rcases ite_some hF with ⟨h183, hF⟩ | ⟨h183, hF⟩
                      ·
                        refine WOps.on rfl (kbl (b := decide (t177 = 2)) rfl (decide_eq_true h183)) ?_
                        refine WOps.p (G.move rfl) rfl ?_
                        refine WOps.on rfl (kbl (b := decide (t177 = 2)) rfl (decide_eq_true h183)) ?_
                        refine WOps.r (G.loada T.agg34_2 rfl (cs := [.int .i64 65537, .int .i64 7]) (cellsAt.of_blk (S182.blk 2 rfl) rfl)) rfl ?_
                        refine WOps.on rfl (kbl (b := decide (t177 = 2)) rfl (decide_eq_true h183)) ?_
                        obtain ⟨t184, hc185, hF⟩ := bind_some hF
                        have hP186 : PtR 89 Cache.rp w180 (KS [[(p13, .cells #[.int .i64 t153.2.2.config.Clients, .int .i64 t153.2.2.config.Entries, .int .i64 t153.2.2.config.Bytes, .int .i64 t153.2.2.config.Reserve, .map (some b164), .int .i64 t153.2.2.entries, .int .i64 t153.2.2.bytes] 89 (0, 0))], G165]) p13 t153.2.2 := ⟨_, S182.blk 0 rfl, KS_at 0 rfl (by simp [keys]), ⟨b164, rfl, ((hO166.rd (fun b o hb => S182.grp 1 rfl hb)).mono (fun b hb => KS_at 1 rfl hb))⟩⟩
                        refine WOps.call T.call16 (evs_cons rfl (evs_cons rfl evs_nil)) rfl ?_
                        refine (ca_Water_calls k t153.2.2 (⟨65537, 7⟩ : WhoC) hP186 (St.outN (Bs := []) (As := [[(p13, .cells #[.int .i64 t153.2.2.config.Clients, .int .i64 t153.2.2.config.Entries, .int .i64 t153.2.2.config.Bytes, .int .i64 t153.2.2.config.Reserve, .map (some b164), .int .i64 t153.2.2.entries, .int .i64 t153.2.2.bytes] 89 (0, 0))], G165]) S182) hc185).mono ?_
                        rintro _ w187 ⟨rfl, T188⟩
                        have S189 := St.callN (As := []) S182 T188
                        change St _ _ _ [[(p13, .cells #[.int .i64 t153.2.2.config.Clients, .int .i64 t153.2.2.config.Entries, .int .i64 t153.2.2.config.Bytes, .int .i64 t153.2.2.config.Reserve, .map (some b164), .int .i64 t153.2.2.entries, .int .i64 t153.2.2.bytes] 89 (0, 0))], G165, [(b26, .cells #[.int .i64 65537, .int .i64 7] 34 (0, 0))]] at S189
                        refine ⟨_, rfl, ?_⟩
                        refine WOps.on rfl (kbl (b := decide (t177 = 2)) rfl (decide_eq_true h183)) ?_
                        refine WOps.p (G.eql rfl rfl rfl) rfl ?_
                        refine WOps.p (G.pick_t (kb (b := decide (t177 = 2)) rfl (decide_eq_true h183)) rfl) rfl ?_
                        refine WOps.p (G.move rfl) rfl ?_
                        rcases ite_some hF with ⟨h190, hF⟩ | ⟨h190, hF⟩
                        ·
                          refine WOps.on rfl (kbl (b := decide (t184 = 2)) rfl (decide_eq_true h190)) ?_
                          refine WOps.p (G.move rfl) rfl ?_
                          refine WOps.on rfl (kbl (b := decide (t184 = 2)) rfl (decide_eq_true h190)) ?_
                          obtain ⟨t191, hc192, hF⟩ := bind_some hF
                          have hP193 : PtR 89 Cache.rp w187 (KS [[(p13, .cells #[.int .i64 t153.2.2.config.Clients, .int .i64 t153.2.2.config.Entries, .int .i64 t153.2.2.config.Bytes, .int .i64 t153.2.2.config.Reserve, .map (some b164), .int .i64 t153.2.2.entries, .int .i64 t153.2.2.bytes] 89 (0, 0))], G165]) p13 t153.2.2 := ⟨_, S189.blk 0 rfl, KS_at 0 rfl (by simp [keys]), ⟨b164, rfl, ((hO166.rd (fun b o hb => S189.grp 1 rfl hb)).mono (fun b hb => KS_at 1 rfl hb))⟩⟩
                          refine WOps.call T.call18 (evs_cons rfl evs_nil) rfl ?_
                          refine (ca_Clients_calls k t153.2.2 hP193 (St.outN (Bs := []) (As := [[(p13, .cells #[.int .i64 t153.2.2.config.Clients, .int .i64 t153.2.2.config.Entries, .int .i64 t153.2.2.config.Bytes, .int .i64 t153.2.2.config.Reserve, .map (some b164), .int .i64 t153.2.2.entries, .int .i64 t153.2.2.bytes] 89 (0, 0))], G165]) S189) hc192).mono ?_
                          rintro _ w194 ⟨rfl, T195⟩
                          have S196 := St.callN (As := []) S189 T195
                          change St _ _ _ [[(p13, .cells #[.int .i64 t153.2.2.config.Clients, .int .i64 t153.2.2.config.Entries, .int .i64 t153.2.2.config.Bytes, .int .i64 t153.2.2.config.Reserve, .map (some b164), .int .i64 t153.2.2.entries, .int .i64 t153.2.2.bytes] 89 (0, 0))], G165, [(b26, .cells #[.int .i64 65537, .int .i64 7] 34 (0, 0))]] at S196
                          refine ⟨_, rfl, ?_⟩
                          refine WOps.on rfl (kbl (b := decide (t184 = 2)) rfl (decide_eq_true h190)) ?_
                          refine WOps.p (G.eql rfl rfl rfl) rfl ?_
                          refine WOps.p (G.pick_t (kb (b := decide (t184 = 2)) rfl (decide_eq_true h190)) rfl) rfl ?_
                          refine WOps.p (G.assign rfl) rfl ?_
                          refine WOps.nil ?_
                          refine WEx.then_ ?_
                          refine WCode.forget (l' := [(0, .bool (decide (t191 = 1)))]) ⟨rfl, trivial⟩ ?_
                          refine WCode.ret ?_
                          obtain rfl := some_eq hF
                          refine WEx.ret1 rfl rfl ?_
                          exact ⟨rfl, St.keep (As := []) S196⟩
                        ·
                          refine WOps.off rfl (kbl (b := decide (t184 = 2)) rfl (decide_eq_false h190)) rfl rfl ?_
                          refine WOps.off rfl (kbl (b := decide (t184 = 2)) rfl (decide_eq_false h190)) rfl rfl ?_
                          refine WOps.off rfl (kbl (b := decide (t184 = 2)) rfl (decide_eq_false h190)) rfl rfl ?_
                          refine WOps.p (G.pick_f (kb (b := decide (t184 = 2)) rfl (decide_eq_false h190)) rfl) rfl ?_
                          refine WOps.p (G.assign rfl) rfl ?_
                          refine WOps.nil ?_
                          refine WEx.then_ ?_
                          refine WCode.forget (l' := [(0, .bool false)]) ⟨rfl, trivial⟩ ?_
                          refine WCode.ret ?_
                          obtain rfl := some_eq hF
                          refine WEx.ret1 rfl rfl ?_
                          exact ⟨rfl, St.keep (As := []) S189⟩
                      ·
                        refine WOps.off rfl (kbl (b := decide (t177 = 2)) rfl (decide_eq_false h183)) rfl rfl ?_
                        refine WOps.off rfl (kbl (b := decide (t177 = 2)) rfl (decide_eq_false h183)) rfl rfl ?_
                        refine WOps.off rfl (kbl (b := decide (t177 = 2)) rfl (decide_eq_false h183)) rfl rfl ?_
                        refine WOps.off rfl (kbl (b := decide (t177 = 2)) rfl (decide_eq_false h183)) rfl rfl ?_
                        refine WOps.p (G.pick_f (kb (b := decide (t177 = 2)) rfl (decide_eq_false h183)) rfl) rfl ?_
                        refine WOps.p (G.move rfl) rfl ?_
                        refine WOps.off rfl rfl rfl rfl ?_
                        refine WOps.off rfl rfl rfl rfl ?_
                        refine WOps.off rfl rfl rfl rfl ?_
                        refine WOps.p (G.pick_f rfl rfl) rfl ?_
                        refine WOps.p (G.assign rfl) rfl ?_
                        refine WOps.nil ?_
                        refine WEx.then_ ?_
                        refine WCode.forget (l' := [(0, .bool false)]) ⟨rfl, trivial⟩ ?_
                        refine WCode.ret ?_
                        obtain rfl := some_eq hF
                        refine WEx.ret1 rfl rfl ?_
                        exact ⟨rfl, St.keep (As := []) S182⟩
                    ·
                      refine WOps.off rfl (kbl (b := decide (t153.1 = 1)) rfl (decide_eq_false h176)) rfl rfl ?_
                      refine WOps.off rfl (kbl (b := decide (t153.1 = 1)) rfl (decide_eq_false h176)) rfl rfl ?_
                      refine WOps.off rfl (kbl (b := decide (t153.1 = 1)) rfl (decide_eq_false h176)) rfl rfl ?_
                      refine WOps.p (G.pick_f (kb (b := decide (t153.1 = 1)) rfl (decide_eq_false h176)) rfl) rfl ?_
                      refine WOps.p (G.move rfl) rfl ?_
                      refine WOps.off rfl rfl rfl rfl ?_
                      refine WOps.off rfl rfl rfl rfl ?_
                      refine WOps.off rfl rfl rfl rfl ?_
                      refine WOps.off rfl rfl rfl rfl ?_
                      refine WOps.p (G.pick_f rfl rfl) rfl ?_
                      refine WOps.p (G.move rfl) rfl ?_
                      refine WOps.off rfl rfl rfl rfl ?_
                      refine WOps.off rfl rfl rfl rfl ?_
                      refine WOps.off rfl rfl rfl rfl ?_
                      refine WOps.p (G.pick_f rfl rfl) rfl ?_
                      refine WOps.p (G.assign rfl) rfl ?_
                      refine WOps.nil ?_
                      refine WEx.then_ ?_
                      refine WCode.forget (l' := [(0, .bool false)]) ⟨rfl, trivial⟩ ?_
                      refine WCode.ret ?_
                      obtain rfl := some_eq hF
                      refine WEx.ret1 rfl rfl ?_
                      exact ⟨rfl, St.keep (As := []) S168⟩
                  ·
                    refine WOps.off rfl (kbl (b := decide (t135.1 = 5)) rfl (decide_eq_false h175)) rfl rfl ?_
                    refine WOps.off rfl (kbl (b := decide (t135.1 = 5)) rfl (decide_eq_false h175)) rfl rfl ?_
                    refine WOps.p (G.pick_f (kb (b := decide (t135.1 = 5)) rfl (decide_eq_false h175)) rfl) rfl ?_
                    refine WOps.p (G.move rfl) rfl ?_
                    refine WOps.off rfl rfl rfl rfl ?_
                    refine WOps.off rfl rfl rfl rfl ?_
                    refine WOps.off rfl rfl rfl rfl ?_
                    refine WOps.p (G.pick_f rfl rfl) rfl ?_
                    refine WOps.p (G.move rfl) rfl ?_
                    refine WOps.off rfl rfl rfl rfl ?_
                    refine WOps.off rfl rfl rfl rfl ?_
                    refine WOps.off rfl rfl rfl rfl ?_
                    refine WOps.off rfl rfl rfl rfl ?_
                    refine WOps.p (G.pick_f rfl rfl) rfl ?_
                    refine WOps.p (G.move rfl) rfl ?_
                    refine WOps.off rfl rfl rfl rfl ?_
                    refine WOps.off rfl rfl rfl rfl ?_
                    refine WOps.off rfl rfl rfl rfl ?_
                    refine WOps.p (G.pick_f rfl rfl) rfl ?_
                    refine WOps.p (G.assign rfl) rfl ?_
                    refine WOps.nil ?_
                    refine WEx.then_ ?_
                    refine WCode.forget (l' := [(0, .bool false)]) ⟨rfl, trivial⟩ ?_
                    refine WCode.ret ?_
                    obtain rfl := some_eq hF
                    refine WEx.ret1 rfl rfl ?_
                    exact ⟨rfl, St.keep (As := []) S168⟩
                ·
                  refine WOps.off rfl (kbl (b := decide (t99.2.1 = ([121, 101, 115, 33] : List UInt8))) rfl (decide_eq_false h174)) rfl rfl ?_
                  refine WOps.off rfl (kbl (b := decide (t99.2.1 = ([121, 101, 115, 33] : List UInt8))) rfl (decide_eq_false h174)) rfl rfl ?_
                  refine WOps.p (G.pick_f (kb (b := decide (t99.2.1 = ([121, 101, 115, 33] : List UInt8))) rfl (decide_eq_false h174)) rfl) rfl ?_
                  refine WOps.p (G.move rfl) rfl ?_
                  refine WOps.off rfl rfl rfl rfl ?_
                  refine WOps.off rfl rfl rfl rfl ?_
                  refine WOps.p (G.pick_f rfl rfl) rfl ?_
                  refine WOps.p (G.move rfl) rfl ?_
                  refine WOps.off rfl rfl rfl rfl ?_
                  refine WOps.off rfl rfl rfl rfl ?_
                  refine WOps.off rfl rfl rfl rfl ?_
                  refine WOps.p (G.pick_f rfl rfl) rfl ?_
                  refine WOps.p (G.move rfl) rfl ?_
                  refine WOps.off rfl rfl rfl rfl ?_
                  refine WOps.off rfl rfl rfl rfl ?_
                  refine WOps.off rfl rfl rfl rfl ?_
                  refine WOps.off rfl rfl rfl rfl ?_
                  refine WOps.p (G.pick_f rfl rfl) rfl ?_
                  refine WOps.p (G.move rfl) rfl ?_
                  refine WOps.off rfl rfl rfl rfl ?_
                  refine WOps.off rfl rfl rfl rfl ?_
                  refine WOps.off rfl rfl rfl rfl ?_
                  refine WOps.p (G.pick_f rfl rfl) rfl ?_
                  refine WOps.p (G.assign rfl) rfl ?_
                  refine WOps.nil ?_
                  refine WEx.then_ ?_
                  refine WCode.forget (l' := [(0, .bool false)]) ⟨rfl, trivial⟩ ?_
                  refine WCode.ret ?_
                  obtain rfl := some_eq hF
                  refine WEx.ret1 rfl rfl ?_
                  exact ⟨rfl, St.keep (As := []) S168⟩
              ·
                refine WOps.off rfl (kbl (b := decide (t99.1 = 3)) rfl (decide_eq_false h173)) rfl rfl ?_
                refine WOps.off rfl (kbl (b := decide (t99.1 = 3)) rfl (decide_eq_false h173)) rfl rfl ?_
                refine WOps.p (G.pick_f (kb (b := decide (t99.1 = 3)) rfl (decide_eq_false h173)) rfl) rfl ?_
                refine WOps.p (G.move rfl) rfl ?_
                refine WOps.off rfl rfl rfl rfl ?_
                refine WOps.off rfl rfl rfl rfl ?_
                refine WOps.p (G.pick_f rfl rfl) rfl ?_
                refine WOps.p (G.move rfl) rfl ?_
                refine WOps.off rfl rfl rfl rfl ?_
                refine WOps.off rfl rfl rfl rfl ?_
                refine WOps.p (G.pick_f rfl rfl) rfl ?_
                refine WOps.p (G.move rfl) rfl ?_
                refine WOps.off rfl rfl rfl rfl ?_
                refine WOps.off rfl rfl rfl rfl ?_
                refine WOps.off rfl rfl rfl rfl ?_
                refine WOps.p (G.pick_f rfl rfl) rfl ?_
                refine WOps.p (G.move rfl) rfl ?_
                refine WOps.off rfl rfl rfl rfl ?_
                refine WOps.off rfl rfl rfl rfl ?_
                refine WOps.off rfl rfl rfl rfl ?_
                refine WOps.off rfl rfl rfl rfl ?_
                refine WOps.p (G.pick_f rfl rfl) rfl ?_
                refine WOps.p (G.move rfl) rfl ?_
                refine WOps.off rfl rfl rfl rfl ?_
                refine WOps.off rfl rfl rfl rfl ?_
                refine WOps.off rfl rfl rfl rfl ?_
                refine WOps.p (G.pick_f rfl rfl) rfl ?_
                refine WOps.p (G.assign rfl) rfl ?_
                refine WOps.nil ?_
                refine WEx.then_ ?_
                refine WCode.forget (l' := [(0, .bool false)]) ⟨rfl, trivial⟩ ?_
                refine WCode.ret ?_
                obtain rfl := some_eq hF
                refine WEx.ret1 rfl rfl ?_
                exact ⟨rfl, St.keep (As := []) S168⟩
            ·
              refine WOps.off rfl (kbl (b := decide (t81.1 = 0)) rfl (decide_eq_false h172)) rfl rfl ?_
              refine WOps.off rfl (kbl (b := decide (t81.1 = 0)) rfl (decide_eq_false h172)) rfl rfl ?_
              refine WOps.p (G.pick_f (kb (b := decide (t81.1 = 0)) rfl (decide_eq_false h172)) rfl) rfl ?_
              refine WOps.p (G.move rfl) rfl ?_
              refine WOps.off rfl rfl rfl rfl ?_
              refine WOps.off rfl rfl rfl rfl ?_
              refine WOps.p (G.pick_f rfl rfl) rfl ?_
              refine WOps.p (G.move rfl) rfl ?_
              refine WOps.off rfl rfl rfl rfl ?_
              refine WOps.off rfl rfl rfl rfl ?_
              refine WOps.p (G.pick_f rfl rfl) rfl ?_
              refine WOps.p (G.move rfl) rfl ?_
              refine WOps.off rfl rfl rfl rfl ?_
              refine WOps.off rfl rfl rfl rfl ?_
              refine WOps.p (G.pick_f rfl rfl) rfl ?_
              refine WOps.p (G.move rfl) rfl ?_
              refine WOps.off rfl rfl rfl rfl ?_
              refine WOps.off rfl rfl rfl rfl ?_
              refine WOps.off rfl rfl rfl rfl ?_
              refine WOps.p (G.pick_f rfl rfl) rfl ?_
              refine WOps.p (G.move rfl) rfl ?_
              refine WOps.off rfl rfl rfl rfl ?_
              refine WOps.off rfl rfl rfl rfl ?_
              refine WOps.off rfl rfl rfl rfl ?_
              refine WOps.off rfl rfl rfl rfl ?_
              refine WOps.p (G.pick_f rfl rfl) rfl ?_
              refine WOps.p (G.move rfl) rfl ?_
              refine WOps.off rfl rfl rfl rfl ?_
              refine WOps.off rfl rfl rfl rfl ?_
              refine WOps.off rfl rfl rfl rfl ?_
              refine WOps.p (G.pick_f rfl rfl) rfl ?_
              refine WOps.p (G.assign rfl) rfl ?_
              refine WOps.nil ?_
              refine WEx.then_ ?_
              refine WCode.forget (l' := [(0, .bool false)]) ⟨rfl, trivial⟩ ?_
              refine WCode.ret ?_
              obtain rfl := some_eq hF
              refine WEx.ret1 rfl rfl ?_
              exact ⟨rfl, St.keep (As := []) S168⟩
          ·
            refine WOps.off rfl (kbl (b := decide (t73 = 100)) rfl (decide_eq_false h171)) rfl rfl ?_
            refine WOps.off rfl (kbl (b := decide (t73 = 100)) rfl (decide_eq_false h171)) rfl rfl ?_
            refine WOps.p (G.pick_f (kb (b := decide (t73 = 100)) rfl (decide_eq_false h171)) rfl) rfl ?_
            refine WOps.p (G.move rfl) rfl ?_
            refine WOps.off rfl rfl rfl rfl ?_
            refine WOps.off rfl rfl rfl rfl ?_
            refine WOps.p (G.pick_f rfl rfl) rfl ?_
            refine WOps.p (G.move rfl) rfl ?_
            refine WOps.off rfl rfl rfl rfl ?_
            refine WOps.off rfl rfl rfl rfl ?_
            refine WOps.p (G.pick_f rfl rfl) rfl ?_
            refine WOps.p (G.move rfl) rfl ?_
            refine WOps.off rfl rfl rfl rfl ?_
            refine WOps.off rfl rfl rfl rfl ?_
            refine WOps.p (G.pick_f rfl rfl) rfl ?_
            refine WOps.p (G.move rfl) rfl ?_
            refine WOps.off rfl rfl rfl rfl ?_
            refine WOps.off rfl rfl rfl rfl ?_
            refine WOps.p (G.pick_f rfl rfl) rfl ?_
            refine WOps.p (G.move rfl) rfl ?_
            refine WOps.off rfl rfl rfl rfl ?_
            refine WOps.off rfl rfl rfl rfl ?_
            refine WOps.off rfl rfl rfl rfl ?_
            refine WOps.p (G.pick_f rfl rfl) rfl ?_
            refine WOps.p (G.move rfl) rfl ?_
            refine WOps.off rfl rfl rfl rfl ?_
            refine WOps.off rfl rfl rfl rfl ?_
            refine WOps.off rfl rfl rfl rfl ?_
            refine WOps.off rfl rfl rfl rfl ?_
            refine WOps.p (G.pick_f rfl rfl) rfl ?_
            refine WOps.p (G.move rfl) rfl ?_
            refine WOps.off rfl rfl rfl rfl ?_
            refine WOps.off rfl rfl rfl rfl ?_
            refine WOps.off rfl rfl rfl rfl ?_
            refine WOps.p (G.pick_f rfl rfl) rfl ?_
            refine WOps.p (G.assign rfl) rfl ?_
            refine WOps.nil ?_
            refine WEx.then_ ?_
            refine WCode.forget (l' := [(0, .bool false)]) ⟨rfl, trivial⟩ ?_
            refine WCode.ret ?_
            obtain rfl := some_eq hF
            refine WEx.ret1 rfl rfl ?_
            exact ⟨rfl, St.keep (As := []) S168⟩
        ·
          refine WOps.off rfl (kbl (b := decide (t57.1 = 2)) rfl (decide_eq_false h170)) rfl rfl ?_
          refine WOps.off rfl (kbl (b := decide (t57.1 = 2)) rfl (decide_eq_false h170)) rfl rfl ?_
          refine WOps.p (G.pick_f (kb (b := decide (t57.1 = 2)) rfl (decide_eq_false h170)) rfl) rfl ?_
          refine WOps.p (G.move rfl) rfl ?_
          refine WOps.off rfl rfl rfl rfl ?_
          refine WOps.off rfl rfl rfl rfl ?_
          refine WOps.p (G.pick_f rfl rfl) rfl ?_
          refine WOps.p (G.move rfl) rfl ?_
          refine WOps.off rfl rfl rfl rfl ?_
          refine WOps.off rfl rfl rfl rfl ?_
          refine WOps.p (G.pick_f rfl rfl) rfl ?_
          refine WOps.p (G.move rfl) rfl ?_
          refine WOps.off rfl rfl rfl rfl ?_
          refine WOps.off rfl rfl rfl rfl ?_
          refine WOps.p (G.pick_f rfl rfl) rfl ?_
          refine WOps.p (G.move rfl) rfl ?_
          refine WOps.off rfl rfl rfl rfl ?_
          refine WOps.off rfl rfl rfl rfl ?_
          refine WOps.p (G.pick_f rfl rfl) rfl ?_
          refine WOps.p (G.move rfl) rfl ?_
          refine WOps.off rfl rfl rfl rfl ?_
          refine WOps.off rfl rfl rfl rfl ?_
          refine WOps.p (G.pick_f rfl rfl) rfl ?_
          refine WOps.p (G.move rfl) rfl ?_
          refine WOps.off rfl rfl rfl rfl ?_
          refine WOps.off rfl rfl rfl rfl ?_
          refine WOps.off rfl rfl rfl rfl ?_
          refine WOps.p (G.pick_f rfl rfl) rfl ?_
          refine WOps.p (G.move rfl) rfl ?_
          refine WOps.off rfl rfl rfl rfl ?_
          refine WOps.off rfl rfl rfl rfl ?_
          refine WOps.off rfl rfl rfl rfl ?_
          refine WOps.off rfl rfl rfl rfl ?_
          refine WOps.p (G.pick_f rfl rfl) rfl ?_
          refine WOps.p (G.move rfl) rfl ?_
          refine WOps.off rfl rfl rfl rfl ?_
          refine WOps.off rfl rfl rfl rfl ?_
          refine WOps.off rfl rfl rfl rfl ?_
          refine WOps.p (G.pick_f rfl rfl) rfl ?_
          refine WOps.p (G.assign rfl) rfl ?_
          refine WOps.nil ?_
          refine WEx.then_ ?_
          refine WCode.forget (l' := [(0, .bool false)]) ⟨rfl, trivial⟩ ?_
          refine WCode.ret ?_
          obtain rfl := some_eq hF
          refine WEx.ret1 rfl rfl ?_
          exact ⟨rfl, St.keep (As := []) S168⟩
      ·
        refine WOps.off rfl (kbl (b := decide (t39.1 = 1)) rfl (decide_eq_false h169)) rfl rfl ?_
        refine WOps.off rfl (kbl (b := decide (t39.1 = 1)) rfl (decide_eq_false h169)) rfl rfl ?_
        refine WOps.p (G.pick_f (kb (b := decide (t39.1 = 1)) rfl (decide_eq_false h169)) rfl) rfl ?_
        refine WOps.p (G.move rfl) rfl ?_
        refine WOps.off rfl rfl rfl rfl ?_
        refine WOps.off rfl rfl rfl rfl ?_
        refine WOps.p (G.pick_f rfl rfl) rfl ?_
        refine WOps.p (G.move rfl) rfl ?_
        refine WOps.off rfl rfl rfl rfl ?_
        refine WOps.off rfl rfl rfl rfl ?_
        refine WOps.p (G.pick_f rfl rfl) rfl ?_
        refine WOps.p (G.move rfl) rfl ?_
        refine WOps.off rfl rfl rfl rfl ?_
        refine WOps.off rfl rfl rfl rfl ?_
        refine WOps.p (G.pick_f rfl rfl) rfl ?_
        refine WOps.p (G.move rfl) rfl ?_
        refine WOps.off rfl rfl rfl rfl ?_
        refine WOps.off rfl rfl rfl rfl ?_
        refine WOps.p (G.pick_f rfl rfl) rfl ?_
        refine WOps.p (G.move rfl) rfl ?_
        refine WOps.off rfl rfl rfl rfl ?_
        refine WOps.off rfl rfl rfl rfl ?_
        refine WOps.p (G.pick_f rfl rfl) rfl ?_
        refine WOps.p (G.move rfl) rfl ?_
        refine WOps.off rfl rfl rfl rfl ?_
        refine WOps.off rfl rfl rfl rfl ?_
        refine WOps.p (G.pick_f rfl rfl) rfl ?_
        refine WOps.p (G.move rfl) rfl ?_
        refine WOps.off rfl rfl rfl rfl ?_
        refine WOps.off rfl rfl rfl rfl ?_
        refine WOps.off rfl rfl rfl rfl ?_
        refine WOps.p (G.pick_f rfl rfl) rfl ?_
        refine WOps.p (G.move rfl) rfl ?_
        refine WOps.off rfl rfl rfl rfl ?_
        refine WOps.off rfl rfl rfl rfl ?_
        refine WOps.off rfl rfl rfl rfl ?_
        refine WOps.off rfl rfl rfl rfl ?_
        refine WOps.p (G.pick_f rfl rfl) rfl ?_
        refine WOps.p (G.move rfl) rfl ?_
        refine WOps.off rfl rfl rfl rfl ?_
        refine WOps.off rfl rfl rfl rfl ?_
        refine WOps.off rfl rfl rfl rfl ?_
        refine WOps.p (G.pick_f rfl rfl) rfl ?_
        refine WOps.p (G.assign rfl) rfl ?_
        refine WOps.nil ?_
        refine WEx.then_ ?_
        refine WCode.forget (l' := [(0, .bool false)]) ⟨rfl, trivial⟩ ?_
        refine WCode.ret ?_
        obtain rfl := some_eq hF
        refine WEx.ret1 rfl rfl ?_
        exact ⟨rfl, St.keep (As := []) S168⟩
    ·
      refine WCode.cond_t (kb (b := !(decide (t1.2 = 0))) rfl (show (!(decide (t1.2 = 0))) = true from by rw [(decide_eq_false h25)]; rfl)) ?_
      refine WCode.seq ?_
      refine WCode.region ?_
      refine WOps.p (G.assign rfl) rfl ?_
      refine WOps.nil ?_
      refine WEx.then_ ?_
      refine WCode.ret ?_
      refine WEx.then_ret ?_
      obtain rfl := some_eq hF
      refine WEx.ret1 rfl rfl ?_
      exact ⟨rfl, St.keep (As := []) S24⟩
  ·
    have hn198 := Option.not_isSome_iff_eq_none.1 h9
    have ho197 := hO8
    rw [hn198] at ho197
    obtain ⟨hv199, hg200⟩ := ho197
    subst hv199
    have S201 : St _ _ _ [] := S5.objs (by rw [hg200]; simp)
    refine WOps.p (G.eqp_nil Try.underlying28 rfl rfl rfl) rfl ?_
    refine WOps.p (G.move rfl) rfl ?_
    refine WOps.off rfl rfl rfl rfl ?_
    refine WOps.off rfl rfl rfl rfl ?_
    refine WOps.p (G.pick_t rfl rfl) rfl ?_
    refine WOps.nil ?_
    refine WEx.then_ ?_
    refine WCode.forget (l' := [(1, .pointer none), (26, .bool true)]) ⟨rfl, rfl, trivial⟩ ?_
    refine WCode.cond_t rfl ?_
    refine WCode.seq ?_
    refine WCode.region ?_
    refine WOps.p (G.assign rfl) rfl ?_
    refine WOps.nil ?_
    refine WEx.then_ ?_
    refine WCode.ret ?_
    refine WEx.then_ret ?_
    obtain rfl := some_eq hF
    refine WEx.ret1 rfl rfl ?_
    exact ⟨rfl, St.keep (As := []) S201⟩

end Go.Proofs.Ytpdpfiaediadgaa
