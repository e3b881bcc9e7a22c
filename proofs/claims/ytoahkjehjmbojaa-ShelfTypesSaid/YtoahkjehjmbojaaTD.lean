/- Functions and their walks (printed by auto.py over the engine). -/
import Derived.Test.YtoahkjehjmbojaaProg
import Derived.Test.YtoahkjehjmbojaaTC
namespace Go.Proofs.Ytoahkjehjmbojaa
open Go Go.Eng
set_option linter.unusedSimpArgs false
set_option linter.unusedVariables false

theorem T.call40 : Callable Try.prog 40 := Callable.mk Try.func40 (by kernel_rfl) (by kernel_rfl)
theorem T.call41 : Callable Try.prog 41 := Callable.mk Try.func41 (by kernel_rfl) (by kernel_rfl)
theorem T.call42 : Callable Try.prog 42 := Callable.mk Try.func42 (by kernel_rfl) (by kernel_rfl)
theorem T.call43 : Callable Try.prog 43 := Callable.mk Try.func43 (by kernel_rfl) (by kernel_rfl)
theorem T.call44 : Callable Try.prog 44 := Callable.mk Try.func44 (by kernel_rfl) (by kernel_rfl)
theorem T.call45 : Callable Try.prog 45 := Callable.mk Try.func45 (by kernel_rfl) (by kernel_rfl)
theorem T.call46 : Callable Try.prog 46 := Callable.mk Try.func46 (by kernel_rfl) (by kernel_rfl)
theorem T.call47 : Callable Try.prog 47 := Callable.mk Try.func47 (by kernel_rfl) (by kernel_rfl)
theorem T.call48 : Callable Try.prog 48 := Callable.mk Try.func48 (by kernel_rfl) (by kernel_rfl)
theorem T.call49 : Callable Try.prog 49 := Callable.mk Try.func49 (by kernel_rfl) (by kernel_rfl)
theorem T.call50 : Callable Try.prog 50 := Callable.mk Try.func50 (by kernel_rfl) (by kernel_rfl)
theorem T.size76_3 : sizeT Try.prog 76 = some 3 := by kernel_rfl
theorem T.size9_1 : sizeT Try.prog 9 = some 1 := by kernel_rfl
theorem T.str9 : isStr Try.prog 9 = true := by kernel_rfl
theorem T.zero3 : zeroOf Try.prog 3 = some (.int .i64 0) := by kernel_rfl
theorem T.zero76 : zeroOf Try.prog 76 = some (.agg #[.int .u8 0, .int .u8 0, .bool false]) := by kernel_rfl



noncomputable def law_Types (k : Nat) (a0 : Int) (a1 : List UInt8) : Option Bool := (if 2147483647 < (a1.length : Int) then (some true) else (Option.bind (sh_awake k) fun t2 => (Option.bind (st_New k 3) fun t7 => (Option.bind (sp_New k 3) fun t15 => (Option.bind (se_New k 0) fun t23 => (if t2 = true then (if (t7.1).isSome = true then (Option.bind (t7.1) fun x33 => (if (t15.1).isSome = true then (Option.bind (t15.1) fun x51 => (if (t23.1).isSome = true then (Option.bind (t23.1) fun x69 => (if t7.2 = 0 then (if t15.2 = 0 then (if t23.2 = 0 then (allB fun b90 => (Option.bind (st_Put k x33 (⟨(⟨((u8of a0).toNat : Int), 7⟩ : S74), decide (0 < a0)⟩ : Two) ((some ⟨b90, 0, none⟩, 1, 1) : Hs)) fun t108 => (Option.bind (st_Put k t108.2 (⟨(⟨0, 0⟩ : S74), false⟩ : Two) ((none, 0, 0) : Hs)) fun t127 => (Option.bind (st_Get k t127.2 (⟨(⟨((u8of a0).toNat : Int), 7⟩ : S74), decide (0 < a0)⟩ : Two)) fun t147 => (Option.bind (st_Get k t127.2 (⟨(⟨0, 0⟩ : S74), false⟩ : Two)) fun t153 => (allB fun b159 => (Option.bind (sp_Put k x51 a1 (some (⟨b159, 0, none⟩ : Addr))) fun t171 => (Option.bind (sp_Get k t171.2 a1) fun t188 => (Option.bind (cat a1 ([120] : List UInt8)) fun m197 => (Option.bind (sp_Get k t171.2 m197) fun t199 => (Option.bind (se_Put k x69 true (⟨⟩ : S85)) fun t208 => (Option.bind (se_Get k t208.2 true) fun t225 => (if t147.2 = true then (if (t147.1.2.1 : Int) = 1 then (if t147.1 = ((some ⟨b90, 0, none⟩, 1, 1) : Hs) then (if ([97, 110, 111, 116, 104, 101, 114, 32, 111, 110, 101] : List UInt8) = ([97, 110, 111, 116, 104, 101, 114, 32, 111, 110, 101] : List UInt8) then (if t153.2 = true then (if (t153.1.2.1 : Int) = 0 then (if t188.2 = true then (if t188.1 = some (⟨b159, 0, none⟩ : Addr) then (if (w64 (a0 + 1)) = (w64 (a0 + 1)) then (if (t199.1).isNone = true then (if t199.2 = true then (some false) else (if t208.1 = 140 then (if t225.2 = true then (some false) else (Option.bind (st_Len k t127.2) fun t253 => (some (decide (t253 = 2))))) else (some false))) else (some false)) else (some false)) else none) else (some false)) else (some false)) else (some false)) else (some false)) else none) else (some false)) else (some false)))))))))))))) else (some false)) else (some false)) else (some false))) else (some false))) else (some false))) else (some false)) else (some false)))))))
set_option maxRecDepth 100000 in
set_option maxHeartbeats 1000000 in
theorem law_Types_calls (k : Nat) (a0 : Int) (a1 : List UInt8) {w : World} {r_ : Bool} (h_ : law_Types k a0 a1 = some r_) :
    Calls Try.prog 9 [.int .i64 a0, .string (bs a1)].toArray w fun e w' => e = .returned (.bool r_) ∧ St w (KS []) w' [] := by
 have hF := h_
 clear h_
 unfold law_Types at hF
 have S := St.ofFalse (As := []) (St.init0 w)
 refine enter 185 [(0, .int .i64 a0), (1, .string (bs a1))] Try.func9 rfl rfl rfl rfl ?_
 refine WCode.seq ?_
 refine WCode.region ?_
 refine WOps.p (G.assign rfl) rfl ?_
 refine WOps.nil ?_
 refine WEx.then_ ?_
 refine WCode.seq ?_
 refine WCode.seq ?_
 refine WCode.region ?_
 refine WOps.p (G.move rfl) rfl ?_
 refine WOps.p (G.lenb T.str9 rfl) rfl ?_
 refine WOps.p (G.gtr rfl rfl rfl) rfl ?_
 refine WOps.nil ?_
 refine WEx.then_ ?_
 rcases ite_some hF with ⟨h1, hF⟩ | ⟨h1, hF⟩
 ·
  refine WCode.cond_t (kb (b := decide (2147483647 < (a1.length : Int))) rfl (decide_eq_true h1)) ?_
  refine WCode.seq ?_
  refine WCode.region ?_
  refine WOps.p (G.assign rfl) rfl ?_
  refine WOps.nil ?_
  refine WEx.then_ ?_
  refine WCode.ret ?_
  refine WEx.then_ret ?_
  obtain rfl := some_eq hF
  refine WEx.ret1 rfl rfl ?_
  exact ⟨rfl, St.keep (As := []) S⟩
 ·
  refine WCode.cond_f (kb (b := decide (2147483647 < (a1.length : Int))) rfl (decide_eq_false h1)) ?_
  refine WCode.skip ?_
  refine WEx.then_ ?_
  refine WCode.seq ?_
  refine WCode.region ?_
  obtain ⟨t2, hc3, hF⟩ := bind_some hF
  refine WOps.call T.call40 evs_nil rfl ?_
  refine (sh_awake_calls k hc3).mono ?_
  rintro _ w4 ⟨rfl, T5⟩
  have S6 := St.callN (As := []) S T5
  change St _ _ _ [] at S6
  refine ⟨_, rfl, ?_⟩
  refine WOps.p (G.assign rfl) rfl ?_
  refine WOps.nil ?_
  refine WEx.then_ ?_
  refine WCode.seq ?_
  refine WCode.region ?_
  obtain ⟨t7, hc8, hF⟩ := bind_some hF
  refine WOps.call T.call41 (evs_cons rfl evs_nil) rfl ?_
  refine (st_New_calls k 3 hc8).mono ?_
  rintro _ w9 ⟨v12, G13, rfl, hO14, T10⟩
  have S11 := St.callN (As := []) S6 T10
  change St _ _ _ [G13] at S11
  refine ⟨_, rfl, ?_⟩
  refine WOps.p (G.move rfl) rfl ?_
  refine WOps.p (G.extract rfl rfl) rfl ?_
  refine WOps.p (G.extract rfl rfl) rfl ?_
  refine WOps.p (G.assign rfl) rfl ?_
  refine WOps.p (G.assign rfl) rfl ?_
  refine WOps.nil ?_
  refine WEx.then_ ?_
  refine WCode.seq ?_
  refine WCode.region ?_
  obtain ⟨t15, hc16, hF⟩ := bind_some hF
  refine WOps.call T.call42 (evs_cons rfl evs_nil) rfl ?_
  refine (sp_New_calls k 3 hc16).mono ?_
  rintro _ w17 ⟨v20, G21, rfl, hO22, T18⟩
  have S19 := St.callN (As := []) S11 T18
  change St _ _ _ [G21, G13] at S19
  refine ⟨_, rfl, ?_⟩
  refine WOps.p (G.move rfl) rfl ?_
  refine WOps.p (G.extract rfl rfl) rfl ?_
  refine WOps.p (G.extract rfl rfl) rfl ?_
  refine WOps.p (G.assign rfl) rfl ?_
  refine WOps.p (G.assign rfl) rfl ?_
  refine WOps.nil ?_
  refine WEx.then_ ?_
  refine WCode.forget (l' := [(0, .int .i64 a0), (1, .string (bs a1)), (5, .bool t2), (6, v12), (7, .int .i64 t7.2), (8, v20), (9, .int .i64 t15.2)]) ⟨rfl, rfl, rfl, rfl, rfl, rfl, rfl, trivial⟩ ?_
  refine WCode.seq ?_
  refine WCode.region ?_
  obtain ⟨t23, hc24, hF⟩ := bind_some hF
  refine WOps.call T.call43 (evs_cons rfl evs_nil) rfl ?_
  refine (se_New_calls k 0 hc24).mono ?_
  rintro _ w25 ⟨v28, G29, rfl, hO30, T26⟩
  have S27 := St.callN (As := []) S19 T26
  change St _ _ _ [G29, G21, G13] at S27
  refine ⟨_, rfl, ?_⟩
  refine WOps.p (G.move rfl) rfl ?_
  refine WOps.p (G.extract rfl rfl) rfl ?_
  refine WOps.p (G.extract rfl rfl) rfl ?_
  refine WOps.p (G.assign rfl) rfl ?_
  refine WOps.p (G.assign rfl) rfl ?_
  refine WOps.nil ?_
  refine WEx.then_ ?_
  refine WCode.seq ?_
  refine WCode.seq ?_
  refine WCode.region ?_
  refine WOps.p (G.move rfl) rfl ?_
  refine WOps.p (G.not rfl rfl) rfl ?_
  refine WOps.p (G.move rfl) rfl ?_
  rcases ite_some hF with ⟨h31, hF⟩ | ⟨h31, hF⟩
  ·
   refine WOps.on rfl (kbl (b := !t2) rfl (show (!t2) = false from by rw [h31]; rfl)) ?_
   refine WOps.p (G.move rfl) rfl ?_
   rcases ite_some hF with ⟨h32, hF⟩ | ⟨h32, hF⟩
   ·
    refine WOps.on rfl (kbl (b := !t2) rfl (show (!t2) = false from by rw [h31]; rfl)) ?_
    obtain ⟨x33, hc34, hF⟩ := bind_some hF
    have ho35 := hO14
    rw [hc34] at ho35
    obtain ⟨p36, hv37, hO38⟩ := ho35
    subst hv37
    have S39 := S27.front 2 rfl
    change St _ _ _ [G13, G29, G21] at S39
    obtain ⟨cs40, G41, ho42, hg43⟩ := hO38
    obtain ⟨A44, c45, G46, rfl, hO47, hq48⟩ := ho42
    have S49 : St _ _ _ [[(p36, .cells #[.int .i64 x33.most, .slice A44 x33.pairs.length c45] 151 (0, 0))], G46, G29, G21] := S39.objs (by rw [hg43, hq48]; simp)
    refine WOps.p (G.eqp_nil Try.underlying71 rfl rfl rfl) rfl ?_
    refine WOps.p (G.pick_f (kb (b := !t2) rfl (show (!t2) = false from by rw [h31]; rfl)) rfl) rfl ?_
    refine WOps.p (G.move rfl) rfl ?_
    refine WOps.on rfl rfl ?_
    refine WOps.p (G.move rfl) rfl ?_
    rcases ite_some hF with ⟨h50, hF⟩ | ⟨h50, hF⟩
    ·
     refine WOps.on rfl rfl ?_
     obtain ⟨x51, hc52, hF⟩ := bind_some hF
     have ho53 := hO22
     rw [hc52] at ho53
     obtain ⟨p54, hv55, hO56⟩ := ho53
     subst hv55
     have S57 := S49.front 3 rfl
     change St _ _ _ [G21, [(p36, .cells #[.int .i64 x33.most, .slice A44 x33.pairs.length c45] 151 (0, 0))], G46, G29] at S57
     obtain ⟨cs58, G59, ho60, hg61⟩ := hO56
     obtain ⟨A62, c63, G64, rfl, hO65, hq66⟩ := ho60
     have S67 : St _ _ _ [[(p54, .cells #[.int .i64 x51.most, .slice A62 x51.pairs.length c63] 154 (0, 0))], G64, [(p36, .cells #[.int .i64 x33.most, .slice A44 x33.pairs.length c45] 151 (0, 0))], G46, G29] := S57.objs (by rw [hg61, hq66]; simp)
     refine WOps.p (G.eqp_nil Try.underlying78 rfl rfl rfl) rfl ?_
     refine WOps.p (G.pick_f rfl rfl) rfl ?_
     refine WOps.p (G.move rfl) rfl ?_
     refine WOps.on rfl rfl ?_
     refine WOps.p (G.move rfl) rfl ?_
     rcases ite_some hF with ⟨h68, hF⟩ | ⟨h68, hF⟩
     ·
      refine WOps.on rfl rfl ?_
      obtain ⟨x69, hc70, hF⟩ := bind_some hF
      have ho71 := hO30
      rw [hc70] at ho71
      obtain ⟨p72, hv73, hO74⟩ := ho71
      subst hv73
      have S75 := S67.front 4 rfl
      change St _ _ _ [G29, [(p54, .cells #[.int .i64 x51.most, .slice A62 x51.pairs.length c63] 154 (0, 0))], G64, [(p36, .cells #[.int .i64 x33.most, .slice A44 x33.pairs.length c45] 151 (0, 0))], G46] at S75
      obtain ⟨cs76, G77, ho78, hg79⟩ := hO74
      obtain ⟨A80, c81, G82, rfl, hO83, hq84⟩ := ho78
      have S86 : St _ _ _ [[(p72, .cells #[.int .i64 x69.most, .slice A80 x69.pairs.length c81] 157 (0, 0))], G82, [(p54, .cells #[.int .i64 x51.most, .slice A62 x51.pairs.length c63] 154 (0, 0))], G64, [(p36, .cells #[.int .i64 x33.most, .slice A44 x33.pairs.length c45] 151 (0, 0))], G46] := S75.objs (by rw [hg79, hq84]; simp)
      refine WOps.p (G.eqp_nil Try.underlying82 rfl rfl rfl) rfl ?_
      refine WOps.p (G.pick_f rfl rfl) rfl ?_
      refine WOps.p (G.move rfl) rfl ?_
      refine WOps.on rfl rfl ?_
      refine WOps.p (G.move rfl) rfl ?_
      refine WOps.on rfl rfl ?_
      refine WOps.p (G.neq rfl rfl rfl) rfl ?_
      refine WOps.p (G.pick_f rfl rfl) rfl ?_
      refine WOps.p (G.move rfl) rfl ?_
      rcases ite_some hF with ⟨h87, hF⟩ | ⟨h87, hF⟩
      ·
       refine WOps.on rfl (kbl (b := !(decide (t7.2 = 0))) rfl (show (!(decide (t7.2 = 0))) = false from by rw [(decide_eq_true h87)]; rfl)) ?_
       refine WOps.p (G.move rfl) rfl ?_
       refine WOps.on rfl (kbl (b := !(decide (t7.2 = 0))) rfl (show (!(decide (t7.2 = 0))) = false from by rw [(decide_eq_true h87)]; rfl)) ?_
       refine WOps.p (G.neq rfl rfl rfl) rfl ?_
       refine WOps.p (G.pick_f (kb (b := !(decide (t7.2 = 0))) rfl (show (!(decide (t7.2 = 0))) = false from by rw [(decide_eq_true h87)]; rfl)) rfl) rfl ?_
       refine WOps.p (G.move rfl) rfl ?_
       rcases ite_some hF with ⟨h88, hF⟩ | ⟨h88, hF⟩
       ·
        refine WOps.on rfl (kbl (b := !(decide (t15.2 = 0))) rfl (show (!(decide (t15.2 = 0))) = false from by rw [(decide_eq_true h88)]; rfl)) ?_
        refine WOps.p (G.move rfl) rfl ?_
        refine WOps.on rfl (kbl (b := !(decide (t15.2 = 0))) rfl (show (!(decide (t15.2 = 0))) = false from by rw [(decide_eq_true h88)]; rfl)) ?_
        refine WOps.p (G.neq rfl rfl rfl) rfl ?_
        refine WOps.p (G.pick_f (kb (b := !(decide (t15.2 = 0))) rfl (show (!(decide (t15.2 = 0))) = false from by rw [(decide_eq_true h88)]; rfl)) rfl) rfl ?_
        refine WOps.nil ?_
        refine WEx.then_ ?_
        refine WCode.forget (l' := [(0, .int .i64 a0), (1, .string (bs a1)), (6, .pointer (some ⟨p36, 0, none⟩)), (8, .pointer (some ⟨p54, 0, none⟩)), (10, .pointer (some ⟨p72, 0, none⟩)), (67, .bool (!(decide (t23.2 = 0))))]) ⟨rfl, rfl, rfl, rfl, rfl, rfl, trivial⟩ ?_
        rcases ite_some hF with ⟨h89, hF⟩ | ⟨h89, hF⟩
        ·
         refine WCode.cond_f (kb (b := !(decide (t23.2 = 0))) rfl (show (!(decide (t23.2 = 0))) = false from by rw [(decide_eq_true h89)]; rfl)) ?_
         refine WCode.skip ?_
         refine WEx.then_ ?_
         refine WCode.seq ?_
         refine WCode.region ?_
         refine WOps.p (G.move rfl) rfl ?_
         obtain ⟨b90, w91, E92, S93, X94, L95⟩ := St.lit S86 (P := Try.prog) (t := 77) (e := 9) (n := 1) (vs := [(0, .string (bs a1))]) (cs := #[.string (bs a1)]) (by kernel_rfl)
         have hF := allB_spec hF b90
         change St _ _ _ [[(b90, .cells #[.string (bs a1)] 9 (0, 0))], [(p72, .cells #[.int .i64 x69.most, .slice A80 x69.pairs.length c81] 157 (0, 0))], G82, [(p54, .cells #[.int .i64 x51.most, .slice A62 x51.pairs.length c63] 154 (0, 0))], G64, [(p36, .cells #[.int .i64 x33.most, .slice A44 x33.pairs.length c45] 151 (0, 0))], G46] at S93
         refine WOps.e (E92 (evp_cons rfl evp_nil)) rfl ?_
         refine WOps.p (G.assign rfl) rfl ?_
         refine WOps.nil ?_
         refine WEx.then_ ?_
         refine WCode.seq ?_
         refine WCode.region ?_
         refine WOps.p (G.move rfl) rfl ?_
         refine WOps.p (G.convi (by kernel_rfl) Try.underlying5 rfl (r := ((u8of a0).toNat : Int)) (u8of_wrap _)) rfl ?_
         refine WOps.p (G.build (cells := #[.int .u8 ((u8of a0).toNat : Int), .int .u8 7]) (evp_spec (evp_cons rfl (evp_cons rfl evp_nil))) (by kernel_rfl)) rfl ?_
         refine WOps.p (G.move rfl) rfl ?_
         refine WOps.p (G.gtr rfl rfl rfl) rfl ?_
         refine WOps.p (G.build (cells := #[.int .u8 ((u8of a0).toNat : Int), .int .u8 7, .bool (decide (0 < a0))]) (evp_spec (evp_cons rfl (evp_cons rfl evp_nil))) (by kernel_rfl)) rfl ?_
         obtain ⟨b96, w97, E98, S99, X100, L101⟩ := St.var S93 (z := .agg #[.int .u8 0, .int .u8 0, .bool false]) T.zero76
         change St _ _ _ [[(b96, .cells #[.int .u8 0, .int .u8 0, .bool false] 76 (0, 0))], [(b90, .cells #[.string (bs a1)] 9 (0, 0))], [(p72, .cells #[.int .i64 x69.most, .slice A80 x69.pairs.length c81] 157 (0, 0))], G82, [(p54, .cells #[.int .i64 x51.most, .slice A62 x51.pairs.length c63] 154 (0, 0))], G64, [(p36, .cells #[.int .i64 x33.most, .slice A44 x33.pairs.length c45] 151 (0, 0))], G46] at S99
         refine WOps.e E98 rfl ?_
         obtain ⟨w102, E103, S104⟩ := St.store (P := Try.prog) S99 0 76 (.agg #[.int .u8 ((u8of a0).toNat : Int), .int .u8 7, .bool (decide (0 < a0))]) (off := 0) (cur' := #[.int .u8 ((u8of a0).toNat : Int), .int .u8 7, .bool (decide (0 < a0))]) rfl T.size76_3 rfl rfl rfl
         change St _ _ _ [[(b96, .cells #[.int .u8 ((u8of a0).toNat : Int), .int .u8 7, .bool (decide (0 < a0))] 76 (0, 0))], [(b90, .cells #[.string (bs a1)] 9 (0, 0))], [(p72, .cells #[.int .i64 x69.most, .slice A80 x69.pairs.length c81] 157 (0, 0))], G82, [(p54, .cells #[.int .i64 x51.most, .slice A62 x51.pairs.length c63] 154 (0, 0))], G64, [(p36, .cells #[.int .i64 x33.most, .slice A44 x33.pairs.length c45] 151 (0, 0))], G46] at S104
         refine WOps.u (E103 rfl rfl) ?_
         refine WOps.nil ?_
         refine WEx.then_ ?_
         refine WCode.seq ?_
         refine WCode.region ?_
         refine WOps.p (G.move rfl) rfl ?_
         refine WOps.r (G.loada T.agg76_3 rfl (cs := [.int .u8 ((u8of a0).toNat : Int), .int .u8 7, .bool (decide (0 < a0))]) (cellsAt.of_blk (S104.blk 0 rfl) rfl)) rfl ?_
         refine WOps.p (G.move rfl) rfl ?_
         have S105 := (S104.front 7 rfl).front 7 rfl
         change St _ _ _ [[(p36, .cells #[.int .i64 x33.most, .slice A44 x33.pairs.length c45] 151 (0, 0))], G46, [(b96, .cells #[.int .u8 ((u8of a0).toNat : Int), .int .u8 7, .bool (decide (0 < a0))] 76 (0, 0))], [(b90, .cells #[.string (bs a1)] 9 (0, 0))], [(p72, .cells #[.int .i64 x69.most, .slice A80 x69.pairs.length c81] 157 (0, 0))], G82, [(p54, .cells #[.int .i64 x51.most, .slice A62 x51.pairs.length c63] 154 (0, 0))], G64] at S105
         have hO106 : ObjO 151 Two____string_.rp p36 x33 ([(p36, .cells #[.int .i64 x33.most, .slice A44 x33.pairs.length c45] 151 (0, 0))] ++ (G46)) := ⟨_, _, ⟨A44, c45, G46, rfl, hO47, rfl⟩, rfl⟩
         have S107 : St _ _ _ [[(p36, .cells #[.int .i64 x33.most, .slice A44 x33.pairs.length c45] 151 (0, 0))] ++ (G46), [(b96, .cells #[.int .u8 ((u8of a0).toNat : Int), .int .u8 7, .bool (decide (0 < a0))] 76 (0, 0))], [(b90, .cells #[.string (bs a1)] 9 (0, 0))], [(p72, .cells #[.int .i64 x69.most, .slice A80 x69.pairs.length c81] 157 (0, 0))], G82, [(p54, .cells #[.int .i64 x51.most, .slice A62 x51.pairs.length c63] 154 (0, 0))], G64] := S105.objs (by simp)
         obtain ⟨t108, hc109, hF⟩ := bind_some hF
         refine WOps.call T.call44 (evs_cons rfl (evs_cons rfl (evs_cons rfl evs_nil))) rfl ?_
         refine (st_Put_calls k x33 (⟨(⟨((u8of a0).toNat : Int), 7⟩ : S74), decide (0 < a0)⟩ : Two) ((some ⟨b90, 0, none⟩, 1, 1) : Hs) hO106 hc109 (St.hpN (As := [[(p36, .cells #[.int .i64 x33.most, .slice A44 x33.pairs.length c45] 151 (0, 0))] ++ (G46)]) S107)).mono ?_
         rintro _ w110 ⟨G113, rfl, hO114, T111⟩
         have S112 := St.callN (As := [[(p36, .cells #[.int .i64 x33.most, .slice A44 x33.pairs.length c45] 151 (0, 0))] ++ (G46)]) S107 T111
         change St _ _ _ [G113, [(b96, .cells #[.int .u8 ((u8of a0).toNat : Int), .int .u8 7, .bool (decide (0 < a0))] 76 (0, 0))], [(b90, .cells #[.string (bs a1)] 9 (0, 0))], [(p72, .cells #[.int .i64 x69.most, .slice A80 x69.pairs.length c81] 157 (0, 0))], G82, [(p54, .cells #[.int .i64 x51.most, .slice A62 x51.pairs.length c63] 154 (0, 0))], G64] at S112
         refine ⟨_, rfl, ?_⟩
         obtain ⟨cs115, G116, ho117, hg118⟩ := hO114
         obtain ⟨A119, c120, G121, rfl, hO122, hq123⟩ := ho117
         have S124 : St _ _ _ [[(p36, .cells #[.int .i64 t108.2.most, .slice A119 t108.2.pairs.length c120] 151 (0, 0))], G121, [(b96, .cells #[.int .u8 ((u8of a0).toNat : Int), .int .u8 7, .bool (decide (0 < a0))] 76 (0, 0))], [(b90, .cells #[.string (bs a1)] 9 (0, 0))], [(p72, .cells #[.int .i64 x69.most, .slice A80 x69.pairs.length c81] 157 (0, 0))], G82, [(p54, .cells #[.int .i64 x51.most, .slice A62 x51.pairs.length c63] 154 (0, 0))], G64] := S112.objs (by rw [hg118, hq123]; simp)
         refine WOps.nil ?_
         refine WEx.then_ ?_
         refine WCode.forget (l' := [(0, .int .i64 a0), (1, .string (bs a1)), (6, .pointer (some ⟨p36, 0, none⟩)), (8, .pointer (some ⟨p54, 0, none⟩)), (10, .pointer (some ⟨p72, 0, none⟩)), (12, .slice (some ⟨b90, 0, none⟩) ([a1] : List (List UInt8)).length 1)]) ⟨rfl, rfl, rfl, rfl, rfl, rfl, trivial⟩ ?_
         refine WCode.seq ?_
         refine WCode.region ?_
         refine WOps.p (G.move rfl) rfl ?_
         refine WOps.p (G.build (cells := #[.int .u8 0, .int .u8 0, .bool false]) (evp_spec (evp_nil)) (by kernel_rfl)) rfl ?_
         have hO125 : ObjO 151 Two____string_.rp p36 t108.2 ([(p36, .cells #[.int .i64 t108.2.most, .slice A119 t108.2.pairs.length c120] 151 (0, 0))] ++ (G121)) := ⟨_, _, ⟨A119, c120, G121, rfl, hO122, rfl⟩, rfl⟩
         have S126 : St _ _ _ [[(p36, .cells #[.int .i64 t108.2.most, .slice A119 t108.2.pairs.length c120] 151 (0, 0))] ++ (G121), [(b96, .cells #[.int .u8 ((u8of a0).toNat : Int), .int .u8 7, .bool (decide (0 < a0))] 76 (0, 0))], [(b90, .cells #[.string (bs a1)] 9 (0, 0))], [(p72, .cells #[.int .i64 x69.most, .slice A80 x69.pairs.length c81] 157 (0, 0))], G82, [(p54, .cells #[.int .i64 x51.most, .slice A62 x51.pairs.length c63] 154 (0, 0))], G64] := S124.objs (by simp)
         obtain ⟨t127, hc128, hF⟩ := bind_some hF
         refine WOps.call T.call44 (evs_cons rfl (evs_cons rfl (evs_cons rfl evs_nil))) rfl ?_
         refine (st_Put_calls k t108.2 (⟨(⟨0, 0⟩ : S74), false⟩ : Two) ((none, 0, 0) : Hs) hO125 hc128 (St.hpN (As := [[(p36, .cells #[.int .i64 t108.2.most, .slice A119 t108.2.pairs.length c120] 151 (0, 0))] ++ (G121)]) S126)).mono ?_
         rintro _ w129 ⟨G132, rfl, hO133, T130⟩
         have S131 := St.callN (As := [[(p36, .cells #[.int .i64 t108.2.most, .slice A119 t108.2.pairs.length c120] 151 (0, 0))] ++ (G121)]) S126 T130
         change St _ _ _ [G132, [(b96, .cells #[.int .u8 ((u8of a0).toNat : Int), .int .u8 7, .bool (decide (0 < a0))] 76 (0, 0))], [(b90, .cells #[.string (bs a1)] 9 (0, 0))], [(p72, .cells #[.int .i64 x69.most, .slice A80 x69.pairs.length c81] 157 (0, 0))], G82, [(p54, .cells #[.int .i64 x51.most, .slice A62 x51.pairs.length c63] 154 (0, 0))], G64] at S131
         refine ⟨_, rfl, ?_⟩
         obtain ⟨cs134, G135, ho136, hg137⟩ := hO133
         obtain ⟨A138, c139, G140, rfl, hO141, hq142⟩ := ho136
         have S143 : St _ _ _ [[(p36, .cells #[.int .i64 t127.2.most, .slice A138 t127.2.pairs.length c139] 151 (0, 0))], G140, [(b96, .cells #[.int .u8 ((u8of a0).toNat : Int), .int .u8 7, .bool (decide (0 < a0))] 76 (0, 0))], [(b90, .cells #[.string (bs a1)] 9 (0, 0))], [(p72, .cells #[.int .i64 x69.most, .slice A80 x69.pairs.length c81] 157 (0, 0))], G82, [(p54, .cells #[.int .i64 x51.most, .slice A62 x51.pairs.length c63] 154 (0, 0))], G64] := S131.objs (by rw [hg137, hq142]; simp)
         refine WOps.nil ?_
         refine WEx.then_ ?_
         refine WCode.seq ?_
         refine WCode.region ?_
         refine WOps.p (G.move rfl) rfl ?_
         refine WOps.p (G.idx (o := 0) (j := 0) T.el77 rfl rfl rfl rfl (Nat.le_of_ble_eq_true rfl) : GP _ _ _ _ (.pointer (some ⟨b90, 0, none⟩))) rfl ?_
         obtain ⟨w144, E145, S146⟩ := St.store (P := Try.prog) S143 3 9 (.string (bs ([97, 110, 111, 116, 104, 101, 114, 32, 111, 110, 101] : List UInt8))) (off := 0) (cur' := #[.string (bs ([97, 110, 111, 116, 104, 101, 114, 32, 111, 110, 101] : List UInt8))]) rfl T.size9_1 rfl rfl rfl
         change St _ _ _ [[(p36, .cells #[.int .i64 t127.2.most, .slice A138 t127.2.pairs.length c139] 151 (0, 0))], G140, [(b96, .cells #[.int .u8 ((u8of a0).toNat : Int), .int .u8 7, .bool (decide (0 < a0))] 76 (0, 0))], [(b90, .cells #[.string (bs ([97, 110, 111, 116, 104, 101, 114, 32, 111, 110, 101] : List UInt8))] 9 (0, 0))], [(p72, .cells #[.int .i64 x69.most, .slice A80 x69.pairs.length c81] 157 (0, 0))], G82, [(p54, .cells #[.int .i64 x51.most, .slice A62 x51.pairs.length c63] 154 (0, 0))], G64] at S146
         refine WOps.u (E145 rfl rfl) ?_
         refine WOps.nil ?_
         refine WEx.then_ ?_
         refine WCode.seq ?_
         refine WCode.region ?_
         refine WOps.p (G.move rfl) rfl ?_
         refine WOps.p (G.move rfl) rfl ?_
         refine WOps.p (G.convi (by kernel_rfl) Try.underlying5 rfl (r := ((u8of a0).toNat : Int)) (u8of_wrap _)) rfl ?_
         refine WOps.p (G.build (cells := #[.int .u8 ((u8of a0).toNat : Int), .int .u8 7]) (evp_spec (evp_cons rfl (evp_cons rfl evp_nil))) (by kernel_rfl)) rfl ?_
         refine WOps.p (G.move rfl) rfl ?_
         refine WOps.p (G.gtr rfl rfl rfl) rfl ?_
         refine WOps.p (G.build (cells := #[.int .u8 ((u8of a0).toNat : Int), .int .u8 7, .bool (decide (0 < a0))]) (evp_spec (evp_cons rfl (evp_cons rfl evp_nil))) (by kernel_rfl)) rfl ?_
         obtain ⟨t147, hc148, hF⟩ := bind_some hF
         have hP149 : PtR 151 Two____string_.rp w144 (KS [[(p36, .cells #[.int .i64 t127.2.most, .slice A138 t127.2.pairs.length c139] 151 (0, 0))], G140]) p36 t127.2 := ⟨_, S146.blk 0 rfl, KS_at 0 rfl (by simp [keys]), ⟨A138, c139, rfl, ((hO141.rd (fun b o hb => S146.grp 1 rfl hb)).mono (fun b hb => KS_at 1 rfl hb))⟩⟩
         refine WOps.call T.call45 (evs_cons rfl (evs_cons rfl evs_nil)) rfl ?_
         refine (st_Get_calls k t127.2 (⟨(⟨((u8of a0).toNat : Int), 7⟩ : S74), decide (0 < a0)⟩ : Two) hP149 (St.outN (Bs := []) (As := [[(p36, .cells #[.int .i64 t127.2.most, .slice A138 t127.2.pairs.length c139] 151 (0, 0))], G140]) S146) hc148).mono ?_
         rintro _ w150 ⟨rfl, T151⟩
         have S152 := St.callN (As := []) S146 T151
         change St _ _ _ [[(p36, .cells #[.int .i64 t127.2.most, .slice A138 t127.2.pairs.length c139] 151 (0, 0))], G140, [(b96, .cells #[.int .u8 ((u8of a0).toNat : Int), .int .u8 7, .bool (decide (0 < a0))] 76 (0, 0))], [(b90, .cells #[.string (bs ([97, 110, 111, 116, 104, 101, 114, 32, 111, 110, 101] : List UInt8))] 9 (0, 0))], [(p72, .cells #[.int .i64 x69.most, .slice A80 x69.pairs.length c81] 157 (0, 0))], G82, [(p54, .cells #[.int .i64 x51.most, .slice A62 x51.pairs.length c63] 154 (0, 0))], G64] at S152
         refine ⟨_, rfl, ?_⟩
         refine WOps.p (G.move rfl) rfl ?_
         refine WOps.p (G.extract rfl rfl) rfl ?_
         refine WOps.p (G.extract rfl rfl) rfl ?_
         refine WOps.p (G.assign rfl) rfl ?_
         refine WOps.p (G.assign rfl) rfl ?_
         refine WOps.nil ?_
         refine WEx.then_ ?_
         refine WCode.forget (l' := [(0, .int .i64 a0), (1, .string (bs a1)), (6, .pointer (some ⟨p36, 0, none⟩)), (8, .pointer (some ⟨p54, 0, none⟩)), (10, .pointer (some ⟨p72, 0, none⟩)), (14, .slice t147.1.1 t147.1.2.1 t147.1.2.2), (15, .bool t147.2)]) ⟨rfl, rfl, rfl, rfl, rfl, rfl, rfl, trivial⟩ ?_
         refine WCode.seq ?_
         refine WCode.region ?_
         refine WOps.p (G.move rfl) rfl ?_
         refine WOps.p (G.build (cells := #[.int .u8 0, .int .u8 0, .bool false]) (evp_spec (evp_nil)) (by kernel_rfl)) rfl ?_
         obtain ⟨t153, hc154, hF⟩ := bind_some hF
         have hP155 : PtR 151 Two____string_.rp w150 (KS [[(p36, .cells #[.int .i64 t127.2.most, .slice A138 t127.2.pairs.length c139] 151 (0, 0))], G140]) p36 t127.2 := ⟨_, S152.blk 0 rfl, KS_at 0 rfl (by simp [keys]), ⟨A138, c139, rfl, ((hO141.rd (fun b o hb => S152.grp 1 rfl hb)).mono (fun b hb => KS_at 1 rfl hb))⟩⟩
         refine WOps.call T.call45 (evs_cons rfl (evs_cons rfl evs_nil)) rfl ?_
         refine (st_Get_calls k t127.2 (⟨(⟨0, 0⟩ : S74), false⟩ : Two) hP155 (St.outN (Bs := []) (As := [[(p36, .cells #[.int .i64 t127.2.most, .slice A138 t127.2.pairs.length c139] 151 (0, 0))], G140]) S152) hc154).mono ?_
         rintro _ w156 ⟨rfl, T157⟩
         have S158 := St.callN (As := []) S152 T157
         change St _ _ _ [[(p36, .cells #[.int .i64 t127.2.most, .slice A138 t127.2.pairs.length c139] 151 (0, 0))], G140, [(b96, .cells #[.int .u8 ((u8of a0).toNat : Int), .int .u8 7, .bool (decide (0 < a0))] 76 (0, 0))], [(b90, .cells #[.string (bs ([97, 110, 111, 116, 104, 101, 114, 32, 111, 110, 101] : List UInt8))] 9 (0, 0))], [(p72, .cells #[.int .i64 x69.most, .slice A80 x69.pairs.length c81] 157 (0, 0))], G82, [(p54, .cells #[.int .i64 x51.most, .slice A62 x51.pairs.length c63] 154 (0, 0))], G64] at S158
         refine ⟨_, rfl, ?_⟩
         refine WOps.p (G.move rfl) rfl ?_
         refine WOps.p (G.extract rfl rfl) rfl ?_
         refine WOps.p (G.extract rfl rfl) rfl ?_
         refine WOps.p (G.assign rfl) rfl ?_
         refine WOps.p (G.assign rfl) rfl ?_
         refine WOps.nil ?_
         refine WEx.then_ ?_
         refine WCode.seq ?_
         refine WCode.region ?_
         refine WOps.p (G.move rfl) rfl ?_
         obtain ⟨b159, w160, E161, S162, X163, L164⟩ := St.var S158 (z := .int .i64 0) T.zero3
         have hF := allB_spec hF b159
         change St _ _ _ [[(b159, .cells #[.int .i64 0] 3 (0, 0))], [(p36, .cells #[.int .i64 t127.2.most, .slice A138 t127.2.pairs.length c139] 151 (0, 0))], G140, [(b96, .cells #[.int .u8 ((u8of a0).toNat : Int), .int .u8 7, .bool (decide (0 < a0))] 76 (0, 0))], [(b90, .cells #[.string (bs ([97, 110, 111, 116, 104, 101, 114, 32, 111, 110, 101] : List UInt8))] 9 (0, 0))], [(p72, .cells #[.int .i64 x69.most, .slice A80 x69.pairs.length c81] 157 (0, 0))], G82, [(p54, .cells #[.int .i64 x51.most, .slice A62 x51.pairs.length c63] 154 (0, 0))], G64] at S162
         refine WOps.e E161 rfl ?_
         obtain ⟨w165, E166, S167⟩ := St.store (P := Try.prog) S162 0 3 (.int .i64 a0) (off := 0) (cur' := #[.int .i64 a0]) rfl T.size3_1 rfl rfl rfl
         change St _ _ _ [[(b159, .cells #[.int .i64 a0] 3 (0, 0))], [(p36, .cells #[.int .i64 t127.2.most, .slice A138 t127.2.pairs.length c139] 151 (0, 0))], G140, [(b96, .cells #[.int .u8 ((u8of a0).toNat : Int), .int .u8 7, .bool (decide (0 < a0))] 76 (0, 0))], [(b90, .cells #[.string (bs ([97, 110, 111, 116, 104, 101, 114, 32, 111, 110, 101] : List UInt8))] 9 (0, 0))], [(p72, .cells #[.int .i64 x69.most, .slice A80 x69.pairs.length c81] 157 (0, 0))], G82, [(p54, .cells #[.int .i64 x51.most, .slice A62 x51.pairs.length c63] 154 (0, 0))], G64] at S167
         refine WOps.u (E166 rfl rfl) ?_
         refine WOps.nil ?_
         refine WEx.then_ ?_
         refine WCode.seq ?_
         refine WCode.region ?_
         refine WOps.p (G.move rfl) rfl ?_
         refine WOps.p (G.move rfl) rfl ?_
         have S168 := (S167.front 8 rfl).front 8 rfl
         change St _ _ _ [[(p54, .cells #[.int .i64 x51.most, .slice A62 x51.pairs.length c63] 154 (0, 0))], G64, [(b159, .cells #[.int .i64 a0] 3 (0, 0))], [(p36, .cells #[.int .i64 t127.2.most, .slice A138 t127.2.pairs.length c139] 151 (0, 0))], G140, [(b96, .cells #[.int .u8 ((u8of a0).toNat : Int), .int .u8 7, .bool (decide (0 < a0))] 76 (0, 0))], [(b90, .cells #[.string (bs ([97, 110, 111, 116, 104, 101, 114, 32, 111, 110, 101] : List UInt8))] 9 (0, 0))], [(p72, .cells #[.int .i64 x69.most, .slice A80 x69.pairs.length c81] 157 (0, 0))], G82] at S168
         have hO169 : ObjO 154 Shelf_string___int_.rp p54 x51 ([(p54, .cells #[.int .i64 x51.most, .slice A62 x51.pairs.length c63] 154 (0, 0))] ++ (G64)) := ⟨_, _, ⟨A62, c63, G64, rfl, hO65, rfl⟩, rfl⟩
         have S170 : St _ _ _ [[(p54, .cells #[.int .i64 x51.most, .slice A62 x51.pairs.length c63] 154 (0, 0))] ++ (G64), [(b159, .cells #[.int .i64 a0] 3 (0, 0))], [(p36, .cells #[.int .i64 t127.2.most, .slice A138 t127.2.pairs.length c139] 151 (0, 0))], G140, [(b96, .cells #[.int .u8 ((u8of a0).toNat : Int), .int .u8 7, .bool (decide (0 < a0))] 76 (0, 0))], [(b90, .cells #[.string (bs ([97, 110, 111, 116, 104, 101, 114, 32, 111, 110, 101] : List UInt8))] 9 (0, 0))], [(p72, .cells #[.int .i64 x69.most, .slice A80 x69.pairs.length c81] 157 (0, 0))], G82] := S168.objs (by simp)
         obtain ⟨t171, hc172, hF⟩ := bind_some hF
         refine WOps.call T.call46 (evs_cons rfl (evs_cons rfl (evs_cons rfl evs_nil))) rfl ?_
         refine (sp_Put_calls k x51 a1 (some (⟨b159, 0, none⟩ : Addr)) hO169 hc172 (St.hpN (As := [[(p54, .cells #[.int .i64 x51.most, .slice A62 x51.pairs.length c63] 154 (0, 0))] ++ (G64)]) S170)).mono ?_
         rintro _ w173 ⟨G176, rfl, hO177, T174⟩
         have S175 := St.callN (As := [[(p54, .cells #[.int .i64 x51.most, .slice A62 x51.pairs.length c63] 154 (0, 0))] ++ (G64)]) S170 T174
         change St _ _ _ [G176, [(b159, .cells #[.int .i64 a0] 3 (0, 0))], [(p36, .cells #[.int .i64 t127.2.most, .slice A138 t127.2.pairs.length c139] 151 (0, 0))], G140, [(b96, .cells #[.int .u8 ((u8of a0).toNat : Int), .int .u8 7, .bool (decide (0 < a0))] 76 (0, 0))], [(b90, .cells #[.string (bs ([97, 110, 111, 116, 104, 101, 114, 32, 111, 110, 101] : List UInt8))] 9 (0, 0))], [(p72, .cells #[.int .i64 x69.most, .slice A80 x69.pairs.length c81] 157 (0, 0))], G82] at S175
         refine ⟨_, rfl, ?_⟩
         obtain ⟨cs178, G179, ho180, hg181⟩ := hO177
         obtain ⟨A182, c183, G184, rfl, hO185, hq186⟩ := ho180
         have S187 : St _ _ _ [[(p54, .cells #[.int .i64 t171.2.most, .slice A182 t171.2.pairs.length c183] 154 (0, 0))], G184, [(b159, .cells #[.int .i64 a0] 3 (0, 0))], [(p36, .cells #[.int .i64 t127.2.most, .slice A138 t127.2.pairs.length c139] 151 (0, 0))], G140, [(b96, .cells #[.int .u8 ((u8of a0).toNat : Int), .int .u8 7, .bool (decide (0 < a0))] 76 (0, 0))], [(b90, .cells #[.string (bs ([97, 110, 111, 116, 104, 101, 114, 32, 111, 110, 101] : List UInt8))] 9 (0, 0))], [(p72, .cells #[.int .i64 x69.most, .slice A80 x69.pairs.length c81] 157 (0, 0))], G82] := S175.objs (by rw [hg181, hq186]; simp)
         refine WOps.nil ?_
         refine WEx.then_ ?_
         refine WCode.forget (l' := [(0, .int .i64 a0), (1, .string (bs a1)), (6, .pointer (some ⟨p36, 0, none⟩)), (8, .pointer (some ⟨p54, 0, none⟩)), (10, .pointer (some ⟨p72, 0, none⟩)), (14, .slice t147.1.1 t147.1.2.1 t147.1.2.2), (15, .bool t147.2), (16, .slice t153.1.1 t153.1.2.1 t153.1.2.2), (17, .bool t153.2), (18, .pointer (some ⟨b159, 0, none⟩))]) ⟨rfl, rfl, rfl, rfl, rfl, rfl, rfl, rfl, rfl, rfl, trivial⟩ ?_
         refine WCode.seq ?_
         refine WCode.region ?_
         refine WOps.p (G.move rfl) rfl ?_
         refine WOps.p (G.move rfl) rfl ?_
         obtain ⟨t188, hc189, hF⟩ := bind_some hF
         have hP190 : PtR 154 Shelf_string___int_.rp w173 (KS [[(p54, .cells #[.int .i64 t171.2.most, .slice A182 t171.2.pairs.length c183] 154 (0, 0))], G184]) p54 t171.2 := ⟨_, S187.blk 0 rfl, KS_at 0 rfl (by simp [keys]), ⟨A182, c183, rfl, ((hO185.rd (fun b o hb => S187.grp 1 rfl hb)).mono (fun b hb => KS_at 1 rfl hb))⟩⟩
         refine WOps.call T.call47 (evs_cons rfl (evs_cons rfl evs_nil)) rfl ?_
         refine (sp_Get_calls k t171.2 a1 hP190 (St.outN (Bs := []) (As := [[(p54, .cells #[.int .i64 t171.2.most, .slice A182 t171.2.pairs.length c183] 154 (0, 0))], G184]) S187) hc189).mono ?_
         rintro _ w191 ⟨rfl, T192⟩
         have S193 := St.callN (As := []) S187 T192
         change St _ _ _ [[(p54, .cells #[.int .i64 t171.2.most, .slice A182 t171.2.pairs.length c183] 154 (0, 0))], G184, [(b159, .cells #[.int .i64 a0] 3 (0, 0))], [(p36, .cells #[.int .i64 t127.2.most, .slice A138 t127.2.pairs.length c139] 151 (0, 0))], G140, [(b96, .cells #[.int .u8 ((u8of a0).toNat : Int), .int .u8 7, .bool (decide (0 < a0))] 76 (0, 0))], [(b90, .cells #[.string (bs ([97, 110, 111, 116, 104, 101, 114, 32, 111, 110, 101] : List UInt8))] 9 (0, 0))], [(p72, .cells #[.int .i64 x69.most, .slice A80 x69.pairs.length c81] 157 (0, 0))], G82] at S193
         refine ⟨_, rfl, ?_⟩
         refine WOps.p (G.move rfl) rfl ?_
         refine WOps.p (G.extract rfl rfl) rfl ?_
         refine WOps.p (G.extract rfl rfl) rfl ?_
         refine WOps.p (G.assign rfl) rfl ?_
         refine WOps.p (G.assign rfl) rfl ?_
         refine WOps.nil ?_
         refine WEx.then_ ?_
         refine WCode.seq ?_
         refine WCode.region ?_
         refine WOps.r (G.load1 T.one3 rfl (cell_blk (S193.blk 2 rfl) rfl)) rfl ?_
         refine WOps.p (G.add rfl rfl (r := (w64 (a0 + 1))) rfl) rfl ?_
         obtain ⟨w194, E195, S196⟩ := St.store (P := Try.prog) S193 2 3 (.int .i64 (w64 (a0 + 1))) (off := 0) (cur' := #[.int .i64 (w64 (a0 + 1))]) rfl T.size3_1 rfl rfl rfl
         change St _ _ _ [[(p54, .cells #[.int .i64 t171.2.most, .slice A182 t171.2.pairs.length c183] 154 (0, 0))], G184, [(b159, .cells #[.int .i64 (w64 (a0 + 1))] 3 (0, 0))], [(p36, .cells #[.int .i64 t127.2.most, .slice A138 t127.2.pairs.length c139] 151 (0, 0))], G140, [(b96, .cells #[.int .u8 ((u8of a0).toNat : Int), .int .u8 7, .bool (decide (0 < a0))] 76 (0, 0))], [(b90, .cells #[.string (bs ([97, 110, 111, 116, 104, 101, 114, 32, 111, 110, 101] : List UInt8))] 9 (0, 0))], [(p72, .cells #[.int .i64 x69.most, .slice A80 x69.pairs.length c81] 157 (0, 0))], G82] at S196
         refine WOps.u (E195 rfl rfl) ?_
         refine WOps.nil ?_
         refine WEx.then_ ?_
         refine WCode.seq ?_
         refine WCode.region ?_
         refine WOps.p (G.move rfl) rfl ?_
         refine WOps.p (G.move rfl) rfl ?_
         obtain ⟨m197, hc198, hF⟩ := bind_some hF
         refine WOps.p (G.catb rfl rfl hc198) rfl ?_
         obtain ⟨t199, hc200, hF⟩ := bind_some hF
         have hP201 : PtR 154 Shelf_string___int_.rp w194 (KS [[(p54, .cells #[.int .i64 t171.2.most, .slice A182 t171.2.pairs.length c183] 154 (0, 0))], G184]) p54 t171.2 := ⟨_, S196.blk 0 rfl, KS_at 0 rfl (by simp [keys]), ⟨A182, c183, rfl, ((hO185.rd (fun b o hb => S196.grp 1 rfl hb)).mono (fun b hb => KS_at 1 rfl hb))⟩⟩
         refine WOps.call T.call47 (evs_cons rfl (evs_cons rfl evs_nil)) rfl ?_
         refine (sp_Get_calls k t171.2 m197 hP201 (St.outN (Bs := []) (As := [[(p54, .cells #[.int .i64 t171.2.most, .slice A182 t171.2.pairs.length c183] 154 (0, 0))], G184]) S196) hc200).mono ?_
         rintro _ w202 ⟨rfl, T203⟩
         have S204 := St.callN (As := []) S196 T203
         change St _ _ _ [[(p54, .cells #[.int .i64 t171.2.most, .slice A182 t171.2.pairs.length c183] 154 (0, 0))], G184, [(b159, .cells #[.int .i64 (w64 (a0 + 1))] 3 (0, 0))], [(p36, .cells #[.int .i64 t127.2.most, .slice A138 t127.2.pairs.length c139] 151 (0, 0))], G140, [(b96, .cells #[.int .u8 ((u8of a0).toNat : Int), .int .u8 7, .bool (decide (0 < a0))] 76 (0, 0))], [(b90, .cells #[.string (bs ([97, 110, 111, 116, 104, 101, 114, 32, 111, 110, 101] : List UInt8))] 9 (0, 0))], [(p72, .cells #[.int .i64 x69.most, .slice A80 x69.pairs.length c81] 157 (0, 0))], G82] at S204
         refine ⟨_, rfl, ?_⟩
         refine WOps.p (G.move rfl) rfl ?_
         refine WOps.p (G.extract rfl rfl) rfl ?_
         refine WOps.p (G.extract rfl rfl) rfl ?_
         refine WOps.p (G.assign rfl) rfl ?_
         refine WOps.p (G.assign rfl) rfl ?_
         refine WOps.nil ?_
         refine WEx.then_ ?_
         refine WCode.forget (l' := [(0, .int .i64 a0), (6, .pointer (some ⟨p36, 0, none⟩)), (10, .pointer (some ⟨p72, 0, none⟩)), (14, .slice t147.1.1 t147.1.2.1 t147.1.2.2), (15, .bool t147.2), (16, .slice t153.1.1 t153.1.2.1 t153.1.2.2), (17, .bool t153.2), (18, .pointer (some ⟨b159, 0, none⟩)), (19, .pointer t188.1), (20, .bool t188.2), (21, .pointer t199.1), (22, .bool t199.2)]) ⟨rfl, rfl, rfl, rfl, rfl, rfl, rfl, rfl, rfl, rfl, rfl, rfl, trivial⟩ ?_
         refine WCode.seq ?_
         refine WCode.region ?_
         refine WOps.p (G.move rfl) rfl ?_
         refine WOps.p (G.build (cells := #[]) (evp_spec (evp_nil)) (by kernel_rfl)) rfl ?_
         have S205 := (S204.front 8 rfl).front 8 rfl
         change St _ _ _ [[(p72, .cells #[.int .i64 x69.most, .slice A80 x69.pairs.length c81] 157 (0, 0))], G82, [(p54, .cells #[.int .i64 t171.2.most, .slice A182 t171.2.pairs.length c183] 154 (0, 0))], G184, [(b159, .cells #[.int .i64 (w64 (a0 + 1))] 3 (0, 0))], [(p36, .cells #[.int .i64 t127.2.most, .slice A138 t127.2.pairs.length c139] 151 (0, 0))], G140, [(b96, .cells #[.int .u8 ((u8of a0).toNat : Int), .int .u8 7, .bool (decide (0 < a0))] 76 (0, 0))], [(b90, .cells #[.string (bs ([97, 110, 111, 116, 104, 101, 114, 32, 111, 110, 101] : List UInt8))] 9 (0, 0))]] at S205
         have hO206 : ObjO 157 Shelf_bool__struct___.rp p72 x69 ([(p72, .cells #[.int .i64 x69.most, .slice A80 x69.pairs.length c81] 157 (0, 0))] ++ (G82)) := ⟨_, _, ⟨A80, c81, G82, rfl, hO83, rfl⟩, rfl⟩
         have S207 : St _ _ _ [[(p72, .cells #[.int .i64 x69.most, .slice A80 x69.pairs.length c81] 157 (0, 0))] ++ (G82), [(p54, .cells #[.int .i64 t171.2.most, .slice A182 t171.2.pairs.length c183] 154 (0, 0))], G184, [(b159, .cells #[.int .i64 (w64 (a0 + 1))] 3 (0, 0))], [(p36, .cells #[.int .i64 t127.2.most, .slice A138 t127.2.pairs.length c139] 151 (0, 0))], G140, [(b96, .cells #[.int .u8 ((u8of a0).toNat : Int), .int .u8 7, .bool (decide (0 < a0))] 76 (0, 0))], [(b90, .cells #[.string (bs ([97, 110, 111, 116, 104, 101, 114, 32, 111, 110, 101] : List UInt8))] 9 (0, 0))]] := S205.objs (by simp)
         obtain ⟨t208, hc209, hF⟩ := bind_some hF
         refine WOps.call T.call48 (evs_cons rfl (evs_cons rfl (evs_cons rfl evs_nil))) rfl ?_
         refine (se_Put_calls k x69 true (⟨⟩ : S85) hO206 hc209 (St.hpN (As := [[(p72, .cells #[.int .i64 x69.most, .slice A80 x69.pairs.length c81] 157 (0, 0))] ++ (G82)]) S207)).mono ?_
         rintro _ w210 ⟨G213, rfl, hO214, T211⟩
         have S212 := St.callN (As := [[(p72, .cells #[.int .i64 x69.most, .slice A80 x69.pairs.length c81] 157 (0, 0))] ++ (G82)]) S207 T211
         change St _ _ _ [G213, [(p54, .cells #[.int .i64 t171.2.most, .slice A182 t171.2.pairs.length c183] 154 (0, 0))], G184, [(b159, .cells #[.int .i64 (w64 (a0 + 1))] 3 (0, 0))], [(p36, .cells #[.int .i64 t127.2.most, .slice A138 t127.2.pairs.length c139] 151 (0, 0))], G140, [(b96, .cells #[.int .u8 ((u8of a0).toNat : Int), .int .u8 7, .bool (decide (0 < a0))] 76 (0, 0))], [(b90, .cells #[.string (bs ([97, 110, 111, 116, 104, 101, 114, 32, 111, 110, 101] : List UInt8))] 9 (0, 0))]] at S212
         refine ⟨_, rfl, ?_⟩
         obtain ⟨cs215, G216, ho217, hg218⟩ := hO214
         obtain ⟨A219, c220, G221, rfl, hO222, hq223⟩ := ho217
         have S224 : St _ _ _ [[(p72, .cells #[.int .i64 t208.2.most, .slice A219 t208.2.pairs.length c220] 157 (0, 0))], G221, [(p54, .cells #[.int .i64 t171.2.most, .slice A182 t171.2.pairs.length c183] 154 (0, 0))], G184, [(b159, .cells #[.int .i64 (w64 (a0 + 1))] 3 (0, 0))], [(p36, .cells #[.int .i64 t127.2.most, .slice A138 t127.2.pairs.length c139] 151 (0, 0))], G140, [(b96, .cells #[.int .u8 ((u8of a0).toNat : Int), .int .u8 7, .bool (decide (0 < a0))] 76 (0, 0))], [(b90, .cells #[.string (bs ([97, 110, 111, 116, 104, 101, 114, 32, 111, 110, 101] : List UInt8))] 9 (0, 0))]] := S212.objs (by rw [hg218, hq223]; simp)
         refine WOps.p (G.assign rfl) rfl ?_
         refine WOps.nil ?_
         refine WEx.then_ ?_
         refine WCode.seq ?_
         refine WCode.region ?_
         refine WOps.p (G.move rfl) rfl ?_
         obtain ⟨t225, hc226, hF⟩ := bind_some hF
         have hP227 : PtR 157 Shelf_bool__struct___.rp w210 (KS [[(p72, .cells #[.int .i64 t208.2.most, .slice A219 t208.2.pairs.length c220] 157 (0, 0))], G221]) p72 t208.2 := ⟨_, S224.blk 0 rfl, KS_at 0 rfl (by simp [keys]), ⟨A219, c220, rfl, ((hO222.rd (fun b o hb => S224.grp 1 rfl hb)).mono (fun b hb => KS_at 1 rfl hb))⟩⟩
         refine WOps.call T.call49 (evs_cons rfl (evs_cons rfl evs_nil)) rfl ?_
         refine (se_Get_calls k t208.2 true hP227 (St.outN (Bs := []) (As := [[(p72, .cells #[.int .i64 t208.2.most, .slice A219 t208.2.pairs.length c220] 157 (0, 0))], G221]) S224) hc226).mono ?_
         rintro _ w228 ⟨rfl, T229⟩
         have S230 := St.callN (As := []) S224 T229
         change St _ _ _ [[(p72, .cells #[.int .i64 t208.2.most, .slice A219 t208.2.pairs.length c220] 157 (0, 0))], G221, [(p54, .cells #[.int .i64 t171.2.most, .slice A182 t171.2.pairs.length c183] 154 (0, 0))], G184, [(b159, .cells #[.int .i64 (w64 (a0 + 1))] 3 (0, 0))], [(p36, .cells #[.int .i64 t127.2.most, .slice A138 t127.2.pairs.length c139] 151 (0, 0))], G140, [(b96, .cells #[.int .u8 ((u8of a0).toNat : Int), .int .u8 7, .bool (decide (0 < a0))] 76 (0, 0))], [(b90, .cells #[.string (bs ([97, 110, 111, 116, 104, 101, 114, 32, 111, 110, 101] : List UInt8))] 9 (0, 0))]] at S230
         refine ⟨_, rfl, ?_⟩
         refine WOps.p (G.move rfl) rfl ?_
         refine WOps.p (G.extract rfl rfl) rfl ?_
         refine WOps.p (G.extract rfl rfl) rfl ?_
         obtain ⟨b231, w232, E233, S234, X235, L236⟩ := St.var S230 (z := .agg #[]) T.zero85
         change St _ _ _ [[(b231, .cells #[] 85 (0, 0))], [(p72, .cells #[.int .i64 t208.2.most, .slice A219 t208.2.pairs.length c220] 157 (0, 0))], G221, [(p54, .cells #[.int .i64 t171.2.most, .slice A182 t171.2.pairs.length c183] 154 (0, 0))], G184, [(b159, .cells #[.int .i64 (w64 (a0 + 1))] 3 (0, 0))], [(p36, .cells #[.int .i64 t127.2.most, .slice A138 t127.2.pairs.length c139] 151 (0, 0))], G140, [(b96, .cells #[.int .u8 ((u8of a0).toNat : Int), .int .u8 7, .bool (decide (0 < a0))] 76 (0, 0))], [(b90, .cells #[.string (bs ([97, 110, 111, 116, 104, 101, 114, 32, 111, 110, 101] : List UInt8))] 9 (0, 0))]] at S234
         refine WOps.e E233 rfl ?_
         obtain ⟨w237, E238, S239⟩ := St.store (P := Try.prog) S234 0 85 (.agg #[]) (off := 0) (cur' := #[]) rfl T.size85_0 rfl rfl rfl
         change St _ _ _ [[(b231, .cells #[] 85 (0, 0))], [(p72, .cells #[.int .i64 t208.2.most, .slice A219 t208.2.pairs.length c220] 157 (0, 0))], G221, [(p54, .cells #[.int .i64 t171.2.most, .slice A182 t171.2.pairs.length c183] 154 (0, 0))], G184, [(b159, .cells #[.int .i64 (w64 (a0 + 1))] 3 (0, 0))], [(p36, .cells #[.int .i64 t127.2.most, .slice A138 t127.2.pairs.length c139] 151 (0, 0))], G140, [(b96, .cells #[.int .u8 ((u8of a0).toNat : Int), .int .u8 7, .bool (decide (0 < a0))] 76 (0, 0))], [(b90, .cells #[.string (bs ([97, 110, 111, 116, 104, 101, 114, 32, 111, 110, 101] : List UInt8))] 9 (0, 0))]] at S239
         refine WOps.u (E238 rfl rfl) ?_
         refine WOps.p (G.assign rfl) rfl ?_
         refine WOps.nil ?_
         refine WEx.then_ ?_
         refine WCode.forget (l' := [(0, .int .i64 a0), (6, .pointer (some ⟨p36, 0, none⟩)), (14, .slice t147.1.1 t147.1.2.1 t147.1.2.2), (15, .bool t147.2), (16, .slice t153.1.1 t153.1.2.1 t153.1.2.2), (17, .bool t153.2), (18, .pointer (some ⟨b159, 0, none⟩)), (19, .pointer t188.1), (20, .bool t188.2), (21, .pointer t199.1), (22, .bool t199.2), (23, .int .i64 t208.1), (25, .bool t225.2)]) ⟨rfl, rfl, rfl, rfl, rfl, rfl, rfl, rfl, rfl, rfl, rfl, rfl, rfl, trivial⟩ ?_
         refine WCode.seq ?_
         refine WCode.region ?_
         refine WOps.p (G.move rfl) rfl ?_
         refine WOps.p (G.move rfl) rfl ?_
         rcases ite_some hF with ⟨h240, hF⟩ | ⟨h240, hF⟩
         ·
          refine WOps.on rfl (kbl (b := t147.2) rfl h240) ?_
          refine WOps.p (G.move rfl) rfl ?_
          refine WOps.on rfl (kbl (b := t147.2) rfl h240) ?_
          refine WOps.p (G.len T.el77 rfl) rfl ?_
          refine WOps.on rfl (kbl (b := t147.2) rfl h240) ?_
          refine WOps.p (G.eql rfl rfl rfl) rfl ?_
          refine WOps.p (G.pick_t (kb (b := t147.2) rfl h240) rfl) rfl ?_
          refine WOps.p (G.move rfl) rfl ?_
          rcases ite_some hF with ⟨h241, hF⟩ | ⟨h241, hF⟩
          ·
           refine WOps.on rfl (kbl (b := decide ((t147.1.2.1 : Int) = 1)) rfl (decide_eq_true h241)) ?_
           refine WOps.p (G.move rfl) rfl ?_
           refine WOps.on rfl (kbl (b := decide ((t147.1.2.1 : Int) = 1)) rfl (decide_eq_true h241)) ?_
           obtain ⟨h242, hF⟩ := guard_some hF
           refine WOps.p (G.idx (o := 0) (j := 0) T.el77 (hs_ev h242 rfl) rfl rfl rfl (Nat.le_of_ble_eq_true rfl) : GP _ _ _ _ (.pointer (some ⟨b90, 0, none⟩))) rfl ?_
           refine WOps.on rfl (kbl (b := decide ((t147.1.2.1 : Int) = 1)) rfl (decide_eq_true h241)) ?_
           refine WOps.r (G.load1 T.one9 rfl (cell_blk (S239.blk 9 rfl) rfl)) rfl ?_
           refine WOps.on rfl (kbl (b := decide ((t147.1.2.1 : Int) = 1)) rfl (decide_eq_true h241)) ?_
           refine WOps.p (G.eqlb' rfl rfl rfl) rfl ?_
           refine WOps.p (G.pick_t (kb (b := decide ((t147.1.2.1 : Int) = 1)) rfl (decide_eq_true h241)) rfl) rfl ?_
           refine WOps.p (G.move rfl) rfl ?_
           rcases ite_some hF with ⟨h243, hF⟩ | ⟨h243, hF⟩
           ·
            refine WOps.on rfl (kbl (b := decide (([97, 110, 111, 116, 104, 101, 114, 32, 111, 110, 101] : List UInt8) = ([97, 110, 111, 116, 104, 101, 114, 32, 111, 110, 101] : List UInt8))) rfl (decide_eq_true h243)) ?_
            refine WOps.p (G.move rfl) rfl ?_
            refine WOps.p (G.pick_t (kb (b := decide (([97, 110, 111, 116, 104, 101, 114, 32, 111, 110, 101] : List UInt8) = ([97, 110, 111, 116, 104, 101, 114, 32, 111, 110, 101] : List UInt8))) rfl (decide_eq_true h243)) rfl) rfl ?_
            refine WOps.p (G.move rfl) rfl ?_
            rcases ite_some hF with ⟨h244, hF⟩ | ⟨h244, hF⟩
            ·
             refine WOps.on rfl (kbl (b := t153.2) rfl h244) ?_
             refine WOps.p (G.move rfl) rfl ?_
             refine WOps.on rfl (kbl (b := t153.2) rfl h244) ?_
             refine WOps.p (G.len T.el77 rfl) rfl ?_
             refine WOps.on rfl (kbl (b := t153.2) rfl h244) ?_
             refine WOps.p (G.eql rfl rfl rfl) rfl ?_
             refine WOps.p (G.pick_t (kb (b := t153.2) rfl h244) rfl) rfl ?_
             refine WOps.p (G.move rfl) rfl ?_
             rcases ite_some hF with ⟨h245, hF⟩ | ⟨h245, hF⟩
             ·
              refine WOps.on rfl (kbl (b := decide ((t153.1.2.1 : Int) = 0)) rfl (decide_eq_true h245)) ?_
              refine WOps.p (G.move rfl) rfl ?_
              refine WOps.p (G.pick_t (kb (b := decide ((t153.1.2.1 : Int) = 0)) rfl (decide_eq_true h245)) rfl) rfl ?_
              refine WOps.p (G.move rfl) rfl ?_
              rcases ite_some hF with ⟨h246, hF⟩ | ⟨h246, hF⟩
              ·
               refine WOps.on rfl (kbl (b := t188.2) rfl h246) ?_
               refine WOps.p (G.move rfl) rfl ?_
               refine WOps.on rfl (kbl (b := t188.2) rfl h246) ?_
               obtain ⟨h247, hF⟩ := guard_some hF
               refine WOps.p (G.eqp_same Try.underlying81 T.size3_1 (by decide) (hp_ev h247 rfl) rfl) rfl ?_
               refine WOps.p (G.pick_t (kb (b := t188.2) rfl h246) rfl) rfl ?_
               refine WOps.p (G.move rfl) rfl ?_
               refine WOps.on rfl rfl ?_
               refine WOps.p (G.move rfl) rfl ?_
               refine WOps.on rfl rfl ?_
               refine WOps.p (G.nilp (hp_ev h247 rfl)) rfl ?_
               refine WOps.on rfl rfl ?_
               refine WOps.r (G.load1 T.one3 rfl (cell_blk (S239.blk 5 rfl) rfl)) rfl ?_
               refine WOps.on rfl rfl ?_
               refine WOps.p (G.move rfl) rfl ?_
               refine WOps.on rfl rfl ?_
               refine WOps.p (G.add rfl rfl (r := (w64 (a0 + 1))) rfl) rfl ?_
               refine WOps.on rfl rfl ?_
               refine WOps.p (G.eql rfl rfl rfl) rfl ?_
               refine WOps.p (G.pick_t rfl rfl) rfl ?_
               refine WOps.p (G.move rfl) rfl ?_
               rcases ite_some hF with ⟨h248, hF⟩ | ⟨h248, hF⟩
               ·
                refine WOps.on rfl (kbl (b := decide ((w64 (a0 + 1)) = (w64 (a0 + 1)))) rfl (decide_eq_true h248)) ?_
                refine WOps.p (G.move rfl) rfl ?_
                refine WOps.on rfl (kbl (b := decide ((w64 (a0 + 1)) = (w64 (a0 + 1)))) rfl (decide_eq_true h248)) ?_
                refine WOps.p (G.eqp_nil Try.underlying81 rfl rfl rfl) rfl ?_
                refine WOps.p (G.pick_t (kb (b := decide ((w64 (a0 + 1)) = (w64 (a0 + 1)))) rfl (decide_eq_true h248)) rfl) rfl ?_
                refine WOps.p (G.move rfl) rfl ?_
                rcases ite_some hF with ⟨h249, hF⟩ | ⟨h249, hF⟩
                ·
                 refine WOps.on rfl (kbl (b := (t199.1).isNone) rfl h249) ?_
                 refine WOps.p (G.move rfl) rfl ?_
                 refine WOps.on rfl (kbl (b := (t199.1).isNone) rfl h249) ?_
                 refine WOps.p (G.not rfl rfl) rfl ?_
                 refine WOps.p (G.pick_t (kb (b := (t199.1).isNone) rfl h249) rfl) rfl ?_
                 refine WOps.p (G.move rfl) rfl ?_
                 rcases ite_some hF with ⟨h250, hF⟩ | ⟨h250, hF⟩
                 ·
                  refine WOps.off rfl (kbl (b := !t199.2) rfl (show (!t199.2) = false from by rw [h250]; rfl)) rfl rfl ?_
                  refine WOps.off rfl (kbl (b := !t199.2) rfl (show (!t199.2) = false from by rw [h250]; rfl)) rfl rfl ?_
                  refine WOps.p (G.pick_f (kb (b := !t199.2) rfl (show (!t199.2) = false from by rw [h250]; rfl)) rfl) rfl ?_
                  refine WOps.p (G.move rfl) rfl ?_
                  refine WOps.off rfl rfl rfl rfl ?_
                  refine WOps.off rfl rfl rfl rfl ?_
                  refine WOps.p (G.pick_f rfl rfl) rfl ?_
                  refine WOps.p (G.move rfl) rfl ?_
                  refine WOps.off rfl rfl rfl rfl ?_
                  refine WOps.off rfl rfl rfl rfl ?_
                  refine WOps.off rfl rfl rfl rfl ?_
                  refine WOps.p (G.pick_f rfl rfl) rfl ?_
                  refine WOps.p (G.assign rfl) rfl ?_
                  refine WOps.nil ?_
                  refine WEx.then_ ?_
                  refine WCode.forget (l' := [(4, .bool false)]) ⟨rfl, trivial⟩ ?_
                  refine WCode.ret ?_
                  obtain rfl := some_eq hF
                  refine WEx.ret1 rfl rfl ?_
                  exact ⟨rfl, St.keep (As := []) S239⟩
                 ·
                  refine WOps.on rfl (kbl (b := !t199.2) rfl (show (!t199.2) = true from by rw [(Bool.eq_false_iff.2 h250)]; rfl)) ?_
                  refine WOps.p (G.move rfl) rfl ?_
                  refine WOps.on rfl (kbl (b := !t199.2) rfl (show (!t199.2) = true from by rw [(Bool.eq_false_iff.2 h250)]; rfl)) ?_
                  refine WOps.p (G.eql rfl rfl rfl) rfl ?_
                  refine WOps.p (G.pick_t (kb (b := !t199.2) rfl (show (!t199.2) = true from by rw [(Bool.eq_false_iff.2 h250)]; rfl)) rfl) rfl ?_
                  refine WOps.p (G.move rfl) rfl ?_
                  rcases ite_some hF with ⟨h251, hF⟩ | ⟨h251, hF⟩
                  ·
                   refine WOps.on rfl (kbl (b := decide (t208.1 = 140)) rfl (decide_eq_true h251)) ?_
                   refine WOps.p (G.move rfl) rfl ?_
                   refine WOps.on rfl (kbl (b := decide (t208.1 = 140)) rfl (decide_eq_true h251)) ?_
                   refine WOps.p (G.not rfl rfl) rfl ?_
                   refine WOps.p (G.pick_t (kb (b := decide (t208.1 = 140)) rfl (decide_eq_true h251)) rfl) rfl ?_
                   refine WOps.p (G.move rfl) rfl ?_
                   rcases ite_some hF with ⟨h252, hF⟩ | ⟨h252, hF⟩
                   ·
                    refine WOps.off rfl (kbl (b := !t225.2) rfl (show (!t225.2) = false from by rw [h252]; rfl)) rfl rfl ?_
                    refine WOps.off rfl (kbl (b := !t225.2) rfl (show (!t225.2) = false from by rw [h252]; rfl)) rfl rfl ?_
                    refine WOps.off rfl (kbl (b := !t225.2) rfl (show (!t225.2) = false from by rw [h252]; rfl)) rfl rfl ?_
                    refine WOps.p (G.pick_f (kb (b := !t225.2) rfl (show (!t225.2) = false from by rw [h252]; rfl)) rfl) rfl ?_
                    refine WOps.p (G.assign rfl) rfl ?_
                    refine WOps.nil ?_
                    refine WEx.then_ ?_
                    refine WCode.forget (l' := [(4, .bool false)]) ⟨rfl, trivial⟩ ?_
                    refine WCode.ret ?_
                    obtain rfl := some_eq hF
                    refine WEx.ret1 rfl rfl ?_
                    exact ⟨rfl, St.keep (As := []) S239⟩
                   ·
                    refine WOps.on rfl (kbl (b := !t225.2) rfl (show (!t225.2) = true from by rw [(Bool.eq_false_iff.2 h252)]; rfl)) ?_
                    refine WOps.p (G.move rfl) rfl ?_
                    refine WOps.on rfl (kbl (b := !t225.2) rfl (show (!t225.2) = true from by rw [(Bool.eq_false_iff.2 h252)]; rfl)) ?_
                    obtain ⟨t253, hc254, hF⟩ := bind_some hF
                    have S255 := (S239.front 7 rfl).front 7 rfl
                    change St _ _ _ [[(p36, .cells #[.int .i64 t127.2.most, .slice A138 t127.2.pairs.length c139] 151 (0, 0))], G140, [(b231, .cells #[] 85 (0, 0))], [(p72, .cells #[.int .i64 t208.2.most, .slice A219 t208.2.pairs.length c220] 157 (0, 0))], G221, [(p54, .cells #[.int .i64 t171.2.most, .slice A182 t171.2.pairs.length c183] 154 (0, 0))], G184, [(b159, .cells #[.int .i64 (w64 (a0 + 1))] 3 (0, 0))], [(b96, .cells #[.int .u8 ((u8of a0).toNat : Int), .int .u8 7, .bool (decide (0 < a0))] 76 (0, 0))], [(b90, .cells #[.string (bs ([97, 110, 111, 116, 104, 101, 114, 32, 111, 110, 101] : List UInt8))] 9 (0, 0))]] at S255
                    have hP256 : PtR 151 Two____string_.rp w237 (KS [[(p36, .cells #[.int .i64 t127.2.most, .slice A138 t127.2.pairs.length c139] 151 (0, 0))], G140]) p36 t127.2 := ⟨_, S255.blk 0 rfl, KS_at 0 rfl (by simp [keys]), ⟨A138, c139, rfl, ((hO141.rd (fun b o hb => S255.grp 1 rfl hb)).mono (fun b hb => KS_at 1 rfl hb))⟩⟩
                    refine WOps.call T.call50 (evs_cons rfl evs_nil) rfl ?_
                    refine (st_Len_calls k t127.2 hP256 (St.outN (Bs := []) (As := [[(p36, .cells #[.int .i64 t127.2.most, .slice A138 t127.2.pairs.length c139] 151 (0, 0))], G140]) S255) hc254).mono ?_
                    rintro _ w257 ⟨rfl, T258⟩
                    have S259 := St.callN (As := []) S255 T258
                    change St _ _ _ [[(p36, .cells #[.int .i64 t127.2.most, .slice A138 t127.2.pairs.length c139] 151 (0, 0))], G140, [(b231, .cells #[] 85 (0, 0))], [(p72, .cells #[.int .i64 t208.2.most, .slice A219 t208.2.pairs.length c220] 157 (0, 0))], G221, [(p54, .cells #[.int .i64 t171.2.most, .slice A182 t171.2.pairs.length c183] 154 (0, 0))], G184, [(b159, .cells #[.int .i64 (w64 (a0 + 1))] 3 (0, 0))], [(b96, .cells #[.int .u8 ((u8of a0).toNat : Int), .int .u8 7, .bool (decide (0 < a0))] 76 (0, 0))], [(b90, .cells #[.string (bs ([97, 110, 111, 116, 104, 101, 114, 32, 111, 110, 101] : List UInt8))] 9 (0, 0))]] at S259
                    refine ⟨_, rfl, ?_⟩
                    refine WOps.on rfl (kbl (b := !t225.2) rfl (show (!t225.2) = true from by rw [(Bool.eq_false_iff.2 h252)]; rfl)) ?_
                    refine WOps.p (G.eql rfl rfl rfl) rfl ?_
                    refine WOps.p (G.pick_t (kb (b := !t225.2) rfl (show (!t225.2) = true from by rw [(Bool.eq_false_iff.2 h252)]; rfl)) rfl) rfl ?_
                    refine WOps.p (G.assign rfl) rfl ?_
                    refine WOps.nil ?_
                    refine WEx.then_ ?_
                    refine WCode.forget (l' := [(4, .bool (decide (t253 = 2)))]) ⟨rfl, trivial⟩ ?_
                    refine WCode.ret ?_
                    obtain rfl := some_eq hF
                    refine WEx.ret1 rfl rfl ?_
                    exact ⟨rfl, St.keep (As := []) S259⟩
                  ·
                   refine WOps.off rfl (kbl (b := decide (t208.1 = 140)) rfl (decide_eq_false h251)) rfl rfl ?_
                   refine WOps.off rfl (kbl (b := decide (t208.1 = 140)) rfl (decide_eq_false h251)) rfl rfl ?_
                   refine WOps.p (G.pick_f (kb (b := decide (t208.1 = 140)) rfl (decide_eq_false h251)) rfl) rfl ?_
                   refine WOps.p (G.move rfl) rfl ?_
                   refine WOps.off rfl rfl rfl rfl ?_
                   refine WOps.off rfl rfl rfl rfl ?_
                   refine WOps.off rfl rfl rfl rfl ?_
                   refine WOps.p (G.pick_f rfl rfl) rfl ?_
                   refine WOps.p (G.assign rfl) rfl ?_
                   refine WOps.nil ?_
                   refine WEx.then_ ?_
                   refine WCode.forget (l' := [(4, .bool false)]) ⟨rfl, trivial⟩ ?_
                   refine WCode.ret ?_
                   obtain rfl := some_eq hF
                   refine WEx.ret1 rfl rfl ?_
                   exact ⟨rfl, St.keep (As := []) S239⟩
                ·
                 refine WOps.off rfl (kbl (b := (t199.1).isNone) rfl (Bool.eq_false_iff.2 h249)) rfl rfl ?_
                 refine WOps.off rfl (kbl (b := (t199.1).isNone) rfl (Bool.eq_false_iff.2 h249)) rfl rfl ?_
                 refine WOps.p (G.pick_f (kb (b := (t199.1).isNone) rfl (Bool.eq_false_iff.2 h249)) rfl) rfl ?_
                 refine WOps.p (G.move rfl) rfl ?_
                 refine WOps.off rfl rfl rfl rfl ?_
                 refine WOps.off rfl rfl rfl rfl ?_
                 refine WOps.p (G.pick_f rfl rfl) rfl ?_
                 refine WOps.p (G.move rfl) rfl ?_
                 refine WOps.off rfl rfl rfl rfl ?_
                 refine WOps.off rfl rfl rfl rfl ?_
                 refine WOps.p (G.pick_f rfl rfl) rfl ?_
                 refine WOps.p (G.move rfl) rfl ?_
                 refine WOps.off rfl rfl rfl rfl ?_
                 refine WOps.off rfl rfl rfl rfl ?_
                 refine WOps.off rfl rfl rfl rfl ?_
                 refine WOps.p (G.pick_f rfl rfl) rfl ?_
                 refine WOps.p (G.assign rfl) rfl ?_
                 refine WOps.nil ?_
                 refine WEx.then_ ?_
                 refine WCode.forget (l' := [(4, .bool false)]) ⟨rfl, trivial⟩ ?_
                 refine WCode.ret ?_
                 obtain rfl := some_eq hF
                 refine WEx.ret1 rfl rfl ?_
                 exact ⟨rfl, St.keep (As := []) S239⟩
               ·
                refine WOps.off rfl (kbl (b := decide ((w64 (a0 + 1)) = (w64 (a0 + 1)))) rfl (decide_eq_false h248)) rfl rfl ?_
                refine WOps.off rfl (kbl (b := decide ((w64 (a0 + 1)) = (w64 (a0 + 1)))) rfl (decide_eq_false h248)) rfl rfl ?_
                refine WOps.p (G.pick_f (kb (b := decide ((w64 (a0 + 1)) = (w64 (a0 + 1)))) rfl (decide_eq_false h248)) rfl) rfl ?_
                refine WOps.p (G.move rfl) rfl ?_
                refine WOps.off rfl rfl rfl rfl ?_
                refine WOps.off rfl rfl rfl rfl ?_
                refine WOps.p (G.pick_f rfl rfl) rfl ?_
                refine WOps.p (G.move rfl) rfl ?_
                refine WOps.off rfl rfl rfl rfl ?_
                refine WOps.off rfl rfl rfl rfl ?_
                refine WOps.p (G.pick_f rfl rfl) rfl ?_
                refine WOps.p (G.move rfl) rfl ?_
                refine WOps.off rfl rfl rfl rfl ?_
                refine WOps.off rfl rfl rfl rfl ?_
                refine WOps.p (G.pick_f rfl rfl) rfl ?_
                refine WOps.p (G.move rfl) rfl ?_
                refine WOps.off rfl rfl rfl rfl ?_
                refine WOps.off rfl rfl rfl rfl ?_
                refine WOps.off rfl rfl rfl rfl ?_
                refine WOps.p (G.pick_f rfl rfl) rfl ?_
                refine WOps.p (G.assign rfl) rfl ?_
                refine WOps.nil ?_
                refine WEx.then_ ?_
                refine WCode.forget (l' := [(4, .bool false)]) ⟨rfl, trivial⟩ ?_
                refine WCode.ret ?_
                obtain rfl := some_eq hF
                refine WEx.ret1 rfl rfl ?_
                exact ⟨rfl, St.keep (As := []) S239⟩
              ·
               refine WOps.off rfl (kbl (b := t188.2) rfl (Bool.eq_false_iff.2 h246)) rfl rfl ?_
               refine WOps.off rfl (kbl (b := t188.2) rfl (Bool.eq_false_iff.2 h246)) rfl rfl ?_
               refine WOps.p (G.pick_f (kb (b := t188.2) rfl (Bool.eq_false_iff.2 h246)) rfl) rfl ?_
               refine WOps.p (G.move rfl) rfl ?_
               refine WOps.off rfl rfl rfl rfl ?_
               refine WOps.off rfl rfl rfl rfl ?_
               refine WOps.off rfl rfl rfl rfl ?_
               refine WOps.off rfl rfl rfl rfl ?_
               refine WOps.off rfl rfl rfl rfl ?_
               refine WOps.off rfl rfl rfl rfl ?_
               refine WOps.p (G.pick_f rfl rfl) rfl ?_
               refine WOps.p (G.move rfl) rfl ?_
               refine WOps.off rfl rfl rfl rfl ?_
               refine WOps.off rfl rfl rfl rfl ?_
               refine WOps.p (G.pick_f rfl rfl) rfl ?_
               refine WOps.p (G.move rfl) rfl ?_
               refine WOps.off rfl rfl rfl rfl ?_
               refine WOps.off rfl rfl rfl rfl ?_
               refine WOps.p (G.pick_f rfl rfl) rfl ?_
               refine WOps.p (G.move rfl) rfl ?_
               refine WOps.off rfl rfl rfl rfl ?_
               refine WOps.off rfl rfl rfl rfl ?_
               refine WOps.p (G.pick_f rfl rfl) rfl ?_
               refine WOps.p (G.move rfl) rfl ?_
               refine WOps.off rfl rfl rfl rfl ?_
               refine WOps.off rfl rfl rfl rfl ?_
               refine WOps.p (G.pick_f rfl rfl) rfl ?_
               refine WOps.p (G.move rfl) rfl ?_
               refine WOps.off rfl rfl rfl rfl ?_
               refine WOps.off rfl rfl rfl rfl ?_
               refine WOps.off rfl rfl rfl rfl ?_
               refine WOps.p (G.pick_f rfl rfl) rfl ?_
               refine WOps.p (G.assign rfl) rfl ?_
               refine WOps.nil ?_
               refine WEx.then_ ?_
               refine WCode.forget (l' := [(4, .bool false)]) ⟨rfl, trivial⟩ ?_
               refine WCode.ret ?_
               obtain rfl := some_eq hF
               refine WEx.ret1 rfl rfl ?_
               exact ⟨rfl, St.keep (As := []) S239⟩
             ·
              refine WOps.off rfl (kbl (b := decide ((t153.1.2.1 : Int) = 0)) rfl (decide_eq_false h245)) rfl rfl ?_
              refine WOps.p (G.pick_f (kb (b := decide ((t153.1.2.1 : Int) = 0)) rfl (decide_eq_false h245)) rfl) rfl ?_
              refine WOps.p (G.move rfl) rfl ?_
              refine WOps.off rfl rfl rfl rfl ?_
              refine WOps.off rfl rfl rfl rfl ?_
              refine WOps.p (G.pick_f rfl rfl) rfl ?_
              refine WOps.p (G.move rfl) rfl ?_
              refine WOps.off rfl rfl rfl rfl ?_
              refine WOps.off rfl rfl rfl rfl ?_
              refine WOps.off rfl rfl rfl rfl ?_
              refine WOps.off rfl rfl rfl rfl ?_
              refine WOps.off rfl rfl rfl rfl ?_
              refine WOps.off rfl rfl rfl rfl ?_
              refine WOps.p (G.pick_f rfl rfl) rfl ?_
              refine WOps.p (G.move rfl) rfl ?_
              refine WOps.off rfl rfl rfl rfl ?_
              refine WOps.off rfl rfl rfl rfl ?_
              refine WOps.p (G.pick_f rfl rfl) rfl ?_
              refine WOps.p (G.move rfl) rfl ?_
              refine WOps.off rfl rfl rfl rfl ?_
              refine WOps.off rfl rfl rfl rfl ?_
              refine WOps.p (G.pick_f rfl rfl) rfl ?_
              refine WOps.p (G.move rfl) rfl ?_
              refine WOps.off rfl rfl rfl rfl ?_
              refine WOps.off rfl rfl rfl rfl ?_
              refine WOps.p (G.pick_f rfl rfl) rfl ?_
              refine WOps.p (G.move rfl) rfl ?_
              refine WOps.off rfl rfl rfl rfl ?_
              refine WOps.off rfl rfl rfl rfl ?_
              refine WOps.p (G.pick_f rfl rfl) rfl ?_
              refine WOps.p (G.move rfl) rfl ?_
              refine WOps.off rfl rfl rfl rfl ?_
              refine WOps.off rfl rfl rfl rfl ?_
              refine WOps.off rfl rfl rfl rfl ?_
              refine WOps.p (G.pick_f rfl rfl) rfl ?_
              refine WOps.p (G.assign rfl) rfl ?_
              refine WOps.nil ?_
              refine WEx.then_ ?_
              refine WCode.forget (l' := [(4, .bool false)]) ⟨rfl, trivial⟩ ?_
              refine WCode.ret ?_
              obtain rfl := some_eq hF
              refine WEx.ret1 rfl rfl ?_
              exact ⟨rfl, St.keep (As := []) S239⟩
            ·
             refine WOps.off rfl (kbl (b := t153.2) rfl (Bool.eq_false_iff.2 h244)) rfl rfl ?_
             refine WOps.off rfl (kbl (b := t153.2) rfl (Bool.eq_false_iff.2 h244)) rfl rfl ?_
             refine WOps.off rfl (kbl (b := t153.2) rfl (Bool.eq_false_iff.2 h244)) rfl rfl ?_
             refine WOps.p (G.pick_f (kb (b := t153.2) rfl (Bool.eq_false_iff.2 h244)) rfl) rfl ?_
             refine WOps.p (G.move rfl) rfl ?_
             refine WOps.off rfl rfl rfl rfl ?_
             refine WOps.p (G.pick_f rfl rfl) rfl ?_
             refine WOps.p (G.move rfl) rfl ?_
             refine WOps.off rfl rfl rfl rfl ?_
             refine WOps.off rfl rfl rfl rfl ?_
             refine WOps.p (G.pick_f rfl rfl) rfl ?_
             refine WOps.p (G.move rfl) rfl ?_
             refine WOps.off rfl rfl rfl rfl ?_
             refine WOps.off rfl rfl rfl rfl ?_
             refine WOps.off rfl rfl rfl rfl ?_
             refine WOps.off rfl rfl rfl rfl ?_
             refine WOps.off rfl rfl rfl rfl ?_
             refine WOps.off rfl rfl rfl rfl ?_
             refine WOps.p (G.pick_f rfl rfl) rfl ?_
             refine WOps.p (G.move rfl) rfl ?_
             refine WOps.off rfl rfl rfl rfl ?_
             refine WOps.off rfl rfl rfl rfl ?_
             refine WOps.p (G.pick_f rfl rfl) rfl ?_
             refine WOps.p (G.move rfl) rfl ?_
             refine WOps.off rfl rfl rfl rfl ?_
             refine WOps.off rfl rfl rfl rfl ?_
             refine WOps.p (G.pick_f rfl rfl) rfl ?_
             refine WOps.p (G.move rfl) rfl ?_
             refine WOps.off rfl rfl rfl rfl ?_
             refine WOps.off rfl rfl rfl rfl ?_
             refine WOps.p (G.pick_f rfl rfl) rfl ?_
             refine WOps.p (G.move rfl) rfl ?_
             refine WOps.off rfl rfl rfl rfl ?_
             refine WOps.off rfl rfl rfl rfl ?_
             refine WOps.p (G.pick_f rfl rfl) rfl ?_
             refine WOps.p (G.move rfl) rfl ?_
             refine WOps.off rfl rfl rfl rfl ?_
             refine WOps.off rfl rfl rfl rfl ?_
             refine WOps.off rfl rfl rfl rfl ?_
             refine WOps.p (G.pick_f rfl rfl) rfl ?_
             refine WOps.p (G.assign rfl) rfl ?_
             refine WOps.nil ?_
             refine WEx.then_ ?_
             refine WCode.forget (l' := [(4, .bool false)]) ⟨rfl, trivial⟩ ?_
             refine WCode.ret ?_
             obtain rfl := some_eq hF
             refine WEx.ret1 rfl rfl ?_
             exact ⟨rfl, St.keep (As := []) S239⟩
           ·
            refine WOps.off rfl (kbl (b := decide (([97, 110, 111, 116, 104, 101, 114, 32, 111, 110, 101] : List UInt8) = ([97, 110, 111, 116, 104, 101, 114, 32, 111, 110, 101] : List UInt8))) rfl (decide_eq_false h243)) rfl rfl ?_
            refine WOps.p (G.pick_f (kb (b := decide (([97, 110, 111, 116, 104, 101, 114, 32, 111, 110, 101] : List UInt8) = ([97, 110, 111, 116, 104, 101, 114, 32, 111, 110, 101] : List UInt8))) rfl (decide_eq_false h243)) rfl) rfl ?_
            refine WOps.p (G.move rfl) rfl ?_
            refine WOps.off rfl rfl rfl rfl ?_
            refine WOps.off rfl rfl rfl rfl ?_
            refine WOps.off rfl rfl rfl rfl ?_
            refine WOps.p (G.pick_f rfl rfl) rfl ?_
            refine WOps.p (G.move rfl) rfl ?_
            refine WOps.off rfl rfl rfl rfl ?_
            refine WOps.p (G.pick_f rfl rfl) rfl ?_
            refine WOps.p (G.move rfl) rfl ?_
            refine WOps.off rfl rfl rfl rfl ?_
            refine WOps.off rfl rfl rfl rfl ?_
            refine WOps.p (G.pick_f rfl rfl) rfl ?_
            refine WOps.p (G.move rfl) rfl ?_
            refine WOps.off rfl rfl rfl rfl ?_
            refine WOps.off rfl rfl rfl rfl ?_
            refine WOps.off rfl rfl rfl rfl ?_
            refine WOps.off rfl rfl rfl rfl ?_
            refine WOps.off rfl rfl rfl rfl ?_
            refine WOps.off rfl rfl rfl rfl ?_
            refine WOps.p (G.pick_f rfl rfl) rfl ?_
            refine WOps.p (G.move rfl) rfl ?_
            refine WOps.off rfl rfl rfl rfl ?_
            refine WOps.off rfl rfl rfl rfl ?_
            refine WOps.p (G.pick_f rfl rfl) rfl ?_
            refine WOps.p (G.move rfl) rfl ?_
            refine WOps.off rfl rfl rfl rfl ?_
            refine WOps.off rfl rfl rfl rfl ?_
            refine WOps.p (G.pick_f rfl rfl) rfl ?_
            refine WOps.p (G.move rfl) rfl ?_
            refine WOps.off rfl rfl rfl rfl ?_
            refine WOps.off rfl rfl rfl rfl ?_
            refine WOps.p (G.pick_f rfl rfl) rfl ?_
            refine WOps.p (G.move rfl) rfl ?_
            refine WOps.off rfl rfl rfl rfl ?_
            refine WOps.off rfl rfl rfl rfl ?_
            refine WOps.p (G.pick_f rfl rfl) rfl ?_
            refine WOps.p (G.move rfl) rfl ?_
            refine WOps.off rfl rfl rfl rfl ?_
            refine WOps.off rfl rfl rfl rfl ?_
            refine WOps.off rfl rfl rfl rfl ?_
            refine WOps.p (G.pick_f rfl rfl) rfl ?_
            refine WOps.p (G.assign rfl) rfl ?_
            refine WOps.nil ?_
            refine WEx.then_ ?_
            refine WCode.forget (l' := [(4, .bool false)]) ⟨rfl, trivial⟩ ?_
            refine WCode.ret ?_
            obtain rfl := some_eq hF
            refine WEx.ret1 rfl rfl ?_
            exact ⟨rfl, St.keep (As := []) S239⟩
          ·
           refine WOps.off rfl (kbl (b := decide ((t147.1.2.1 : Int) = 1)) rfl (decide_eq_false h241)) rfl rfl ?_
           refine WOps.off rfl (kbl (b := decide ((t147.1.2.1 : Int) = 1)) rfl (decide_eq_false h241)) rfl rfl ?_
           refine WOps.off rfl (kbl (b := decide ((t147.1.2.1 : Int) = 1)) rfl (decide_eq_false h241)) rfl rfl ?_
           refine WOps.off rfl (kbl (b := decide ((t147.1.2.1 : Int) = 1)) rfl (decide_eq_false h241)) rfl rfl ?_
           refine WOps.p (G.pick_f (kb (b := decide ((t147.1.2.1 : Int) = 1)) rfl (decide_eq_false h241)) rfl) rfl ?_
           refine WOps.p (G.move rfl) rfl ?_
           refine WOps.off rfl rfl rfl rfl ?_
           refine WOps.p (G.pick_f rfl rfl) rfl ?_
           refine WOps.p (G.move rfl) rfl ?_
           refine WOps.off rfl rfl rfl rfl ?_
           refine WOps.off rfl rfl rfl rfl ?_
           refine WOps.off rfl rfl rfl rfl ?_
           refine WOps.p (G.pick_f rfl rfl) rfl ?_
           refine WOps.p (G.move rfl) rfl ?_
           refine WOps.off rfl rfl rfl rfl ?_
           refine WOps.p (G.pick_f rfl rfl) rfl ?_
           refine WOps.p (G.move rfl) rfl ?_
           refine WOps.off rfl rfl rfl rfl ?_
           refine WOps.off rfl rfl rfl rfl ?_
           refine WOps.p (G.pick_f rfl rfl) rfl ?_
           refine WOps.p (G.move rfl) rfl ?_
           refine WOps.off rfl rfl rfl rfl ?_
           refine WOps.off rfl rfl rfl rfl ?_
           refine WOps.off rfl rfl rfl rfl ?_
           refine WOps.off rfl rfl rfl rfl ?_
           refine WOps.off rfl rfl rfl rfl ?_
           refine WOps.off rfl rfl rfl rfl ?_
           refine WOps.p (G.pick_f rfl rfl) rfl ?_
           refine WOps.p (G.move rfl) rfl ?_
           refine WOps.off rfl rfl rfl rfl ?_
           refine WOps.off rfl rfl rfl rfl ?_
           refine WOps.p (G.pick_f rfl rfl) rfl ?_
           refine WOps.p (G.move rfl) rfl ?_
           refine WOps.off rfl rfl rfl rfl ?_
           refine WOps.off rfl rfl rfl rfl ?_
           refine WOps.p (G.pick_f rfl rfl) rfl ?_
           refine WOps.p (G.move rfl) rfl ?_
           refine WOps.off rfl rfl rfl rfl ?_
           refine WOps.off rfl rfl rfl rfl ?_
           refine WOps.p (G.pick_f rfl rfl) rfl ?_
           refine WOps.p (G.move rfl) rfl ?_
           refine WOps.off rfl rfl rfl rfl ?_
           refine WOps.off rfl rfl rfl rfl ?_
           refine WOps.p (G.pick_f rfl rfl) rfl ?_
           refine WOps.p (G.move rfl) rfl ?_
           refine WOps.off rfl rfl rfl rfl ?_
           refine WOps.off rfl rfl rfl rfl ?_
           refine WOps.off rfl rfl rfl rfl ?_
           refine WOps.p (G.pick_f rfl rfl) rfl ?_
           refine WOps.p (G.assign rfl) rfl ?_
           refine WOps.nil ?_
           refine WEx.then_ ?_
           refine WCode.forget (l' := [(4, .bool false)]) ⟨rfl, trivial⟩ ?_
           refine WCode.ret ?_
           obtain rfl := some_eq hF
           refine WEx.ret1 rfl rfl ?_
           exact ⟨rfl, St.keep (As := []) S239⟩
         ·
          refine WOps.off rfl (kbl (b := t147.2) rfl (Bool.eq_false_iff.2 h240)) rfl rfl ?_
          refine WOps.off rfl (kbl (b := t147.2) rfl (Bool.eq_false_iff.2 h240)) rfl rfl ?_
          refine WOps.off rfl (kbl (b := t147.2) rfl (Bool.eq_false_iff.2 h240)) rfl rfl ?_
          refine WOps.p (G.pick_f (kb (b := t147.2) rfl (Bool.eq_false_iff.2 h240)) rfl) rfl ?_
          refine WOps.p (G.move rfl) rfl ?_
          refine WOps.off rfl rfl rfl rfl ?_
          refine WOps.off rfl rfl rfl rfl ?_
          refine WOps.off rfl rfl rfl rfl ?_
          refine WOps.off rfl rfl rfl rfl ?_
          refine WOps.p (G.pick_f rfl rfl) rfl ?_
          refine WOps.p (G.move rfl) rfl ?_
          refine WOps.off rfl rfl rfl rfl ?_
          refine WOps.p (G.pick_f rfl rfl) rfl ?_
          refine WOps.p (G.move rfl) rfl ?_
          refine WOps.off rfl rfl rfl rfl ?_
          refine WOps.off rfl rfl rfl rfl ?_
          refine WOps.off rfl rfl rfl rfl ?_
          refine WOps.p (G.pick_f rfl rfl) rfl ?_
          refine WOps.p (G.move rfl) rfl ?_
          refine WOps.off rfl rfl rfl rfl ?_
          refine WOps.p (G.pick_f rfl rfl) rfl ?_
          refine WOps.p (G.move rfl) rfl ?_
          refine WOps.off rfl rfl rfl rfl ?_
          refine WOps.off rfl rfl rfl rfl ?_
          refine WOps.p (G.pick_f rfl rfl) rfl ?_
          refine WOps.p (G.move rfl) rfl ?_
          refine WOps.off rfl rfl rfl rfl ?_
          refine WOps.off rfl rfl rfl rfl ?_
          refine WOps.off rfl rfl rfl rfl ?_
          refine WOps.off rfl rfl rfl rfl ?_
          refine WOps.off rfl rfl rfl rfl ?_
          refine WOps.off rfl rfl rfl rfl ?_
          refine WOps.p (G.pick_f rfl rfl) rfl ?_
          refine WOps.p (G.move rfl) rfl ?_
          refine WOps.off rfl rfl rfl rfl ?_
          refine WOps.off rfl rfl rfl rfl ?_
          refine WOps.p (G.pick_f rfl rfl) rfl ?_
          refine WOps.p (G.move rfl) rfl ?_
          refine WOps.off rfl rfl rfl rfl ?_
          refine WOps.off rfl rfl rfl rfl ?_
          refine WOps.p (G.pick_f rfl rfl) rfl ?_
          refine WOps.p (G.move rfl) rfl ?_
          refine WOps.off rfl rfl rfl rfl ?_
          refine WOps.off rfl rfl rfl rfl ?_
          refine WOps.p (G.pick_f rfl rfl) rfl ?_
          refine WOps.p (G.move rfl) rfl ?_
          refine WOps.off rfl rfl rfl rfl ?_
          refine WOps.off rfl rfl rfl rfl ?_
          refine WOps.p (G.pick_f rfl rfl) rfl ?_
          refine WOps.p (G.move rfl) rfl ?_
          refine WOps.off rfl rfl rfl rfl ?_
          refine WOps.off rfl rfl rfl rfl ?_
          refine WOps.off rfl rfl rfl rfl ?_
          refine WOps.p (G.pick_f rfl rfl) rfl ?_
          refine WOps.p (G.assign rfl) rfl ?_
          refine WOps.nil ?_
          refine WEx.then_ ?_
          refine WCode.forget (l' := [(4, .bool false)]) ⟨rfl, trivial⟩ ?_
          refine WCode.ret ?_
          obtain rfl := some_eq hF
          refine WEx.ret1 rfl rfl ?_
          exact ⟨rfl, St.keep (As := []) S239⟩
        ·
         refine WCode.cond_t (kb (b := !(decide (t23.2 = 0))) rfl (show (!(decide (t23.2 = 0))) = true from by rw [(decide_eq_false h89)]; rfl)) ?_
         refine WCode.seq ?_
         refine WCode.region ?_
         refine WOps.p (G.assign rfl) rfl ?_
         refine WOps.nil ?_
         refine WEx.then_ ?_
         refine WCode.ret ?_
         refine WEx.then_ret ?_
         obtain rfl := some_eq hF
         refine WEx.ret1 rfl rfl ?_
         exact ⟨rfl, St.keep (As := []) S86⟩
       ·
        refine WOps.off rfl (kbl (b := !(decide (t15.2 = 0))) rfl (show (!(decide (t15.2 = 0))) = true from by rw [(decide_eq_false h88)]; rfl)) rfl rfl ?_
        refine WOps.off rfl (kbl (b := !(decide (t15.2 = 0))) rfl (show (!(decide (t15.2 = 0))) = true from by rw [(decide_eq_false h88)]; rfl)) rfl rfl ?_
        refine WOps.p (G.pick_t (kb (b := !(decide (t15.2 = 0))) rfl (show (!(decide (t15.2 = 0))) = true from by rw [(decide_eq_false h88)]; rfl)) rfl) rfl ?_
        refine WOps.nil ?_
        refine WEx.then_ ?_
        refine WCode.forget (l' := [(0, .int .i64 a0), (1, .string (bs a1)), (6, .pointer (some ⟨p36, 0, none⟩)), (8, .pointer (some ⟨p54, 0, none⟩)), (10, .pointer (some ⟨p72, 0, none⟩)), (67, .bool true)]) ⟨rfl, rfl, rfl, rfl, rfl, rfl, trivial⟩ ?_
        refine WCode.cond_t rfl ?_
        refine WCode.seq ?_
        refine WCode.region ?_
        refine WOps.p (G.assign rfl) rfl ?_
        refine WOps.nil ?_
        refine WEx.then_ ?_
        refine WCode.ret ?_
        refine WEx.then_ret ?_
        obtain rfl := some_eq hF
        refine WEx.ret1 rfl rfl ?_
        exact ⟨rfl, St.keep (As := []) S86⟩
      ·
       refine WOps.off rfl (kbl (b := !(decide (t7.2 = 0))) rfl (show (!(decide (t7.2 = 0))) = true from by rw [(decide_eq_false h87)]; rfl)) rfl rfl ?_
       refine WOps.off rfl (kbl (b := !(decide (t7.2 = 0))) rfl (show (!(decide (t7.2 = 0))) = true from by rw [(decide_eq_false h87)]; rfl)) rfl rfl ?_
       refine WOps.p (G.pick_t (kb (b := !(decide (t7.2 = 0))) rfl (show (!(decide (t7.2 = 0))) = true from by rw [(decide_eq_false h87)]; rfl)) rfl) rfl ?_
       refine WOps.p (G.move rfl) rfl ?_
       refine WOps.off rfl rfl rfl rfl ?_
       refine WOps.off rfl rfl rfl rfl ?_
       refine WOps.p (G.pick_t rfl rfl) rfl ?_
       refine WOps.nil ?_
       refine WEx.then_ ?_
       refine WCode.forget (l' := [(0, .int .i64 a0), (1, .string (bs a1)), (6, .pointer (some ⟨p36, 0, none⟩)), (8, .pointer (some ⟨p54, 0, none⟩)), (10, .pointer (some ⟨p72, 0, none⟩)), (67, .bool true)]) ⟨rfl, rfl, rfl, rfl, rfl, rfl, trivial⟩ ?_
       refine WCode.cond_t rfl ?_
       refine WCode.seq ?_
       refine WCode.region ?_
       refine WOps.p (G.assign rfl) rfl ?_
       refine WOps.nil ?_
       refine WEx.then_ ?_
       refine WCode.ret ?_
       refine WEx.then_ret ?_
       obtain rfl := some_eq hF
       refine WEx.ret1 rfl rfl ?_
       exact ⟨rfl, St.keep (As := []) S86⟩
     ·
      refine WOps.on rfl rfl ?_
      have hn261 := Option.not_isSome_iff_eq_none.1 h68
      have ho260 := hO30
      rw [hn261] at ho260
      obtain ⟨hv262, hg263⟩ := ho260
      subst hv262
      have S265 := S67.front 4 rfl
      change St _ _ _ [G29, [(p54, .cells #[.int .i64 x51.most, .slice A62 x51.pairs.length c63] 154 (0, 0))], G64, [(p36, .cells #[.int .i64 x33.most, .slice A44 x33.pairs.length c45] 151 (0, 0))], G46] at S265
      have S264 : St _ _ _ [[(p54, .cells #[.int .i64 x51.most, .slice A62 x51.pairs.length c63] 154 (0, 0))], G64, [(p36, .cells #[.int .i64 x33.most, .slice A44 x33.pairs.length c45] 151 (0, 0))], G46] := S265.objs (by rw [hg263]; simp)
      refine WOps.p (G.eqp_nil Try.underlying82 rfl rfl rfl) rfl ?_
      refine WOps.p (G.pick_f rfl rfl) rfl ?_
      refine WOps.p (G.move rfl) rfl ?_
      refine WOps.off rfl rfl rfl rfl ?_
      refine WOps.off rfl rfl rfl rfl ?_
      refine WOps.p (G.pick_t rfl rfl) rfl ?_
      refine WOps.p (G.move rfl) rfl ?_
      refine WOps.off rfl rfl rfl rfl ?_
      refine WOps.off rfl rfl rfl rfl ?_
      refine WOps.p (G.pick_t rfl rfl) rfl ?_
      refine WOps.p (G.move rfl) rfl ?_
      refine WOps.off rfl rfl rfl rfl ?_
      refine WOps.off rfl rfl rfl rfl ?_
      refine WOps.p (G.pick_t rfl rfl) rfl ?_
      refine WOps.nil ?_
      refine WEx.then_ ?_
      refine WCode.forget (l' := [(0, .int .i64 a0), (1, .string (bs a1)), (6, .pointer (some ⟨p36, 0, none⟩)), (8, .pointer (some ⟨p54, 0, none⟩)), (10, .pointer none), (67, .bool true)]) ⟨rfl, rfl, rfl, rfl, rfl, rfl, trivial⟩ ?_
      refine WCode.cond_t rfl ?_
      refine WCode.seq ?_
      refine WCode.region ?_
      refine WOps.p (G.assign rfl) rfl ?_
      refine WOps.nil ?_
      refine WEx.then_ ?_
      refine WCode.ret ?_
      refine WEx.then_ret ?_
      obtain rfl := some_eq hF
      refine WEx.ret1 rfl rfl ?_
      exact ⟨rfl, St.keep (As := []) S264⟩
    ·
     refine WOps.on rfl rfl ?_
     have hn267 := Option.not_isSome_iff_eq_none.1 h50
     have ho266 := hO22
     rw [hn267] at ho266
     obtain ⟨hv268, hg269⟩ := ho266
     subst hv268
     have S271 := S49.front 3 rfl
     change St _ _ _ [G21, [(p36, .cells #[.int .i64 x33.most, .slice A44 x33.pairs.length c45] 151 (0, 0))], G46, G29] at S271
     have S270 : St _ _ _ [[(p36, .cells #[.int .i64 x33.most, .slice A44 x33.pairs.length c45] 151 (0, 0))], G46, G29] := S271.objs (by rw [hg269]; simp)
     refine WOps.p (G.eqp_nil Try.underlying78 rfl rfl rfl) rfl ?_
     refine WOps.p (G.pick_f rfl rfl) rfl ?_
     refine WOps.p (G.move rfl) rfl ?_
     refine WOps.off rfl rfl rfl rfl ?_
     refine WOps.off rfl rfl rfl rfl ?_
     refine WOps.p (G.pick_t rfl rfl) rfl ?_
     refine WOps.p (G.move rfl) rfl ?_
     refine WOps.off rfl rfl rfl rfl ?_
     refine WOps.off rfl rfl rfl rfl ?_
     refine WOps.p (G.pick_t rfl rfl) rfl ?_
     refine WOps.p (G.move rfl) rfl ?_
     refine WOps.off rfl rfl rfl rfl ?_
     refine WOps.off rfl rfl rfl rfl ?_
     refine WOps.p (G.pick_t rfl rfl) rfl ?_
     refine WOps.p (G.move rfl) rfl ?_
     refine WOps.off rfl rfl rfl rfl ?_
     refine WOps.off rfl rfl rfl rfl ?_
     refine WOps.p (G.pick_t rfl rfl) rfl ?_
     refine WOps.nil ?_
     refine WEx.then_ ?_
     refine WCode.forget (l' := [(0, .int .i64 a0), (1, .string (bs a1)), (6, .pointer (some ⟨p36, 0, none⟩)), (8, .pointer none), (10, v28), (67, .bool true)]) ⟨rfl, rfl, rfl, rfl, rfl, rfl, trivial⟩ ?_
     refine WCode.cond_t rfl ?_
     refine WCode.seq ?_
     refine WCode.region ?_
     refine WOps.p (G.assign rfl) rfl ?_
     refine WOps.nil ?_
     refine WEx.then_ ?_
     refine WCode.ret ?_
     refine WEx.then_ret ?_
     obtain rfl := some_eq hF
     refine WEx.ret1 rfl rfl ?_
     exact ⟨rfl, St.keep (As := []) S270⟩
   ·
    refine WOps.on rfl (kbl (b := !t2) rfl (show (!t2) = false from by rw [h31]; rfl)) ?_
    have hn273 := Option.not_isSome_iff_eq_none.1 h32
    have ho272 := hO14
    rw [hn273] at ho272
    obtain ⟨hv274, hg275⟩ := ho272
    subst hv274
    have S277 := S27.front 2 rfl
    change St _ _ _ [G13, G29, G21] at S277
    have S276 : St _ _ _ [G29, G21] := S277.objs (by rw [hg275]; simp)
    refine WOps.p (G.eqp_nil Try.underlying71 rfl rfl rfl) rfl ?_
    refine WOps.p (G.pick_f (kb (b := !t2) rfl (show (!t2) = false from by rw [h31]; rfl)) rfl) rfl ?_
    refine WOps.p (G.move rfl) rfl ?_
    refine WOps.off rfl rfl rfl rfl ?_
    refine WOps.off rfl rfl rfl rfl ?_
    refine WOps.p (G.pick_t rfl rfl) rfl ?_
    refine WOps.p (G.move rfl) rfl ?_
    refine WOps.off rfl rfl rfl rfl ?_
    refine WOps.off rfl rfl rfl rfl ?_
    refine WOps.p (G.pick_t rfl rfl) rfl ?_
    refine WOps.p (G.move rfl) rfl ?_
    refine WOps.off rfl rfl rfl rfl ?_
    refine WOps.off rfl rfl rfl rfl ?_
    refine WOps.p (G.pick_t rfl rfl) rfl ?_
    refine WOps.p (G.move rfl) rfl ?_
    refine WOps.off rfl rfl rfl rfl ?_
    refine WOps.off rfl rfl rfl rfl ?_
    refine WOps.p (G.pick_t rfl rfl) rfl ?_
    refine WOps.p (G.move rfl) rfl ?_
    refine WOps.off rfl rfl rfl rfl ?_
    refine WOps.off rfl rfl rfl rfl ?_
    refine WOps.p (G.pick_t rfl rfl) rfl ?_
    refine WOps.nil ?_
    refine WEx.then_ ?_
    refine WCode.forget (l' := [(0, .int .i64 a0), (1, .string (bs a1)), (6, .pointer none), (8, v20), (10, v28), (67, .bool true)]) ⟨rfl, rfl, rfl, rfl, rfl, rfl, trivial⟩ ?_
    refine WCode.cond_t rfl ?_
    refine WCode.seq ?_
    refine WCode.region ?_
    refine WOps.p (G.assign rfl) rfl ?_
    refine WOps.nil ?_
    refine WEx.then_ ?_
    refine WCode.ret ?_
    refine WEx.then_ret ?_
    obtain rfl := some_eq hF
    refine WEx.ret1 rfl rfl ?_
    exact ⟨rfl, St.keep (As := []) S276⟩
  ·
   refine WOps.off rfl (kbl (b := !t2) rfl (show (!t2) = true from by rw [(Bool.eq_false_iff.2 h31)]; rfl)) rfl rfl ?_
   refine WOps.off rfl (kbl (b := !t2) rfl (show (!t2) = true from by rw [(Bool.eq_false_iff.2 h31)]; rfl)) rfl rfl ?_
   refine WOps.p (G.pick_t (kb (b := !t2) rfl (show (!t2) = true from by rw [(Bool.eq_false_iff.2 h31)]; rfl)) rfl) rfl ?_
   refine WOps.p (G.move rfl) rfl ?_
   refine WOps.off rfl rfl rfl rfl ?_
   refine WOps.off rfl rfl rfl rfl ?_
   refine WOps.p (G.pick_t rfl rfl) rfl ?_
   refine WOps.p (G.move rfl) rfl ?_
   refine WOps.off rfl rfl rfl rfl ?_
   refine WOps.off rfl rfl rfl rfl ?_
   refine WOps.p (G.pick_t rfl rfl) rfl ?_
   refine WOps.p (G.move rfl) rfl ?_
   refine WOps.off rfl rfl rfl rfl ?_
   refine WOps.off rfl rfl rfl rfl ?_
   refine WOps.p (G.pick_t rfl rfl) rfl ?_
   refine WOps.p (G.move rfl) rfl ?_
   refine WOps.off rfl rfl rfl rfl ?_
   refine WOps.off rfl rfl rfl rfl ?_
   refine WOps.p (G.pick_t rfl rfl) rfl ?_
   refine WOps.p (G.move rfl) rfl ?_
   refine WOps.off rfl rfl rfl rfl ?_
   refine WOps.off rfl rfl rfl rfl ?_
   refine WOps.p (G.pick_t rfl rfl) rfl ?_
   refine WOps.nil ?_
   refine WEx.then_ ?_
   refine WCode.forget (l' := [(0, .int .i64 a0), (1, .string (bs a1)), (6, v12), (8, v20), (10, v28), (67, .bool true)]) ⟨rfl, rfl, rfl, rfl, rfl, rfl, trivial⟩ ?_
   refine WCode.cond_t rfl ?_
   refine WCode.seq ?_
   refine WCode.region ?_
   refine WOps.p (G.assign rfl) rfl ?_
   refine WOps.nil ?_
   refine WEx.then_ ?_
   refine WCode.ret ?_
   refine WEx.then_ret ?_
   obtain rfl := some_eq hF
   refine WEx.ret1 rfl rfl ?_
   exact ⟨rfl, St.keep (As := []) S27⟩

end Go.Proofs.Ytoahkjehjmbojaa
