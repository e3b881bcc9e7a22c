/- Functions and their walks (printed by auto.py over the engine). -/
import Derived.Test.YtpdpfiaediadgaaProg
import Derived.Test.YtpdpfiaediadgaaCH
namespace Go.Proofs.Ytpdpfiaediadgaa
open Go Go.Eng
set_option linter.unusedSimpArgs false
set_option linter.unusedVariables false

theorem T.agg60_2 : isAggT Try.prog 60 2 = true := by kernel_rfl
theorem T.call23 : Callable Try.prog 23 := Callable.mk Try.func23 (by kernel_rfl) (by kernel_rfl)
theorem T.call24 : Callable Try.prog 24 := Callable.mk Try.func24 (by kernel_rfl) (by kernel_rfl)
theorem T.el61 : slEl Try.prog 61 = some 2 := by kernel_rfl
theorem T.fld36_0 : fldOff Try.prog 36 0 = some 0 := by kernel_rfl
theorem T.size60_2 : sizeT Try.prog 60 = some 2 := by kernel_rfl
theorem T.zero60 : zeroOf Try.prog 60 = some (.agg #[.pointer none, .pointer none]) := by kernel_rfl



mutual
def law_CPlays.l4 : Nat → Int → Option Cache → Option Cache104 → Int → Int → Int → Int → Int → Int → List Known123 → List Item → Int → Int → Int → Int → List (WhoC × Known) → Int → Int → Option Bool
  | 0, _, _, _, _, _, _, _, _, _, _, _, _, _, _, _, _, _, _ => none
  | k887 + 1, x627, o637, o655, x828, x860, x861, x862, x863, x864, l867, l872, x875, x876, x877, x878, l880, x883, x884 => (if x860 < 100 then (Option.bind (ca_step k887 (⟨(⟨x875, x876, x877, x878⟩ : CacheConfig), l880, x883, x884⟩ : Cache) (⟨(⟨x861, x862, x863, x864⟩ : CacheConfig), l867, l872⟩ : Cache104) (⟨false, false, 6, x828, x860, 0, (⟨0, 0⟩ : WhoC), ([] : List UInt8)⟩ : OpC)) fun t897 => (Option.bind (ca_step k887 t897.2.1 t897.2.2 (⟨false, false, 7, x828, 0, 0, (⟨0, 0⟩ : WhoC), ([] : List UInt8)⟩ : OpC)) fun t937 => (if t897.1 = true then (if t937.1 = true then (law_CPlays.l4 k887 x627 o637 o655 x828 (w64 (x860 + 1)) t937.2.2.C.Clients t937.2.2.C.Entries t937.2.2.C.Bytes t937.2.2.C.Reserve t937.2.2.L t937.2.2.I t937.2.1.config.Clients t937.2.1.config.Entries t937.2.1.config.Bytes t937.2.1.config.Reserve t937.2.1.clients t937.2.1.entries t937.2.1.bytes) else (some false)) else (some false)))) else (law_CPlays.l3 k887 x627 o637 o655 (w64 (x828 + 1)) x861 x862 x863 x864 l867 l872 x875 x876 x877 x878 l880 x883 x884))
def law_CPlays.l3 : Nat → Int → Option Cache → Option Cache104 → Int → Int → Int → Int → Int → List Known123 → List Item → Int → Int → Int → Int → List (WhoC × Known) → Int → Int → Option Bool
  | 0, _, _, _, _, _, _, _, _, _, _, _, _, _, _, _, _, _ => none
  | k855 + 1, x627, o637, o655, x828, x829, x830, x831, x832, l835, l840, x843, x844, x845, x846, l848, x851, x852 => (if x828 < 8 then (law_CPlays.l4 k855 x627 o637 o655 x828 0 x829 x830 x831 x832 l835 l840 x843 x844 x845 x846 l848 x851 x852) else (law_CPlays.l2 k855 (w64 (x627 + 1)) (some (⟨(⟨x843, x844, x845, x846⟩ : CacheConfig), l848, x851, x852⟩ : Cache)) (some (⟨(⟨x829, x830, x831, x832⟩ : CacheConfig), l835, l840⟩ : Cache104)) o637 o655))
def law_CPlays.l6 : Nat → Int → Option Cache → Option Cache104 → Int → Int → Int → Int → Int → Int → List Known123 → List Item → Int → Int → Int → Int → List (WhoC × Known) → Int → Int → Option Bool
  | 0, _, _, _, _, _, _, _, _, _, _, _, _, _, _, _, _, _, _ => none
  | k1153 + 1, x627, o629, o651, x1094, x1126, x1127, x1128, x1129, x1130, l1133, l1138, x1141, x1142, x1143, x1144, l1146, x1149, x1150 => (if x1126 < 100 then (Option.bind (ca_step k1153 (⟨(⟨x1141, x1142, x1143, x1144⟩ : CacheConfig), l1146, x1149, x1150⟩ : Cache) (⟨(⟨x1127, x1128, x1129, x1130⟩ : CacheConfig), l1133, l1138⟩ : Cache104) (⟨false, false, 6, x1094, x1126, 0, (⟨0, 0⟩ : WhoC), ([] : List UInt8)⟩ : OpC)) fun t1163 => (Option.bind (ca_step k1153 t1163.2.1 t1163.2.2 (⟨false, false, 7, x1094, 0, 0, (⟨0, 0⟩ : WhoC), ([] : List UInt8)⟩ : OpC)) fun t1203 => (if t1163.1 = true then (if t1203.1 = true then (law_CPlays.l6 k1153 x627 o629 o651 x1094 (w64 (x1126 + 1)) t1203.2.2.C.Clients t1203.2.2.C.Entries t1203.2.2.C.Bytes t1203.2.2.C.Reserve t1203.2.2.L t1203.2.2.I t1203.2.1.config.Clients t1203.2.1.config.Entries t1203.2.1.config.Bytes t1203.2.1.config.Reserve t1203.2.1.clients t1203.2.1.entries t1203.2.1.bytes) else (some false)) else (some false)))) else (law_CPlays.l5 k1153 x627 o629 o651 (w64 (x1094 + 1)) x1127 x1128 x1129 x1130 l1133 l1138 x1141 x1142 x1143 x1144 l1146 x1149 x1150))
def law_CPlays.l5 : Nat → Int → Option Cache → Option Cache104 → Int → Int → Int → Int → Int → List Known123 → List Item → Int → Int → Int → Int → List (WhoC × Known) → Int → Int → Option Bool
  | 0, _, _, _, _, _, _, _, _, _, _, _, _, _, _, _, _, _ => none
  | k1121 + 1, x627, o629, o651, x1094, x1095, x1096, x1097, x1098, l1101, l1106, x1109, x1110, x1111, x1112, l1114, x1117, x1118 => (if x1094 < 8 then (law_CPlays.l6 k1121 x627 o629 o651 x1094 0 x1095 x1096 x1097 x1098 l1101 l1106 x1109 x1110 x1111 x1112 l1114 x1117 x1118) else (law_CPlays.l2 k1121 (w64 (x627 + 1)) o629 o651 (some (⟨(⟨x1109, x1110, x1111, x1112⟩ : CacheConfig), l1114, x1117, x1118⟩ : Cache)) (some (⟨(⟨x1095, x1096, x1097, x1098⟩ : CacheConfig), l1101, l1106⟩ : Cache104))))
def law_CPlays.j2 : Nat → Int → Option Cache → Option Cache → Option Cache104 → Option Cache104 → Option Bool
  | 0, _, _, _, _, _ => none
  | k730 + 1, x627, o629, o637, o651, o655 => (if x627 = 0 then (if (o629).isSome = true then (if (o651).isSome = true then (Option.bind (o629) fun x750 => (Option.bind (o651) fun x766 => (Option.bind (ca_step k730 x750 x766 (⟨false, false, 99, 0, 0, 0, (⟨0, 0⟩ : WhoC), ([] : List UInt8)⟩ : OpC)) fun t793 => (if t793.1 = true then (law_CPlays.l3 k730 x627 o637 o655 0 t793.2.2.C.Clients t793.2.2.C.Entries t793.2.2.C.Bytes t793.2.2.C.Reserve t793.2.2.L t793.2.2.I t793.2.1.config.Clients t793.2.1.config.Entries t793.2.1.config.Bytes t793.2.1.config.Reserve t793.2.1.clients t793.2.1.entries t793.2.1.bytes) else (some false))))) else none) else none) else (if x627 = 1 then (if (o637).isSome = true then (if (o655).isSome = true then (Option.bind (o637) fun x1016 => (Option.bind (o655) fun x1032 => (Option.bind (ca_step k730 x1016 x1032 (⟨false, false, 99, 0, 0, 0, (⟨0, 0⟩ : WhoC), ([] : List UInt8)⟩ : OpC)) fun t1059 => (if t1059.1 = true then (law_CPlays.l5 k730 x627 o629 o651 0 t1059.2.2.C.Clients t1059.2.2.C.Entries t1059.2.2.C.Bytes t1059.2.2.C.Reserve t1059.2.2.L t1059.2.2.I t1059.2.1.config.Clients t1059.2.1.config.Entries t1059.2.1.config.Bytes t1059.2.1.config.Reserve t1059.2.1.clients t1059.2.1.entries t1059.2.1.bytes) else (some false))))) else none) else none) else none))
def law_CPlays.l2 : Nat → Int → Option Cache → Option Cache104 → Option Cache → Option Cache104 → Option Bool
  | 0, _, _, _, _, _ => none
  | k646 + 1, x627, o629, o633, o637, o641 => (if x627 < 2 then (if x627 = 0 then (if (o633).isSome = true then (Option.bind (o633) fun x664 => (law_CPlays.j2 k646 x627 o629 o637 (some x664) o641)) else (law_CPlays.l2 k646 (w64 (x627 + 1)) o629 none o637 o641)) else (if x627 = 1 then (if (o641).isSome = true then (Option.bind (o641) fun x698 => (law_CPlays.j2 k646 x627 o629 o637 o633 (some x698))) else (law_CPlays.l2 k646 (w64 (x627 + 1)) o629 o633 o637 none)) else none)) else (some true))
def law_CPlays.l1 : Nat → List OpC → Int → Option Cache → Option Cache104 → Option Cache → Option Cache104 → Option Bool
  | 0, _, _, _, _, _, _ => none
  | k372 + 1, a2, x353, o355, o359, o363, o367 => (if x353 < (a2.length : Int) then (Option.bind (idx a2 x353) fun x385 => (if x385.Other = true then (if (o367).isSome = true then (Option.bind (o367) fun x404 => (Option.bind (idx a2 x353) fun x427 => (if (o363).isSome = true then (Option.bind (o363) fun x442 => (Option.bind (ca_step k372 x442 x404 x427) fun t463 => (if t463.1 = true then (law_CPlays.l1 k372 a2 (w64 (x353 + 1)) o355 o359 (some t463.2.1) (some t463.2.2)) else (some false)))) else none))) else (law_CPlays.l1 k372 a2 (w64 (x353 + 1)) o355 o359 o363 none)) else (if (o359).isSome = true then (Option.bind (o359) fun x516 => (Option.bind (idx a2 x353) fun x539 => (if (o355).isSome = true then (Option.bind (o355) fun x554 => (Option.bind (ca_step k372 x554 x516 x539) fun t575 => (if t575.1 = true then (law_CPlays.l1 k372 a2 (w64 (x353 + 1)) (some t575.2.1) (some t575.2.2) o363 o367) else (some false)))) else none))) else (law_CPlays.l1 k372 a2 (w64 (x353 + 1)) o355 none o363 o367)))) else (law_CPlays.l2 k372 0 o355 o359 o363 o367))
end
def law_CPlays.j1 (q68 : Nat) (a2 : List OpC) (o51 : Option Cache) (o55 : Option Cache104) (o59 : Option Cache) (o63 : Option Cache104) : Option Bool := (law_CPlays.l1 q68 a2 0 o51 o55 o59 o63)
def law_CPlays (k : Nat) (a0 : CacheConfig) (a1 : CacheConfig) (a2 : List OpC) : Option Bool := (Option.bind (ca_known k) fun t13 => (Option.bind (ca_New k a0) fun t18 => (Option.bind (rc_New k a0) fun t26 => (Option.bind (ca_New k a1) fun t34 => (Option.bind (rc_New k a1) fun t42 => (if t13 = true then (if t18.2 = t26.2 then (if t34.2 = t42.2 then (if (t18.1).isSome = true then (Option.bind (t18.1) fun x74 => (if (t26.1).isSome = true then (Option.bind (t26.1) fun x91 => (if (t34.1).isSome = true then (Option.bind (t34.1) fun x113 => (if (t42.1).isSome = true then (Option.bind (t42.1) fun x130 => (law_CPlays.j1 k a2 (some x74) (some x91) (some x113) (some x130))) else (some false))) else (if (t42.1).isSome = true then (Option.bind (t42.1) fun x178 => (some false)) else (law_CPlays.j1 k a2 (some x74) (some x91) none none)))) else (some false))) else (if (t26.1).isSome = true then (Option.bind (t26.1) fun x228 => (some false)) else (if (t34.1).isSome = true then (Option.bind (t34.1) fun x256 => (if (t42.1).isSome = true then (Option.bind (t42.1) fun x273 => (law_CPlays.j1 k a2 none none (some x256) (some x273))) else (some false))) else (if (t42.1).isSome = true then (Option.bind (t42.1) fun x317 => (some false)) else (law_CPlays.j1 k a2 none none none none))))) else (some false)) else (some false)) else (some false)))))))
set_option maxRecDepth 100000 in
set_option maxHeartbeats 1000000 in
theorem law_CPlays_calls (k : Nat) (a0 : CacheConfig) (a1 : CacheConfig) (a2 : List OpC) {A2 : Option Addr} {c2 : Nat} {F2 : Nat → Prop} {w : World} (hR2 : SlR OpC.rp w F2 A2 c2 a2) (hF2 : ∀ b, F2 b → NK w [] b) {r_ : Bool} (h_ : law_CPlays k a0 a1 a2 = some r_) :
    Calls Try.prog 6 [.agg #[.int .i64 a0.Clients, .int .i64 a0.Entries, .int .i64 a0.Bytes, .int .i64 a0.Reserve], .agg #[.int .i64 a1.Clients, .int .i64 a1.Entries, .int .i64 a1.Bytes, .int .i64 a1.Reserve], .slice A2 a2.length c2].toArray w fun e w' => e = .returned (.bool r_) ∧ St w (KS []) w' [] := by
 have hF := h_
 clear h_
 unfold law_CPlays at hF
 have S := St.ofFalse (As := []) (St.init0 w)
 refine enter 155 [(0, .agg #[.int .i64 a0.Clients, .int .i64 a0.Entries, .int .i64 a0.Bytes, .int .i64 a0.Reserve]), (1, .agg #[.int .i64 a1.Clients, .int .i64 a1.Entries, .int .i64 a1.Bytes, .int .i64 a1.Reserve]), (2, .slice A2 a2.length c2)] Try.func6 rfl rfl rfl rfl ?_
 refine WCode.seq ?_
 refine WCode.region ?_
 obtain ⟨b1, w2, E3, S4, X5, L6⟩ := St.box S Try.prog 26 (.agg #[.int .i64 a0.Clients, .int .i64 a0.Entries, .int .i64 a0.Bytes, .int .i64 a0.Reserve])
 change St _ _ _ [[(b1, .cells #[.int .i64 a0.Clients, .int .i64 a0.Entries, .int .i64 a0.Bytes, .int .i64 a0.Reserve] 26 (0, 0))]] at S4
 refine WOps.e (E3 rfl) rfl ?_
 obtain ⟨b7, w8, E9, S10, X11, L12⟩ := St.box S4 Try.prog 26 (.agg #[.int .i64 a1.Clients, .int .i64 a1.Entries, .int .i64 a1.Bytes, .int .i64 a1.Reserve])
 change St _ _ _ [[(b7, .cells #[.int .i64 a1.Clients, .int .i64 a1.Entries, .int .i64 a1.Bytes, .int .i64 a1.Reserve] 26 (0, 0))], [(b1, .cells #[.int .i64 a0.Clients, .int .i64 a0.Entries, .int .i64 a0.Bytes, .int .i64 a0.Reserve] 26 (0, 0))]] at S10
 refine WOps.e (E9 rfl) rfl ?_
 refine WOps.p (G.assign rfl) rfl ?_
 refine WOps.nil ?_
 refine WEx.then_ ?_
 refine WCode.seq ?_
 refine WCode.region ?_
 obtain ⟨t13, hc14, hF⟩ := bind_some hF
 refine WOps.call T.call11 evs_nil rfl ?_
 refine (ca_known_calls k hc14).mono ?_
 rintro _ w15 ⟨rfl, T16⟩
 have S17 := St.callN (As := []) S10 T16
 change St _ _ _ [[(b7, .cells #[.int .i64 a1.Clients, .int .i64 a1.Entries, .int .i64 a1.Bytes, .int .i64 a1.Reserve] 26 (0, 0))], [(b1, .cells #[.int .i64 a0.Clients, .int .i64 a0.Entries, .int .i64 a0.Bytes, .int .i64 a0.Reserve] 26 (0, 0))]] at S17
 refine ⟨_, rfl, ?_⟩
 refine WOps.p (G.assign rfl) rfl ?_
 refine WOps.nil ?_
 refine WEx.then_ ?_
 refine WCode.seq ?_
 refine WCode.region ?_
 refine WOps.r (G.loada T.agg26_4 rfl (cs := [.int .i64 a0.Clients, .int .i64 a0.Entries, .int .i64 a0.Bytes, .int .i64 a0.Reserve]) (cellsAt.of_blk (S17.blk 1 rfl) rfl)) rfl ?_
 obtain ⟨t18, hc19, hF⟩ := bind_some hF
 refine WOps.call T.call13 (evs_cons rfl evs_nil) rfl ?_
 refine (ca_New_calls k a0 hc19).mono ?_
 rintro _ w20 ⟨v23, G24, rfl, hO25, T21⟩
 have S22 := St.callN (As := []) S17 T21
 change St _ _ _ [G24, [(b7, .cells #[.int .i64 a1.Clients, .int .i64 a1.Entries, .int .i64 a1.Bytes, .int .i64 a1.Reserve] 26 (0, 0))], [(b1, .cells #[.int .i64 a0.Clients, .int .i64 a0.Entries, .int .i64 a0.Bytes, .int .i64 a0.Reserve] 26 (0, 0))]] at S22
 refine ⟨_, rfl, ?_⟩
 refine WOps.p (G.move rfl) rfl ?_
 refine WOps.p (G.extract rfl rfl) rfl ?_
 refine WOps.p (G.extract rfl rfl) rfl ?_
 refine WOps.p (G.assign rfl) rfl ?_
 refine WOps.p (G.assign rfl) rfl ?_
 refine WOps.nil ?_
 refine WEx.then_ ?_
 refine WCode.seq ?_
 refine WCode.region ?_
 refine WOps.r (G.loada T.agg26_4 rfl (cs := [.int .i64 a0.Clients, .int .i64 a0.Entries, .int .i64 a0.Bytes, .int .i64 a0.Reserve]) (cellsAt.of_blk (S22.blk 2 rfl) rfl)) rfl ?_
 obtain ⟨t26, hc27, hF⟩ := bind_some hF
 refine WOps.call T.call23 (evs_cons rfl evs_nil) rfl ?_
 refine (rc_New_calls k a0 hc27).mono ?_
 rintro _ w28 ⟨v31, G32, rfl, hO33, T29⟩
 have S30 := St.callN (As := []) S22 T29
 change St _ _ _ [G32, G24, [(b7, .cells #[.int .i64 a1.Clients, .int .i64 a1.Entries, .int .i64 a1.Bytes, .int .i64 a1.Reserve] 26 (0, 0))], [(b1, .cells #[.int .i64 a0.Clients, .int .i64 a0.Entries, .int .i64 a0.Bytes, .int .i64 a0.Reserve] 26 (0, 0))]] at S30
 refine ⟨_, rfl, ?_⟩
 refine WOps.p (G.move rfl) rfl ?_
 refine WOps.p (G.extract rfl rfl) rfl ?_
 refine WOps.p (G.extract rfl rfl) rfl ?_
 refine WOps.p (G.assign rfl) rfl ?_
 refine WOps.p (G.assign rfl) rfl ?_
 refine WOps.nil ?_
 refine WEx.then_ ?_
 refine WCode.forget (l' := [(2, .slice A2 a2.length c2), (4, .pointer (some ⟨b7, 0, none⟩)), (7, .bool t13), (8, v23), (9, .int .i64 t18.2), (10, v31), (11, .int .i64 t26.2)]) ⟨rfl, rfl, rfl, rfl, rfl, rfl, rfl, trivial⟩ ?_
 refine WCode.seq ?_
 refine WCode.region ?_
 refine WOps.r (G.loada T.agg26_4 rfl (cs := [.int .i64 a1.Clients, .int .i64 a1.Entries, .int .i64 a1.Bytes, .int .i64 a1.Reserve]) (cellsAt.of_blk (S30.blk 2 rfl) rfl)) rfl ?_
 obtain ⟨t34, hc35, hF⟩ := bind_some hF
 refine WOps.call T.call13 (evs_cons rfl evs_nil) rfl ?_
 refine (ca_New_calls k a1 hc35).mono ?_
 rintro _ w36 ⟨v39, G40, rfl, hO41, T37⟩
 have S38 := St.callN (As := []) S30 T37
 change St _ _ _ [G40, G32, G24, [(b7, .cells #[.int .i64 a1.Clients, .int .i64 a1.Entries, .int .i64 a1.Bytes, .int .i64 a1.Reserve] 26 (0, 0))], [(b1, .cells #[.int .i64 a0.Clients, .int .i64 a0.Entries, .int .i64 a0.Bytes, .int .i64 a0.Reserve] 26 (0, 0))]] at S38
 refine ⟨_, rfl, ?_⟩
 refine WOps.p (G.move rfl) rfl ?_
 refine WOps.p (G.extract rfl rfl) rfl ?_
 refine WOps.p (G.extract rfl rfl) rfl ?_
 refine WOps.p (G.assign rfl) rfl ?_
 refine WOps.p (G.assign rfl) rfl ?_
 refine WOps.nil ?_
 refine WEx.then_ ?_
 refine WCode.seq ?_
 refine WCode.region ?_
 refine WOps.r (G.loada T.agg26_4 rfl (cs := [.int .i64 a1.Clients, .int .i64 a1.Entries, .int .i64 a1.Bytes, .int .i64 a1.Reserve]) (cellsAt.of_blk (S38.blk 3 rfl) rfl)) rfl ?_
 obtain ⟨t42, hc43, hF⟩ := bind_some hF
 refine WOps.call T.call23 (evs_cons rfl evs_nil) rfl ?_
 refine (rc_New_calls k a1 hc43).mono ?_
 rintro _ w44 ⟨v47, G48, rfl, hO49, T45⟩
 have S46 := St.callN (As := []) S38 T45
 change St _ _ _ [G48, G40, G32, G24, [(b7, .cells #[.int .i64 a1.Clients, .int .i64 a1.Entries, .int .i64 a1.Bytes, .int .i64 a1.Reserve] 26 (0, 0))], [(b1, .cells #[.int .i64 a0.Clients, .int .i64 a0.Entries, .int .i64 a0.Bytes, .int .i64 a0.Reserve] 26 (0, 0))]] at S46
 refine ⟨_, rfl, ?_⟩
 refine WOps.p (G.move rfl) rfl ?_
 refine WOps.p (G.extract rfl rfl) rfl ?_
 refine WOps.p (G.extract rfl rfl) rfl ?_
 refine WOps.p (G.assign rfl) rfl ?_
 refine WOps.p (G.assign rfl) rfl ?_
 refine WOps.nil ?_
 refine WEx.then_ ?_
 refine WCode.forget (l' := [(2, .slice A2 a2.length c2), (7, .bool t13), (8, v23), (9, .int .i64 t18.2), (10, v31), (11, .int .i64 t26.2), (12, v39), (13, .int .i64 t34.2), (14, v47), (15, .int .i64 t42.2)]) ⟨rfl, rfl, rfl, rfl, rfl, rfl, rfl, rfl, rfl, rfl, trivial⟩ ?_
 refine WCode.cutseq (fun l_ w_ => ∃ q68 : Nat, ∃ v50 : Value, ∃ o51 : Option Cache, ∃ G52 : Grp, ∃ v54 : Value, ∃ o55 : Option Cache104, ∃ G56 : Grp, ∃ v58 : Value, ∃ o59 : Option Cache, ∃ G60 : Grp, ∃ v62 : Value, ∃ o63 : Option Cache104, ∃ G64 : Grp, l_ = [(2, .slice A2 a2.length c2), (8, v50), (10, v54), (12, v58), (14, v62)] ∧ law_CPlays.j1 q68 a2 o51 o55 o59 o63 = some r_ ∧ (OptO 89 Cache.rp v50 o51 G52) ∧ (OptO 104 Cache104.rp v54 o55 G56) ∧ (OptO 89 Cache.rp v58 o59 G60) ∧ (OptO 104 Cache104.rp v62 o63 G64) ∧ St w (KS []) w_ [G52, G56, G60, G64]) ?_ ?_
 ·
  refine WCode.seq ?_
  refine WCode.region ?_
  refine WOps.p (G.move rfl) rfl ?_
  refine WOps.p (G.not rfl rfl) rfl ?_
  refine WOps.p (G.move rfl) rfl ?_
  rcases ite_some hF with ⟨h70, hF⟩ | ⟨h70, hF⟩
  ·
   refine WOps.on rfl (kbl (b := !t13) rfl (show (!t13) = false from by rw [h70]; rfl)) ?_
   refine WOps.p (G.move rfl) rfl ?_
   refine WOps.on rfl (kbl (b := !t13) rfl (show (!t13) = false from by rw [h70]; rfl)) ?_
   refine WOps.p (G.move rfl) rfl ?_
   refine WOps.on rfl (kbl (b := !t13) rfl (show (!t13) = false from by rw [h70]; rfl)) ?_
   refine WOps.p (G.neq rfl rfl rfl) rfl ?_
   refine WOps.p (G.pick_f (kb (b := !t13) rfl (show (!t13) = false from by rw [h70]; rfl)) rfl) rfl ?_
   refine WOps.p (G.move rfl) rfl ?_
   rcases ite_some hF with ⟨h71, hF⟩ | ⟨h71, hF⟩
   ·
    refine WOps.on rfl (kbl (b := !(decide (t18.2 = t26.2))) rfl (show (!(decide (t18.2 = t26.2))) = false from by rw [(decide_eq_true h71)]; rfl)) ?_
    refine WOps.p (G.move rfl) rfl ?_
    refine WOps.on rfl (kbl (b := !(decide (t18.2 = t26.2))) rfl (show (!(decide (t18.2 = t26.2))) = false from by rw [(decide_eq_true h71)]; rfl)) ?_
    refine WOps.p (G.move rfl) rfl ?_
    refine WOps.on rfl (kbl (b := !(decide (t18.2 = t26.2))) rfl (show (!(decide (t18.2 = t26.2))) = false from by rw [(decide_eq_true h71)]; rfl)) ?_
    refine WOps.p (G.neq rfl rfl rfl) rfl ?_
    refine WOps.p (G.pick_f (kb (b := !(decide (t18.2 = t26.2))) rfl (show (!(decide (t18.2 = t26.2))) = false from by rw [(decide_eq_true h71)]; rfl)) rfl) rfl ?_
    refine WOps.p (G.move rfl) rfl ?_
    rcases ite_some hF with ⟨h72, hF⟩ | ⟨h72, hF⟩
    ·
     refine WOps.on rfl (kbl (b := !(decide (t34.2 = t42.2))) rfl (show (!(decide (t34.2 = t42.2))) = false from by rw [(decide_eq_true h72)]; rfl)) ?_
     refine WOps.p (G.move rfl) rfl ?_
     rcases ite_some hF with ⟨h73, hF⟩ | ⟨h73, hF⟩
     ·
      refine WOps.on rfl (kbl (b := !(decide (t34.2 = t42.2))) rfl (show (!(decide (t34.2 = t42.2))) = false from by rw [(decide_eq_true h72)]; rfl)) ?_
      obtain ⟨x74, hc75, hF⟩ := bind_some hF
      have ho76 := hO25
      rw [hc75] at ho76
      obtain ⟨p77, hv78, hO79⟩ := ho76
      subst hv78
      have S80 := S46.front 3 rfl
      change St _ _ _ [G24, G48, G40, G32, [(b7, .cells #[.int .i64 a1.Clients, .int .i64 a1.Entries, .int .i64 a1.Bytes, .int .i64 a1.Reserve] 26 (0, 0))], [(b1, .cells #[.int .i64 a0.Clients, .int .i64 a0.Entries, .int .i64 a0.Bytes, .int .i64 a0.Reserve] 26 (0, 0))]] at S80
      obtain ⟨cs81, G82, ho83, hg84⟩ := hO79
      obtain ⟨b85, G86, rfl, hO87, hq88⟩ := ho83
      have S89 : St _ _ _ [[(p77, .cells #[.int .i64 x74.config.Clients, .int .i64 x74.config.Entries, .int .i64 x74.config.Bytes, .int .i64 x74.config.Reserve, .map (some b85), .int .i64 x74.entries, .int .i64 x74.bytes] 89 (0, 0))], G86, G48, G40, G32, [(b7, .cells #[.int .i64 a1.Clients, .int .i64 a1.Entries, .int .i64 a1.Bytes, .int .i64 a1.Reserve] 26 (0, 0))], [(b1, .cells #[.int .i64 a0.Clients, .int .i64 a0.Entries, .int .i64 a0.Bytes, .int .i64 a0.Reserve] 26 (0, 0))]] := S80.objs (by rw [hg84, hq88]; simp)
      refine WOps.p (G.eqp_nil Try.underlying28 rfl rfl rfl) rfl ?_
      refine WOps.on rfl (kbl (b := !(decide (t34.2 = t42.2))) rfl (show (!(decide (t34.2 = t42.2))) = false from by rw [(decide_eq_true h72)]; rfl)) ?_
      refine WOps.p (G.move rfl) rfl ?_
      rcases ite_some hF with ⟨h90, hF⟩ | ⟨h90, hF⟩
      ·
       refine WOps.on rfl (kbl (b := !(decide (t34.2 = t42.2))) rfl (show (!(decide (t34.2 = t42.2))) = false from by rw [(decide_eq_true h72)]; rfl)) ?_
       obtain ⟨x91, hc92, hF⟩ := bind_some hF
       have ho93 := hO33
       rw [hc92] at ho93
       obtain ⟨p94, hv95, hO96⟩ := ho93
       subst hv95
       have S97 := S89.front 4 rfl
       change St _ _ _ [G32, [(p77, .cells #[.int .i64 x74.config.Clients, .int .i64 x74.config.Entries, .int .i64 x74.config.Bytes, .int .i64 x74.config.Reserve, .map (some b85), .int .i64 x74.entries, .int .i64 x74.bytes] 89 (0, 0))], G86, G48, G40, [(b7, .cells #[.int .i64 a1.Clients, .int .i64 a1.Entries, .int .i64 a1.Bytes, .int .i64 a1.Reserve] 26 (0, 0))], [(b1, .cells #[.int .i64 a0.Clients, .int .i64 a0.Entries, .int .i64 a0.Bytes, .int .i64 a0.Reserve] 26 (0, 0))]] at S97
       obtain ⟨cs98, G99, ho100, hg101⟩ := hO96
       obtain ⟨A102, c103, G104, A106, c107, G108, rfl, hO105, hO109, hq110⟩ := ho100
       have S111 : St _ _ _ [[(p94, .cells #[.int .i64 x91.C.Clients, .int .i64 x91.C.Entries, .int .i64 x91.C.Bytes, .int .i64 x91.C.Reserve, .slice A102 x91.L.length c103, .slice A106 x91.I.length c107] 104 (0, 0))], G104, G108, [(p77, .cells #[.int .i64 x74.config.Clients, .int .i64 x74.config.Entries, .int .i64 x74.config.Bytes, .int .i64 x74.config.Reserve, .map (some b85), .int .i64 x74.entries, .int .i64 x74.bytes] 89 (0, 0))], G86, G48, G40, [(b7, .cells #[.int .i64 a1.Clients, .int .i64 a1.Entries, .int .i64 a1.Bytes, .int .i64 a1.Reserve] 26 (0, 0))], [(b1, .cells #[.int .i64 a0.Clients, .int .i64 a0.Entries, .int .i64 a0.Bytes, .int .i64 a0.Reserve] 26 (0, 0))]] := S97.objs (by rw [hg101, hq110]; simp)
       refine WOps.p (G.eqp_nil Try.underlying56 rfl rfl rfl) rfl ?_
       refine WOps.on rfl (kbl (b := !(decide (t34.2 = t42.2))) rfl (show (!(decide (t34.2 = t42.2))) = false from by rw [(decide_eq_true h72)]; rfl)) ?_
       refine WOps.p (G.neqb Try.underlying4 rfl rfl rfl) rfl ?_
       refine WOps.p (G.pick_f (kb (b := !(decide (t34.2 = t42.2))) rfl (show (!(decide (t34.2 = t42.2))) = false from by rw [(decide_eq_true h72)]; rfl)) rfl) rfl ?_
       refine WOps.p (G.move rfl) rfl ?_
       refine WOps.on rfl rfl ?_
       refine WOps.p (G.move rfl) rfl ?_
       rcases ite_some hF with ⟨h112, hF⟩ | ⟨h112, hF⟩
       ·
        refine WOps.on rfl rfl ?_
        obtain ⟨x113, hc114, hF⟩ := bind_some hF
        have ho115 := hO41
        rw [hc114] at ho115
        obtain ⟨p116, hv117, hO118⟩ := ho115
        subst hv117
        have S119 := S111.front 6 rfl
        change St _ _ _ [G40, [(p94, .cells #[.int .i64 x91.C.Clients, .int .i64 x91.C.Entries, .int .i64 x91.C.Bytes, .int .i64 x91.C.Reserve, .slice A102 x91.L.length c103, .slice A106 x91.I.length c107] 104 (0, 0))], G104, G108, [(p77, .cells #[.int .i64 x74.config.Clients, .int .i64 x74.config.Entries, .int .i64 x74.config.Bytes, .int .i64 x74.config.Reserve, .map (some b85), .int .i64 x74.entries, .int .i64 x74.bytes] 89 (0, 0))], G86, G48, [(b7, .cells #[.int .i64 a1.Clients, .int .i64 a1.Entries, .int .i64 a1.Bytes, .int .i64 a1.Reserve] 26 (0, 0))], [(b1, .cells #[.int .i64 a0.Clients, .int .i64 a0.Entries, .int .i64 a0.Bytes, .int .i64 a0.Reserve] 26 (0, 0))]] at S119
        obtain ⟨cs120, G121, ho122, hg123⟩ := hO118
        obtain ⟨b124, G125, rfl, hO126, hq127⟩ := ho122
        have S128 : St _ _ _ [[(p116, .cells #[.int .i64 x113.config.Clients, .int .i64 x113.config.Entries, .int .i64 x113.config.Bytes, .int .i64 x113.config.Reserve, .map (some b124), .int .i64 x113.entries, .int .i64 x113.bytes] 89 (0, 0))], G125, [(p94, .cells #[.int .i64 x91.C.Clients, .int .i64 x91.C.Entries, .int .i64 x91.C.Bytes, .int .i64 x91.C.Reserve, .slice A102 x91.L.length c103, .slice A106 x91.I.length c107] 104 (0, 0))], G104, G108, [(p77, .cells #[.int .i64 x74.config.Clients, .int .i64 x74.config.Entries, .int .i64 x74.config.Bytes, .int .i64 x74.config.Reserve, .map (some b85), .int .i64 x74.entries, .int .i64 x74.bytes] 89 (0, 0))], G86, G48, [(b7, .cells #[.int .i64 a1.Clients, .int .i64 a1.Entries, .int .i64 a1.Bytes, .int .i64 a1.Reserve] 26 (0, 0))], [(b1, .cells #[.int .i64 a0.Clients, .int .i64 a0.Entries, .int .i64 a0.Bytes, .int .i64 a0.Reserve] 26 (0, 0))]] := S119.objs (by rw [hg123, hq127]; simp)
        refine WOps.p (G.eqp_nil Try.underlying28 rfl rfl rfl) rfl ?_
        refine WOps.on rfl rfl ?_
        refine WOps.p (G.move rfl) rfl ?_
        rcases ite_some hF with ⟨h129, hF⟩ | ⟨h129, hF⟩
        ·
         refine WOps.on rfl rfl ?_
         obtain ⟨x130, hc131, hF⟩ := bind_some hF
         have ho132 := hO49
         rw [hc131] at ho132
         obtain ⟨p133, hv134, hO135⟩ := ho132
         subst hv134
         have S136 := S128.front 7 rfl
         change St _ _ _ [G48, [(p116, .cells #[.int .i64 x113.config.Clients, .int .i64 x113.config.Entries, .int .i64 x113.config.Bytes, .int .i64 x113.config.Reserve, .map (some b124), .int .i64 x113.entries, .int .i64 x113.bytes] 89 (0, 0))], G125, [(p94, .cells #[.int .i64 x91.C.Clients, .int .i64 x91.C.Entries, .int .i64 x91.C.Bytes, .int .i64 x91.C.Reserve, .slice A102 x91.L.length c103, .slice A106 x91.I.length c107] 104 (0, 0))], G104, G108, [(p77, .cells #[.int .i64 x74.config.Clients, .int .i64 x74.config.Entries, .int .i64 x74.config.Bytes, .int .i64 x74.config.Reserve, .map (some b85), .int .i64 x74.entries, .int .i64 x74.bytes] 89 (0, 0))], G86, [(b7, .cells #[.int .i64 a1.Clients, .int .i64 a1.Entries, .int .i64 a1.Bytes, .int .i64 a1.Reserve] 26 (0, 0))], [(b1, .cells #[.int .i64 a0.Clients, .int .i64 a0.Entries, .int .i64 a0.Bytes, .int .i64 a0.Reserve] 26 (0, 0))]] at S136
         obtain ⟨cs137, G138, ho139, hg140⟩ := hO135
         obtain ⟨A141, c142, G143, A145, c146, G147, rfl, hO144, hO148, hq149⟩ := ho139
         have S150 : St _ _ _ [[(p133, .cells #[.int .i64 x130.C.Clients, .int .i64 x130.C.Entries, .int .i64 x130.C.Bytes, .int .i64 x130.C.Reserve, .slice A141 x130.L.length c142, .slice A145 x130.I.length c146] 104 (0, 0))], G143, G147, [(p116, .cells #[.int .i64 x113.config.Clients, .int .i64 x113.config.Entries, .int .i64 x113.config.Bytes, .int .i64 x113.config.Reserve, .map (some b124), .int .i64 x113.entries, .int .i64 x113.bytes] 89 (0, 0))], G125, [(p94, .cells #[.int .i64 x91.C.Clients, .int .i64 x91.C.Entries, .int .i64 x91.C.Bytes, .int .i64 x91.C.Reserve, .slice A102 x91.L.length c103, .slice A106 x91.I.length c107] 104 (0, 0))], G104, G108, [(p77, .cells #[.int .i64 x74.config.Clients, .int .i64 x74.config.Entries, .int .i64 x74.config.Bytes, .int .i64 x74.config.Reserve, .map (some b85), .int .i64 x74.entries, .int .i64 x74.bytes] 89 (0, 0))], G86, [(b7, .cells #[.int .i64 a1.Clients, .int .i64 a1.Entries, .int .i64 a1.Bytes, .int .i64 a1.Reserve] 26 (0, 0))], [(b1, .cells #[.int .i64 a0.Clients, .int .i64 a0.Entries, .int .i64 a0.Bytes, .int .i64 a0.Reserve] 26 (0, 0))]] := S136.objs (by rw [hg140, hq149]; simp)
         refine WOps.p (G.eqp_nil Try.underlying56 rfl rfl rfl) rfl ?_
         refine WOps.on rfl rfl ?_
         refine WOps.p (G.neqb Try.underlying4 rfl rfl rfl) rfl ?_
         refine WOps.p (G.pick_f rfl rfl) rfl ?_
         refine WOps.nil ?_
         refine WEx.then_ ?_
         refine WCode.forget (l' := [(2, .slice A2 a2.length c2), (8, .pointer (some ⟨p77, 0, none⟩)), (10, .pointer (some ⟨p94, 0, none⟩)), (12, .pointer (some ⟨p116, 0, none⟩)), (14, .pointer (some ⟨p133, 0, none⟩)), (72, .bool false)]) ⟨rfl, rfl, rfl, rfl, rfl, rfl, trivial⟩ ?_
         refine WCode.cond_f rfl ?_
         refine WCode.skip ?_
         have S151 := (S150.front 9 rfl).front 9 rfl
         change St _ _ _ [[(p77, .cells #[.int .i64 x74.config.Clients, .int .i64 x74.config.Entries, .int .i64 x74.config.Bytes, .int .i64 x74.config.Reserve, .map (some b85), .int .i64 x74.entries, .int .i64 x74.bytes] 89 (0, 0))], G86, [(p133, .cells #[.int .i64 x130.C.Clients, .int .i64 x130.C.Entries, .int .i64 x130.C.Bytes, .int .i64 x130.C.Reserve, .slice A141 x130.L.length c142, .slice A145 x130.I.length c146] 104 (0, 0))], G143, G147, [(p116, .cells #[.int .i64 x113.config.Clients, .int .i64 x113.config.Entries, .int .i64 x113.config.Bytes, .int .i64 x113.config.Reserve, .map (some b124), .int .i64 x113.entries, .int .i64 x113.bytes] 89 (0, 0))], G125, [(p94, .cells #[.int .i64 x91.C.Clients, .int .i64 x91.C.Entries, .int .i64 x91.C.Bytes, .int .i64 x91.C.Reserve, .slice A102 x91.L.length c103, .slice A106 x91.I.length c107] 104 (0, 0))], G104, G108, [(b7, .cells #[.int .i64 a1.Clients, .int .i64 a1.Entries, .int .i64 a1.Bytes, .int .i64 a1.Reserve] 26 (0, 0))], [(b1, .cells #[.int .i64 a0.Clients, .int .i64 a0.Entries, .int .i64 a0.Bytes, .int .i64 a0.Reserve] 26 (0, 0))]] at S151
         have hO152 : ObjO 89 Cache.rp p77 x74 ([(p77, .cells #[.int .i64 x74.config.Clients, .int .i64 x74.config.Entries, .int .i64 x74.config.Bytes, .int .i64 x74.config.Reserve, .map (some b85), .int .i64 x74.entries, .int .i64 x74.bytes] 89 (0, 0))] ++ (G86)) := ⟨_, _, ⟨b85, G86, rfl, hO87, rfl⟩, rfl⟩
         have S153 : St _ _ _ [[(p77, .cells #[.int .i64 x74.config.Clients, .int .i64 x74.config.Entries, .int .i64 x74.config.Bytes, .int .i64 x74.config.Reserve, .map (some b85), .int .i64 x74.entries, .int .i64 x74.bytes] 89 (0, 0))] ++ (G86), [(p133, .cells #[.int .i64 x130.C.Clients, .int .i64 x130.C.Entries, .int .i64 x130.C.Bytes, .int .i64 x130.C.Reserve, .slice A141 x130.L.length c142, .slice A145 x130.I.length c146] 104 (0, 0))], G143, G147, [(p116, .cells #[.int .i64 x113.config.Clients, .int .i64 x113.config.Entries, .int .i64 x113.config.Bytes, .int .i64 x113.config.Reserve, .map (some b124), .int .i64 x113.entries, .int .i64 x113.bytes] 89 (0, 0))], G125, [(p94, .cells #[.int .i64 x91.C.Clients, .int .i64 x91.C.Entries, .int .i64 x91.C.Bytes, .int .i64 x91.C.Reserve, .slice A102 x91.L.length c103, .slice A106 x91.I.length c107] 104 (0, 0))], G104, G108, [(b7, .cells #[.int .i64 a1.Clients, .int .i64 a1.Entries, .int .i64 a1.Bytes, .int .i64 a1.Reserve] 26 (0, 0))], [(b1, .cells #[.int .i64 a0.Clients, .int .i64 a0.Entries, .int .i64 a0.Bytes, .int .i64 a0.Reserve] 26 (0, 0))]] := S151.objs (by simp)
         have S154 := ((S153.front 8 rfl).front 8 rfl).front 8 rfl
         change St _ _ _ [[(p94, .cells #[.int .i64 x91.C.Clients, .int .i64 x91.C.Entries, .int .i64 x91.C.Bytes, .int .i64 x91.C.Reserve, .slice A102 x91.L.length c103, .slice A106 x91.I.length c107] 104 (0, 0))], G104, G108, [(p77, .cells #[.int .i64 x74.config.Clients, .int .i64 x74.config.Entries, .int .i64 x74.config.Bytes, .int .i64 x74.config.Reserve, .map (some b85), .int .i64 x74.entries, .int .i64 x74.bytes] 89 (0, 0))] ++ (G86), [(p133, .cells #[.int .i64 x130.C.Clients, .int .i64 x130.C.Entries, .int .i64 x130.C.Bytes, .int .i64 x130.C.Reserve, .slice A141 x130.L.length c142, .slice A145 x130.I.length c146] 104 (0, 0))], G143, G147, [(p116, .cells #[.int .i64 x113.config.Clients, .int .i64 x113.config.Entries, .int .i64 x113.config.Bytes, .int .i64 x113.config.Reserve, .map (some b124), .int .i64 x113.entries, .int .i64 x113.bytes] 89 (0, 0))], G125, [(b7, .cells #[.int .i64 a1.Clients, .int .i64 a1.Entries, .int .i64 a1.Bytes, .int .i64 a1.Reserve] 26 (0, 0))], [(b1, .cells #[.int .i64 a0.Clients, .int .i64 a0.Entries, .int .i64 a0.Bytes, .int .i64 a0.Reserve] 26 (0, 0))]] at S154
         have hO155 : ObjO 104 Cache104.rp p94 x91 ([(p94, .cells #[.int .i64 x91.C.Clients, .int .i64 x91.C.Entries, .int .i64 x91.C.Bytes, .int .i64 x91.C.Reserve, .slice A102 x91.L.length c103, .slice A106 x91.I.length c107] 104 (0, 0))] ++ (G104 ++ (G108))) := ⟨_, _, ⟨A102, c103, G104, A106, c107, G108, rfl, hO105, hO109, rfl⟩, rfl⟩
         have S156 : St _ _ _ [[(p94, .cells #[.int .i64 x91.C.Clients, .int .i64 x91.C.Entries, .int .i64 x91.C.Bytes, .int .i64 x91.C.Reserve, .slice A102 x91.L.length c103, .slice A106 x91.I.length c107] 104 (0, 0))] ++ (G104 ++ (G108)), [(p77, .cells #[.int .i64 x74.config.Clients, .int .i64 x74.config.Entries, .int .i64 x74.config.Bytes, .int .i64 x74.config.Reserve, .map (some b85), .int .i64 x74.entries, .int .i64 x74.bytes] 89 (0, 0))] ++ (G86), [(p133, .cells #[.int .i64 x130.C.Clients, .int .i64 x130.C.Entries, .int .i64 x130.C.Bytes, .int .i64 x130.C.Reserve, .slice A141 x130.L.length c142, .slice A145 x130.I.length c146] 104 (0, 0))], G143, G147, [(p116, .cells #[.int .i64 x113.config.Clients, .int .i64 x113.config.Entries, .int .i64 x113.config.Bytes, .int .i64 x113.config.Reserve, .map (some b124), .int .i64 x113.entries, .int .i64 x113.bytes] 89 (0, 0))], G125, [(b7, .cells #[.int .i64 a1.Clients, .int .i64 a1.Entries, .int .i64 a1.Bytes, .int .i64 a1.Reserve] 26 (0, 0))], [(b1, .cells #[.int .i64 a0.Clients, .int .i64 a0.Entries, .int .i64 a0.Bytes, .int .i64 a0.Reserve] 26 (0, 0))]] := S154.objs (by simp)
         have S157 := (S156.front 6 rfl).front 6 rfl
         change St _ _ _ [[(p116, .cells #[.int .i64 x113.config.Clients, .int .i64 x113.config.Entries, .int .i64 x113.config.Bytes, .int .i64 x113.config.Reserve, .map (some b124), .int .i64 x113.entries, .int .i64 x113.bytes] 89 (0, 0))], G125, [(p94, .cells #[.int .i64 x91.C.Clients, .int .i64 x91.C.Entries, .int .i64 x91.C.Bytes, .int .i64 x91.C.Reserve, .slice A102 x91.L.length c103, .slice A106 x91.I.length c107] 104 (0, 0))] ++ (G104 ++ (G108)), [(p77, .cells #[.int .i64 x74.config.Clients, .int .i64 x74.config.Entries, .int .i64 x74.config.Bytes, .int .i64 x74.config.Reserve, .map (some b85), .int .i64 x74.entries, .int .i64 x74.bytes] 89 (0, 0))] ++ (G86), [(p133, .cells #[.int .i64 x130.C.Clients, .int .i64 x130.C.Entries, .int .i64 x130.C.Bytes, .int .i64 x130.C.Reserve, .slice A141 x130.L.length c142, .slice A145 x130.I.length c146] 104 (0, 0))], G143, G147, [(b7, .cells #[.int .i64 a1.Clients, .int .i64 a1.Entries, .int .i64 a1.Bytes, .int .i64 a1.Reserve] 26 (0, 0))], [(b1, .cells #[.int .i64 a0.Clients, .int .i64 a0.Entries, .int .i64 a0.Bytes, .int .i64 a0.Reserve] 26 (0, 0))]] at S157
         have hO158 : ObjO 89 Cache.rp p116 x113 ([(p116, .cells #[.int .i64 x113.config.Clients, .int .i64 x113.config.Entries, .int .i64 x113.config.Bytes, .int .i64 x113.config.Reserve, .map (some b124), .int .i64 x113.entries, .int .i64 x113.bytes] 89 (0, 0))] ++ (G125)) := ⟨_, _, ⟨b124, G125, rfl, hO126, rfl⟩, rfl⟩
         have S159 : St _ _ _ [[(p116, .cells #[.int .i64 x113.config.Clients, .int .i64 x113.config.Entries, .int .i64 x113.config.Bytes, .int .i64 x113.config.Reserve, .map (some b124), .int .i64 x113.entries, .int .i64 x113.bytes] 89 (0, 0))] ++ (G125), [(p94, .cells #[.int .i64 x91.C.Clients, .int .i64 x91.C.Entries, .int .i64 x91.C.Bytes, .int .i64 x91.C.Reserve, .slice A102 x91.L.length c103, .slice A106 x91.I.length c107] 104 (0, 0))] ++ (G104 ++ (G108)), [(p77, .cells #[.int .i64 x74.config.Clients, .int .i64 x74.config.Entries, .int .i64 x74.config.Bytes, .int .i64 x74.config.Reserve, .map (some b85), .int .i64 x74.entries, .int .i64 x74.bytes] 89 (0, 0))] ++ (G86), [(p133, .cells #[.int .i64 x130.C.Clients, .int .i64 x130.C.Entries, .int .i64 x130.C.Bytes, .int .i64 x130.C.Reserve, .slice A141 x130.L.length c142, .slice A145 x130.I.length c146] 104 (0, 0))], G143, G147, [(b7, .cells #[.int .i64 a1.Clients, .int .i64 a1.Entries, .int .i64 a1.Bytes, .int .i64 a1.Reserve] 26 (0, 0))], [(b1, .cells #[.int .i64 a0.Clients, .int .i64 a0.Entries, .int .i64 a0.Bytes, .int .i64 a0.Reserve] 26 (0, 0))]] := S157.objs (by simp)
         have S160 := ((S159.front 5 rfl).front 5 rfl).front 5 rfl
         change St _ _ _ [[(p133, .cells #[.int .i64 x130.C.Clients, .int .i64 x130.C.Entries, .int .i64 x130.C.Bytes, .int .i64 x130.C.Reserve, .slice A141 x130.L.length c142, .slice A145 x130.I.length c146] 104 (0, 0))], G143, G147, [(p116, .cells #[.int .i64 x113.config.Clients, .int .i64 x113.config.Entries, .int .i64 x113.config.Bytes, .int .i64 x113.config.Reserve, .map (some b124), .int .i64 x113.entries, .int .i64 x113.bytes] 89 (0, 0))] ++ (G125), [(p94, .cells #[.int .i64 x91.C.Clients, .int .i64 x91.C.Entries, .int .i64 x91.C.Bytes, .int .i64 x91.C.Reserve, .slice A102 x91.L.length c103, .slice A106 x91.I.length c107] 104 (0, 0))] ++ (G104 ++ (G108)), [(p77, .cells #[.int .i64 x74.config.Clients, .int .i64 x74.config.Entries, .int .i64 x74.config.Bytes, .int .i64 x74.config.Reserve, .map (some b85), .int .i64 x74.entries, .int .i64 x74.bytes] 89 (0, 0))] ++ (G86), [(b7, .cells #[.int .i64 a1.Clients, .int .i64 a1.Entries, .int .i64 a1.Bytes, .int .i64 a1.Reserve] 26 (0, 0))], [(b1, .cells #[.int .i64 a0.Clients, .int .i64 a0.Entries, .int .i64 a0.Bytes, .int .i64 a0.Reserve] 26 (0, 0))]] at S160
         have hO161 : ObjO 104 Cache104.rp p133 x130 ([(p133, .cells #[.int .i64 x130.C.Clients, .int .i64 x130.C.Entries, .int .i64 x130.C.Bytes, .int .i64 x130.C.Reserve, .slice A141 x130.L.length c142, .slice A145 x130.I.length c146] 104 (0, 0))] ++ (G143 ++ (G147))) := ⟨_, _, ⟨A141, c142, G143, A145, c146, G147, rfl, hO144, hO148, rfl⟩, rfl⟩
         have S162 : St _ _ _ [[(p133, .cells #[.int .i64 x130.C.Clients, .int .i64 x130.C.Entries, .int .i64 x130.C.Bytes, .int .i64 x130.C.Reserve, .slice A141 x130.L.length c142, .slice A145 x130.I.length c146] 104 (0, 0))] ++ (G143 ++ (G147)), [(p116, .cells #[.int .i64 x113.config.Clients, .int .i64 x113.config.Entries, .int .i64 x113.config.Bytes, .int .i64 x113.config.Reserve, .map (some b124), .int .i64 x113.entries, .int .i64 x113.bytes] 89 (0, 0))] ++ (G125), [(p94, .cells #[.int .i64 x91.C.Clients, .int .i64 x91.C.Entries, .int .i64 x91.C.Bytes, .int .i64 x91.C.Reserve, .slice A102 x91.L.length c103, .slice A106 x91.I.length c107] 104 (0, 0))] ++ (G104 ++ (G108)), [(p77, .cells #[.int .i64 x74.config.Clients, .int .i64 x74.config.Entries, .int .i64 x74.config.Bytes, .int .i64 x74.config.Reserve, .map (some b85), .int .i64 x74.entries, .int .i64 x74.bytes] 89 (0, 0))] ++ (G86), [(b7, .cells #[.int .i64 a1.Clients, .int .i64 a1.Entries, .int .i64 a1.Bytes, .int .i64 a1.Reserve] 26 (0, 0))], [(b1, .cells #[.int .i64 a0.Clients, .int .i64 a0.Entries, .int .i64 a0.Bytes, .int .i64 a0.Reserve] 26 (0, 0))]] := S160.objs (by simp)
         have S163 := ((S162.front 1 rfl).front 2 rfl).front 3 rfl
         change St _ _ _ [[(p77, .cells #[.int .i64 x74.config.Clients, .int .i64 x74.config.Entries, .int .i64 x74.config.Bytes, .int .i64 x74.config.Reserve, .map (some b85), .int .i64 x74.entries, .int .i64 x74.bytes] 89 (0, 0))] ++ (G86), [(p94, .cells #[.int .i64 x91.C.Clients, .int .i64 x91.C.Entries, .int .i64 x91.C.Bytes, .int .i64 x91.C.Reserve, .slice A102 x91.L.length c103, .slice A106 x91.I.length c107] 104 (0, 0))] ++ (G104 ++ (G108)), [(p116, .cells #[.int .i64 x113.config.Clients, .int .i64 x113.config.Entries, .int .i64 x113.config.Bytes, .int .i64 x113.config.Reserve, .map (some b124), .int .i64 x113.entries, .int .i64 x113.bytes] 89 (0, 0))] ++ (G125), [(p133, .cells #[.int .i64 x130.C.Clients, .int .i64 x130.C.Entries, .int .i64 x130.C.Bytes, .int .i64 x130.C.Reserve, .slice A141 x130.L.length c142, .slice A145 x130.I.length c146] 104 (0, 0))] ++ (G143 ++ (G147)), [(b7, .cells #[.int .i64 a1.Clients, .int .i64 a1.Entries, .int .i64 a1.Bytes, .int .i64 a1.Reserve] 26 (0, 0))], [(b1, .cells #[.int .i64 a0.Clients, .int .i64 a0.Entries, .int .i64 a0.Bytes, .int .i64 a0.Reserve] 26 (0, 0))]] at S163
         have S164 := St.keep (As := [[(p77, .cells #[.int .i64 x74.config.Clients, .int .i64 x74.config.Entries, .int .i64 x74.config.Bytes, .int .i64 x74.config.Reserve, .map (some b85), .int .i64 x74.entries, .int .i64 x74.bytes] 89 (0, 0))] ++ (G86), [(p94, .cells #[.int .i64 x91.C.Clients, .int .i64 x91.C.Entries, .int .i64 x91.C.Bytes, .int .i64 x91.C.Reserve, .slice A102 x91.L.length c103, .slice A106 x91.I.length c107] 104 (0, 0))] ++ (G104 ++ (G108)), [(p116, .cells #[.int .i64 x113.config.Clients, .int .i64 x113.config.Entries, .int .i64 x113.config.Bytes, .int .i64 x113.config.Reserve, .map (some b124), .int .i64 x113.entries, .int .i64 x113.bytes] 89 (0, 0))] ++ (G125), [(p133, .cells #[.int .i64 x130.C.Clients, .int .i64 x130.C.Entries, .int .i64 x130.C.Bytes, .int .i64 x130.C.Reserve, .slice A141 x130.L.length c142, .slice A145 x130.I.length c146] 104 (0, 0))] ++ (G143 ++ (G147))]) S163
         refine WEx.cutend _ ?_ ⟨k, (.pointer (some ⟨p77, 0, none⟩)), (some x74), [(p77, .cells #[.int .i64 x74.config.Clients, .int .i64 x74.config.Entries, .int .i64 x74.config.Bytes, .int .i64 x74.config.Reserve, .map (some b85), .int .i64 x74.entries, .int .i64 x74.bytes] 89 (0, 0))] ++ (G86), (.pointer (some ⟨p94, 0, none⟩)), (some x91), [(p94, .cells #[.int .i64 x91.C.Clients, .int .i64 x91.C.Entries, .int .i64 x91.C.Bytes, .int .i64 x91.C.Reserve, .slice A102 x91.L.length c103, .slice A106 x91.I.length c107] 104 (0, 0))] ++ (G104 ++ (G108)), (.pointer (some ⟨p116, 0, none⟩)), (some x113), [(p116, .cells #[.int .i64 x113.config.Clients, .int .i64 x113.config.Entries, .int .i64 x113.config.Bytes, .int .i64 x113.config.Reserve, .map (some b124), .int .i64 x113.entries, .int .i64 x113.bytes] 89 (0, 0))] ++ (G125), (.pointer (some ⟨p133, 0, none⟩)), (some x130), [(p133, .cells #[.int .i64 x130.C.Clients, .int .i64 x130.C.Entries, .int .i64 x130.C.Bytes, .int .i64 x130.C.Reserve, .slice A141 x130.L.length c142, .slice A145 x130.I.length c146] 104 (0, 0))] ++ (G143 ++ (G147)), rfl, hF, ⟨_, rfl, hO152⟩, ⟨_, rfl, hO155⟩, ⟨_, rfl, hO158⟩, ⟨_, rfl, hO161⟩, S164⟩
         exact ⟨rfl, rfl, rfl, rfl, rfl, trivial⟩
        ·
         refine WOps.on rfl rfl ?_
         have hn166 := Option.not_isSome_iff_eq_none.1 h129
         have ho165 := hO49
         rw [hn166] at ho165
         obtain ⟨hv167, hg168⟩ := ho165
         subst hv167
         have S170 := S128.front 7 rfl
         change St _ _ _ [G48, [(p116, .cells #[.int .i64 x113.config.Clients, .int .i64 x113.config.Entries, .int .i64 x113.config.Bytes, .int .i64 x113.config.Reserve, .map (some b124), .int .i64 x113.entries, .int .i64 x113.bytes] 89 (0, 0))], G125, [(p94, .cells #[.int .i64 x91.C.Clients, .int .i64 x91.C.Entries, .int .i64 x91.C.Bytes, .int .i64 x91.C.Reserve, .slice A102 x91.L.length c103, .slice A106 x91.I.length c107] 104 (0, 0))], G104, G108, [(p77, .cells #[.int .i64 x74.config.Clients, .int .i64 x74.config.Entries, .int .i64 x74.config.Bytes, .int .i64 x74.config.Reserve, .map (some b85), .int .i64 x74.entries, .int .i64 x74.bytes] 89 (0, 0))], G86, [(b7, .cells #[.int .i64 a1.Clients, .int .i64 a1.Entries, .int .i64 a1.Bytes, .int .i64 a1.Reserve] 26 (0, 0))], [(b1, .cells #[.int .i64 a0.Clients, .int .i64 a0.Entries, .int .i64 a0.Bytes, .int .i64 a0.Reserve] 26 (0, 0))]] at S170
         have S169 : St _ _ _ [[(p116, .cells #[.int .i64 x113.config.Clients, .int .i64 x113.config.Entries, .int .i64 x113.config.Bytes, .int .i64 x113.config.Reserve, .map (some b124), .int .i64 x113.entries, .int .i64 x113.bytes] 89 (0, 0))], G125, [(p94, .cells #[.int .i64 x91.C.Clients, .int .i64 x91.C.Entries, .int .i64 x91.C.Bytes, .int .i64 x91.C.Reserve, .slice A102 x91.L.length c103, .slice A106 x91.I.length c107] 104 (0, 0))], G104, G108, [(p77, .cells #[.int .i64 x74.config.Clients, .int .i64 x74.config.Entries, .int .i64 x74.config.Bytes, .int .i64 x74.config.Reserve, .map (some b85), .int .i64 x74.entries, .int .i64 x74.bytes] 89 (0, 0))], G86, [(b7, .cells #[.int .i64 a1.Clients, .int .i64 a1.Entries, .int .i64 a1.Bytes, .int .i64 a1.Reserve] 26 (0, 0))], [(b1, .cells #[.int .i64 a0.Clients, .int .i64 a0.Entries, .int .i64 a0.Bytes, .int .i64 a0.Reserve] 26 (0, 0))]] := S170.objs (by rw [hg168]; simp)
         refine WOps.p (G.eqp_nil Try.underlying56 rfl rfl rfl) rfl ?_
         refine WOps.on rfl rfl ?_
         refine WOps.p (G.neqb Try.underlying4 rfl rfl rfl) rfl ?_
         refine WOps.p (G.pick_f rfl rfl) rfl ?_
         refine WOps.nil ?_
         refine WEx.then_ ?_
         refine WCode.forget (l' := [(2, .slice A2 a2.length c2), (8, .pointer (some ⟨p77, 0, none⟩)), (10, .pointer (some ⟨p94, 0, none⟩)), (12, .pointer (some ⟨p116, 0, none⟩)), (14, .pointer none), (72, .bool true)]) ⟨rfl, rfl, rfl, rfl, rfl, rfl, trivial⟩ ?_
         refine WCode.cond_t rfl ?_
         refine WCode.seq ?_
         refine WCode.region ?_
         refine WOps.p (G.assign rfl) rfl ?_
         refine WOps.nil ?_
         refine WEx.then_ ?_
         refine WCode.ret ?_
         refine WEx.then_ret ?_
         obtain rfl := some_eq hF
         refine WEx.ret1 rfl rfl ?_
         exact ⟨rfl, St.keep (As := []) S169⟩
       ·
        refine WOps.on rfl rfl ?_
        have hn172 := Option.not_isSome_iff_eq_none.1 h112
        have ho171 := hO41
        rw [hn172] at ho171
        obtain ⟨hv173, hg174⟩ := ho171
        subst hv173
        have S176 := S111.front 6 rfl
        change St _ _ _ [G40, [(p94, .cells #[.int .i64 x91.C.Clients, .int .i64 x91.C.Entries, .int .i64 x91.C.Bytes, .int .i64 x91.C.Reserve, .slice A102 x91.L.length c103, .slice A106 x91.I.length c107] 104 (0, 0))], G104, G108, [(p77, .cells #[.int .i64 x74.config.Clients, .int .i64 x74.config.Entries, .int .i64 x74.config.Bytes, .int .i64 x74.config.Reserve, .map (some b85), .int .i64 x74.entries, .int .i64 x74.bytes] 89 (0, 0))], G86, G48, [(b7, .cells #[.int .i64 a1.Clients, .int .i64 a1.Entries, .int .i64 a1.Bytes, .int .i64 a1.Reserve] 26 (0, 0))], [(b1, .cells #[.int .i64 a0.Clients, .int .i64 a0.Entries, .int .i64 a0.Bytes, .int .i64 a0.Reserve] 26 (0, 0))]] at S176
        have S175 : St _ _ _ [[(p94, .cells #[.int .i64 x91.C.Clients, .int .i64 x91.C.Entries, .int .i64 x91.C.Bytes, .int .i64 x91.C.Reserve, .slice A102 x91.L.length c103, .slice A106 x91.I.length c107] 104 (0, 0))], G104, G108, [(p77, .cells #[.int .i64 x74.config.Clients, .int .i64 x74.config.Entries, .int .i64 x74.config.Bytes, .int .i64 x74.config.Reserve, .map (some b85), .int .i64 x74.entries, .int .i64 x74.bytes] 89 (0, 0))], G86, G48, [(b7, .cells #[.int .i64 a1.Clients, .int .i64 a1.Entries, .int .i64 a1.Bytes, .int .i64 a1.Reserve] 26 (0, 0))], [(b1, .cells #[.int .i64 a0.Clients, .int .i64 a0.Entries, .int .i64 a0.Bytes, .int .i64 a0.Reserve] 26 (0, 0))]] := S176.objs (by rw [hg174]; simp)
        refine WOps.p (G.eqp_nil Try.underlying28 rfl rfl rfl) rfl ?_
        refine WOps.on rfl rfl ?_
        refine WOps.p (G.move rfl) rfl ?_
        rcases ite_some hF with ⟨h177, hF⟩ | ⟨h177, hF⟩
        ·
         refine WOps.on rfl rfl ?_
         obtain ⟨x178, hc179, hF⟩ := bind_some hF
         have ho180 := hO49
         rw [hc179] at ho180
         obtain ⟨p181, hv182, hO183⟩ := ho180
         subst hv182
         have S184 := S175.front 5 rfl
         change St _ _ _ [G48, [(p94, .cells #[.int .i64 x91.C.Clients, .int .i64 x91.C.Entries, .int .i64 x91.C.Bytes, .int .i64 x91.C.Reserve, .slice A102 x91.L.length c103, .slice A106 x91.I.length c107] 104 (0, 0))], G104, G108, [(p77, .cells #[.int .i64 x74.config.Clients, .int .i64 x74.config.Entries, .int .i64 x74.config.Bytes, .int .i64 x74.config.Reserve, .map (some b85), .int .i64 x74.entries, .int .i64 x74.bytes] 89 (0, 0))], G86, [(b7, .cells #[.int .i64 a1.Clients, .int .i64 a1.Entries, .int .i64 a1.Bytes, .int .i64 a1.Reserve] 26 (0, 0))], [(b1, .cells #[.int .i64 a0.Clients, .int .i64 a0.Entries, .int .i64 a0.Bytes, .int .i64 a0.Reserve] 26 (0, 0))]] at S184
         obtain ⟨cs185, G186, ho187, hg188⟩ := hO183
         obtain ⟨A189, c190, G191, A193, c194, G195, rfl, hO192, hO196, hq197⟩ := ho187
         have S198 : St _ _ _ [[(p181, .cells #[.int .i64 x178.C.Clients, .int .i64 x178.C.Entries, .int .i64 x178.C.Bytes, .int .i64 x178.C.Reserve, .slice A189 x178.L.length c190, .slice A193 x178.I.length c194] 104 (0, 0))], G191, G195, [(p94, .cells #[.int .i64 x91.C.Clients, .int .i64 x91.C.Entries, .int .i64 x91.C.Bytes, .int .i64 x91.C.Reserve, .slice A102 x91.L.length c103, .slice A106 x91.I.length c107] 104 (0, 0))], G104, G108, [(p77, .cells #[.int .i64 x74.config.Clients, .int .i64 x74.config.Entries, .int .i64 x74.config.Bytes, .int .i64 x74.config.Reserve, .map (some b85), .int .i64 x74.entries, .int .i64 x74.bytes] 89 (0, 0))], G86, [(b7, .cells #[.int .i64 a1.Clients, .int .i64 a1.Entries, .int .i64 a1.Bytes, .int .i64 a1.Reserve] 26 (0, 0))], [(b1, .cells #[.int .i64 a0.Clients, .int .i64 a0.Entries, .int .i64 a0.Bytes, .int .i64 a0.Reserve] 26 (0, 0))]] := S184.objs (by rw [hg188, hq197]; simp)
         refine WOps.p (G.eqp_nil Try.underlying56 rfl rfl rfl) rfl ?_
         refine WOps.on rfl rfl ?_
         refine WOps.p (G.neqb Try.underlying4 rfl rfl rfl) rfl ?_
         refine WOps.p (G.pick_f rfl rfl) rfl ?_
         refine WOps.nil ?_
         refine WEx.then_ ?_
         refine WCode.forget (l' := [(2, .slice A2 a2.length c2), (8, .pointer (some ⟨p77, 0, none⟩)), (10, .pointer (some ⟨p94, 0, none⟩)), (12, .pointer none), (14, .pointer (some ⟨p181, 0, none⟩)), (72, .bool true)]) ⟨rfl, rfl, rfl, rfl, rfl, rfl, trivial⟩ ?_
         refine WCode.cond_t rfl ?_
         refine WCode.seq ?_
         refine WCode.region ?_
         refine WOps.p (G.assign rfl) rfl ?_
         refine WOps.nil ?_
         refine WEx.then_ ?_
         refine WCode.ret ?_
         refine WEx.then_ret ?_
         obtain rfl := some_eq hF
         refine WEx.ret1 rfl rfl ?_
         exact ⟨rfl, St.keep (As := []) S198⟩
        ·
         refine WOps.on rfl rfl ?_
         have hn200 := Option.not_isSome_iff_eq_none.1 h177
         have ho199 := hO49
         rw [hn200] at ho199
         obtain ⟨hv201, hg202⟩ := ho199
         subst hv201
         have S204 := S175.front 5 rfl
         change St _ _ _ [G48, [(p94, .cells #[.int .i64 x91.C.Clients, .int .i64 x91.C.Entries, .int .i64 x91.C.Bytes, .int .i64 x91.C.Reserve, .slice A102 x91.L.length c103, .slice A106 x91.I.length c107] 104 (0, 0))], G104, G108, [(p77, .cells #[.int .i64 x74.config.Clients, .int .i64 x74.config.Entries, .int .i64 x74.config.Bytes, .int .i64 x74.config.Reserve, .map (some b85), .int .i64 x74.entries, .int .i64 x74.bytes] 89 (0, 0))], G86, [(b7, .cells #[.int .i64 a1.Clients, .int .i64 a1.Entries, .int .i64 a1.Bytes, .int .i64 a1.Reserve] 26 (0, 0))], [(b1, .cells #[.int .i64 a0.Clients, .int .i64 a0.Entries, .int .i64 a0.Bytes, .int .i64 a0.Reserve] 26 (0, 0))]] at S204
         have S203 : St _ _ _ [[(p94, .cells #[.int .i64 x91.C.Clients, .int .i64 x91.C.Entries, .int .i64 x91.C.Bytes, .int .i64 x91.C.Reserve, .slice A102 x91.L.length c103, .slice A106 x91.I.length c107] 104 (0, 0))], G104, G108, [(p77, .cells #[.int .i64 x74.config.Clients, .int .i64 x74.config.Entries, .int .i64 x74.config.Bytes, .int .i64 x74.config.Reserve, .map (some b85), .int .i64 x74.entries, .int .i64 x74.bytes] 89 (0, 0))], G86, [(b7, .cells #[.int .i64 a1.Clients, .int .i64 a1.Entries, .int .i64 a1.Bytes, .int .i64 a1.Reserve] 26 (0, 0))], [(b1, .cells #[.int .i64 a0.Clients, .int .i64 a0.Entries, .int .i64 a0.Bytes, .int .i64 a0.Reserve] 26 (0, 0))]] := S204.objs (by rw [hg202]; simp)
         refine WOps.p (G.eqp_nil Try.underlying56 rfl rfl rfl) rfl ?_
         refine WOps.on rfl rfl ?_
         refine WOps.p (G.neqb Try.underlying4 rfl rfl rfl) rfl ?_
         refine WOps.p (G.pick_f rfl rfl) rfl ?_
         refine WOps.nil ?_
         refine WEx.then_ ?_
         refine WCode.forget (l' := [(2, .slice A2 a2.length c2), (8, .pointer (some ⟨p77, 0, none⟩)), (10, .pointer (some ⟨p94, 0, none⟩)), (12, .pointer none), (14, .pointer none), (72, .bool false)]) ⟨rfl, rfl, rfl, rfl, rfl, rfl, trivial⟩ ?_
         refine WCode.cond_f rfl ?_
         refine WCode.skip ?_
         have S205 := (S203.front 4 rfl).front 4 rfl
         change St _ _ _ [[(p77, .cells #[.int .i64 x74.config.Clients, .int .i64 x74.config.Entries, .int .i64 x74.config.Bytes, .int .i64 x74.config.Reserve, .map (some b85), .int .i64 x74.entries, .int .i64 x74.bytes] 89 (0, 0))], G86, [(p94, .cells #[.int .i64 x91.C.Clients, .int .i64 x91.C.Entries, .int .i64 x91.C.Bytes, .int .i64 x91.C.Reserve, .slice A102 x91.L.length c103, .slice A106 x91.I.length c107] 104 (0, 0))], G104, G108, [(b7, .cells #[.int .i64 a1.Clients, .int .i64 a1.Entries, .int .i64 a1.Bytes, .int .i64 a1.Reserve] 26 (0, 0))], [(b1, .cells #[.int .i64 a0.Clients, .int .i64 a0.Entries, .int .i64 a0.Bytes, .int .i64 a0.Reserve] 26 (0, 0))]] at S205
         have hO206 : ObjO 89 Cache.rp p77 x74 ([(p77, .cells #[.int .i64 x74.config.Clients, .int .i64 x74.config.Entries, .int .i64 x74.config.Bytes, .int .i64 x74.config.Reserve, .map (some b85), .int .i64 x74.entries, .int .i64 x74.bytes] 89 (0, 0))] ++ (G86)) := ⟨_, _, ⟨b85, G86, rfl, hO87, rfl⟩, rfl⟩
         have S207 : St _ _ _ [[(p77, .cells #[.int .i64 x74.config.Clients, .int .i64 x74.config.Entries, .int .i64 x74.config.Bytes, .int .i64 x74.config.Reserve, .map (some b85), .int .i64 x74.entries, .int .i64 x74.bytes] 89 (0, 0))] ++ (G86), [(p94, .cells #[.int .i64 x91.C.Clients, .int .i64 x91.C.Entries, .int .i64 x91.C.Bytes, .int .i64 x91.C.Reserve, .slice A102 x91.L.length c103, .slice A106 x91.I.length c107] 104 (0, 0))], G104, G108, [(b7, .cells #[.int .i64 a1.Clients, .int .i64 a1.Entries, .int .i64 a1.Bytes, .int .i64 a1.Reserve] 26 (0, 0))], [(b1, .cells #[.int .i64 a0.Clients, .int .i64 a0.Entries, .int .i64 a0.Bytes, .int .i64 a0.Reserve] 26 (0, 0))]] := S205.objs (by simp)
         have S208 := ((S207.front 3 rfl).front 3 rfl).front 3 rfl
         change St _ _ _ [[(p94, .cells #[.int .i64 x91.C.Clients, .int .i64 x91.C.Entries, .int .i64 x91.C.Bytes, .int .i64 x91.C.Reserve, .slice A102 x91.L.length c103, .slice A106 x91.I.length c107] 104 (0, 0))], G104, G108, [(p77, .cells #[.int .i64 x74.config.Clients, .int .i64 x74.config.Entries, .int .i64 x74.config.Bytes, .int .i64 x74.config.Reserve, .map (some b85), .int .i64 x74.entries, .int .i64 x74.bytes] 89 (0, 0))] ++ (G86), [(b7, .cells #[.int .i64 a1.Clients, .int .i64 a1.Entries, .int .i64 a1.Bytes, .int .i64 a1.Reserve] 26 (0, 0))], [(b1, .cells #[.int .i64 a0.Clients, .int .i64 a0.Entries, .int .i64 a0.Bytes, .int .i64 a0.Reserve] 26 (0, 0))]] at S208
         have hO209 : ObjO 104 Cache104.rp p94 x91 ([(p94, .cells #[.int .i64 x91.C.Clients, .int .i64 x91.C.Entries, .int .i64 x91.C.Bytes, .int .i64 x91.C.Reserve, .slice A102 x91.L.length c103, .slice A106 x91.I.length c107] 104 (0, 0))] ++ (G104 ++ (G108))) := ⟨_, _, ⟨A102, c103, G104, A106, c107, G108, rfl, hO105, hO109, rfl⟩, rfl⟩
         have S210 : St _ _ _ [[(p94, .cells #[.int .i64 x91.C.Clients, .int .i64 x91.C.Entries, .int .i64 x91.C.Bytes, .int .i64 x91.C.Reserve, .slice A102 x91.L.length c103, .slice A106 x91.I.length c107] 104 (0, 0))] ++ (G104 ++ (G108)), [(p77, .cells #[.int .i64 x74.config.Clients, .int .i64 x74.config.Entries, .int .i64 x74.config.Bytes, .int .i64 x74.config.Reserve, .map (some b85), .int .i64 x74.entries, .int .i64 x74.bytes] 89 (0, 0))] ++ (G86), [(b7, .cells #[.int .i64 a1.Clients, .int .i64 a1.Entries, .int .i64 a1.Bytes, .int .i64 a1.Reserve] 26 (0, 0))], [(b1, .cells #[.int .i64 a0.Clients, .int .i64 a0.Entries, .int .i64 a0.Bytes, .int .i64 a0.Reserve] 26 (0, 0))]] := S208.objs (by simp)
         have S211 := S210.emp
         have S212 := S211.emp
         have S213 := ((S212.front 1 rfl).front 2 rfl).front 3 rfl
         change St _ _ _ [[(p77, .cells #[.int .i64 x74.config.Clients, .int .i64 x74.config.Entries, .int .i64 x74.config.Bytes, .int .i64 x74.config.Reserve, .map (some b85), .int .i64 x74.entries, .int .i64 x74.bytes] 89 (0, 0))] ++ (G86), [(p94, .cells #[.int .i64 x91.C.Clients, .int .i64 x91.C.Entries, .int .i64 x91.C.Bytes, .int .i64 x91.C.Reserve, .slice A102 x91.L.length c103, .slice A106 x91.I.length c107] 104 (0, 0))] ++ (G104 ++ (G108)), ([] : Grp), ([] : Grp), [(b7, .cells #[.int .i64 a1.Clients, .int .i64 a1.Entries, .int .i64 a1.Bytes, .int .i64 a1.Reserve] 26 (0, 0))], [(b1, .cells #[.int .i64 a0.Clients, .int .i64 a0.Entries, .int .i64 a0.Bytes, .int .i64 a0.Reserve] 26 (0, 0))]] at S213
         have S214 := St.keep (As := [[(p77, .cells #[.int .i64 x74.config.Clients, .int .i64 x74.config.Entries, .int .i64 x74.config.Bytes, .int .i64 x74.config.Reserve, .map (some b85), .int .i64 x74.entries, .int .i64 x74.bytes] 89 (0, 0))] ++ (G86), [(p94, .cells #[.int .i64 x91.C.Clients, .int .i64 x91.C.Entries, .int .i64 x91.C.Bytes, .int .i64 x91.C.Reserve, .slice A102 x91.L.length c103, .slice A106 x91.I.length c107] 104 (0, 0))] ++ (G104 ++ (G108)), ([] : Grp), ([] : Grp)]) S213
         refine WEx.cutend _ ?_ ⟨k, (.pointer (some ⟨p77, 0, none⟩)), (some x74), [(p77, .cells #[.int .i64 x74.config.Clients, .int .i64 x74.config.Entries, .int .i64 x74.config.Bytes, .int .i64 x74.config.Reserve, .map (some b85), .int .i64 x74.entries, .int .i64 x74.bytes] 89 (0, 0))] ++ (G86), (.pointer (some ⟨p94, 0, none⟩)), (some x91), [(p94, .cells #[.int .i64 x91.C.Clients, .int .i64 x91.C.Entries, .int .i64 x91.C.Bytes, .int .i64 x91.C.Reserve, .slice A102 x91.L.length c103, .slice A106 x91.I.length c107] 104 (0, 0))] ++ (G104 ++ (G108)), .pointer none, none, ([] : Grp), .pointer none, none, ([] : Grp), rfl, hF, ⟨_, rfl, hO206⟩, ⟨_, rfl, hO209⟩, ⟨rfl, rfl⟩, ⟨rfl, rfl⟩, S214⟩
         exact ⟨rfl, rfl, rfl, rfl, rfl, trivial⟩
      ·
       refine WOps.on rfl (kbl (b := !(decide (t34.2 = t42.2))) rfl (show (!(decide (t34.2 = t42.2))) = false from by rw [(decide_eq_true h72)]; rfl)) ?_
       have hn216 := Option.not_isSome_iff_eq_none.1 h90
       have ho215 := hO33
       rw [hn216] at ho215
       obtain ⟨hv217, hg218⟩ := ho215
       subst hv217
       have S220 := S89.front 4 rfl
       change St _ _ _ [G32, [(p77, .cells #[.int .i64 x74.config.Clients, .int .i64 x74.config.Entries, .int .i64 x74.config.Bytes, .int .i64 x74.config.Reserve, .map (some b85), .int .i64 x74.entries, .int .i64 x74.bytes] 89 (0, 0))], G86, G48, G40, [(b7, .cells #[.int .i64 a1.Clients, .int .i64 a1.Entries, .int .i64 a1.Bytes, .int .i64 a1.Reserve] 26 (0, 0))], [(b1, .cells #[.int .i64 a0.Clients, .int .i64 a0.Entries, .int .i64 a0.Bytes, .int .i64 a0.Reserve] 26 (0, 0))]] at S220
       have S219 : St _ _ _ [[(p77, .cells #[.int .i64 x74.config.Clients, .int .i64 x74.config.Entries, .int .i64 x74.config.Bytes, .int .i64 x74.config.Reserve, .map (some b85), .int .i64 x74.entries, .int .i64 x74.bytes] 89 (0, 0))], G86, G48, G40, [(b7, .cells #[.int .i64 a1.Clients, .int .i64 a1.Entries, .int .i64 a1.Bytes, .int .i64 a1.Reserve] 26 (0, 0))], [(b1, .cells #[.int .i64 a0.Clients, .int .i64 a0.Entries, .int .i64 a0.Bytes, .int .i64 a0.Reserve] 26 (0, 0))]] := S220.objs (by rw [hg218]; simp)
       refine WOps.p (G.eqp_nil Try.underlying56 rfl rfl rfl) rfl ?_
       refine WOps.on rfl (kbl (b := !(decide (t34.2 = t42.2))) rfl (show (!(decide (t34.2 = t42.2))) = false from by rw [(decide_eq_true h72)]; rfl)) ?_
       refine WOps.p (G.neqb Try.underlying4 rfl rfl rfl) rfl ?_
       refine WOps.p (G.pick_f (kb (b := !(decide (t34.2 = t42.2))) rfl (show (!(decide (t34.2 = t42.2))) = false from by rw [(decide_eq_true h72)]; rfl)) rfl) rfl ?_
       refine WOps.p (G.move rfl) rfl ?_
       refine WOps.off rfl rfl rfl rfl ?_
       refine WOps.off rfl rfl rfl rfl ?_
       refine WOps.off rfl rfl rfl rfl ?_
       refine WOps.off rfl rfl rfl rfl ?_
       refine WOps.off rfl rfl rfl rfl ?_
       refine WOps.p (G.pick_t rfl rfl) rfl ?_
       refine WOps.nil ?_
       refine WEx.then_ ?_
       refine WCode.forget (l' := [(2, .slice A2 a2.length c2), (8, .pointer (some ⟨p77, 0, none⟩)), (10, .pointer none), (12, v39), (14, v47), (72, .bool true)]) ⟨rfl, rfl, rfl, rfl, rfl, rfl, trivial⟩ ?_
       refine WCode.cond_t rfl ?_
       refine WCode.seq ?_
       refine WCode.region ?_
       refine WOps.p (G.assign rfl) rfl ?_
       refine WOps.nil ?_
       refine WEx.then_ ?_
       refine WCode.ret ?_
       refine WEx.then_ret ?_
       obtain rfl := some_eq hF
       refine WEx.ret1 rfl rfl ?_
       exact ⟨rfl, St.keep (As := []) S219⟩
     ·
      refine WOps.on rfl (kbl (b := !(decide (t34.2 = t42.2))) rfl (show (!(decide (t34.2 = t42.2))) = false from by rw [(decide_eq_true h72)]; rfl)) ?_
      have hn222 := Option.not_isSome_iff_eq_none.1 h73
      have ho221 := hO25
      rw [hn222] at ho221
      obtain ⟨hv223, hg224⟩ := ho221
      subst hv223
      have S226 := S46.front 3 rfl
      change St _ _ _ [G24, G48, G40, G32, [(b7, .cells #[.int .i64 a1.Clients, .int .i64 a1.Entries, .int .i64 a1.Bytes, .int .i64 a1.Reserve] 26 (0, 0))], [(b1, .cells #[.int .i64 a0.Clients, .int .i64 a0.Entries, .int .i64 a0.Bytes, .int .i64 a0.Reserve] 26 (0, 0))]] at S226
      have S225 : St _ _ _ [G48, G40, G32, [(b7, .cells #[.int .i64 a1.Clients, .int .i64 a1.Entries, .int .i64 a1.Bytes, .int .i64 a1.Reserve] 26 (0, 0))], [(b1, .cells #[.int .i64 a0.Clients, .int .i64 a0.Entries, .int .i64 a0.Bytes, .int .i64 a0.Reserve] 26 (0, 0))]] := S226.objs (by rw [hg224]; simp)
      refine WOps.p (G.eqp_nil Try.underlying28 rfl rfl rfl) rfl ?_
      refine WOps.on rfl (kbl (b := !(decide (t34.2 = t42.2))) rfl (show (!(decide (t34.2 = t42.2))) = false from by rw [(decide_eq_true h72)]; rfl)) ?_
      refine WOps.p (G.move rfl) rfl ?_
      rcases ite_some hF with ⟨h227, hF⟩ | ⟨h227, hF⟩
      ·
       refine WOps.on rfl (kbl (b := !(decide (t34.2 = t42.2))) rfl (show (!(decide (t34.2 = t42.2))) = false from by rw [(decide_eq_true h72)]; rfl)) ?_
       obtain ⟨x228, hc229, hF⟩ := bind_some hF
       have ho230 := hO33
       rw [hc229] at ho230
       obtain ⟨p231, hv232, hO233⟩ := ho230
       subst hv232
       have S234 := S225.front 2 rfl
       change St _ _ _ [G32, G48, G40, [(b7, .cells #[.int .i64 a1.Clients, .int .i64 a1.Entries, .int .i64 a1.Bytes, .int .i64 a1.Reserve] 26 (0, 0))], [(b1, .cells #[.int .i64 a0.Clients, .int .i64 a0.Entries, .int .i64 a0.Bytes, .int .i64 a0.Reserve] 26 (0, 0))]] at S234
       obtain ⟨cs235, G236, ho237, hg238⟩ := hO233
       obtain ⟨A239, c240, G241, A243, c244, G245, rfl, hO242, hO246, hq247⟩ := ho237
       have S248 : St _ _ _ [[(p231, .cells #[.int .i64 x228.C.Clients, .int .i64 x228.C.Entries, .int .i64 x228.C.Bytes, .int .i64 x228.C.Reserve, .slice A239 x228.L.length c240, .slice A243 x228.I.length c244] 104 (0, 0))], G241, G245, G48, G40, [(b7, .cells #[.int .i64 a1.Clients, .int .i64 a1.Entries, .int .i64 a1.Bytes, .int .i64 a1.Reserve] 26 (0, 0))], [(b1, .cells #[.int .i64 a0.Clients, .int .i64 a0.Entries, .int .i64 a0.Bytes, .int .i64 a0.Reserve] 26 (0, 0))]] := S234.objs (by rw [hg238, hq247]; simp)
       refine WOps.p (G.eqp_nil Try.underlying56 rfl rfl rfl) rfl ?_
       refine WOps.on rfl (kbl (b := !(decide (t34.2 = t42.2))) rfl (show (!(decide (t34.2 = t42.2))) = false from by rw [(decide_eq_true h72)]; rfl)) ?_
       refine WOps.p (G.neqb Try.underlying4 rfl rfl rfl) rfl ?_
       refine WOps.p (G.pick_f (kb (b := !(decide (t34.2 = t42.2))) rfl (show (!(decide (t34.2 = t42.2))) = false from by rw [(decide_eq_true h72)]; rfl)) rfl) rfl ?_
       refine WOps.p (G.move rfl) rfl ?_
       refine WOps.off rfl rfl rfl rfl ?_
       refine WOps.off rfl rfl rfl rfl ?_
       refine WOps.off rfl rfl rfl rfl ?_
       refine WOps.off rfl rfl rfl rfl ?_
       refine WOps.off rfl rfl rfl rfl ?_
       refine WOps.p (G.pick_t rfl rfl) rfl ?_
       refine WOps.nil ?_
       refine WEx.then_ ?_
       refine WCode.forget (l' := [(2, .slice A2 a2.length c2), (8, .pointer none), (10, .pointer (some ⟨p231, 0, none⟩)), (12, v39), (14, v47), (72, .bool true)]) ⟨rfl, rfl, rfl, rfl, rfl, rfl, trivial⟩ ?_
       refine WCode.cond_t rfl ?_
       refine WCode.seq ?_
       refine WCode.region ?_
       refine WOps.p (G.assign rfl) rfl ?_
       refine WOps.nil ?_
       refine WEx.then_ ?_
       refine WCode.ret ?_
       refine WEx.then_ret ?_
       obtain rfl := some_eq hF
       refine WEx.ret1 rfl rfl ?_
       exact ⟨rfl, St.keep (As := []) S248⟩
      ·
       refine WOps.on rfl (kbl (b := !(decide (t34.2 = t42.2))) rfl (show (!(decide (t34.2 = t42.2))) = false from by rw [(decide_eq_true h72)]; rfl)) ?_
       have hn250 := Option.not_isSome_iff_eq_none.1 h227
       have ho249 := hO33
       rw [hn250] at ho249
       obtain ⟨hv251, hg252⟩ := ho249
       subst hv251
       have S254 := S225.front 2 rfl
       change St _ _ _ [G32, G48, G40, [(b7, .cells #[.int .i64 a1.Clients, .int .i64 a1.Entries, .int .i64 a1.Bytes, .int .i64 a1.Reserve] 26 (0, 0))], [(b1, .cells #[.int .i64 a0.Clients, .int .i64 a0.Entries, .int .i64 a0.Bytes, .int .i64 a0.Reserve] 26 (0, 0))]] at S254
       have S253 : St _ _ _ [G48, G40, [(b7, .cells #[.int .i64 a1.Clients, .int .i64 a1.Entries, .int .i64 a1.Bytes, .int .i64 a1.Reserve] 26 (0, 0))], [(b1, .cells #[.int .i64 a0.Clients, .int .i64 a0.Entries, .int .i64 a0.Bytes, .int .i64 a0.Reserve] 26 (0, 0))]] := S254.objs (by rw [hg252]; simp)
       refine WOps.p (G.eqp_nil Try.underlying56 rfl rfl rfl) rfl ?_
       refine WOps.on rfl (kbl (b := !(decide (t34.2 = t42.2))) rfl (show (!(decide (t34.2 = t42.2))) = false from by rw [(decide_eq_true h72)]; rfl)) ?_
       refine WOps.p (G.neqb Try.underlying4 rfl rfl rfl) rfl ?_
       refine WOps.p (G.pick_f (kb (b := !(decide (t34.2 = t42.2))) rfl (show (!(decide (t34.2 = t42.2))) = false from by rw [(decide_eq_true h72)]; rfl)) rfl) rfl ?_
       refine WOps.p (G.move rfl) rfl ?_
       refine WOps.on rfl rfl ?_
       refine WOps.p (G.move rfl) rfl ?_
       rcases ite_some hF with ⟨h255, hF⟩ | ⟨h255, hF⟩
       ·
        refine WOps.on rfl rfl ?_
        obtain ⟨x256, hc257, hF⟩ := bind_some hF
        have ho258 := hO41
        rw [hc257] at ho258
        obtain ⟨p259, hv260, hO261⟩ := ho258
        subst hv260
        have S262 := S253.front 1 rfl
        change St _ _ _ [G40, G48, [(b7, .cells #[.int .i64 a1.Clients, .int .i64 a1.Entries, .int .i64 a1.Bytes, .int .i64 a1.Reserve] 26 (0, 0))], [(b1, .cells #[.int .i64 a0.Clients, .int .i64 a0.Entries, .int .i64 a0.Bytes, .int .i64 a0.Reserve] 26 (0, 0))]] at S262
        obtain ⟨cs263, G264, ho265, hg266⟩ := hO261
        obtain ⟨b267, G268, rfl, hO269, hq270⟩ := ho265
        have S271 : St _ _ _ [[(p259, .cells #[.int .i64 x256.config.Clients, .int .i64 x256.config.Entries, .int .i64 x256.config.Bytes, .int .i64 x256.config.Reserve, .map (some b267), .int .i64 x256.entries, .int .i64 x256.bytes] 89 (0, 0))], G268, G48, [(b7, .cells #[.int .i64 a1.Clients, .int .i64 a1.Entries, .int .i64 a1.Bytes, .int .i64 a1.Reserve] 26 (0, 0))], [(b1, .cells #[.int .i64 a0.Clients, .int .i64 a0.Entries, .int .i64 a0.Bytes, .int .i64 a0.Reserve] 26 (0, 0))]] := S262.objs (by rw [hg266, hq270]; simp)
        refine WOps.p (G.eqp_nil Try.underlying28 rfl rfl rfl) rfl ?_
        refine WOps.on rfl rfl ?_
        refine WOps.p (G.move rfl) rfl ?_
        rcases ite_some hF with ⟨h272, hF⟩ | ⟨h272, hF⟩
        ·
         refine WOps.on rfl rfl ?_
         obtain ⟨x273, hc274, hF⟩ := bind_some hF
         have ho275 := hO49
         rw [hc274] at ho275
         obtain ⟨p276, hv277, hO278⟩ := ho275
         subst hv277
         have S279 := S271.front 2 rfl
         change St _ _ _ [G48, [(p259, .cells #[.int .i64 x256.config.Clients, .int .i64 x256.config.Entries, .int .i64 x256.config.Bytes, .int .i64 x256.config.Reserve, .map (some b267), .int .i64 x256.entries, .int .i64 x256.bytes] 89 (0, 0))], G268, [(b7, .cells #[.int .i64 a1.Clients, .int .i64 a1.Entries, .int .i64 a1.Bytes, .int .i64 a1.Reserve] 26 (0, 0))], [(b1, .cells #[.int .i64 a0.Clients, .int .i64 a0.Entries, .int .i64 a0.Bytes, .int .i64 a0.Reserve] 26 (0, 0))]] at S279
         obtain ⟨cs280, G281, ho282, hg283⟩ := hO278
         obtain ⟨A284, c285, G286, A288, c289, G290, rfl, hO287, hO291, hq292⟩ := ho282
         have S293 : St _ _ _ [[(p276, .cells #[.int .i64 x273.C.Clients, .int .i64 x273.C.Entries, .int .i64 x273.C.Bytes, .int .i64 x273.C.Reserve, .slice A284 x273.L.length c285, .slice A288 x273.I.length c289] 104 (0, 0))], G286, G290, [(p259, .cells #[.int .i64 x256.config.Clients, .int .i64 x256.config.Entries, .int .i64 x256.config.Bytes, .int .i64 x256.config.Reserve, .map (some b267), .int .i64 x256.entries, .int .i64 x256.bytes] 89 (0, 0))], G268, [(b7, .cells #[.int .i64 a1.Clients, .int .i64 a1.Entries, .int .i64 a1.Bytes, .int .i64 a1.Reserve] 26 (0, 0))], [(b1, .cells #[.int .i64 a0.Clients, .int .i64 a0.Entries, .int .i64 a0.Bytes, .int .i64 a0.Reserve] 26 (0, 0))]] := S279.objs (by rw [hg283, hq292]; simp)
         refine WOps.p (G.eqp_nil Try.underlying56 rfl rfl rfl) rfl ?_
         refine WOps.on rfl rfl ?_
         refine WOps.p (G.neqb Try.underlying4 rfl rfl rfl) rfl ?_
         refine WOps.p (G.pick_f rfl rfl) rfl ?_
         refine WOps.nil ?_
         refine WEx.then_ ?_
         refine WCode.forget (l' := [(2, .slice A2 a2.length c2), (8, .pointer none), (10, .pointer none), (12, .pointer (some ⟨p259, 0, none⟩)), (14, .pointer (some ⟨p276, 0, none⟩)), (72, .bool false)]) ⟨rfl, rfl, rfl, rfl, rfl, rfl, trivial⟩ ?_
         refine WCode.cond_f rfl ?_
         refine WCode.skip ?_
         have S294 := S293.emp
         have S295 := S294.emp
         have S296 := (S295.front 6 rfl).front 6 rfl
         change St _ _ _ [[(p259, .cells #[.int .i64 x256.config.Clients, .int .i64 x256.config.Entries, .int .i64 x256.config.Bytes, .int .i64 x256.config.Reserve, .map (some b267), .int .i64 x256.entries, .int .i64 x256.bytes] 89 (0, 0))], G268, ([] : Grp), ([] : Grp), [(p276, .cells #[.int .i64 x273.C.Clients, .int .i64 x273.C.Entries, .int .i64 x273.C.Bytes, .int .i64 x273.C.Reserve, .slice A284 x273.L.length c285, .slice A288 x273.I.length c289] 104 (0, 0))], G286, G290, [(b7, .cells #[.int .i64 a1.Clients, .int .i64 a1.Entries, .int .i64 a1.Bytes, .int .i64 a1.Reserve] 26 (0, 0))], [(b1, .cells #[.int .i64 a0.Clients, .int .i64 a0.Entries, .int .i64 a0.Bytes, .int .i64 a0.Reserve] 26 (0, 0))]] at S296
         have hO297 : ObjO 89 Cache.rp p259 x256 ([(p259, .cells #[.int .i64 x256.config.Clients, .int .i64 x256.config.Entries, .int .i64 x256.config.Bytes, .int .i64 x256.config.Reserve, .map (some b267), .int .i64 x256.entries, .int .i64 x256.bytes] 89 (0, 0))] ++ (G268)) := ⟨_, _, ⟨b267, G268, rfl, hO269, rfl⟩, rfl⟩
         have S298 : St _ _ _ [[(p259, .cells #[.int .i64 x256.config.Clients, .int .i64 x256.config.Entries, .int .i64 x256.config.Bytes, .int .i64 x256.config.Reserve, .map (some b267), .int .i64 x256.entries, .int .i64 x256.bytes] 89 (0, 0))] ++ (G268), ([] : Grp), ([] : Grp), [(p276, .cells #[.int .i64 x273.C.Clients, .int .i64 x273.C.Entries, .int .i64 x273.C.Bytes, .int .i64 x273.C.Reserve, .slice A284 x273.L.length c285, .slice A288 x273.I.length c289] 104 (0, 0))], G286, G290, [(b7, .cells #[.int .i64 a1.Clients, .int .i64 a1.Entries, .int .i64 a1.Bytes, .int .i64 a1.Reserve] 26 (0, 0))], [(b1, .cells #[.int .i64 a0.Clients, .int .i64 a0.Entries, .int .i64 a0.Bytes, .int .i64 a0.Reserve] 26 (0, 0))]] := S296.objs (by simp)
         have S299 := ((S298.front 5 rfl).front 5 rfl).front 5 rfl
         change St _ _ _ [[(p276, .cells #[.int .i64 x273.C.Clients, .int .i64 x273.C.Entries, .int .i64 x273.C.Bytes, .int .i64 x273.C.Reserve, .slice A284 x273.L.length c285, .slice A288 x273.I.length c289] 104 (0, 0))], G286, G290, [(p259, .cells #[.int .i64 x256.config.Clients, .int .i64 x256.config.Entries, .int .i64 x256.config.Bytes, .int .i64 x256.config.Reserve, .map (some b267), .int .i64 x256.entries, .int .i64 x256.bytes] 89 (0, 0))] ++ (G268), ([] : Grp), ([] : Grp), [(b7, .cells #[.int .i64 a1.Clients, .int .i64 a1.Entries, .int .i64 a1.Bytes, .int .i64 a1.Reserve] 26 (0, 0))], [(b1, .cells #[.int .i64 a0.Clients, .int .i64 a0.Entries, .int .i64 a0.Bytes, .int .i64 a0.Reserve] 26 (0, 0))]] at S299
         have hO300 : ObjO 104 Cache104.rp p276 x273 ([(p276, .cells #[.int .i64 x273.C.Clients, .int .i64 x273.C.Entries, .int .i64 x273.C.Bytes, .int .i64 x273.C.Reserve, .slice A284 x273.L.length c285, .slice A288 x273.I.length c289] 104 (0, 0))] ++ (G286 ++ (G290))) := ⟨_, _, ⟨A284, c285, G286, A288, c289, G290, rfl, hO287, hO291, rfl⟩, rfl⟩
         have S301 : St _ _ _ [[(p276, .cells #[.int .i64 x273.C.Clients, .int .i64 x273.C.Entries, .int .i64 x273.C.Bytes, .int .i64 x273.C.Reserve, .slice A284 x273.L.length c285, .slice A288 x273.I.length c289] 104 (0, 0))] ++ (G286 ++ (G290)), [(p259, .cells #[.int .i64 x256.config.Clients, .int .i64 x256.config.Entries, .int .i64 x256.config.Bytes, .int .i64 x256.config.Reserve, .map (some b267), .int .i64 x256.entries, .int .i64 x256.bytes] 89 (0, 0))] ++ (G268), ([] : Grp), ([] : Grp), [(b7, .cells #[.int .i64 a1.Clients, .int .i64 a1.Entries, .int .i64 a1.Bytes, .int .i64 a1.Reserve] 26 (0, 0))], [(b1, .cells #[.int .i64 a0.Clients, .int .i64 a0.Entries, .int .i64 a0.Bytes, .int .i64 a0.Reserve] 26 (0, 0))]] := S299.objs (by simp)
         have S302 := ((S301.front 1 rfl).front 2 rfl).front 3 rfl
         change St _ _ _ [([] : Grp), ([] : Grp), [(p259, .cells #[.int .i64 x256.config.Clients, .int .i64 x256.config.Entries, .int .i64 x256.config.Bytes, .int .i64 x256.config.Reserve, .map (some b267), .int .i64 x256.entries, .int .i64 x256.bytes] 89 (0, 0))] ++ (G268), [(p276, .cells #[.int .i64 x273.C.Clients, .int .i64 x273.C.Entries, .int .i64 x273.C.Bytes, .int .i64 x273.C.Reserve, .slice A284 x273.L.length c285, .slice A288 x273.I.length c289] 104 (0, 0))] ++ (G286 ++ (G290)), [(b7, .cells #[.int .i64 a1.Clients, .int .i64 a1.Entries, .int .i64 a1.Bytes, .int .i64 a1.Reserve] 26 (0, 0))], [(b1, .cells #[.int .i64 a0.Clients, .int .i64 a0.Entries, .int .i64 a0.Bytes, .int .i64 a0.Reserve] 26 (0, 0))]] at S302
         have S303 := St.keep (As := [([] : Grp), ([] : Grp), [(p259, .cells #[.int .i64 x256.config.Clients, .int .i64 x256.config.Entries, .int .i64 x256.config.Bytes, .int .i64 x256.config.Reserve, .map (some b267), .int .i64 x256.entries, .int .i64 x256.bytes] 89 (0, 0))] ++ (G268), [(p276, .cells #[.int .i64 x273.C.Clients, .int .i64 x273.C.Entries, .int .i64 x273.C.Bytes, .int .i64 x273.C.Reserve, .slice A284 x273.L.length c285, .slice A288 x273.I.length c289] 104 (0, 0))] ++ (G286 ++ (G290))]) S302
         refine WEx.cutend _ ?_ ⟨k, .pointer none, none, ([] : Grp), .pointer none, none, ([] : Grp), (.pointer (some ⟨p259, 0, none⟩)), (some x256), [(p259, .cells #[.int .i64 x256.config.Clients, .int .i64 x256.config.Entries, .int .i64 x256.config.Bytes, .int .i64 x256.config.Reserve, .map (some b267), .int .i64 x256.entries, .int .i64 x256.bytes] 89 (0, 0))] ++ (G268), (.pointer (some ⟨p276, 0, none⟩)), (some x273), [(p276, .cells #[.int .i64 x273.C.Clients, .int .i64 x273.C.Entries, .int .i64 x273.C.Bytes, .int .i64 x273.C.Reserve, .slice A284 x273.L.length c285, .slice A288 x273.I.length c289] 104 (0, 0))] ++ (G286 ++ (G290)), rfl, hF, ⟨rfl, rfl⟩, ⟨rfl, rfl⟩, ⟨_, rfl, hO297⟩, ⟨_, rfl, hO300⟩, S303⟩
         exact ⟨rfl, rfl, rfl, rfl, rfl, trivial⟩
        ·
         refine WOps.on rfl rfl ?_
         have hn305 := Option.not_isSome_iff_eq_none.1 h272
         have ho304 := hO49
         rw [hn305] at ho304
         obtain ⟨hv306, hg307⟩ := ho304
         subst hv306
         have S309 := S271.front 2 rfl
         change St _ _ _ [G48, [(p259, .cells #[.int .i64 x256.config.Clients, .int .i64 x256.config.Entries, .int .i64 x256.config.Bytes, .int .i64 x256.config.Reserve, .map (some b267), .int .i64 x256.entries, .int .i64 x256.bytes] 89 (0, 0))], G268, [(b7, .cells #[.int .i64 a1.Clients, .int .i64 a1.Entries, .int .i64 a1.Bytes, .int .i64 a1.Reserve] 26 (0, 0))], [(b1, .cells #[.int .i64 a0.Clients, .int .i64 a0.Entries, .int .i64 a0.Bytes, .int .i64 a0.Reserve] 26 (0, 0))]] at S309
         have S308 : St _ _ _ [[(p259, .cells #[.int .i64 x256.config.Clients, .int .i64 x256.config.Entries, .int .i64 x256.config.Bytes, .int .i64 x256.config.Reserve, .map (some b267), .int .i64 x256.entries, .int .i64 x256.bytes] 89 (0, 0))], G268, [(b7, .cells #[.int .i64 a1.Clients, .int .i64 a1.Entries, .int .i64 a1.Bytes, .int .i64 a1.Reserve] 26 (0, 0))], [(b1, .cells #[.int .i64 a0.Clients, .int .i64 a0.Entries, .int .i64 a0.Bytes, .int .i64 a0.Reserve] 26 (0, 0))]] := S309.objs (by rw [hg307]; simp)
         refine WOps.p (G.eqp_nil Try.underlying56 rfl rfl rfl) rfl ?_
         refine WOps.on rfl rfl ?_
         refine WOps.p (G.neqb Try.underlying4 rfl rfl rfl) rfl ?_
         refine WOps.p (G.pick_f rfl rfl) rfl ?_
         refine WOps.nil ?_
         refine WEx.then_ ?_
         refine WCode.forget (l' := [(2, .slice A2 a2.length c2), (8, .pointer none), (10, .pointer none), (12, .pointer (some ⟨p259, 0, none⟩)), (14, .pointer none), (72, .bool true)]) ⟨rfl, rfl, rfl, rfl, rfl, rfl, trivial⟩ ?_
         refine WCode.cond_t rfl ?_
         refine WCode.seq ?_
         refine WCode.region ?_
         refine WOps.p (G.assign rfl) rfl ?_
         refine WOps.nil ?_
         refine WEx.then_ ?_
         refine WCode.ret ?_
         refine WEx.then_ret ?_
         obtain rfl := some_eq hF
         refine WEx.ret1 rfl rfl ?_
         exact ⟨rfl, St.keep (As := []) S308⟩
       ·
        refine WOps.on rfl rfl ?_
        have hn311 := Option.not_isSome_iff_eq_none.1 h255
        have ho310 := hO41
        rw [hn311] at ho310
        obtain ⟨hv312, hg313⟩ := ho310
        subst hv312
        have S315 := S253.front 1 rfl
        change St _ _ _ [G40, G48, [(b7, .cells #[.int .i64 a1.Clients, .int .i64 a1.Entries, .int .i64 a1.Bytes, .int .i64 a1.Reserve] 26 (0, 0))], [(b1, .cells #[.int .i64 a0.Clients, .int .i64 a0.Entries, .int .i64 a0.Bytes, .int .i64 a0.Reserve] 26 (0, 0))]] at S315
        have S314 : St _ _ _ [G48, [(b7, .cells #[.int .i64 a1.Clients, .int .i64 a1.Entries, .int .i64 a1.Bytes, .int .i64 a1.Reserve] 26 (0, 0))], [(b1, .cells #[.int .i64 a0.Clients, .int .i64 a0.Entries, .int .i64 a0.Bytes, .int .i64 a0.Reserve] 26 (0, 0))]] := S315.objs (by rw [hg313]; simp)
        refine WOps.p (G.eqp_nil Try.underlying28 rfl rfl rfl) rfl ?_
        refine WOps.on rfl rfl ?_
        refine WOps.p (G.move rfl) rfl ?_
        rcases ite_some hF with ⟨h316, hF⟩ | ⟨h316, hF⟩
        ·
         refine WOps.on rfl rfl ?_
         obtain ⟨x317, hc318, hF⟩ := bind_some hF
         have ho319 := hO49
         rw [hc318] at ho319
         obtain ⟨p320, hv321, hO322⟩ := ho319
         subst hv321
         obtain ⟨cs323, G324, ho325, hg326⟩ := hO322
         obtain ⟨A327, c328, G329, A331, c332, G333, rfl, hO330, hO334, hq335⟩ := ho325
         have S336 : St _ _ _ [[(p320, .cells #[.int .i64 x317.C.Clients, .int .i64 x317.C.Entries, .int .i64 x317.C.Bytes, .int .i64 x317.C.Reserve, .slice A327 x317.L.length c328, .slice A331 x317.I.length c332] 104 (0, 0))], G329, G333, [(b7, .cells #[.int .i64 a1.Clients, .int .i64 a1.Entries, .int .i64 a1.Bytes, .int .i64 a1.Reserve] 26 (0, 0))], [(b1, .cells #[.int .i64 a0.Clients, .int .i64 a0.Entries, .int .i64 a0.Bytes, .int .i64 a0.Reserve] 26 (0, 0))]] := S314.objs (by rw [hg326, hq335]; simp)
         refine WOps.p (G.eqp_nil Try.underlying56 rfl rfl rfl) rfl ?_
         refine WOps.on rfl rfl ?_
         refine WOps.p (G.neqb Try.underlying4 rfl rfl rfl) rfl ?_
         refine WOps.p (G.pick_f rfl rfl) rfl ?_
         refine WOps.nil ?_
         refine WEx.then_ ?_
         refine WCode.forget (l' := [(2, .slice A2 a2.length c2), (8, .pointer none), (10, .pointer none), (12, .pointer none), (14, .pointer (some ⟨p320, 0, none⟩)), (72, .bool true)]) ⟨rfl, rfl, rfl, rfl, rfl, rfl, trivial⟩ ?_
         refine WCode.cond_t rfl ?_
         refine WCode.seq ?_
         refine WCode.region ?_
         refine WOps.p (G.assign rfl) rfl ?_
         refine WOps.nil ?_
         refine WEx.then_ ?_
         refine WCode.ret ?_
         refine WEx.then_ret ?_
         obtain rfl := some_eq hF
         refine WEx.ret1 rfl rfl ?_
         exact ⟨rfl, St.keep (As := []) S336⟩
        ·
         refine WOps.on rfl rfl ?_
         have hn338 := Option.not_isSome_iff_eq_none.1 h316
         have ho337 := hO49
         rw [hn338] at ho337
         obtain ⟨hv339, hg340⟩ := ho337
         subst hv339
         have S341 : St _ _ _ [[(b7, .cells #[.int .i64 a1.Clients, .int .i64 a1.Entries, .int .i64 a1.Bytes, .int .i64 a1.Reserve] 26 (0, 0))], [(b1, .cells #[.int .i64 a0.Clients, .int .i64 a0.Entries, .int .i64 a0.Bytes, .int .i64 a0.Reserve] 26 (0, 0))]] := S314.objs (by rw [hg340]; simp)
         refine WOps.p (G.eqp_nil Try.underlying56 rfl rfl rfl) rfl ?_
         refine WOps.on rfl rfl ?_
         refine WOps.p (G.neqb Try.underlying4 rfl rfl rfl) rfl ?_
         refine WOps.p (G.pick_f rfl rfl) rfl ?_
         refine WOps.nil ?_
         refine WEx.then_ ?_
         refine WCode.forget (l' := [(2, .slice A2 a2.length c2), (8, .pointer none), (10, .pointer none), (12, .pointer none), (14, .pointer none), (72, .bool false)]) ⟨rfl, rfl, rfl, rfl, rfl, rfl, trivial⟩ ?_
         refine WCode.cond_f rfl ?_
         refine WCode.skip ?_
         have S342 := S341.emp
         have S343 := S342.emp
         have S344 := S343.emp
         have S345 := S344.emp
         have S346 := St.keep (As := [([] : Grp), ([] : Grp), ([] : Grp), ([] : Grp)]) S345
         refine WEx.cutend _ ?_ ⟨k, .pointer none, none, ([] : Grp), .pointer none, none, ([] : Grp), .pointer none, none, ([] : Grp), .pointer none, none, ([] : Grp), rfl, hF, ⟨rfl, rfl⟩, ⟨rfl, rfl⟩, ⟨rfl, rfl⟩, ⟨rfl, rfl⟩, S346⟩
         exact ⟨rfl, rfl, rfl, rfl, rfl, trivial⟩
    ·
     refine WOps.off rfl (kbl (b := !(decide (t34.2 = t42.2))) rfl (show (!(decide (t34.2 = t42.2))) = true from by rw [(decide_eq_false h72)]; rfl)) rfl rfl ?_
     refine WOps.off rfl (kbl (b := !(decide (t34.2 = t42.2))) rfl (show (!(decide (t34.2 = t42.2))) = true from by rw [(decide_eq_false h72)]; rfl)) rfl rfl ?_
     refine WOps.off rfl (kbl (b := !(decide (t34.2 = t42.2))) rfl (show (!(decide (t34.2 = t42.2))) = true from by rw [(decide_eq_false h72)]; rfl)) rfl rfl ?_
     refine WOps.off rfl (kbl (b := !(decide (t34.2 = t42.2))) rfl (show (!(decide (t34.2 = t42.2))) = true from by rw [(decide_eq_false h72)]; rfl)) rfl rfl ?_
     refine WOps.off rfl (kbl (b := !(decide (t34.2 = t42.2))) rfl (show (!(decide (t34.2 = t42.2))) = true from by rw [(decide_eq_false h72)]; rfl)) rfl rfl ?_
     refine WOps.p (G.pick_t (kb (b := !(decide (t34.2 = t42.2))) rfl (show (!(decide (t34.2 = t42.2))) = true from by rw [(decide_eq_false h72)]; rfl)) rfl) rfl ?_
     refine WOps.p (G.move rfl) rfl ?_
     refine WOps.off rfl rfl rfl rfl ?_
     refine WOps.off rfl rfl rfl rfl ?_
     refine WOps.off rfl rfl rfl rfl ?_
     refine WOps.off rfl rfl rfl rfl ?_
     refine WOps.off rfl rfl rfl rfl ?_
     refine WOps.p (G.pick_t rfl rfl) rfl ?_
     refine WOps.nil ?_
     refine WEx.then_ ?_
     refine WCode.forget (l' := [(2, .slice A2 a2.length c2), (8, v23), (10, v31), (12, v39), (14, v47), (72, .bool true)]) ⟨rfl, rfl, rfl, rfl, rfl, rfl, trivial⟩ ?_
     refine WCode.cond_t rfl ?_
     refine WCode.seq ?_
     refine WCode.region ?_
     refine WOps.p (G.assign rfl) rfl ?_
     refine WOps.nil ?_
     refine WEx.then_ ?_
     refine WCode.ret ?_
     refine WEx.then_ret ?_
     obtain rfl := some_eq hF
     refine WEx.ret1 rfl rfl ?_
     exact ⟨rfl, St.keep (As := []) S46⟩
   ·
    refine WOps.off rfl (kbl (b := !(decide (t18.2 = t26.2))) rfl (show (!(decide (t18.2 = t26.2))) = true from by rw [(decide_eq_false h71)]; rfl)) rfl rfl ?_
    refine WOps.off rfl (kbl (b := !(decide (t18.2 = t26.2))) rfl (show (!(decide (t18.2 = t26.2))) = true from by rw [(decide_eq_false h71)]; rfl)) rfl rfl ?_
    refine WOps.off rfl (kbl (b := !(decide (t18.2 = t26.2))) rfl (show (!(decide (t18.2 = t26.2))) = true from by rw [(decide_eq_false h71)]; rfl)) rfl rfl ?_
    refine WOps.p (G.pick_t (kb (b := !(decide (t18.2 = t26.2))) rfl (show (!(decide (t18.2 = t26.2))) = true from by rw [(decide_eq_false h71)]; rfl)) rfl) rfl ?_
    refine WOps.p (G.move rfl) rfl ?_
    refine WOps.off rfl rfl rfl rfl ?_
    refine WOps.off rfl rfl rfl rfl ?_
    refine WOps.off rfl rfl rfl rfl ?_
    refine WOps.off rfl rfl rfl rfl ?_
    refine WOps.off rfl rfl rfl rfl ?_
    refine WOps.p (G.pick_t rfl rfl) rfl ?_
    refine WOps.p (G.move rfl) rfl ?_
    refine WOps.off rfl rfl rfl rfl ?_
    refine WOps.off rfl rfl rfl rfl ?_
    refine WOps.off rfl rfl rfl rfl ?_
    refine WOps.off rfl rfl rfl rfl ?_
    refine WOps.off rfl rfl rfl rfl ?_
    refine WOps.p (G.pick_t rfl rfl) rfl ?_
    refine WOps.nil ?_
    refine WEx.then_ ?_
    refine WCode.forget (l' := [(2, .slice A2 a2.length c2), (8, v23), (10, v31), (12, v39), (14, v47), (72, .bool true)]) ⟨rfl, rfl, rfl, rfl, rfl, rfl, trivial⟩ ?_
    refine WCode.cond_t rfl ?_
    refine WCode.seq ?_
    refine WCode.region ?_
    refine WOps.p (G.assign rfl) rfl ?_
    refine WOps.nil ?_
    refine WEx.then_ ?_
    refine WCode.ret ?_
    refine WEx.then_ret ?_
    obtain rfl := some_eq hF
    refine WEx.ret1 rfl rfl ?_
    exact ⟨rfl, St.keep (As := []) S46⟩
  ·
   refine WOps.off rfl (kbl (b := !t13) rfl (show (!t13) = true from by rw [(Bool.eq_false_iff.2 h70)]; rfl)) rfl rfl ?_
   refine WOps.off rfl (kbl (b := !t13) rfl (show (!t13) = true from by rw [(Bool.eq_false_iff.2 h70)]; rfl)) rfl rfl ?_
   refine WOps.off rfl (kbl (b := !t13) rfl (show (!t13) = true from by rw [(Bool.eq_false_iff.2 h70)]; rfl)) rfl rfl ?_
   refine WOps.p (G.pick_t (kb (b := !t13) rfl (show (!t13) = true from by rw [(Bool.eq_false_iff.2 h70)]; rfl)) rfl) rfl ?_
   refine WOps.p (G.move rfl) rfl ?_
   refine WOps.off rfl rfl rfl rfl ?_
   refine WOps.off rfl rfl rfl rfl ?_
   refine WOps.off rfl rfl rfl rfl ?_
   refine WOps.p (G.pick_t rfl rfl) rfl ?_
   refine WOps.p (G.move rfl) rfl ?_
   refine WOps.off rfl rfl rfl rfl ?_
   refine WOps.off rfl rfl rfl rfl ?_
   refine WOps.off rfl rfl rfl rfl ?_
   refine WOps.off rfl rfl rfl rfl ?_
   refine WOps.off rfl rfl rfl rfl ?_
   refine WOps.p (G.pick_t rfl rfl) rfl ?_
   refine WOps.p (G.move rfl) rfl ?_
   refine WOps.off rfl rfl rfl rfl ?_
   refine WOps.off rfl rfl rfl rfl ?_
   refine WOps.off rfl rfl rfl rfl ?_
   refine WOps.off rfl rfl rfl rfl ?_
   refine WOps.off rfl rfl rfl rfl ?_
   refine WOps.p (G.pick_t rfl rfl) rfl ?_
   refine WOps.nil ?_
   refine WEx.then_ ?_
   refine WCode.forget (l' := [(2, .slice A2 a2.length c2), (8, v23), (10, v31), (12, v39), (14, v47), (72, .bool true)]) ⟨rfl, rfl, rfl, rfl, rfl, rfl, trivial⟩ ?_
   refine WCode.cond_t rfl ?_
   refine WCode.seq ?_
   refine WCode.region ?_
   refine WOps.p (G.assign rfl) rfl ?_
   refine WOps.nil ?_
   refine WEx.then_ ?_
   refine WCode.ret ?_
   refine WEx.then_ret ?_
   obtain rfl := some_eq hF
   refine WEx.ret1 rfl rfl ?_
   exact ⟨rfl, St.keep (As := []) S46⟩
 ·
  rintro _ w66 ⟨q68, v50, o51, G52, v54, o55, G56, v58, o59, G60, v62, o63, G64, rfl, hF, hO53, hO57, hO61, hO65, S67⟩
  unfold law_CPlays.j1 at hF
  refine WCode.seq ?_
  refine WCode.region ?_
  refine WOps.p (G.move rfl) rfl ?_
  refine WOps.p (G.move rfl) rfl ?_
  refine WOps.p (G.build (cells := #[v50, v54]) (evp_spec (evp_cons rfl (evp_cons rfl evp_nil))) (by rcases OptO.ptr hO53 with e0 | ⟨p0, e0⟩ <;> rcases OptO.ptr hO57 with e1 | ⟨p1, e1⟩ <;> rw [e0, e1] <;> kernel_rfl)) rfl ?_
  refine WOps.p (G.move rfl) rfl ?_
  refine WOps.p (G.move rfl) rfl ?_
  refine WOps.p (G.build (cells := #[v58, v62]) (evp_spec (evp_cons rfl (evp_cons rfl evp_nil))) (by rcases OptO.ptr hO61 with e0 | ⟨p0, e0⟩ <;> rcases OptO.ptr hO65 with e1 | ⟨p1, e1⟩ <;> rw [e0, e1] <;> kernel_rfl)) rfl ?_
  obtain ⟨b347, w348, E349, S350, X351, L352⟩ := St.lit S67 (P := Try.prog) (t := 61) (e := 60) (n := 2) (vs := [(0, .agg #[v50, v54]), (1, .agg #[v58, v62])]) (cs := #[v50, v54, v58, v62]) (by rcases OptO.ptr hO53 with e0 | ⟨p0, e0⟩ <;> rcases OptO.ptr hO57 with e1 | ⟨p1, e1⟩ <;> rcases OptO.ptr hO61 with e2 | ⟨p2, e2⟩ <;> rcases OptO.ptr hO65 with e3 | ⟨p3, e3⟩ <;> rw [e0, e1, e2, e3] <;> kernel_rfl)
  change St _ _ _ [[(b347, .cells #[v50, v54, v58, v62] 60 (0, 0))], G52, G56, G60, G64] at S350
  refine WOps.e (E349 (evp_cons rfl (evp_cons rfl evp_nil))) rfl ?_
  refine WOps.p (G.assign rfl) rfl ?_
  refine WOps.nil ?_
  refine WEx.then_ ?_
  refine WCode.forget (l' := [(2, .slice A2 a2.length c2), (16, .slice (some ⟨b347, 0, none⟩) ([0, 0] : List Int).length 2)]) ⟨rfl, rfl, trivial⟩ ?_
  refine WCode.seq ?_
  refine WCode.seq ?_
  refine WCode.region ?_
  refine WOps.p (G.assign rfl) rfl ?_
  refine WOps.nil ?_
  refine WEx.then_ ?_
  refine WCode.block ?_
  refine WCode.forget (l' := [(2, .slice A2 a2.length c2), (16, .slice (some ⟨b347, 0, none⟩) ([0, 0] : List Int).length 2), (17, .int .i64 0)]) ⟨rfl, rfl, rfl, trivial⟩ ?_
  refine WCode.loop (fun n_ l_ w_ => ∃ x353 : Int, ∃ v354 : Value, ∃ o355 : Option Cache, ∃ G356 : Grp, ∃ v358 : Value, ∃ o359 : Option Cache104, ∃ G360 : Grp, ∃ v362 : Value, ∃ o363 : Option Cache, ∃ G364 : Grp, ∃ v366 : Value, ∃ o367 : Option Cache104, ∃ G368 : Grp, l_ = [(2, .slice A2 a2.length c2), (16, .slice (some ⟨b347, 0, none⟩) ([0, 0] : List Int).length 2), (17, .int .i64 x353)] ∧ law_CPlays.l1 n_ a2 x353 o355 o359 o363 o367 = some r_ ∧ (OptO 89 Cache.rp v354 o355 G356) ∧ (OptO 104 Cache104.rp v358 o359 G360) ∧ (OptO 89 Cache.rp v362 o363 G364) ∧ (OptO 104 Cache104.rp v366 o367 G368) ∧ St w (KS []) w_ [[(b347, .cells #[v354, v358, v362, v366] 60 (0, 0))], G356, G360, G364, G368]) q68 ⟨0, v50, o51, G52, v54, o55, G56, v58, o59, G60, v62, o63, G64, rfl, hF, hO53, hO57, hO61, hO65, S350⟩ ?_
  rintro n373 _ w370 ⟨x353, v354, o355, G356, v358, o359, G360, v362, o363, G364, v366, o367, G368, rfl, hF, hO357, hO361, hO365, hO369, S371⟩
  obtain _ | k372 := n373
  · exact nomatch (show (none : Option Bool) = some r_ from hF)
  rw [law_CPlays.l1] at hF
  refine WCode.seq ?_
  refine WCode.seq ?_
  refine WCode.region ?_
  refine WOps.p (G.move rfl) rfl ?_
  refine WOps.p (G.move rfl) rfl ?_
  refine WOps.p (G.len T.el24 rfl) rfl ?_
  refine WOps.p (G.lss rfl rfl rfl) rfl ?_
  refine WOps.nil ?_
  refine WEx.then_ ?_
  rcases ite_some hF with ⟨h375, hF⟩ | ⟨h375, hF⟩
  ·
   refine WCode.cond_t (kb (b := decide (x353 < (a2.length : Int))) rfl (decide_eq_true h375)) ?_
   refine WCode.skip ?_
   refine WEx.then_ ?_
   refine WCode.seq ?_
   refine WCode.block ?_
   refine WCode.seq ?_
   refine WCode.region ?_
   refine WOps.p (G.move rfl) rfl ?_
   refine WOps.p (G.idx (o := 0) (j := 0) T.el61 rfl rfl rfl rfl (by decide) : GP _ _ _ _ (.pointer (some ⟨b347, 0, none⟩))) rfl ?_
   refine WOps.r (G.loada T.agg60_2 rfl (cs := [v354, v358]) (cellsAt.of_blk (S371.blk 0 rfl) rfl)) rfl ?_
   obtain ⟨b376, w377, E378, S379, X380, L381⟩ := St.var S371 (z := .agg #[.pointer none, .pointer none]) T.zero60
   change St _ _ _ [[(b376, .cells #[.pointer none, .pointer none] 60 (0, 0))], [(b347, .cells #[v354, v358, v362, v366] 60 (0, 0))], G356, G360, G364, G368] at S379
   refine WOps.e E378 rfl ?_
   obtain ⟨w382, E383, S384⟩ := St.store (P := Try.prog) S379 0 60 (.agg #[v354, v358]) (off := 0) (cur' := #[v354, v358]) rfl T.size60_2 rfl (show List.all [v354, v358] Value.oneCell' = true by simp only [List.all_cons, OptO.one hO357, OptO.one hO361, Bool.true_and]; rfl) rfl
   change St _ _ _ [[(b376, .cells #[v354, v358] 60 (0, 0))], [(b347, .cells #[v354, v358, v362, v366] 60 (0, 0))], G356, G360, G364, G368] at S384
   refine WOps.u (E383 rfl rfl) ?_
   refine WOps.nil ?_
   refine WEx.then_ ?_
   refine WCode.seq ?_
   refine WCode.seq ?_
   refine WCode.region ?_
   refine WOps.p (G.move rfl) rfl ?_
   refine WOps.p (G.move rfl) rfl ?_
   obtain ⟨x385, hc386, hF⟩ := bind_some hF
   obtain ⟨j387, ej388, hj389, hl390⟩ := idx_spec hc386
   obtain ⟨b391, o392, cs393, eA394, hf395, hc396, hr397⟩ := SlR.at_ (hR2.ext (S384.keepF hF2)) hj389
   have hq398 : cs393 = [.bool x385.Other, .bool x385.Raw, .int .i64 x385.What, .int .i64 x385.Who, .int .i64 x385.Sequence, .int .i64 x385.Water, .int .i64 x385.Whose.Address, .int .i64 x385.Whose.Instance, .string (bs x385.Reply)] := hr397
   subst hq398
   change cellsAt _ _ (o392 + j387 * 9) [.bool x385.Other, .bool x385.Raw, .int .i64 x385.What, .int .i64 x385.Who, .int .i64 x385.Sequence, .int .i64 x385.Water, .int .i64 x385.Whose.Address, .int .i64 x385.Whose.Instance, .string (bs x385.Reply)] at hc396
   refine WOps.p (G.idx T.el24 rfl eA394 rfl ej388 hl390) rfl ?_
   refine WOps.p (G.field T.fld36_0 rfl (show o392 + j387 * 9 + 0 = o392 + j387 * 9 + 0 from rfl)) rfl ?_
   refine WOps.r (G.load1 T.one4 rfl (cellsAt.at0 hc396)) rfl ?_
   refine WOps.nil ?_
   refine WEx.then_ ?_
   refine WCode.forget (l' := [(2, .slice A2 a2.length c2), (16, .slice (some ⟨b347, 0, none⟩) ([0, 0] : List Int).length 2), (17, .int .i64 x353), (18, .pointer (some ⟨b376, 0, none⟩)), (93, .bool x385.Other)]) ⟨rfl, rfl, rfl, rfl, rfl, trivial⟩ ?_
   rcases ite_some hF with ⟨h399, hF⟩ | ⟨h399, hF⟩
   ·
    refine WCode.cond_t (kb (b := x385.Other) rfl h399) ?_
    refine WCode.region ?_
    refine WOps.p (G.move rfl) rfl ?_
    refine WOps.p (G.idx (o := 0) (j := 1) T.el61 rfl rfl rfl rfl (by decide) : GP _ _ _ _ (.pointer (some ⟨b347, 2, none⟩))) rfl ?_
    refine WOps.r (G.loada T.agg60_2 rfl (cs := [v362, v366]) (cellsAt.of_blk (S384.blk 1 rfl) rfl)) rfl ?_
    obtain ⟨w400, E401, S402⟩ := St.store (P := Try.prog) S384 0 60 (.agg #[v362, v366]) (off := 0) (cur' := #[v362, v366]) rfl T.size60_2 rfl (show List.all [v362, v366] Value.oneCell' = true by simp only [List.all_cons, OptO.one hO365, OptO.one hO369, Bool.true_and]; rfl) rfl
    change St _ _ _ [[(b376, .cells #[v362, v366] 60 (0, 0))], [(b347, .cells #[v354, v358, v362, v366] 60 (0, 0))], G356, G360, G364, G368] at S402
    refine WOps.u (E401 rfl rfl) ?_
    refine WOps.nil ?_
    refine WEx.then_ ?_
    refine WCode.seq ?_
    refine WCode.seq ?_
    refine WCode.region ?_
    refine WOps.p (G.field T.fld60_1 rfl (show 0 + 1 = 1 from rfl)) rfl ?_
    refine WOps.r (G.load1 T.one56 rfl (cell_blk (S402.blk 0 rfl) rfl)) rfl ?_
    rcases ite_some hF with ⟨h403, hF⟩ | ⟨h403, hF⟩
    ·
     obtain ⟨x404, hc405, hF⟩ := bind_some hF
     have ho406 := hO369
     rw [hc405] at ho406
     obtain ⟨p407, hv408, hO409⟩ := ho406
     subst hv408
     have S410 := S402.front 5 rfl
     change St _ _ _ [G368, [(b376, .cells #[v362, .pointer (some ⟨p407, 0, none⟩)] 60 (0, 0))], [(b347, .cells #[v354, v358, v362, .pointer (some ⟨p407, 0, none⟩)] 60 (0, 0))], G356, G360, G364] at S410
     obtain ⟨cs411, G412, ho413, hg414⟩ := hO409
     obtain ⟨A415, c416, G417, A419, c420, G421, rfl, hO418, hO422, hq423⟩ := ho413
     have S424 : St _ _ _ [[(p407, .cells #[.int .i64 x404.C.Clients, .int .i64 x404.C.Entries, .int .i64 x404.C.Bytes, .int .i64 x404.C.Reserve, .slice A415 x404.L.length c416, .slice A419 x404.I.length c420] 104 (0, 0))], G417, G421, [(b376, .cells #[v362, .pointer (some ⟨p407, 0, none⟩)] 60 (0, 0))], [(b347, .cells #[v354, v358, v362, .pointer (some ⟨p407, 0, none⟩)] 60 (0, 0))], G356, G360, G364] := S410.objs (by rw [hg414, hq423]; simp)
     refine WOps.p (G.eqp_nil Try.underlying56 rfl rfl rfl) rfl ?_
     refine WOps.nil ?_
     refine WEx.then_ ?_
     refine WCode.cond_f rfl ?_
     refine WCode.skip ?_
     refine WEx.then_ ?_
     refine WCode.seq ?_
     refine WCode.draw [⟨1, 0, []⟩, ⟨2, 0, []⟩, ⟨3, 0, []⟩, ⟨0, 1, [5, 6]⟩, ⟨4, 1, [5, 6]⟩, ⟨5, 2, []⟩, ⟨6, 0, []⟩] T.mixed (by kernel_rfl) (by intro _ _ d _ _ h; cases d <;> exact h) rfl (by kernel_rfl) ?_
     have S425 := S424.drew
     generalize w400.drew = w426 at *
     refine WD.p rfl (G.move rfl) rfl ?_
     refine WD.p rfl (G.move rfl) rfl ?_
     obtain ⟨x427, hc428, hF⟩ := bind_some hF
     obtain ⟨j429, ej430, hj431, hl432⟩ := idx_spec hc428
     obtain ⟨b433, o434, cs435, eA436, hf437, hc438, hr439⟩ := SlR.at_ (hR2.ext (S425.keepF hF2)) hj431
     have hq440 : cs435 = [.bool x427.Other, .bool x427.Raw, .int .i64 x427.What, .int .i64 x427.Who, .int .i64 x427.Sequence, .int .i64 x427.Water, .int .i64 x427.Whose.Address, .int .i64 x427.Whose.Instance, .string (bs x427.Reply)] := hr439
     subst hq440
     change cellsAt _ _ (o434 + j429 * 9) [.bool x427.Other, .bool x427.Raw, .int .i64 x427.What, .int .i64 x427.Who, .int .i64 x427.Sequence, .int .i64 x427.Water, .int .i64 x427.Whose.Address, .int .i64 x427.Whose.Instance, .string (bs x427.Reply)] at hc438
     refine WD.p rfl (G.idx T.el24 rfl eA436 rfl ej430 hl432) rfl ?_
     refine WD.r rfl (G.loada T.agg60_2 rfl (cs := [v362, .pointer (some ⟨p407, 0, none⟩)]) (cellsAt.of_blk (S425.blk 3 rfl) rfl)) rfl ?_
     refine WD.r rfl (G.loada T.agg36_9 rfl (cs := [.bool x427.Other, .bool x427.Raw, .int .i64 x427.What, .int .i64 x427.Who, .int .i64 x427.Sequence, .int .i64 x427.Water, .int .i64 x427.Whose.Address, .int .i64 x427.Whose.Instance, .string (bs x427.Reply)]) hc438) rfl ?_
     rcases ite_some hF with ⟨h441, hF⟩ | ⟨h441, hF⟩
     ·
      obtain ⟨x442, hc443, hF⟩ := bind_some hF
      have ho444 := hO365
      rw [hc443] at ho444
      obtain ⟨p445, hv446, hO447⟩ := ho444
      subst hv446
      have S448 := S425.front 7 rfl
      change St _ _ _ [G364, [(p407, .cells #[.int .i64 x404.C.Clients, .int .i64 x404.C.Entries, .int .i64 x404.C.Bytes, .int .i64 x404.C.Reserve, .slice A415 x404.L.length c416, .slice A419 x404.I.length c420] 104 (0, 0))], G417, G421, [(b376, .cells #[.pointer (some ⟨p445, 0, none⟩), .pointer (some ⟨p407, 0, none⟩)] 60 (0, 0))], [(b347, .cells #[v354, v358, .pointer (some ⟨p445, 0, none⟩), .pointer (some ⟨p407, 0, none⟩)] 60 (0, 0))], G356, G360] at S448
      obtain ⟨cs449, G450, ho451, hg452⟩ := hO447
      obtain ⟨b453, G454, rfl, hO455, hq456⟩ := ho451
      have S457 : St _ _ _ [[(p445, .cells #[.int .i64 x442.config.Clients, .int .i64 x442.config.Entries, .int .i64 x442.config.Bytes, .int .i64 x442.config.Reserve, .map (some b453), .int .i64 x442.entries, .int .i64 x442.bytes] 89 (0, 0))], G454, [(p407, .cells #[.int .i64 x404.C.Clients, .int .i64 x404.C.Entries, .int .i64 x404.C.Bytes, .int .i64 x404.C.Reserve, .slice A415 x404.L.length c416, .slice A419 x404.I.length c420] 104 (0, 0))], G417, G421, [(b376, .cells #[.pointer (some ⟨p445, 0, none⟩), .pointer (some ⟨p407, 0, none⟩)] 60 (0, 0))], [(b347, .cells #[v354, v358, .pointer (some ⟨p445, 0, none⟩), .pointer (some ⟨p407, 0, none⟩)] 60 (0, 0))], G356, G360] := S448.objs (by rw [hg452, hq456]; simp)
      have hO458 : ObjO 89 Cache.rp p445 x442 ([(p445, .cells #[.int .i64 x442.config.Clients, .int .i64 x442.config.Entries, .int .i64 x442.config.Bytes, .int .i64 x442.config.Reserve, .map (some b453), .int .i64 x442.entries, .int .i64 x442.bytes] 89 (0, 0))] ++ (G454)) := ⟨_, _, ⟨b453, G454, rfl, hO455, rfl⟩, rfl⟩
      have S459 : St _ _ _ [[(p445, .cells #[.int .i64 x442.config.Clients, .int .i64 x442.config.Entries, .int .i64 x442.config.Bytes, .int .i64 x442.config.Reserve, .map (some b453), .int .i64 x442.entries, .int .i64 x442.bytes] 89 (0, 0))] ++ (G454), [(p407, .cells #[.int .i64 x404.C.Clients, .int .i64 x404.C.Entries, .int .i64 x404.C.Bytes, .int .i64 x404.C.Reserve, .slice A415 x404.L.length c416, .slice A419 x404.I.length c420] 104 (0, 0))], G417, G421, [(b376, .cells #[.pointer (some ⟨p445, 0, none⟩), .pointer (some ⟨p407, 0, none⟩)] 60 (0, 0))], [(b347, .cells #[v354, v358, .pointer (some ⟨p445, 0, none⟩), .pointer (some ⟨p407, 0, none⟩)] 60 (0, 0))], G356, G360] := S457.objs (by simp)
      have S460 := ((S459.front 3 rfl).front 3 rfl).front 3 rfl
      change St _ _ _ [[(p407, .cells #[.int .i64 x404.C.Clients, .int .i64 x404.C.Entries, .int .i64 x404.C.Bytes, .int .i64 x404.C.Reserve, .slice A415 x404.L.length c416, .slice A419 x404.I.length c420] 104 (0, 0))], G417, G421, [(p445, .cells #[.int .i64 x442.config.Clients, .int .i64 x442.config.Entries, .int .i64 x442.config.Bytes, .int .i64 x442.config.Reserve, .map (some b453), .int .i64 x442.entries, .int .i64 x442.bytes] 89 (0, 0))] ++ (G454), [(b376, .cells #[.pointer (some ⟨p445, 0, none⟩), .pointer (some ⟨p407, 0, none⟩)] 60 (0, 0))], [(b347, .cells #[v354, v358, .pointer (some ⟨p445, 0, none⟩), .pointer (some ⟨p407, 0, none⟩)] 60 (0, 0))], G356, G360] at S460
      have hO461 : ObjO 104 Cache104.rp p407 x404 ([(p407, .cells #[.int .i64 x404.C.Clients, .int .i64 x404.C.Entries, .int .i64 x404.C.Bytes, .int .i64 x404.C.Reserve, .slice A415 x404.L.length c416, .slice A419 x404.I.length c420] 104 (0, 0))] ++ (G417 ++ (G421))) := ⟨_, _, ⟨A415, c416, G417, A419, c420, G421, rfl, hO418, hO422, rfl⟩, rfl⟩
      have S462 : St _ _ _ [[(p407, .cells #[.int .i64 x404.C.Clients, .int .i64 x404.C.Entries, .int .i64 x404.C.Bytes, .int .i64 x404.C.Reserve, .slice A415 x404.L.length c416, .slice A419 x404.I.length c420] 104 (0, 0))] ++ (G417 ++ (G421)), [(p445, .cells #[.int .i64 x442.config.Clients, .int .i64 x442.config.Entries, .int .i64 x442.config.Bytes, .int .i64 x442.config.Reserve, .map (some b453), .int .i64 x442.entries, .int .i64 x442.bytes] 89 (0, 0))] ++ (G454), [(b376, .cells #[.pointer (some ⟨p445, 0, none⟩), .pointer (some ⟨p407, 0, none⟩)] 60 (0, 0))], [(b347, .cells #[v354, v358, .pointer (some ⟨p445, 0, none⟩), .pointer (some ⟨p407, 0, none⟩)] 60 (0, 0))], G356, G360] := S460.objs (by simp)
      obtain ⟨t463, hc464, hF⟩ := bind_some hF
      have S465 := S462.front 1 rfl
      change St _ _ _ [[(p445, .cells #[.int .i64 x442.config.Clients, .int .i64 x442.config.Entries, .int .i64 x442.config.Bytes, .int .i64 x442.config.Reserve, .map (some b453), .int .i64 x442.entries, .int .i64 x442.bytes] 89 (0, 0))] ++ (G454), [(p407, .cells #[.int .i64 x404.C.Clients, .int .i64 x404.C.Entries, .int .i64 x404.C.Bytes, .int .i64 x404.C.Reserve, .slice A415 x404.L.length c416, .slice A419 x404.I.length c420] 104 (0, 0))] ++ (G417 ++ (G421)), [(b376, .cells #[.pointer (some ⟨p445, 0, none⟩), .pointer (some ⟨p407, 0, none⟩)] 60 (0, 0))], [(b347, .cells #[v354, v358, .pointer (some ⟨p445, 0, none⟩), .pointer (some ⟨p407, 0, none⟩)] 60 (0, 0))], G356, G360] at S465
      refine WD.call rfl T.call24 (evs_cons rfl (evs_cons rfl evs_nil)) rfl ?_
      refine (ca_step_calls k372 x442 x404 x427 hO458 hO461 hc464 (St.hpN (As := [[(p445, .cells #[.int .i64 x442.config.Clients, .int .i64 x442.config.Entries, .int .i64 x442.config.Bytes, .int .i64 x442.config.Reserve, .map (some b453), .int .i64 x442.entries, .int .i64 x442.bytes] 89 (0, 0))] ++ (G454), [(p407, .cells #[.int .i64 x404.C.Clients, .int .i64 x404.C.Entries, .int .i64 x404.C.Bytes, .int .i64 x404.C.Reserve, .slice A415 x404.L.length c416, .slice A419 x404.I.length c420] 104 (0, 0))] ++ (G417 ++ (G421))]) S465)).mono ?_
      rintro _ w466 ⟨G469, G471, rfl, hO470, hO472, T467⟩
      have S468 := St.callN (As := [[(p445, .cells #[.int .i64 x442.config.Clients, .int .i64 x442.config.Entries, .int .i64 x442.config.Bytes, .int .i64 x442.config.Reserve, .map (some b453), .int .i64 x442.entries, .int .i64 x442.bytes] 89 (0, 0))] ++ (G454), [(p407, .cells #[.int .i64 x404.C.Clients, .int .i64 x404.C.Entries, .int .i64 x404.C.Bytes, .int .i64 x404.C.Reserve, .slice A415 x404.L.length c416, .slice A419 x404.I.length c420] 104 (0, 0))] ++ (G417 ++ (G421))]) S465 T467
      change St _ _ _ [G469, G471, [(b376, .cells #[.pointer (some ⟨p445, 0, none⟩), .pointer (some ⟨p407, 0, none⟩)] 60 (0, 0))], [(b347, .cells #[v354, v358, .pointer (some ⟨p445, 0, none⟩), .pointer (some ⟨p407, 0, none⟩)] 60 (0, 0))], G356, G360] at S468
      refine ⟨_, rfl, ?_⟩
      obtain ⟨cs473, G474, ho475, hg476⟩ := hO470
      obtain ⟨b477, G478, rfl, hO479, hq480⟩ := ho475
      have S481 : St _ _ _ [[(p445, .cells #[.int .i64 t463.2.1.config.Clients, .int .i64 t463.2.1.config.Entries, .int .i64 t463.2.1.config.Bytes, .int .i64 t463.2.1.config.Reserve, .map (some b477), .int .i64 t463.2.1.entries, .int .i64 t463.2.1.bytes] 89 (0, 0))], G478, G471, [(b376, .cells #[.pointer (some ⟨p445, 0, none⟩), .pointer (some ⟨p407, 0, none⟩)] 60 (0, 0))], [(b347, .cells #[v354, v358, .pointer (some ⟨p445, 0, none⟩), .pointer (some ⟨p407, 0, none⟩)] 60 (0, 0))], G356, G360] := S468.objs (by rw [hg476, hq480]; simp)
      have S482 := S481.front 2 rfl
      change St _ _ _ [G471, [(p445, .cells #[.int .i64 t463.2.1.config.Clients, .int .i64 t463.2.1.config.Entries, .int .i64 t463.2.1.config.Bytes, .int .i64 t463.2.1.config.Reserve, .map (some b477), .int .i64 t463.2.1.entries, .int .i64 t463.2.1.bytes] 89 (0, 0))], G478, [(b376, .cells #[.pointer (some ⟨p445, 0, none⟩), .pointer (some ⟨p407, 0, none⟩)] 60 (0, 0))], [(b347, .cells #[v354, v358, .pointer (some ⟨p445, 0, none⟩), .pointer (some ⟨p407, 0, none⟩)] 60 (0, 0))], G356, G360] at S482
      obtain ⟨cs483, G484, ho485, hg486⟩ := hO472
      obtain ⟨A487, c488, G489, A491, c492, G493, rfl, hO490, hO494, hq495⟩ := ho485
      have S496 : St _ _ _ [[(p407, .cells #[.int .i64 t463.2.2.C.Clients, .int .i64 t463.2.2.C.Entries, .int .i64 t463.2.2.C.Bytes, .int .i64 t463.2.2.C.Reserve, .slice A487 t463.2.2.L.length c488, .slice A491 t463.2.2.I.length c492] 104 (0, 0))], G489, G493, [(p445, .cells #[.int .i64 t463.2.1.config.Clients, .int .i64 t463.2.1.config.Entries, .int .i64 t463.2.1.config.Bytes, .int .i64 t463.2.1.config.Reserve, .map (some b477), .int .i64 t463.2.1.entries, .int .i64 t463.2.1.bytes] 89 (0, 0))], G478, [(b376, .cells #[.pointer (some ⟨p445, 0, none⟩), .pointer (some ⟨p407, 0, none⟩)] 60 (0, 0))], [(b347, .cells #[v354, v358, .pointer (some ⟨p445, 0, none⟩), .pointer (some ⟨p407, 0, none⟩)] 60 (0, 0))], G356, G360] := S482.objs (by rw [hg486, hq495]; simp)
      refine WD.p rfl (G.assign rfl) rfl ?_
      refine WD.nil ?_
      refine WEx.then_ ?_
      refine WCode.forget (l' := [(2, .slice A2 a2.length c2), (16, .slice (some ⟨b347, 0, none⟩) ([0, 0] : List Int).length 2), (17, .int .i64 x353), (19, .bool t463.1)]) ⟨rfl, rfl, rfl, rfl, trivial⟩ ?_
      refine WCode.seq ?_
      refine WCode.region ?_
      refine WOps.p (G.move rfl) rfl ?_
      refine WOps.p (G.not rfl rfl) rfl ?_
      refine WOps.nil ?_
      refine WEx.then_ ?_
      rcases ite_some hF with ⟨h497, hF⟩ | ⟨h497, hF⟩
      ·
       refine WCode.cond_f (kb (b := !t463.1) rfl (show (!t463.1) = false from by rw [h497]; rfl)) ?_
       refine WCode.skip ?_
       refine WEx.in_normal ?_
       refine WEx.then_ ?_
       refine WCode.region ?_
       refine WOps.p (G.move rfl) rfl ?_
       refine WOps.p (G.add rfl rfl (r := (w64 (x353 + 1))) rfl) rfl ?_
       refine WOps.p (G.assign rfl) rfl ?_
       refine WOps.nil ?_
       have S498 := (S496.front 4 rfl).front 4 rfl
       change St _ _ _ [[(p445, .cells #[.int .i64 t463.2.1.config.Clients, .int .i64 t463.2.1.config.Entries, .int .i64 t463.2.1.config.Bytes, .int .i64 t463.2.1.config.Reserve, .map (some b477), .int .i64 t463.2.1.entries, .int .i64 t463.2.1.bytes] 89 (0, 0))], G478, [(p407, .cells #[.int .i64 t463.2.2.C.Clients, .int .i64 t463.2.2.C.Entries, .int .i64 t463.2.2.C.Bytes, .int .i64 t463.2.2.C.Reserve, .slice A487 t463.2.2.L.length c488, .slice A491 t463.2.2.I.length c492] 104 (0, 0))], G489, G493, [(b376, .cells #[.pointer (some ⟨p445, 0, none⟩), .pointer (some ⟨p407, 0, none⟩)] 60 (0, 0))], [(b347, .cells #[v354, v358, .pointer (some ⟨p445, 0, none⟩), .pointer (some ⟨p407, 0, none⟩)] 60 (0, 0))], G356, G360] at S498
       have hO499 : ObjO 89 Cache.rp p445 t463.2.1 ([(p445, .cells #[.int .i64 t463.2.1.config.Clients, .int .i64 t463.2.1.config.Entries, .int .i64 t463.2.1.config.Bytes, .int .i64 t463.2.1.config.Reserve, .map (some b477), .int .i64 t463.2.1.entries, .int .i64 t463.2.1.bytes] 89 (0, 0))] ++ (G478)) := ⟨_, _, ⟨b477, G478, rfl, hO479, rfl⟩, rfl⟩
       have S500 : St _ _ _ [[(p445, .cells #[.int .i64 t463.2.1.config.Clients, .int .i64 t463.2.1.config.Entries, .int .i64 t463.2.1.config.Bytes, .int .i64 t463.2.1.config.Reserve, .map (some b477), .int .i64 t463.2.1.entries, .int .i64 t463.2.1.bytes] 89 (0, 0))] ++ (G478), [(p407, .cells #[.int .i64 t463.2.2.C.Clients, .int .i64 t463.2.2.C.Entries, .int .i64 t463.2.2.C.Bytes, .int .i64 t463.2.2.C.Reserve, .slice A487 t463.2.2.L.length c488, .slice A491 t463.2.2.I.length c492] 104 (0, 0))], G489, G493, [(b376, .cells #[.pointer (some ⟨p445, 0, none⟩), .pointer (some ⟨p407, 0, none⟩)] 60 (0, 0))], [(b347, .cells #[v354, v358, .pointer (some ⟨p445, 0, none⟩), .pointer (some ⟨p407, 0, none⟩)] 60 (0, 0))], G356, G360] := S498.objs (by simp)
       have S501 := ((S500.front 3 rfl).front 3 rfl).front 3 rfl
       change St _ _ _ [[(p407, .cells #[.int .i64 t463.2.2.C.Clients, .int .i64 t463.2.2.C.Entries, .int .i64 t463.2.2.C.Bytes, .int .i64 t463.2.2.C.Reserve, .slice A487 t463.2.2.L.length c488, .slice A491 t463.2.2.I.length c492] 104 (0, 0))], G489, G493, [(p445, .cells #[.int .i64 t463.2.1.config.Clients, .int .i64 t463.2.1.config.Entries, .int .i64 t463.2.1.config.Bytes, .int .i64 t463.2.1.config.Reserve, .map (some b477), .int .i64 t463.2.1.entries, .int .i64 t463.2.1.bytes] 89 (0, 0))] ++ (G478), [(b376, .cells #[.pointer (some ⟨p445, 0, none⟩), .pointer (some ⟨p407, 0, none⟩)] 60 (0, 0))], [(b347, .cells #[v354, v358, .pointer (some ⟨p445, 0, none⟩), .pointer (some ⟨p407, 0, none⟩)] 60 (0, 0))], G356, G360] at S501
       have hO502 : ObjO 104 Cache104.rp p407 t463.2.2 ([(p407, .cells #[.int .i64 t463.2.2.C.Clients, .int .i64 t463.2.2.C.Entries, .int .i64 t463.2.2.C.Bytes, .int .i64 t463.2.2.C.Reserve, .slice A487 t463.2.2.L.length c488, .slice A491 t463.2.2.I.length c492] 104 (0, 0))] ++ (G489 ++ (G493))) := ⟨_, _, ⟨A487, c488, G489, A491, c492, G493, rfl, hO490, hO494, rfl⟩, rfl⟩
       have S503 : St _ _ _ [[(p407, .cells #[.int .i64 t463.2.2.C.Clients, .int .i64 t463.2.2.C.Entries, .int .i64 t463.2.2.C.Bytes, .int .i64 t463.2.2.C.Reserve, .slice A487 t463.2.2.L.length c488, .slice A491 t463.2.2.I.length c492] 104 (0, 0))] ++ (G489 ++ (G493)), [(p445, .cells #[.int .i64 t463.2.1.config.Clients, .int .i64 t463.2.1.config.Entries, .int .i64 t463.2.1.config.Bytes, .int .i64 t463.2.1.config.Reserve, .map (some b477), .int .i64 t463.2.1.entries, .int .i64 t463.2.1.bytes] 89 (0, 0))] ++ (G478), [(b376, .cells #[.pointer (some ⟨p445, 0, none⟩), .pointer (some ⟨p407, 0, none⟩)] 60 (0, 0))], [(b347, .cells #[v354, v358, .pointer (some ⟨p445, 0, none⟩), .pointer (some ⟨p407, 0, none⟩)] 60 (0, 0))], G356, G360] := S501.objs (by simp)
       have S504 := (((S503.front 1 rfl).front 5 rfl).front 5 rfl).front 5 rfl
       change St _ _ _ [[(b347, .cells #[v354, v358, .pointer (some ⟨p445, 0, none⟩), .pointer (some ⟨p407, 0, none⟩)] 60 (0, 0))], G356, G360, [(p445, .cells #[.int .i64 t463.2.1.config.Clients, .int .i64 t463.2.1.config.Entries, .int .i64 t463.2.1.config.Bytes, .int .i64 t463.2.1.config.Reserve, .map (some b477), .int .i64 t463.2.1.entries, .int .i64 t463.2.1.bytes] 89 (0, 0))] ++ (G478), [(p407, .cells #[.int .i64 t463.2.2.C.Clients, .int .i64 t463.2.2.C.Entries, .int .i64 t463.2.2.C.Bytes, .int .i64 t463.2.2.C.Reserve, .slice A487 t463.2.2.L.length c488, .slice A491 t463.2.2.I.length c492] 104 (0, 0))] ++ (G489 ++ (G493)), [(b376, .cells #[.pointer (some ⟨p445, 0, none⟩), .pointer (some ⟨p407, 0, none⟩)] 60 (0, 0))]] at S504
       have S505 := St.keep (As := [[(b347, .cells #[v354, v358, .pointer (some ⟨p445, 0, none⟩), .pointer (some ⟨p407, 0, none⟩)] 60 (0, 0))], G356, G360, [(p445, .cells #[.int .i64 t463.2.1.config.Clients, .int .i64 t463.2.1.config.Entries, .int .i64 t463.2.1.config.Bytes, .int .i64 t463.2.1.config.Reserve, .map (some b477), .int .i64 t463.2.1.entries, .int .i64 t463.2.1.bytes] 89 (0, 0))] ++ (G478), [(p407, .cells #[.int .i64 t463.2.2.C.Clients, .int .i64 t463.2.2.C.Entries, .int .i64 t463.2.2.C.Bytes, .int .i64 t463.2.2.C.Reserve, .slice A487 t463.2.2.L.length c488, .slice A491 t463.2.2.I.length c492] 104 (0, 0))] ++ (G489 ++ (G493))]) S504
       refine WEx.again _ _ (by omega) ?_ ⟨w64 (x353 + 1), v354, o355, G356, v358, o359, G360, (.pointer (some ⟨p445, 0, none⟩)), (some t463.2.1), [(p445, .cells #[.int .i64 t463.2.1.config.Clients, .int .i64 t463.2.1.config.Entries, .int .i64 t463.2.1.config.Bytes, .int .i64 t463.2.1.config.Reserve, .map (some b477), .int .i64 t463.2.1.entries, .int .i64 t463.2.1.bytes] 89 (0, 0))] ++ (G478), (.pointer (some ⟨p407, 0, none⟩)), (some t463.2.2), [(p407, .cells #[.int .i64 t463.2.2.C.Clients, .int .i64 t463.2.2.C.Entries, .int .i64 t463.2.2.C.Bytes, .int .i64 t463.2.2.C.Reserve, .slice A487 t463.2.2.L.length c488, .slice A491 t463.2.2.I.length c492] 104 (0, 0))] ++ (G489 ++ (G493)), rfl, hF, hO357, hO361, ⟨_, rfl, hO499⟩, ⟨_, rfl, hO502⟩, S505⟩
       exact ⟨rfl, rfl, rfl, trivial⟩
      ·
       refine WCode.cond_t (kb (b := !t463.1) rfl (show (!t463.1) = true from by rw [(Bool.eq_false_iff.2 h497)]; rfl)) ?_
       refine WCode.seq ?_
       refine WCode.region ?_
       refine WOps.p (G.assign rfl) rfl ?_
       refine WOps.nil ?_
       refine WEx.then_ ?_
       refine WCode.ret ?_
       refine WEx.in_ret ?_
       refine WEx.then_ret ?_
       refine WEx.then_ret ?_
       refine WEx.in_ret ?_
       refine WEx.then_ret ?_
       obtain rfl := some_eq hF
       refine WEx.ret1 rfl rfl ?_
       exact ⟨rfl, St.keep (As := []) S496⟩
     ·
      exact nomatch (show (none : Option Bool) = some r_ from hF)
    ·
     have hn507 := Option.not_isSome_iff_eq_none.1 h403
     have ho506 := hO369
     rw [hn507] at ho506
     obtain ⟨hv508, hg509⟩ := ho506
     subst hv508
     have S511 := S402.front 5 rfl
     change St _ _ _ [G368, [(b376, .cells #[v362, .pointer none] 60 (0, 0))], [(b347, .cells #[v354, v358, v362, .pointer none] 60 (0, 0))], G356, G360, G364] at S511
     have S510 : St _ _ _ [[(b376, .cells #[v362, .pointer none] 60 (0, 0))], [(b347, .cells #[v354, v358, v362, .pointer none] 60 (0, 0))], G356, G360, G364] := S511.objs (by rw [hg509]; simp)
     refine WOps.p (G.eqp_nil Try.underlying56 rfl rfl rfl) rfl ?_
     refine WOps.nil ?_
     refine WEx.then_ ?_
     refine WCode.cond_t rfl ?_
     refine WCode.exit ?_
     refine WEx.then_exit ?_
     refine WEx.in_exit ?_
     refine WEx.then_ ?_
     refine WCode.region ?_
     refine WOps.p (G.move rfl) rfl ?_
     refine WOps.p (G.add rfl rfl (r := (w64 (x353 + 1))) rfl) rfl ?_
     refine WOps.p (G.assign rfl) rfl ?_
     refine WOps.nil ?_
     have S512 := S510.emp
     have S513 := (((S512.front 5 rfl).front 5 rfl).front 5 rfl).front 5 rfl
     change St _ _ _ [[(b347, .cells #[v354, v358, v362, .pointer none] 60 (0, 0))], G356, G360, G364, ([] : Grp), [(b376, .cells #[v362, .pointer none] 60 (0, 0))]] at S513
     have S514 := St.keep (As := [[(b347, .cells #[v354, v358, v362, .pointer none] 60 (0, 0))], G356, G360, G364, ([] : Grp)]) S513
     refine WEx.again _ _ (by omega) ?_ ⟨w64 (x353 + 1), v354, o355, G356, v358, o359, G360, v362, o363, G364, .pointer none, none, ([] : Grp), rfl, hF, hO357, hO361, hO365, ⟨rfl, rfl⟩, S514⟩
     exact ⟨rfl, rfl, rfl, trivial⟩
   ·
    refine WCode.cond_f (kb (b := x385.Other) rfl (Bool.eq_false_iff.2 h399)) ?_
    refine WCode.skip ?_
    refine WEx.then_ ?_
    refine WCode.seq ?_
    refine WCode.seq ?_
    refine WCode.region ?_
    refine WOps.p (G.field T.fld60_1 rfl (show 0 + 1 = 1 from rfl)) rfl ?_
    refine WOps.r (G.load1 T.one56 rfl (cell_blk (S384.blk 0 rfl) rfl)) rfl ?_
    rcases ite_some hF with ⟨h515, hF⟩ | ⟨h515, hF⟩
    ·
     obtain ⟨x516, hc517, hF⟩ := bind_some hF
     have ho518 := hO361
     rw [hc517] at ho518
     obtain ⟨p519, hv520, hO521⟩ := ho518
     subst hv520
     have S522 := S384.front 3 rfl
     change St _ _ _ [G360, [(b376, .cells #[v354, .pointer (some ⟨p519, 0, none⟩)] 60 (0, 0))], [(b347, .cells #[v354, .pointer (some ⟨p519, 0, none⟩), v362, v366] 60 (0, 0))], G356, G364, G368] at S522
     obtain ⟨cs523, G524, ho525, hg526⟩ := hO521
     obtain ⟨A527, c528, G529, A531, c532, G533, rfl, hO530, hO534, hq535⟩ := ho525
     have S536 : St _ _ _ [[(p519, .cells #[.int .i64 x516.C.Clients, .int .i64 x516.C.Entries, .int .i64 x516.C.Bytes, .int .i64 x516.C.Reserve, .slice A527 x516.L.length c528, .slice A531 x516.I.length c532] 104 (0, 0))], G529, G533, [(b376, .cells #[v354, .pointer (some ⟨p519, 0, none⟩)] 60 (0, 0))], [(b347, .cells #[v354, .pointer (some ⟨p519, 0, none⟩), v362, v366] 60 (0, 0))], G356, G364, G368] := S522.objs (by rw [hg526, hq535]; simp)
     refine WOps.p (G.eqp_nil Try.underlying56 rfl rfl rfl) rfl ?_
     refine WOps.nil ?_
     refine WEx.then_ ?_
     refine WCode.cond_f rfl ?_
     refine WCode.skip ?_
     refine WEx.then_ ?_
     refine WCode.seq ?_
     refine WCode.draw [⟨1, 0, []⟩, ⟨2, 0, []⟩, ⟨3, 0, []⟩, ⟨0, 1, [5, 6]⟩, ⟨4, 1, [5, 6]⟩, ⟨5, 2, []⟩, ⟨6, 0, []⟩] T.mixed (by kernel_rfl) (by intro _ _ d _ _ h; cases d <;> exact h) rfl (by kernel_rfl) ?_
     have S537 := S536.drew
     generalize w382.drew = w538 at *
     refine WD.p rfl (G.move rfl) rfl ?_
     refine WD.p rfl (G.move rfl) rfl ?_
     obtain ⟨x539, hc540, hF⟩ := bind_some hF
     obtain ⟨j541, ej542, hj543, hl544⟩ := idx_spec hc540
     obtain ⟨b545, o546, cs547, eA548, hf549, hc550, hr551⟩ := SlR.at_ (hR2.ext (S537.keepF hF2)) hj543
     have hq552 : cs547 = [.bool x539.Other, .bool x539.Raw, .int .i64 x539.What, .int .i64 x539.Who, .int .i64 x539.Sequence, .int .i64 x539.Water, .int .i64 x539.Whose.Address, .int .i64 x539.Whose.Instance, .string (bs x539.Reply)] := hr551
     subst hq552
     change cellsAt _ _ (o546 + j541 * 9) [.bool x539.Other, .bool x539.Raw, .int .i64 x539.What, .int .i64 x539.Who, .int .i64 x539.Sequence, .int .i64 x539.Water, .int .i64 x539.Whose.Address, .int .i64 x539.Whose.Instance, .string (bs x539.Reply)] at hc550
     refine WD.p rfl (G.idx T.el24 rfl eA548 rfl ej542 hl544) rfl ?_
     refine WD.r rfl (G.loada T.agg60_2 rfl (cs := [v354, .pointer (some ⟨p519, 0, none⟩)]) (cellsAt.of_blk (S537.blk 3 rfl) rfl)) rfl ?_
     refine WD.r rfl (G.loada T.agg36_9 rfl (cs := [.bool x539.Other, .bool x539.Raw, .int .i64 x539.What, .int .i64 x539.Who, .int .i64 x539.Sequence, .int .i64 x539.Water, .int .i64 x539.Whose.Address, .int .i64 x539.Whose.Instance, .string (bs x539.Reply)]) hc550) rfl ?_
     rcases ite_some hF with ⟨h553, hF⟩ | ⟨h553, hF⟩
     ·
      obtain ⟨x554, hc555, hF⟩ := bind_some hF
      have ho556 := hO357
      rw [hc555] at ho556
      obtain ⟨p557, hv558, hO559⟩ := ho556
      subst hv558
      have S560 := S537.front 5 rfl
      change St _ _ _ [G356, [(p519, .cells #[.int .i64 x516.C.Clients, .int .i64 x516.C.Entries, .int .i64 x516.C.Bytes, .int .i64 x516.C.Reserve, .slice A527 x516.L.length c528, .slice A531 x516.I.length c532] 104 (0, 0))], G529, G533, [(b376, .cells #[.pointer (some ⟨p557, 0, none⟩), .pointer (some ⟨p519, 0, none⟩)] 60 (0, 0))], [(b347, .cells #[.pointer (some ⟨p557, 0, none⟩), .pointer (some ⟨p519, 0, none⟩), v362, v366] 60 (0, 0))], G364, G368] at S560
      obtain ⟨cs561, G562, ho563, hg564⟩ := hO559
      obtain ⟨b565, G566, rfl, hO567, hq568⟩ := ho563
      have S569 : St _ _ _ [[(p557, .cells #[.int .i64 x554.config.Clients, .int .i64 x554.config.Entries, .int .i64 x554.config.Bytes, .int .i64 x554.config.Reserve, .map (some b565), .int .i64 x554.entries, .int .i64 x554.bytes] 89 (0, 0))], G566, [(p519, .cells #[.int .i64 x516.C.Clients, .int .i64 x516.C.Entries, .int .i64 x516.C.Bytes, .int .i64 x516.C.Reserve, .slice A527 x516.L.length c528, .slice A531 x516.I.length c532] 104 (0, 0))], G529, G533, [(b376, .cells #[.pointer (some ⟨p557, 0, none⟩), .pointer (some ⟨p519, 0, none⟩)] 60 (0, 0))], [(b347, .cells #[.pointer (some ⟨p557, 0, none⟩), .pointer (some ⟨p519, 0, none⟩), v362, v366] 60 (0, 0))], G364, G368] := S560.objs (by rw [hg564, hq568]; simp)
      have hO570 : ObjO 89 Cache.rp p557 x554 ([(p557, .cells #[.int .i64 x554.config.Clients, .int .i64 x554.config.Entries, .int .i64 x554.config.Bytes, .int .i64 x554.config.Reserve, .map (some b565), .int .i64 x554.entries, .int .i64 x554.bytes] 89 (0, 0))] ++ (G566)) := ⟨_, _, ⟨b565, G566, rfl, hO567, rfl⟩, rfl⟩
      have S571 : St _ _ _ [[(p557, .cells #[.int .i64 x554.config.Clients, .int .i64 x554.config.Entries, .int .i64 x554.config.Bytes, .int .i64 x554.config.Reserve, .map (some b565), .int .i64 x554.entries, .int .i64 x554.bytes] 89 (0, 0))] ++ (G566), [(p519, .cells #[.int .i64 x516.C.Clients, .int .i64 x516.C.Entries, .int .i64 x516.C.Bytes, .int .i64 x516.C.Reserve, .slice A527 x516.L.length c528, .slice A531 x516.I.length c532] 104 (0, 0))], G529, G533, [(b376, .cells #[.pointer (some ⟨p557, 0, none⟩), .pointer (some ⟨p519, 0, none⟩)] 60 (0, 0))], [(b347, .cells #[.pointer (some ⟨p557, 0, none⟩), .pointer (some ⟨p519, 0, none⟩), v362, v366] 60 (0, 0))], G364, G368] := S569.objs (by simp)
      have S572 := ((S571.front 3 rfl).front 3 rfl).front 3 rfl
      change St _ _ _ [[(p519, .cells #[.int .i64 x516.C.Clients, .int .i64 x516.C.Entries, .int .i64 x516.C.Bytes, .int .i64 x516.C.Reserve, .slice A527 x516.L.length c528, .slice A531 x516.I.length c532] 104 (0, 0))], G529, G533, [(p557, .cells #[.int .i64 x554.config.Clients, .int .i64 x554.config.Entries, .int .i64 x554.config.Bytes, .int .i64 x554.config.Reserve, .map (some b565), .int .i64 x554.entries, .int .i64 x554.bytes] 89 (0, 0))] ++ (G566), [(b376, .cells #[.pointer (some ⟨p557, 0, none⟩), .pointer (some ⟨p519, 0, none⟩)] 60 (0, 0))], [(b347, .cells #[.pointer (some ⟨p557, 0, none⟩), .pointer (some ⟨p519, 0, none⟩), v362, v366] 60 (0, 0))], G364, G368] at S572
      have hO573 : ObjO 104 Cache104.rp p519 x516 ([(p519, .cells #[.int .i64 x516.C.Clients, .int .i64 x516.C.Entries, .int .i64 x516.C.Bytes, .int .i64 x516.C.Reserve, .slice A527 x516.L.length c528, .slice A531 x516.I.length c532] 104 (0, 0))] ++ (G529 ++ (G533))) := ⟨_, _, ⟨A527, c528, G529, A531, c532, G533, rfl, hO530, hO534, rfl⟩, rfl⟩
      have S574 : St _ _ _ [[(p519, .cells #[.int .i64 x516.C.Clients, .int .i64 x516.C.Entries, .int .i64 x516.C.Bytes, .int .i64 x516.C.Reserve, .slice A527 x516.L.length c528, .slice A531 x516.I.length c532] 104 (0, 0))] ++ (G529 ++ (G533)), [(p557, .cells #[.int .i64 x554.config.Clients, .int .i64 x554.config.Entries, .int .i64 x554.config.Bytes, .int .i64 x554.config.Reserve, .map (some b565), .int .i64 x554.entries, .int .i64 x554.bytes] 89 (0, 0))] ++ (G566), [(b376, .cells #[.pointer (some ⟨p557, 0, none⟩), .pointer (some ⟨p519, 0, none⟩)] 60 (0, 0))], [(b347, .cells #[.pointer (some ⟨p557, 0, none⟩), .pointer (some ⟨p519, 0, none⟩), v362, v366] 60 (0, 0))], G364, G368] := S572.objs (by simp)
      obtain ⟨t575, hc576, hF⟩ := bind_some hF
      have S577 := S574.front 1 rfl
      change St _ _ _ [[(p557, .cells #[.int .i64 x554.config.Clients, .int .i64 x554.config.Entries, .int .i64 x554.config.Bytes, .int .i64 x554.config.Reserve, .map (some b565), .int .i64 x554.entries, .int .i64 x554.bytes] 89 (0, 0))] ++ (G566), [(p519, .cells #[.int .i64 x516.C.Clients, .int .i64 x516.C.Entries, .int .i64 x516.C.Bytes, .int .i64 x516.C.Reserve, .slice A527 x516.L.length c528, .slice A531 x516.I.length c532] 104 (0, 0))] ++ (G529 ++ (G533)), [(b376, .cells #[.pointer (some ⟨p557, 0, none⟩), .pointer (some ⟨p519, 0, none⟩)] 60 (0, 0))], [(b347, .cells #[.pointer (some ⟨p557, 0, none⟩), .pointer (some ⟨p519, 0, none⟩), v362, v366] 60 (0, 0))], G364, G368] at S577
      refine WD.call rfl T.call24 (evs_cons rfl (evs_cons rfl evs_nil)) rfl ?_
      refine (ca_step_calls k372 x554 x516 x539 hO570 hO573 hc576 (St.hpN (As := [[(p557, .cells #[.int .i64 x554.config.Clients, .int .i64 x554.config.Entries, .int .i64 x554.config.Bytes, .int .i64 x554.config.Reserve, .map (some b565), .int .i64 x554.entries, .int .i64 x554.bytes] 89 (0, 0))] ++ (G566), [(p519, .cells #[.int .i64 x516.C.Clients, .int .i64 x516.C.Entries, .int .i64 x516.C.Bytes, .int .i64 x516.C.Reserve, .slice A527 x516.L.length c528, .slice A531 x516.I.length c532] 104 (0, 0))] ++ (G529 ++ (G533))]) S577)).mono ?_
      rintro _ w578 ⟨G581, G583, rfl, hO582, hO584, T579⟩
      have S580 := St.callN (As := [[(p557, .cells #[.int .i64 x554.config.Clients, .int .i64 x554.config.Entries, .int .i64 x554.config.Bytes, .int .i64 x554.config.Reserve, .map (some b565), .int .i64 x554.entries, .int .i64 x554.bytes] 89 (0, 0))] ++ (G566), [(p519, .cells #[.int .i64 x516.C.Clients, .int .i64 x516.C.Entries, .int .i64 x516.C.Bytes, .int .i64 x516.C.Reserve, .slice A527 x516.L.length c528, .slice A531 x516.I.length c532] 104 (0, 0))] ++ (G529 ++ (G533))]) S577 T579
      change St _ _ _ [G581, G583, [(b376, .cells #[.pointer (some ⟨p557, 0, none⟩), .pointer (some ⟨p519, 0, none⟩)] 60 (0, 0))], [(b347, .cells #[.pointer (some ⟨p557, 0, none⟩), .pointer (some ⟨p519, 0, none⟩), v362, v366] 60 (0, 0))], G364, G368] at S580
      refine ⟨_, rfl, ?_⟩
      obtain ⟨cs585, G586, ho587, hg588⟩ := hO582
      obtain ⟨b589, G590, rfl, hO591, hq592⟩ := ho587
      have S593 : St _ _ _ [[(p557, .cells #[.int .i64 t575.2.1.config.Clients, .int .i64 t575.2.1.config.Entries, .int .i64 t575.2.1.config.Bytes, .int .i64 t575.2.1.config.Reserve, .map (some b589), .int .i64 t575.2.1.entries, .int .i64 t575.2.1.bytes] 89 (0, 0))], G590, G583, [(b376, .cells #[.pointer (some ⟨p557, 0, none⟩), .pointer (some ⟨p519, 0, none⟩)] 60 (0, 0))], [(b347, .cells #[.pointer (some ⟨p557, 0, none⟩), .pointer (some ⟨p519, 0, none⟩), v362, v366] 60 (0, 0))], G364, G368] := S580.objs (by rw [hg588, hq592]; simp)
      have S594 := S593.front 2 rfl
      change St _ _ _ [G583, [(p557, .cells #[.int .i64 t575.2.1.config.Clients, .int .i64 t575.2.1.config.Entries, .int .i64 t575.2.1.config.Bytes, .int .i64 t575.2.1.config.Reserve, .map (some b589), .int .i64 t575.2.1.entries, .int .i64 t575.2.1.bytes] 89 (0, 0))], G590, [(b376, .cells #[.pointer (some ⟨p557, 0, none⟩), .pointer (some ⟨p519, 0, none⟩)] 60 (0, 0))], [(b347, .cells #[.pointer (some ⟨p557, 0, none⟩), .pointer (some ⟨p519, 0, none⟩), v362, v366] 60 (0, 0))], G364, G368] at S594
      obtain ⟨cs595, G596, ho597, hg598⟩ := hO584
      obtain ⟨A599, c600, G601, A603, c604, G605, rfl, hO602, hO606, hq607⟩ := ho597
      have S608 : St _ _ _ [[(p519, .cells #[.int .i64 t575.2.2.C.Clients, .int .i64 t575.2.2.C.Entries, .int .i64 t575.2.2.C.Bytes, .int .i64 t575.2.2.C.Reserve, .slice A599 t575.2.2.L.length c600, .slice A603 t575.2.2.I.length c604] 104 (0, 0))], G601, G605, [(p557, .cells #[.int .i64 t575.2.1.config.Clients, .int .i64 t575.2.1.config.Entries, .int .i64 t575.2.1.config.Bytes, .int .i64 t575.2.1.config.Reserve, .map (some b589), .int .i64 t575.2.1.entries, .int .i64 t575.2.1.bytes] 89 (0, 0))], G590, [(b376, .cells #[.pointer (some ⟨p557, 0, none⟩), .pointer (some ⟨p519, 0, none⟩)] 60 (0, 0))], [(b347, .cells #[.pointer (some ⟨p557, 0, none⟩), .pointer (some ⟨p519, 0, none⟩), v362, v366] 60 (0, 0))], G364, G368] := S594.objs (by rw [hg598, hq607]; simp)
      refine WD.p rfl (G.assign rfl) rfl ?_
      refine WD.nil ?_
      refine WEx.then_ ?_
      refine WCode.forget (l' := [(2, .slice A2 a2.length c2), (16, .slice (some ⟨b347, 0, none⟩) ([0, 0] : List Int).length 2), (17, .int .i64 x353), (19, .bool t575.1)]) ⟨rfl, rfl, rfl, rfl, trivial⟩ ?_
      refine WCode.seq ?_
      refine WCode.region ?_
      refine WOps.p (G.move rfl) rfl ?_
      refine WOps.p (G.not rfl rfl) rfl ?_
      refine WOps.nil ?_
      refine WEx.then_ ?_
      rcases ite_some hF with ⟨h609, hF⟩ | ⟨h609, hF⟩
      ·
       refine WCode.cond_f (kb (b := !t575.1) rfl (show (!t575.1) = false from by rw [h609]; rfl)) ?_
       refine WCode.skip ?_
       refine WEx.in_normal ?_
       refine WEx.then_ ?_
       refine WCode.region ?_
       refine WOps.p (G.move rfl) rfl ?_
       refine WOps.p (G.add rfl rfl (r := (w64 (x353 + 1))) rfl) rfl ?_
       refine WOps.p (G.assign rfl) rfl ?_
       refine WOps.nil ?_
       have S610 := (S608.front 4 rfl).front 4 rfl
       change St _ _ _ [[(p557, .cells #[.int .i64 t575.2.1.config.Clients, .int .i64 t575.2.1.config.Entries, .int .i64 t575.2.1.config.Bytes, .int .i64 t575.2.1.config.Reserve, .map (some b589), .int .i64 t575.2.1.entries, .int .i64 t575.2.1.bytes] 89 (0, 0))], G590, [(p519, .cells #[.int .i64 t575.2.2.C.Clients, .int .i64 t575.2.2.C.Entries, .int .i64 t575.2.2.C.Bytes, .int .i64 t575.2.2.C.Reserve, .slice A599 t575.2.2.L.length c600, .slice A603 t575.2.2.I.length c604] 104 (0, 0))], G601, G605, [(b376, .cells #[.pointer (some ⟨p557, 0, none⟩), .pointer (some ⟨p519, 0, none⟩)] 60 (0, 0))], [(b347, .cells #[.pointer (some ⟨p557, 0, none⟩), .pointer (some ⟨p519, 0, none⟩), v362, v366] 60 (0, 0))], G364, G368] at S610
       have hO611 : ObjO 89 Cache.rp p557 t575.2.1 ([(p557, .cells #[.int .i64 t575.2.1.config.Clients, .int .i64 t575.2.1.config.Entries, .int .i64 t575.2.1.config.Bytes, .int .i64 t575.2.1.config.Reserve, .map (some b589), .int .i64 t575.2.1.entries, .int .i64 t575.2.1.bytes] 89 (0, 0))] ++ (G590)) := ⟨_, _, ⟨b589, G590, rfl, hO591, rfl⟩, rfl⟩
       have S612 : St _ _ _ [[(p557, .cells #[.int .i64 t575.2.1.config.Clients, .int .i64 t575.2.1.config.Entries, .int .i64 t575.2.1.config.Bytes, .int .i64 t575.2.1.config.Reserve, .map (some b589), .int .i64 t575.2.1.entries, .int .i64 t575.2.1.bytes] 89 (0, 0))] ++ (G590), [(p519, .cells #[.int .i64 t575.2.2.C.Clients, .int .i64 t575.2.2.C.Entries, .int .i64 t575.2.2.C.Bytes, .int .i64 t575.2.2.C.Reserve, .slice A599 t575.2.2.L.length c600, .slice A603 t575.2.2.I.length c604] 104 (0, 0))], G601, G605, [(b376, .cells #[.pointer (some ⟨p557, 0, none⟩), .pointer (some ⟨p519, 0, none⟩)] 60 (0, 0))], [(b347, .cells #[.pointer (some ⟨p557, 0, none⟩), .pointer (some ⟨p519, 0, none⟩), v362, v366] 60 (0, 0))], G364, G368] := S610.objs (by simp)
       have S613 := ((S612.front 3 rfl).front 3 rfl).front 3 rfl
       change St _ _ _ [[(p519, .cells #[.int .i64 t575.2.2.C.Clients, .int .i64 t575.2.2.C.Entries, .int .i64 t575.2.2.C.Bytes, .int .i64 t575.2.2.C.Reserve, .slice A599 t575.2.2.L.length c600, .slice A603 t575.2.2.I.length c604] 104 (0, 0))], G601, G605, [(p557, .cells #[.int .i64 t575.2.1.config.Clients, .int .i64 t575.2.1.config.Entries, .int .i64 t575.2.1.config.Bytes, .int .i64 t575.2.1.config.Reserve, .map (some b589), .int .i64 t575.2.1.entries, .int .i64 t575.2.1.bytes] 89 (0, 0))] ++ (G590), [(b376, .cells #[.pointer (some ⟨p557, 0, none⟩), .pointer (some ⟨p519, 0, none⟩)] 60 (0, 0))], [(b347, .cells #[.pointer (some ⟨p557, 0, none⟩), .pointer (some ⟨p519, 0, none⟩), v362, v366] 60 (0, 0))], G364, G368] at S613
       have hO614 : ObjO 104 Cache104.rp p519 t575.2.2 ([(p519, .cells #[.int .i64 t575.2.2.C.Clients, .int .i64 t575.2.2.C.Entries, .int .i64 t575.2.2.C.Bytes, .int .i64 t575.2.2.C.Reserve, .slice A599 t575.2.2.L.length c600, .slice A603 t575.2.2.I.length c604] 104 (0, 0))] ++ (G601 ++ (G605))) := ⟨_, _, ⟨A599, c600, G601, A603, c604, G605, rfl, hO602, hO606, rfl⟩, rfl⟩
       have S615 : St _ _ _ [[(p519, .cells #[.int .i64 t575.2.2.C.Clients, .int .i64 t575.2.2.C.Entries, .int .i64 t575.2.2.C.Bytes, .int .i64 t575.2.2.C.Reserve, .slice A599 t575.2.2.L.length c600, .slice A603 t575.2.2.I.length c604] 104 (0, 0))] ++ (G601 ++ (G605)), [(p557, .cells #[.int .i64 t575.2.1.config.Clients, .int .i64 t575.2.1.config.Entries, .int .i64 t575.2.1.config.Bytes, .int .i64 t575.2.1.config.Reserve, .map (some b589), .int .i64 t575.2.1.entries, .int .i64 t575.2.1.bytes] 89 (0, 0))] ++ (G590), [(b376, .cells #[.pointer (some ⟨p557, 0, none⟩), .pointer (some ⟨p519, 0, none⟩)] 60 (0, 0))], [(b347, .cells #[.pointer (some ⟨p557, 0, none⟩), .pointer (some ⟨p519, 0, none⟩), v362, v366] 60 (0, 0))], G364, G368] := S613.objs (by simp)
       have S616 := ((((S615.front 5 rfl).front 5 rfl).front 2 rfl).front 3 rfl).front 5 rfl
       change St _ _ _ [[(b347, .cells #[.pointer (some ⟨p557, 0, none⟩), .pointer (some ⟨p519, 0, none⟩), v362, v366] 60 (0, 0))], [(p557, .cells #[.int .i64 t575.2.1.config.Clients, .int .i64 t575.2.1.config.Entries, .int .i64 t575.2.1.config.Bytes, .int .i64 t575.2.1.config.Reserve, .map (some b589), .int .i64 t575.2.1.entries, .int .i64 t575.2.1.bytes] 89 (0, 0))] ++ (G590), [(p519, .cells #[.int .i64 t575.2.2.C.Clients, .int .i64 t575.2.2.C.Entries, .int .i64 t575.2.2.C.Bytes, .int .i64 t575.2.2.C.Reserve, .slice A599 t575.2.2.L.length c600, .slice A603 t575.2.2.I.length c604] 104 (0, 0))] ++ (G601 ++ (G605)), G364, G368, [(b376, .cells #[.pointer (some ⟨p557, 0, none⟩), .pointer (some ⟨p519, 0, none⟩)] 60 (0, 0))]] at S616
       have S617 := St.keep (As := [[(b347, .cells #[.pointer (some ⟨p557, 0, none⟩), .pointer (some ⟨p519, 0, none⟩), v362, v366] 60 (0, 0))], [(p557, .cells #[.int .i64 t575.2.1.config.Clients, .int .i64 t575.2.1.config.Entries, .int .i64 t575.2.1.config.Bytes, .int .i64 t575.2.1.config.Reserve, .map (some b589), .int .i64 t575.2.1.entries, .int .i64 t575.2.1.bytes] 89 (0, 0))] ++ (G590), [(p519, .cells #[.int .i64 t575.2.2.C.Clients, .int .i64 t575.2.2.C.Entries, .int .i64 t575.2.2.C.Bytes, .int .i64 t575.2.2.C.Reserve, .slice A599 t575.2.2.L.length c600, .slice A603 t575.2.2.I.length c604] 104 (0, 0))] ++ (G601 ++ (G605)), G364, G368]) S616
       refine WEx.again _ _ (by omega) ?_ ⟨w64 (x353 + 1), (.pointer (some ⟨p557, 0, none⟩)), (some t575.2.1), [(p557, .cells #[.int .i64 t575.2.1.config.Clients, .int .i64 t575.2.1.config.Entries, .int .i64 t575.2.1.config.Bytes, .int .i64 t575.2.1.config.Reserve, .map (some b589), .int .i64 t575.2.1.entries, .int .i64 t575.2.1.bytes] 89 (0, 0))] ++ (G590), (.pointer (some ⟨p519, 0, none⟩)), (some t575.2.2), [(p519, .cells #[.int .i64 t575.2.2.C.Clients, .int .i64 t575.2.2.C.Entries, .int .i64 t575.2.2.C.Bytes, .int .i64 t575.2.2.C.Reserve, .slice A599 t575.2.2.L.length c600, .slice A603 t575.2.2.I.length c604] 104 (0, 0))] ++ (G601 ++ (G605)), v362, o363, G364, v366, o367, G368, rfl, hF, ⟨_, rfl, hO611⟩, ⟨_, rfl, hO614⟩, hO365, hO369, S617⟩
       exact ⟨rfl, rfl, rfl, trivial⟩
      ·
       refine WCode.cond_t (kb (b := !t575.1) rfl (show (!t575.1) = true from by rw [(Bool.eq_false_iff.2 h609)]; rfl)) ?_
       refine WCode.seq ?_
       refine WCode.region ?_
       refine WOps.p (G.assign rfl) rfl ?_
       refine WOps.nil ?_
       refine WEx.then_ ?_
       refine WCode.ret ?_
       refine WEx.in_ret ?_
       refine WEx.then_ret ?_
       refine WEx.then_ret ?_
       refine WEx.in_ret ?_
       refine WEx.then_ret ?_
       obtain rfl := some_eq hF
       refine WEx.ret1 rfl rfl ?_
       exact ⟨rfl, St.keep (As := []) S608⟩
     ·
      exact nomatch (show (none : Option Bool) = some r_ from hF)
    ·
     have hn619 := Option.not_isSome_iff_eq_none.1 h515
     have ho618 := hO361
     rw [hn619] at ho618
     obtain ⟨hv620, hg621⟩ := ho618
     subst hv620
     have S623 := S384.front 3 rfl
     change St _ _ _ [G360, [(b376, .cells #[v354, .pointer none] 60 (0, 0))], [(b347, .cells #[v354, .pointer none, v362, v366] 60 (0, 0))], G356, G364, G368] at S623
     have S622 : St _ _ _ [[(b376, .cells #[v354, .pointer none] 60 (0, 0))], [(b347, .cells #[v354, .pointer none, v362, v366] 60 (0, 0))], G356, G364, G368] := S623.objs (by rw [hg621]; simp)
     refine WOps.p (G.eqp_nil Try.underlying56 rfl rfl rfl) rfl ?_
     refine WOps.nil ?_
     refine WEx.then_ ?_
     refine WCode.cond_t rfl ?_
     refine WCode.exit ?_
     refine WEx.then_exit ?_
     refine WEx.in_exit ?_
     refine WEx.then_ ?_
     refine WCode.region ?_
     refine WOps.p (G.move rfl) rfl ?_
     refine WOps.p (G.add rfl rfl (r := (w64 (x353 + 1))) rfl) rfl ?_
     refine WOps.p (G.assign rfl) rfl ?_
     refine WOps.nil ?_
     have S624 := S622.emp
     have S625 := ((((S624.front 5 rfl).front 5 rfl).front 2 rfl).front 5 rfl).front 5 rfl
     change St _ _ _ [[(b347, .cells #[v354, .pointer none, v362, v366] 60 (0, 0))], G356, ([] : Grp), G364, G368, [(b376, .cells #[v354, .pointer none] 60 (0, 0))]] at S625
     have S626 := St.keep (As := [[(b347, .cells #[v354, .pointer none, v362, v366] 60 (0, 0))], G356, ([] : Grp), G364, G368]) S625
     refine WEx.again _ _ (by omega) ?_ ⟨w64 (x353 + 1), v354, o355, G356, .pointer none, none, ([] : Grp), v362, o363, G364, v366, o367, G368, rfl, hF, hO357, ⟨rfl, rfl⟩, hO365, hO369, S626⟩
     exact ⟨rfl, rfl, rfl, trivial⟩
  ·
   refine WCode.cond_f (kb (b := decide (x353 < (a2.length : Int))) rfl (decide_eq_false h375)) ?_
   refine WCode.exit ?_
   refine WEx.then_exit ?_
   refine WEx.then_exit ?_
   refine WEx.in_exit ?_
   refine WEx.then_ ?_
   refine WCode.seq ?_
   refine WCode.seq ?_
   refine WCode.region ?_
   refine WOps.p (G.assign rfl) rfl ?_
   refine WOps.nil ?_
   refine WEx.then_ ?_
   refine WCode.block ?_
   refine WCode.forget (l' := [(16, .slice (some ⟨b347, 0, none⟩) ([0, 0] : List Int).length 2), (20, .int .i64 0)]) ⟨rfl, rfl, trivial⟩ ?_
   refine WCode.loop (fun n_ l_ w_ => ∃ x627 : Int, ∃ v628 : Value, ∃ o629 : Option Cache, ∃ G630 : Grp, ∃ v632 : Value, ∃ o633 : Option Cache104, ∃ G634 : Grp, ∃ v636 : Value, ∃ o637 : Option Cache, ∃ G638 : Grp, ∃ v640 : Value, ∃ o641 : Option Cache104, ∃ G642 : Grp, l_ = [(16, .slice (some ⟨b347, 0, none⟩) ([0, 0] : List Int).length 2), (20, .int .i64 x627)] ∧ law_CPlays.l2 n_ x627 o629 o633 o637 o641 = some r_ ∧ n_ ≤ k372 ∧ (OptO 89 Cache.rp v628 o629 G630) ∧ (OptO 104 Cache104.rp v632 o633 G634) ∧ (OptO 89 Cache.rp v636 o637 G638) ∧ (OptO 104 Cache104.rp v640 o641 G642) ∧ St w (KS []) w_ [[(b347, .cells #[v628, v632, v636, v640] 60 (0, 0))], G630, G634, G638, G642]) k372 ⟨0, v354, o355, G356, v358, o359, G360, v362, o363, G364, v366, o367, G368, rfl, hF, Nat.le_refl _, hO357, hO361, hO365, hO369, S371⟩ ?_
   rintro n647 _ w644 ⟨x627, v628, o629, G630, v632, o633, G634, v636, o637, G638, v640, o641, G642, rfl, hF, hle648, hO631, hO635, hO639, hO643, S645⟩
   obtain _ | k646 := n647
   · exact nomatch (show (none : Option Bool) = some r_ from hF)
   rw [law_CPlays.l2] at hF
   refine WCode.seq ?_
   refine WCode.seq ?_
   refine WCode.region ?_
   refine WOps.p (G.move rfl) rfl ?_
   refine WOps.p (G.lss rfl rfl rfl) rfl ?_
   refine WOps.nil ?_
   refine WEx.then_ ?_
   rcases ite_some hF with ⟨h649, hF⟩ | ⟨h649, hF⟩
   ·
    refine WCode.cond_t (kb (b := decide (x627 < 2)) rfl (decide_eq_true h649)) ?_
    refine WCode.skip ?_
    refine WEx.then_ ?_
    refine WCode.seq ?_
    refine WCode.block ?_
    refine WCode.cutseq (fun l_ w_ => ∃ q660 : Nat, ∃ v650 : Value, ∃ o651 : Option Cache104, ∃ G652 : Grp, ∃ v654 : Value, ∃ o655 : Option Cache104, ∃ G656 : Grp, l_ = [(16, .slice (some ⟨b347, 0, none⟩) ([0, 0] : List Int).length 2), (20, .int .i64 x627)] ∧ law_CPlays.j2 q660 x627 o629 o637 o651 o655 = some r_ ∧ q660 ≤ k646 ∧ (OptO 104 Cache104.rp v650 o651 G652) ∧ (OptO 104 Cache104.rp v654 o655 G656) ∧ St w (KS []) w_ [[(b347, .cells #[v628, v650, v636, v654] 60 (0, 0))], G630, G638, G652, G656]) ?_ ?_
    ·
     refine WCode.seq ?_
     refine WCode.region ?_
     refine WOps.p (G.move rfl) rfl ?_
     refine WOps.p (G.move rfl) rfl ?_
     rcases ite_some hF with ⟨h662, hF⟩ | ⟨h662, hF⟩
     ·
      refine WOps.p (G.idx (o := 0) (j := 0) T.el61 rfl rfl rfl (show x627 = ((0 : Nat) : Int) from h662) (by decide) : GP _ _ _ _ (.pointer (some ⟨b347, 0, none⟩))) rfl ?_
      refine WOps.p (G.field T.fld60_1 rfl (show 0 + 1 = 1 from rfl)) rfl ?_
      refine WOps.r (G.load1 T.one56 rfl (cell_blk (S645.blk 0 rfl) rfl)) rfl ?_
      rcases ite_some hF with ⟨h663, hF⟩ | ⟨h663, hF⟩
      ·
       obtain ⟨x664, hc665, hF⟩ := bind_some hF
       have ho666 := hO635
       rw [hc665] at ho666
       obtain ⟨p667, hv668, hO669⟩ := ho666
       subst hv668
       have S670 := S645.front 2 rfl
       change St _ _ _ [G634, [(b347, .cells #[v628, .pointer (some ⟨p667, 0, none⟩), v636, v640] 60 (0, 0))], G630, G638, G642] at S670
       obtain ⟨cs671, G672, ho673, hg674⟩ := hO669
       obtain ⟨A675, c676, G677, A679, c680, G681, rfl, hO678, hO682, hq683⟩ := ho673
       have S684 : St _ _ _ [[(p667, .cells #[.int .i64 x664.C.Clients, .int .i64 x664.C.Entries, .int .i64 x664.C.Bytes, .int .i64 x664.C.Reserve, .slice A675 x664.L.length c676, .slice A679 x664.I.length c680] 104 (0, 0))], G677, G681, [(b347, .cells #[v628, .pointer (some ⟨p667, 0, none⟩), v636, v640] 60 (0, 0))], G630, G638, G642] := S670.objs (by rw [hg674, hq683]; simp)
       refine WOps.p (G.eqp_nil Try.underlying56 rfl rfl rfl) rfl ?_
       refine WOps.nil ?_
       refine WEx.then_ ?_
       refine WCode.cond_f rfl ?_
       refine WCode.skip ?_
       have hO685 : ObjO 104 Cache104.rp p667 x664 ([(p667, .cells #[.int .i64 x664.C.Clients, .int .i64 x664.C.Entries, .int .i64 x664.C.Bytes, .int .i64 x664.C.Reserve, .slice A675 x664.L.length c676, .slice A679 x664.I.length c680] 104 (0, 0))] ++ (G677 ++ (G681))) := ⟨_, _, ⟨A675, c676, G677, A679, c680, G681, rfl, hO678, hO682, rfl⟩, rfl⟩
       have S686 : St _ _ _ [[(p667, .cells #[.int .i64 x664.C.Clients, .int .i64 x664.C.Entries, .int .i64 x664.C.Bytes, .int .i64 x664.C.Reserve, .slice A675 x664.L.length c676, .slice A679 x664.I.length c680] 104 (0, 0))] ++ (G677 ++ (G681)), [(b347, .cells #[v628, .pointer (some ⟨p667, 0, none⟩), v636, v640] 60 (0, 0))], G630, G638, G642] := S684.objs (by simp)
       have S687 := ((((S686.front 4 rfl).front 1 rfl).front 4 rfl).front 4 rfl).front 4 rfl
       change St _ _ _ [[(b347, .cells #[v628, .pointer (some ⟨p667, 0, none⟩), v636, v640] 60 (0, 0))], G630, G638, [(p667, .cells #[.int .i64 x664.C.Clients, .int .i64 x664.C.Entries, .int .i64 x664.C.Bytes, .int .i64 x664.C.Reserve, .slice A675 x664.L.length c676, .slice A679 x664.I.length c680] 104 (0, 0))] ++ (G677 ++ (G681)), G642] at S687
       refine WEx.cutend _ ?_ ⟨k646, (.pointer (some ⟨p667, 0, none⟩)), (some x664), [(p667, .cells #[.int .i64 x664.C.Clients, .int .i64 x664.C.Entries, .int .i64 x664.C.Bytes, .int .i64 x664.C.Reserve, .slice A675 x664.L.length c676, .slice A679 x664.I.length c680] 104 (0, 0))] ++ (G677 ++ (G681)), v640, o641, G642, rfl, hF, (by omega), ⟨_, rfl, hO685⟩, hO643, S687⟩
       exact ⟨rfl, rfl, trivial⟩
      ·
       have hn689 := Option.not_isSome_iff_eq_none.1 h663
       have ho688 := hO635
       rw [hn689] at ho688
       obtain ⟨hv690, hg691⟩ := ho688
       subst hv690
       have S693 := S645.front 2 rfl
       change St _ _ _ [G634, [(b347, .cells #[v628, .pointer none, v636, v640] 60 (0, 0))], G630, G638, G642] at S693
       have S692 : St _ _ _ [[(b347, .cells #[v628, .pointer none, v636, v640] 60 (0, 0))], G630, G638, G642] := S693.objs (by rw [hg691]; simp)
       refine WOps.p (G.eqp_nil Try.underlying56 rfl rfl rfl) rfl ?_
       refine WOps.nil ?_
       refine WEx.then_ ?_
       refine WCode.cond_t rfl ?_
       refine WCode.exit ?_
       refine WEx.then_exit ?_
       refine WEx.in_exit ?_
       refine WEx.then_ ?_
       refine WCode.region ?_
       refine WOps.p (G.move rfl) rfl ?_
       refine WOps.p (G.add rfl rfl (r := (w64 (x627 + 1))) rfl) rfl ?_
       refine WOps.p (G.assign rfl) rfl ?_
       refine WOps.nil ?_
       have S694 := S692.emp
       have S695 := ((((S694.front 4 rfl).front 4 rfl).front 2 rfl).front 4 rfl).front 4 rfl
       change St _ _ _ [[(b347, .cells #[v628, .pointer none, v636, v640] 60 (0, 0))], G630, ([] : Grp), G638, G642] at S695
       refine WEx.again _ _ (by omega) ?_ ⟨w64 (x627 + 1), v628, o629, G630, .pointer none, none, ([] : Grp), v636, o637, G638, v640, o641, G642, rfl, hF, (by omega), hO631, ⟨rfl, rfl⟩, hO639, hO643, S695⟩
       exact ⟨rfl, rfl, trivial⟩
     ·
      rcases ite_some hF with ⟨h696, hF⟩ | ⟨h696, hF⟩
      ·
       refine WOps.p (G.idx (o := 0) (j := 1) T.el61 rfl rfl rfl (show x627 = ((1 : Nat) : Int) from h696) (by decide) : GP _ _ _ _ (.pointer (some ⟨b347, 2, none⟩))) rfl ?_
       refine WOps.p (G.field T.fld60_1 rfl (show 2 + 1 = 3 from rfl)) rfl ?_
       refine WOps.r (G.load1 T.one56 rfl (cell_blk (S645.blk 0 rfl) rfl)) rfl ?_
       rcases ite_some hF with ⟨h697, hF⟩ | ⟨h697, hF⟩
       ·
        obtain ⟨x698, hc699, hF⟩ := bind_some hF
        have ho700 := hO643
        rw [hc699] at ho700
        obtain ⟨p701, hv702, hO703⟩ := ho700
        subst hv702
        have S704 := S645.front 4 rfl
        change St _ _ _ [G642, [(b347, .cells #[v628, v632, v636, .pointer (some ⟨p701, 0, none⟩)] 60 (0, 0))], G630, G634, G638] at S704
        obtain ⟨cs705, G706, ho707, hg708⟩ := hO703
        obtain ⟨A709, c710, G711, A713, c714, G715, rfl, hO712, hO716, hq717⟩ := ho707
        have S718 : St _ _ _ [[(p701, .cells #[.int .i64 x698.C.Clients, .int .i64 x698.C.Entries, .int .i64 x698.C.Bytes, .int .i64 x698.C.Reserve, .slice A709 x698.L.length c710, .slice A713 x698.I.length c714] 104 (0, 0))], G711, G715, [(b347, .cells #[v628, v632, v636, .pointer (some ⟨p701, 0, none⟩)] 60 (0, 0))], G630, G634, G638] := S704.objs (by rw [hg708, hq717]; simp)
        refine WOps.p (G.eqp_nil Try.underlying56 rfl rfl rfl) rfl ?_
        refine WOps.nil ?_
        refine WEx.then_ ?_
        refine WCode.cond_f rfl ?_
        refine WCode.skip ?_
        have hO719 : ObjO 104 Cache104.rp p701 x698 ([(p701, .cells #[.int .i64 x698.C.Clients, .int .i64 x698.C.Entries, .int .i64 x698.C.Bytes, .int .i64 x698.C.Reserve, .slice A709 x698.L.length c710, .slice A713 x698.I.length c714] 104 (0, 0))] ++ (G711 ++ (G715))) := ⟨_, _, ⟨A709, c710, G711, A713, c714, G715, rfl, hO712, hO716, rfl⟩, rfl⟩
        have S720 : St _ _ _ [[(p701, .cells #[.int .i64 x698.C.Clients, .int .i64 x698.C.Entries, .int .i64 x698.C.Bytes, .int .i64 x698.C.Reserve, .slice A709 x698.L.length c710, .slice A713 x698.I.length c714] 104 (0, 0))] ++ (G711 ++ (G715)), [(b347, .cells #[v628, v632, v636, .pointer (some ⟨p701, 0, none⟩)] 60 (0, 0))], G630, G634, G638] := S718.objs (by simp)
        have S721 := (((S720.front 3 rfl).front 4 rfl).front 4 rfl).front 4 rfl
        change St _ _ _ [[(b347, .cells #[v628, v632, v636, .pointer (some ⟨p701, 0, none⟩)] 60 (0, 0))], G630, G638, G634, [(p701, .cells #[.int .i64 x698.C.Clients, .int .i64 x698.C.Entries, .int .i64 x698.C.Bytes, .int .i64 x698.C.Reserve, .slice A709 x698.L.length c710, .slice A713 x698.I.length c714] 104 (0, 0))] ++ (G711 ++ (G715))] at S721
        refine WEx.cutend _ ?_ ⟨k646, v632, o633, G634, (.pointer (some ⟨p701, 0, none⟩)), (some x698), [(p701, .cells #[.int .i64 x698.C.Clients, .int .i64 x698.C.Entries, .int .i64 x698.C.Bytes, .int .i64 x698.C.Reserve, .slice A709 x698.L.length c710, .slice A713 x698.I.length c714] 104 (0, 0))] ++ (G711 ++ (G715)), rfl, hF, (by omega), hO635, ⟨_, rfl, hO719⟩, S721⟩
        exact ⟨rfl, rfl, trivial⟩
       ·
        have hn723 := Option.not_isSome_iff_eq_none.1 h697
        have ho722 := hO643
        rw [hn723] at ho722
        obtain ⟨hv724, hg725⟩ := ho722
        subst hv724
        have S727 := S645.front 4 rfl
        change St _ _ _ [G642, [(b347, .cells #[v628, v632, v636, .pointer none] 60 (0, 0))], G630, G634, G638] at S727
        have S726 : St _ _ _ [[(b347, .cells #[v628, v632, v636, .pointer none] 60 (0, 0))], G630, G634, G638] := S727.objs (by rw [hg725]; simp)
        refine WOps.p (G.eqp_nil Try.underlying56 rfl rfl rfl) rfl ?_
        refine WOps.nil ?_
        refine WEx.then_ ?_
        refine WCode.cond_t rfl ?_
        refine WCode.exit ?_
        refine WEx.then_exit ?_
        refine WEx.in_exit ?_
        refine WEx.then_ ?_
        refine WCode.region ?_
        refine WOps.p (G.move rfl) rfl ?_
        refine WOps.p (G.add rfl rfl (r := (w64 (x627 + 1))) rfl) rfl ?_
        refine WOps.p (G.assign rfl) rfl ?_
        refine WOps.nil ?_
        have S728 := S726.emp
        have S729 := (((S728.front 4 rfl).front 4 rfl).front 4 rfl).front 4 rfl
        change St _ _ _ [[(b347, .cells #[v628, v632, v636, .pointer none] 60 (0, 0))], G630, G634, G638, ([] : Grp)] at S729
        refine WEx.again _ _ (by omega) ?_ ⟨w64 (x627 + 1), v628, o629, G630, v632, o633, G634, v636, o637, G638, .pointer none, none, ([] : Grp), rfl, hF, (by omega), hO631, hO635, hO639, ⟨rfl, rfl⟩, S729⟩
        exact ⟨rfl, rfl, trivial⟩
      ·
       exact nomatch (show (none : Option Bool) = some r_ from hF)
    ·
     rintro _ w658 ⟨q660, v650, o651, G652, v654, o655, G656, rfl, hF, hq661, hO653, hO657, S659⟩
     obtain _ | k730 := q660
     · exact nomatch (show (none : Option Bool) = some r_ from hF)
     rw [law_CPlays.j2] at hF
     refine WCode.seq ?_
     refine WCode.region ?_
     refine WOps.p (G.move rfl) rfl ?_
     refine WOps.p (G.move rfl) rfl ?_
     rcases ite_some hF with ⟨h731, hF⟩ | ⟨h731, hF⟩
     ·
      refine WOps.p (G.idx (o := 0) (j := 0) T.el61 rfl rfl rfl (show x627 = ((0 : Nat) : Int) from h731) (by decide) : GP _ _ _ _ (.pointer (some ⟨b347, 0, none⟩))) rfl ?_
      refine WOps.r (G.loada T.agg60_2 rfl (cs := [v628, v650]) (cellsAt.of_blk (S659.blk 0 rfl) rfl)) rfl ?_
      refine WOps.p (G.build (cells := #[.bool false, .bool false, .int .i64 99, .int .i64 0, .int .i64 0, .int .i64 0, .int .i64 0, .int .i64 0, .string (bs ([] : List UInt8))]) (evp_spec (evp_cons rfl evp_nil)) (by kernel_rfl)) rfl ?_
      rcases ite_some hF with ⟨h732, hF⟩ | ⟨h732, hF⟩
      ·
       rcases ite_some hF with ⟨h749, hF⟩ | ⟨h749, hF⟩
       ·
        obtain ⟨x750, hc751, hF⟩ := bind_some hF
        have ho752 := hO631
        rw [hc751] at ho752
        obtain ⟨p753, hv754, hO755⟩ := ho752
        subst hv754
        have S756 := S659.front 1 rfl
        change St _ _ _ [G630, [(b347, .cells #[.pointer (some ⟨p753, 0, none⟩), v650, v636, v654] 60 (0, 0))], G638, G652, G656] at S756
        obtain ⟨cs757, G758, ho759, hg760⟩ := hO755
        obtain ⟨b761, G762, rfl, hO763, hq764⟩ := ho759
        have S765 : St _ _ _ [[(p753, .cells #[.int .i64 x750.config.Clients, .int .i64 x750.config.Entries, .int .i64 x750.config.Bytes, .int .i64 x750.config.Reserve, .map (some b761), .int .i64 x750.entries, .int .i64 x750.bytes] 89 (0, 0))], G762, [(b347, .cells #[.pointer (some ⟨p753, 0, none⟩), v650, v636, v654] 60 (0, 0))], G638, G652, G656] := S756.objs (by rw [hg760, hq764]; simp)
        obtain ⟨x766, hc767, hF⟩ := bind_some hF
        have ho768 := hO653
        rw [hc767] at ho768
        obtain ⟨p769, hv770, hO771⟩ := ho768
        subst hv770
        have S772 := S765.front 4 rfl
        change St _ _ _ [G652, [(p753, .cells #[.int .i64 x750.config.Clients, .int .i64 x750.config.Entries, .int .i64 x750.config.Bytes, .int .i64 x750.config.Reserve, .map (some b761), .int .i64 x750.entries, .int .i64 x750.bytes] 89 (0, 0))], G762, [(b347, .cells #[.pointer (some ⟨p753, 0, none⟩), .pointer (some ⟨p769, 0, none⟩), v636, v654] 60 (0, 0))], G638, G656] at S772
        obtain ⟨cs773, G774, ho775, hg776⟩ := hO771
        obtain ⟨A777, c778, G779, A781, c782, G783, rfl, hO780, hO784, hq785⟩ := ho775
        have S786 : St _ _ _ [[(p769, .cells #[.int .i64 x766.C.Clients, .int .i64 x766.C.Entries, .int .i64 x766.C.Bytes, .int .i64 x766.C.Reserve, .slice A777 x766.L.length c778, .slice A781 x766.I.length c782] 104 (0, 0))], G779, G783, [(p753, .cells #[.int .i64 x750.config.Clients, .int .i64 x750.config.Entries, .int .i64 x750.config.Bytes, .int .i64 x750.config.Reserve, .map (some b761), .int .i64 x750.entries, .int .i64 x750.bytes] 89 (0, 0))], G762, [(b347, .cells #[.pointer (some ⟨p753, 0, none⟩), .pointer (some ⟨p769, 0, none⟩), v636, v654] 60 (0, 0))], G638, G656] := S772.objs (by rw [hg776, hq785]; simp)
        have S787 := (S786.front 4 rfl).front 4 rfl
        change St _ _ _ [[(p753, .cells #[.int .i64 x750.config.Clients, .int .i64 x750.config.Entries, .int .i64 x750.config.Bytes, .int .i64 x750.config.Reserve, .map (some b761), .int .i64 x750.entries, .int .i64 x750.bytes] 89 (0, 0))], G762, [(p769, .cells #[.int .i64 x766.C.Clients, .int .i64 x766.C.Entries, .int .i64 x766.C.Bytes, .int .i64 x766.C.Reserve, .slice A777 x766.L.length c778, .slice A781 x766.I.length c782] 104 (0, 0))], G779, G783, [(b347, .cells #[.pointer (some ⟨p753, 0, none⟩), .pointer (some ⟨p769, 0, none⟩), v636, v654] 60 (0, 0))], G638, G656] at S787
        have hO788 : ObjO 89 Cache.rp p753 x750 ([(p753, .cells #[.int .i64 x750.config.Clients, .int .i64 x750.config.Entries, .int .i64 x750.config.Bytes, .int .i64 x750.config.Reserve, .map (some b761), .int .i64 x750.entries, .int .i64 x750.bytes] 89 (0, 0))] ++ (G762)) := ⟨_, _, ⟨b761, G762, rfl, hO763, rfl⟩, rfl⟩
        have S789 : St _ _ _ [[(p753, .cells #[.int .i64 x750.config.Clients, .int .i64 x750.config.Entries, .int .i64 x750.config.Bytes, .int .i64 x750.config.Reserve, .map (some b761), .int .i64 x750.entries, .int .i64 x750.bytes] 89 (0, 0))] ++ (G762), [(p769, .cells #[.int .i64 x766.C.Clients, .int .i64 x766.C.Entries, .int .i64 x766.C.Bytes, .int .i64 x766.C.Reserve, .slice A777 x766.L.length c778, .slice A781 x766.I.length c782] 104 (0, 0))], G779, G783, [(b347, .cells #[.pointer (some ⟨p753, 0, none⟩), .pointer (some ⟨p769, 0, none⟩), v636, v654] 60 (0, 0))], G638, G656] := S787.objs (by simp)
        have S790 := ((S789.front 3 rfl).front 3 rfl).front 3 rfl
        change St _ _ _ [[(p769, .cells #[.int .i64 x766.C.Clients, .int .i64 x766.C.Entries, .int .i64 x766.C.Bytes, .int .i64 x766.C.Reserve, .slice A777 x766.L.length c778, .slice A781 x766.I.length c782] 104 (0, 0))], G779, G783, [(p753, .cells #[.int .i64 x750.config.Clients, .int .i64 x750.config.Entries, .int .i64 x750.config.Bytes, .int .i64 x750.config.Reserve, .map (some b761), .int .i64 x750.entries, .int .i64 x750.bytes] 89 (0, 0))] ++ (G762), [(b347, .cells #[.pointer (some ⟨p753, 0, none⟩), .pointer (some ⟨p769, 0, none⟩), v636, v654] 60 (0, 0))], G638, G656] at S790
        have hO791 : ObjO 104 Cache104.rp p769 x766 ([(p769, .cells #[.int .i64 x766.C.Clients, .int .i64 x766.C.Entries, .int .i64 x766.C.Bytes, .int .i64 x766.C.Reserve, .slice A777 x766.L.length c778, .slice A781 x766.I.length c782] 104 (0, 0))] ++ (G779 ++ (G783))) := ⟨_, _, ⟨A777, c778, G779, A781, c782, G783, rfl, hO780, hO784, rfl⟩, rfl⟩
        have S792 : St _ _ _ [[(p769, .cells #[.int .i64 x766.C.Clients, .int .i64 x766.C.Entries, .int .i64 x766.C.Bytes, .int .i64 x766.C.Reserve, .slice A777 x766.L.length c778, .slice A781 x766.I.length c782] 104 (0, 0))] ++ (G779 ++ (G783)), [(p753, .cells #[.int .i64 x750.config.Clients, .int .i64 x750.config.Entries, .int .i64 x750.config.Bytes, .int .i64 x750.config.Reserve, .map (some b761), .int .i64 x750.entries, .int .i64 x750.bytes] 89 (0, 0))] ++ (G762), [(b347, .cells #[.pointer (some ⟨p753, 0, none⟩), .pointer (some ⟨p769, 0, none⟩), v636, v654] 60 (0, 0))], G638, G656] := S790.objs (by simp)
        obtain ⟨t793, hc794, hF⟩ := bind_some hF
        have S795 := S792.front 1 rfl
        change St _ _ _ [[(p753, .cells #[.int .i64 x750.config.Clients, .int .i64 x750.config.Entries, .int .i64 x750.config.Bytes, .int .i64 x750.config.Reserve, .map (some b761), .int .i64 x750.entries, .int .i64 x750.bytes] 89 (0, 0))] ++ (G762), [(p769, .cells #[.int .i64 x766.C.Clients, .int .i64 x766.C.Entries, .int .i64 x766.C.Bytes, .int .i64 x766.C.Reserve, .slice A777 x766.L.length c778, .slice A781 x766.I.length c782] 104 (0, 0))] ++ (G779 ++ (G783)), [(b347, .cells #[.pointer (some ⟨p753, 0, none⟩), .pointer (some ⟨p769, 0, none⟩), v636, v654] 60 (0, 0))], G638, G656] at S795
        refine WOps.call T.call24 (evs_cons rfl (evs_cons rfl evs_nil)) rfl ?_
        refine (ca_step_calls k730 x750 x766 (⟨false, false, 99, 0, 0, 0, (⟨0, 0⟩ : WhoC), ([] : List UInt8)⟩ : OpC) hO788 hO791 hc794 (St.hpN (As := [[(p753, .cells #[.int .i64 x750.config.Clients, .int .i64 x750.config.Entries, .int .i64 x750.config.Bytes, .int .i64 x750.config.Reserve, .map (some b761), .int .i64 x750.entries, .int .i64 x750.bytes] 89 (0, 0))] ++ (G762), [(p769, .cells #[.int .i64 x766.C.Clients, .int .i64 x766.C.Entries, .int .i64 x766.C.Bytes, .int .i64 x766.C.Reserve, .slice A777 x766.L.length c778, .slice A781 x766.I.length c782] 104 (0, 0))] ++ (G779 ++ (G783))]) S795)).mono ?_
        rintro _ w796 ⟨G799, G801, rfl, hO800, hO802, T797⟩
        have S798 := St.callN (As := [[(p753, .cells #[.int .i64 x750.config.Clients, .int .i64 x750.config.Entries, .int .i64 x750.config.Bytes, .int .i64 x750.config.Reserve, .map (some b761), .int .i64 x750.entries, .int .i64 x750.bytes] 89 (0, 0))] ++ (G762), [(p769, .cells #[.int .i64 x766.C.Clients, .int .i64 x766.C.Entries, .int .i64 x766.C.Bytes, .int .i64 x766.C.Reserve, .slice A777 x766.L.length c778, .slice A781 x766.I.length c782] 104 (0, 0))] ++ (G779 ++ (G783))]) S795 T797
        change St _ _ _ [G799, G801, [(b347, .cells #[.pointer (some ⟨p753, 0, none⟩), .pointer (some ⟨p769, 0, none⟩), v636, v654] 60 (0, 0))], G638, G656] at S798
        refine ⟨_, rfl, ?_⟩
        obtain ⟨cs803, G804, ho805, hg806⟩ := hO800
        obtain ⟨b807, G808, rfl, hO809, hq810⟩ := ho805
        have S811 : St _ _ _ [[(p753, .cells #[.int .i64 t793.2.1.config.Clients, .int .i64 t793.2.1.config.Entries, .int .i64 t793.2.1.config.Bytes, .int .i64 t793.2.1.config.Reserve, .map (some b807), .int .i64 t793.2.1.entries, .int .i64 t793.2.1.bytes] 89 (0, 0))], G808, G801, [(b347, .cells #[.pointer (some ⟨p753, 0, none⟩), .pointer (some ⟨p769, 0, none⟩), v636, v654] 60 (0, 0))], G638, G656] := S798.objs (by rw [hg806, hq810]; simp)
        have S812 := S811.front 2 rfl
        change St _ _ _ [G801, [(p753, .cells #[.int .i64 t793.2.1.config.Clients, .int .i64 t793.2.1.config.Entries, .int .i64 t793.2.1.config.Bytes, .int .i64 t793.2.1.config.Reserve, .map (some b807), .int .i64 t793.2.1.entries, .int .i64 t793.2.1.bytes] 89 (0, 0))], G808, [(b347, .cells #[.pointer (some ⟨p753, 0, none⟩), .pointer (some ⟨p769, 0, none⟩), v636, v654] 60 (0, 0))], G638, G656] at S812
        obtain ⟨cs813, G814, ho815, hg816⟩ := hO802
        obtain ⟨A817, c818, G819, A821, c822, G823, rfl, hO820, hO824, hq825⟩ := ho815
        have S826 : St _ _ _ [[(p769, .cells #[.int .i64 t793.2.2.C.Clients, .int .i64 t793.2.2.C.Entries, .int .i64 t793.2.2.C.Bytes, .int .i64 t793.2.2.C.Reserve, .slice A817 t793.2.2.L.length c818, .slice A821 t793.2.2.I.length c822] 104 (0, 0))], G819, G823, [(p753, .cells #[.int .i64 t793.2.1.config.Clients, .int .i64 t793.2.1.config.Entries, .int .i64 t793.2.1.config.Bytes, .int .i64 t793.2.1.config.Reserve, .map (some b807), .int .i64 t793.2.1.entries, .int .i64 t793.2.1.bytes] 89 (0, 0))], G808, [(b347, .cells #[.pointer (some ⟨p753, 0, none⟩), .pointer (some ⟨p769, 0, none⟩), v636, v654] 60 (0, 0))], G638, G656] := S812.objs (by rw [hg816, hq825]; simp)
        refine WOps.p (G.assign rfl) rfl ?_
        refine WOps.nil ?_
        refine WEx.then_ ?_
        refine WCode.seq ?_
        refine WCode.seq ?_
        refine WCode.region ?_
        refine WOps.p (G.move rfl) rfl ?_
        refine WOps.p (G.not rfl rfl) rfl ?_
        refine WOps.nil ?_
        refine WEx.then_ ?_
        rcases ite_some hF with ⟨h827, hF⟩ | ⟨h827, hF⟩
        ·
         refine WCode.cond_f (kb (b := !t793.1) rfl (show (!t793.1) = false from by rw [h827]; rfl)) ?_
         refine WCode.skip ?_
         refine WEx.then_ ?_
         refine WCode.seq ?_
         refine WCode.region ?_
         refine WOps.p (G.assign rfl) rfl ?_
         refine WOps.nil ?_
         refine WEx.then_ ?_
         refine WCode.block ?_
         have S857 := (((((((S826.front 4 rfl).front 3 rfl).front 3 rfl).front 7 rfl).front 7 rfl).front 7 rfl).front 7 rfl).front 7 rfl
         change St _ _ _ [[(p769, .cells #[.int .i64 t793.2.2.C.Clients, .int .i64 t793.2.2.C.Entries, .int .i64 t793.2.2.C.Bytes, .int .i64 t793.2.2.C.Reserve, .slice A817 t793.2.2.L.length c818, .slice A821 t793.2.2.I.length c822] 104 (0, 0))], [(p753, .cells #[.int .i64 t793.2.1.config.Clients, .int .i64 t793.2.1.config.Entries, .int .i64 t793.2.1.config.Bytes, .int .i64 t793.2.1.config.Reserve, .map (some b807), .int .i64 t793.2.1.entries, .int .i64 t793.2.1.bytes] 89 (0, 0))], [(b347, .cells #[.pointer (some ⟨p753, 0, none⟩), .pointer (some ⟨p769, 0, none⟩), v636, v654] 60 (0, 0))], G638, G656, G819, G823, G808] at S857
         refine WCode.forget (l' := [(16, .slice (some ⟨b347, 0, none⟩) ([0, 0] : List Int).length 2), (20, .int .i64 x627), (22, .int .i64 0)]) ⟨rfl, rfl, rfl, trivial⟩ ?_
         refine WCode.loop (fun n_ l_ w_ => ∃ x828 : Int, ∃ x829 : Int, ∃ x830 : Int, ∃ x831 : Int, ∃ x832 : Int, ∃ A833 : Option Addr, ∃ c834 : Nat, ∃ l835 : List Known123, ∃ G836 : Grp, ∃ A838 : Option Addr, ∃ c839 : Nat, ∃ l840 : List Item, ∃ G841 : Grp, ∃ x843 : Int, ∃ x844 : Int, ∃ x845 : Int, ∃ x846 : Int, ∃ b847 : Nat, ∃ l848 : List (WhoC × Known), ∃ G849 : Grp, ∃ x851 : Int, ∃ x852 : Int, l_ = [(16, .slice (some ⟨b347, 0, none⟩) ([0, 0] : List Int).length 2), (20, .int .i64 x627), (22, .int .i64 x828)] ∧ law_CPlays.l3 n_ x627 o637 o655 x828 x829 x830 x831 x832 l835 l840 x843 x844 x845 x846 l848 x851 x852 = some r_ ∧ n_ ≤ k730 ∧ (SlO 123 Known123.rp (.slice A833 l835.length c834) l835 G836) ∧ (SlO 127 Item.rp (.slice A838 l840.length c839) l840 G841) ∧ (CliO M87.k 96 Known.rp b847 l848 G849) ∧ St w (KS []) w_ [[(p769, .cells #[.int .i64 x829, .int .i64 x830, .int .i64 x831, .int .i64 x832, .slice A833 l835.length c834, .slice A838 l840.length c839] 104 (0, 0))], [(p753, .cells #[.int .i64 x843, .int .i64 x844, .int .i64 x845, .int .i64 x846, .map (some b847), .int .i64 x851, .int .i64 x852] 89 (0, 0))], [(b347, .cells #[.pointer (some ⟨p753, 0, none⟩), .pointer (some ⟨p769, 0, none⟩), v636, v654] 60 (0, 0))], G638, G656, G836, G841, G849]) k730 ⟨0, t793.2.2.C.Clients, t793.2.2.C.Entries, t793.2.2.C.Bytes, t793.2.2.C.Reserve, A817, c818, t793.2.2.L, G819, A821, c822, t793.2.2.I, G823, t793.2.1.config.Clients, t793.2.1.config.Entries, t793.2.1.config.Bytes, t793.2.1.config.Reserve, b807, t793.2.1.clients, G808, t793.2.1.entries, t793.2.1.bytes, rfl, hF, Nat.le_refl _, hO820, hO824, hO809, S857⟩ ?_
         rintro n856 _ w853 ⟨x828, x829, x830, x831, x832, A833, c834, l835, G836, A838, c839, l840, G841, x843, x844, x845, x846, b847, l848, G849, x851, x852, rfl, hF, hle858, hO837, hO842, hO850, S854⟩
         obtain _ | k855 := n856
         · exact nomatch (show (none : Option Bool) = some r_ from hF)
         rw [law_CPlays.l3] at hF
         refine WCode.seq ?_
         refine WCode.seq ?_
         refine WCode.region ?_
         refine WOps.p (G.move rfl) rfl ?_
         refine WOps.p (G.lss rfl rfl rfl) rfl ?_
         refine WOps.nil ?_
         refine WEx.then_ ?_
         rcases ite_some hF with ⟨h859, hF⟩ | ⟨h859, hF⟩
         ·
          refine WCode.cond_t (kb (b := decide (x828 < 8)) rfl (decide_eq_true h859)) ?_
          refine WCode.skip ?_
          refine WEx.then_ ?_
          refine WCode.seq ?_
          refine WCode.block ?_
          refine WCode.seq ?_
          refine WCode.region ?_
          refine WOps.p (G.assign rfl) rfl ?_
          refine WOps.nil ?_
          refine WEx.then_ ?_
          refine WCode.block ?_
          refine WCode.forget (l' := [(16, .slice (some ⟨b347, 0, none⟩) ([0, 0] : List Int).length 2), (20, .int .i64 x627), (22, .int .i64 x828), (23, .int .i64 0)]) ⟨rfl, rfl, rfl, rfl, trivial⟩ ?_
          refine WCode.loop (fun n_ l_ w_ => ∃ x860 : Int, ∃ x861 : Int, ∃ x862 : Int, ∃ x863 : Int, ∃ x864 : Int, ∃ A865 : Option Addr, ∃ c866 : Nat, ∃ l867 : List Known123, ∃ G868 : Grp, ∃ A870 : Option Addr, ∃ c871 : Nat, ∃ l872 : List Item, ∃ G873 : Grp, ∃ x875 : Int, ∃ x876 : Int, ∃ x877 : Int, ∃ x878 : Int, ∃ b879 : Nat, ∃ l880 : List (WhoC × Known), ∃ G881 : Grp, ∃ x883 : Int, ∃ x884 : Int, l_ = [(16, .slice (some ⟨b347, 0, none⟩) ([0, 0] : List Int).length 2), (20, .int .i64 x627), (22, .int .i64 x828), (23, .int .i64 x860)] ∧ law_CPlays.l4 n_ x627 o637 o655 x828 x860 x861 x862 x863 x864 l867 l872 x875 x876 x877 x878 l880 x883 x884 = some r_ ∧ n_ ≤ k855 ∧ (SlO 123 Known123.rp (.slice A865 l867.length c866) l867 G868) ∧ (SlO 127 Item.rp (.slice A870 l872.length c871) l872 G873) ∧ (CliO M87.k 96 Known.rp b879 l880 G881) ∧ St w (KS []) w_ [[(p769, .cells #[.int .i64 x861, .int .i64 x862, .int .i64 x863, .int .i64 x864, .slice A865 l867.length c866, .slice A870 l872.length c871] 104 (0, 0))], [(p753, .cells #[.int .i64 x875, .int .i64 x876, .int .i64 x877, .int .i64 x878, .map (some b879), .int .i64 x883, .int .i64 x884] 89 (0, 0))], [(b347, .cells #[.pointer (some ⟨p753, 0, none⟩), .pointer (some ⟨p769, 0, none⟩), v636, v654] 60 (0, 0))], G638, G656, G868, G873, G881]) k855 ⟨0, x829, x830, x831, x832, A833, c834, l835, G836, A838, c839, l840, G841, x843, x844, x845, x846, b847, l848, G849, x851, x852, rfl, hF, Nat.le_refl _, hO837, hO842, hO850, S854⟩ ?_
          rintro n888 _ w885 ⟨x860, x861, x862, x863, x864, A865, c866, l867, G868, A870, c871, l872, G873, x875, x876, x877, x878, b879, l880, G881, x883, x884, rfl, hF, hle889, hO869, hO874, hO882, S886⟩
          obtain _ | k887 := n888
          · exact nomatch (show (none : Option Bool) = some r_ from hF)
          rw [law_CPlays.l4] at hF
          refine WCode.seq ?_
          refine WCode.seq ?_
          refine WCode.region ?_
          refine WOps.p (G.move rfl) rfl ?_
          refine WOps.p (G.lss rfl rfl rfl) rfl ?_
          refine WOps.nil ?_
          refine WEx.then_ ?_
          rcases ite_some hF with ⟨h890, hF⟩ | ⟨h890, hF⟩
          ·
           refine WCode.cond_t (kb (b := decide (x860 < 100)) rfl (decide_eq_true h890)) ?_
           refine WCode.skip ?_
           refine WEx.then_ ?_
           refine WCode.seq ?_
           refine WCode.block ?_
           refine WCode.seq ?_
           refine WCode.region ?_
           refine WOps.p (G.move rfl) rfl ?_
           refine WOps.p (G.move rfl) rfl ?_
           refine WOps.p (G.idx (o := 0) (j := 0) T.el61 rfl rfl rfl (show x627 = ((0 : Nat) : Int) from h731) (by decide) : GP _ _ _ _ (.pointer (some ⟨b347, 0, none⟩))) rfl ?_
           refine WOps.r (G.loada T.agg60_2 rfl (cs := [.pointer (some ⟨p753, 0, none⟩), .pointer (some ⟨p769, 0, none⟩)]) (cellsAt.of_blk (S886.blk 2 rfl) rfl)) rfl ?_
           refine WOps.p (G.move rfl) rfl ?_
           refine WOps.p (G.move rfl) rfl ?_
           refine WOps.p (G.build (cells := #[.bool false, .bool false, .int .i64 6, .int .i64 x828, .int .i64 x860, .int .i64 0, .int .i64 0, .int .i64 0, .string (bs ([] : List UInt8))]) (evp_spec (evp_cons rfl (evp_cons rfl (evp_cons rfl evp_nil)))) (by kernel_rfl)) rfl ?_
           have S891 := (S886.front 7 rfl).front 2 rfl
           change St _ _ _ [[(p753, .cells #[.int .i64 x875, .int .i64 x876, .int .i64 x877, .int .i64 x878, .map (some b879), .int .i64 x883, .int .i64 x884] 89 (0, 0))], G881, [(p769, .cells #[.int .i64 x861, .int .i64 x862, .int .i64 x863, .int .i64 x864, .slice A865 l867.length c866, .slice A870 l872.length c871] 104 (0, 0))], [(b347, .cells #[.pointer (some ⟨p753, 0, none⟩), .pointer (some ⟨p769, 0, none⟩), v636, v654] 60 (0, 0))], G638, G656, G868, G873] at S891
           have hO892 : ObjO 89 Cache.rp p753 (⟨(⟨x875, x876, x877, x878⟩ : CacheConfig), l880, x883, x884⟩ : Cache) ([(p753, .cells #[.int .i64 x875, .int .i64 x876, .int .i64 x877, .int .i64 x878, .map (some b879), .int .i64 x883, .int .i64 x884] 89 (0, 0))] ++ (G881)) := ⟨_, _, ⟨b879, G881, rfl, hO882, rfl⟩, rfl⟩
           have S893 : St _ _ _ [[(p753, .cells #[.int .i64 x875, .int .i64 x876, .int .i64 x877, .int .i64 x878, .map (some b879), .int .i64 x883, .int .i64 x884] 89 (0, 0))] ++ (G881), [(p769, .cells #[.int .i64 x861, .int .i64 x862, .int .i64 x863, .int .i64 x864, .slice A865 l867.length c866, .slice A870 l872.length c871] 104 (0, 0))], [(b347, .cells #[.pointer (some ⟨p753, 0, none⟩), .pointer (some ⟨p769, 0, none⟩), v636, v654] 60 (0, 0))], G638, G656, G868, G873] := S891.objs (by simp)
           have S894 := ((S893.front 6 rfl).front 6 rfl).front 3 rfl
           change St _ _ _ [[(p769, .cells #[.int .i64 x861, .int .i64 x862, .int .i64 x863, .int .i64 x864, .slice A865 l867.length c866, .slice A870 l872.length c871] 104 (0, 0))], G868, G873, [(p753, .cells #[.int .i64 x875, .int .i64 x876, .int .i64 x877, .int .i64 x878, .map (some b879), .int .i64 x883, .int .i64 x884] 89 (0, 0))] ++ (G881), [(b347, .cells #[.pointer (some ⟨p753, 0, none⟩), .pointer (some ⟨p769, 0, none⟩), v636, v654] 60 (0, 0))], G638, G656] at S894
           have hO895 : ObjO 104 Cache104.rp p769 (⟨(⟨x861, x862, x863, x864⟩ : CacheConfig), l867, l872⟩ : Cache104) ([(p769, .cells #[.int .i64 x861, .int .i64 x862, .int .i64 x863, .int .i64 x864, .slice A865 l867.length c866, .slice A870 l872.length c871] 104 (0, 0))] ++ (G868 ++ (G873))) := ⟨_, _, ⟨A865, c866, G868, A870, c871, G873, rfl, hO869, hO874, rfl⟩, rfl⟩
           have S896 : St _ _ _ [[(p769, .cells #[.int .i64 x861, .int .i64 x862, .int .i64 x863, .int .i64 x864, .slice A865 l867.length c866, .slice A870 l872.length c871] 104 (0, 0))] ++ (G868 ++ (G873)), [(p753, .cells #[.int .i64 x875, .int .i64 x876, .int .i64 x877, .int .i64 x878, .map (some b879), .int .i64 x883, .int .i64 x884] 89 (0, 0))] ++ (G881), [(b347, .cells #[.pointer (some ⟨p753, 0, none⟩), .pointer (some ⟨p769, 0, none⟩), v636, v654] 60 (0, 0))], G638, G656] := S894.objs (by simp)
           obtain ⟨t897, hc898, hF⟩ := bind_some hF
           have S899 := S896.front 1 rfl
           change St _ _ _ [[(p753, .cells #[.int .i64 x875, .int .i64 x876, .int .i64 x877, .int .i64 x878, .map (some b879), .int .i64 x883, .int .i64 x884] 89 (0, 0))] ++ (G881), [(p769, .cells #[.int .i64 x861, .int .i64 x862, .int .i64 x863, .int .i64 x864, .slice A865 l867.length c866, .slice A870 l872.length c871] 104 (0, 0))] ++ (G868 ++ (G873)), [(b347, .cells #[.pointer (some ⟨p753, 0, none⟩), .pointer (some ⟨p769, 0, none⟩), v636, v654] 60 (0, 0))], G638, G656] at S899
           refine WOps.call T.call24 (evs_cons rfl (evs_cons rfl evs_nil)) rfl ?_
           refine (ca_step_calls k887 (⟨(⟨x875, x876, x877, x878⟩ : CacheConfig), l880, x883, x884⟩ : Cache) (⟨(⟨x861, x862, x863, x864⟩ : CacheConfig), l867, l872⟩ : Cache104) (⟨false, false, 6, x828, x860, 0, (⟨0, 0⟩ : WhoC), ([] : List UInt8)⟩ : OpC) hO892 hO895 hc898 (St.hpN (As := [[(p753, .cells #[.int .i64 x875, .int .i64 x876, .int .i64 x877, .int .i64 x878, .map (some b879), .int .i64 x883, .int .i64 x884] 89 (0, 0))] ++ (G881), [(p769, .cells #[.int .i64 x861, .int .i64 x862, .int .i64 x863, .int .i64 x864, .slice A865 l867.length c866, .slice A870 l872.length c871] 104 (0, 0))] ++ (G868 ++ (G873))]) S899)).mono ?_
           rintro _ w900 ⟨G903, G905, rfl, hO904, hO906, T901⟩
           have S902 := St.callN (As := [[(p753, .cells #[.int .i64 x875, .int .i64 x876, .int .i64 x877, .int .i64 x878, .map (some b879), .int .i64 x883, .int .i64 x884] 89 (0, 0))] ++ (G881), [(p769, .cells #[.int .i64 x861, .int .i64 x862, .int .i64 x863, .int .i64 x864, .slice A865 l867.length c866, .slice A870 l872.length c871] 104 (0, 0))] ++ (G868 ++ (G873))]) S899 T901
           change St _ _ _ [G903, G905, [(b347, .cells #[.pointer (some ⟨p753, 0, none⟩), .pointer (some ⟨p769, 0, none⟩), v636, v654] 60 (0, 0))], G638, G656] at S902
           refine ⟨_, rfl, ?_⟩
           obtain ⟨cs907, G908, ho909, hg910⟩ := hO904
           obtain ⟨b911, G912, rfl, hO913, hq914⟩ := ho909
           have S915 : St _ _ _ [[(p753, .cells #[.int .i64 t897.2.1.config.Clients, .int .i64 t897.2.1.config.Entries, .int .i64 t897.2.1.config.Bytes, .int .i64 t897.2.1.config.Reserve, .map (some b911), .int .i64 t897.2.1.entries, .int .i64 t897.2.1.bytes] 89 (0, 0))], G912, G905, [(b347, .cells #[.pointer (some ⟨p753, 0, none⟩), .pointer (some ⟨p769, 0, none⟩), v636, v654] 60 (0, 0))], G638, G656] := S902.objs (by rw [hg910, hq914]; simp)
           have S916 := S915.front 2 rfl
           change St _ _ _ [G905, [(p753, .cells #[.int .i64 t897.2.1.config.Clients, .int .i64 t897.2.1.config.Entries, .int .i64 t897.2.1.config.Bytes, .int .i64 t897.2.1.config.Reserve, .map (some b911), .int .i64 t897.2.1.entries, .int .i64 t897.2.1.bytes] 89 (0, 0))], G912, [(b347, .cells #[.pointer (some ⟨p753, 0, none⟩), .pointer (some ⟨p769, 0, none⟩), v636, v654] 60 (0, 0))], G638, G656] at S916
           obtain ⟨cs917, G918, ho919, hg920⟩ := hO906
           obtain ⟨A921, c922, G923, A925, c926, G927, rfl, hO924, hO928, hq929⟩ := ho919
           have S930 : St _ _ _ [[(p769, .cells #[.int .i64 t897.2.2.C.Clients, .int .i64 t897.2.2.C.Entries, .int .i64 t897.2.2.C.Bytes, .int .i64 t897.2.2.C.Reserve, .slice A921 t897.2.2.L.length c922, .slice A925 t897.2.2.I.length c926] 104 (0, 0))], G923, G927, [(p753, .cells #[.int .i64 t897.2.1.config.Clients, .int .i64 t897.2.1.config.Entries, .int .i64 t897.2.1.config.Bytes, .int .i64 t897.2.1.config.Reserve, .map (some b911), .int .i64 t897.2.1.entries, .int .i64 t897.2.1.bytes] 89 (0, 0))], G912, [(b347, .cells #[.pointer (some ⟨p753, 0, none⟩), .pointer (some ⟨p769, 0, none⟩), v636, v654] 60 (0, 0))], G638, G656] := S916.objs (by rw [hg920, hq929]; simp)
           refine WOps.p (G.assign rfl) rfl ?_
           refine WOps.nil ?_
           refine WEx.then_ ?_
           refine WCode.forget (l' := [(16, .slice (some ⟨b347, 0, none⟩) ([0, 0] : List Int).length 2), (20, .int .i64 x627), (22, .int .i64 x828), (23, .int .i64 x860), (24, .bool t897.1)]) ⟨rfl, rfl, rfl, rfl, rfl, trivial⟩ ?_
           refine WCode.seq ?_
           refine WCode.region ?_
           refine WOps.p (G.move rfl) rfl ?_
           refine WOps.p (G.move rfl) rfl ?_
           refine WOps.p (G.idx (o := 0) (j := 0) T.el61 rfl rfl rfl (show x627 = ((0 : Nat) : Int) from h731) (by decide) : GP _ _ _ _ (.pointer (some ⟨b347, 0, none⟩))) rfl ?_
           refine WOps.r (G.loada T.agg60_2 rfl (cs := [.pointer (some ⟨p753, 0, none⟩), .pointer (some ⟨p769, 0, none⟩)]) (cellsAt.of_blk (S930.blk 5 rfl) rfl)) rfl ?_
           refine WOps.p (G.move rfl) rfl ?_
           refine WOps.p (G.build (cells := #[.bool false, .bool false, .int .i64 7, .int .i64 x828, .int .i64 0, .int .i64 0, .int .i64 0, .int .i64 0, .string (bs ([] : List UInt8))]) (evp_spec (evp_cons rfl (evp_cons rfl evp_nil))) (by kernel_rfl)) rfl ?_
           have S931 := (S930.front 4 rfl).front 4 rfl
           change St _ _ _ [[(p753, .cells #[.int .i64 t897.2.1.config.Clients, .int .i64 t897.2.1.config.Entries, .int .i64 t897.2.1.config.Bytes, .int .i64 t897.2.1.config.Reserve, .map (some b911), .int .i64 t897.2.1.entries, .int .i64 t897.2.1.bytes] 89 (0, 0))], G912, [(p769, .cells #[.int .i64 t897.2.2.C.Clients, .int .i64 t897.2.2.C.Entries, .int .i64 t897.2.2.C.Bytes, .int .i64 t897.2.2.C.Reserve, .slice A921 t897.2.2.L.length c922, .slice A925 t897.2.2.I.length c926] 104 (0, 0))], G923, G927, [(b347, .cells #[.pointer (some ⟨p753, 0, none⟩), .pointer (some ⟨p769, 0, none⟩), v636, v654] 60 (0, 0))], G638, G656] at S931
           have hO932 : ObjO 89 Cache.rp p753 t897.2.1 ([(p753, .cells #[.int .i64 t897.2.1.config.Clients, .int .i64 t897.2.1.config.Entries, .int .i64 t897.2.1.config.Bytes, .int .i64 t897.2.1.config.Reserve, .map (some b911), .int .i64 t897.2.1.entries, .int .i64 t897.2.1.bytes] 89 (0, 0))] ++ (G912)) := ⟨_, _, ⟨b911, G912, rfl, hO913, rfl⟩, rfl⟩
           have S933 : St _ _ _ [[(p753, .cells #[.int .i64 t897.2.1.config.Clients, .int .i64 t897.2.1.config.Entries, .int .i64 t897.2.1.config.Bytes, .int .i64 t897.2.1.config.Reserve, .map (some b911), .int .i64 t897.2.1.entries, .int .i64 t897.2.1.bytes] 89 (0, 0))] ++ (G912), [(p769, .cells #[.int .i64 t897.2.2.C.Clients, .int .i64 t897.2.2.C.Entries, .int .i64 t897.2.2.C.Bytes, .int .i64 t897.2.2.C.Reserve, .slice A921 t897.2.2.L.length c922, .slice A925 t897.2.2.I.length c926] 104 (0, 0))], G923, G927, [(b347, .cells #[.pointer (some ⟨p753, 0, none⟩), .pointer (some ⟨p769, 0, none⟩), v636, v654] 60 (0, 0))], G638, G656] := S931.objs (by simp)
           have S934 := ((S933.front 3 rfl).front 3 rfl).front 3 rfl
           change St _ _ _ [[(p769, .cells #[.int .i64 t897.2.2.C.Clients, .int .i64 t897.2.2.C.Entries, .int .i64 t897.2.2.C.Bytes, .int .i64 t897.2.2.C.Reserve, .slice A921 t897.2.2.L.length c922, .slice A925 t897.2.2.I.length c926] 104 (0, 0))], G923, G927, [(p753, .cells #[.int .i64 t897.2.1.config.Clients, .int .i64 t897.2.1.config.Entries, .int .i64 t897.2.1.config.Bytes, .int .i64 t897.2.1.config.Reserve, .map (some b911), .int .i64 t897.2.1.entries, .int .i64 t897.2.1.bytes] 89 (0, 0))] ++ (G912), [(b347, .cells #[.pointer (some ⟨p753, 0, none⟩), .pointer (some ⟨p769, 0, none⟩), v636, v654] 60 (0, 0))], G638, G656] at S934
           have hO935 : ObjO 104 Cache104.rp p769 t897.2.2 ([(p769, .cells #[.int .i64 t897.2.2.C.Clients, .int .i64 t897.2.2.C.Entries, .int .i64 t897.2.2.C.Bytes, .int .i64 t897.2.2.C.Reserve, .slice A921 t897.2.2.L.length c922, .slice A925 t897.2.2.I.length c926] 104 (0, 0))] ++ (G923 ++ (G927))) := ⟨_, _, ⟨A921, c922, G923, A925, c926, G927, rfl, hO924, hO928, rfl⟩, rfl⟩
           have S936 : St _ _ _ [[(p769, .cells #[.int .i64 t897.2.2.C.Clients, .int .i64 t897.2.2.C.Entries, .int .i64 t897.2.2.C.Bytes, .int .i64 t897.2.2.C.Reserve, .slice A921 t897.2.2.L.length c922, .slice A925 t897.2.2.I.length c926] 104 (0, 0))] ++ (G923 ++ (G927)), [(p753, .cells #[.int .i64 t897.2.1.config.Clients, .int .i64 t897.2.1.config.Entries, .int .i64 t897.2.1.config.Bytes, .int .i64 t897.2.1.config.Reserve, .map (some b911), .int .i64 t897.2.1.entries, .int .i64 t897.2.1.bytes] 89 (0, 0))] ++ (G912), [(b347, .cells #[.pointer (some ⟨p753, 0, none⟩), .pointer (some ⟨p769, 0, none⟩), v636, v654] 60 (0, 0))], G638, G656] := S934.objs (by simp)
           obtain ⟨t937, hc938, hF⟩ := bind_some hF
           have S939 := S936.front 1 rfl
           change St _ _ _ [[(p753, .cells #[.int .i64 t897.2.1.config.Clients, .int .i64 t897.2.1.config.Entries, .int .i64 t897.2.1.config.Bytes, .int .i64 t897.2.1.config.Reserve, .map (some b911), .int .i64 t897.2.1.entries, .int .i64 t897.2.1.bytes] 89 (0, 0))] ++ (G912), [(p769, .cells #[.int .i64 t897.2.2.C.Clients, .int .i64 t897.2.2.C.Entries, .int .i64 t897.2.2.C.Bytes, .int .i64 t897.2.2.C.Reserve, .slice A921 t897.2.2.L.length c922, .slice A925 t897.2.2.I.length c926] 104 (0, 0))] ++ (G923 ++ (G927)), [(b347, .cells #[.pointer (some ⟨p753, 0, none⟩), .pointer (some ⟨p769, 0, none⟩), v636, v654] 60 (0, 0))], G638, G656] at S939
           refine WOps.call T.call24 (evs_cons rfl (evs_cons rfl evs_nil)) rfl ?_
           refine (ca_step_calls k887 t897.2.1 t897.2.2 (⟨false, false, 7, x828, 0, 0, (⟨0, 0⟩ : WhoC), ([] : List UInt8)⟩ : OpC) hO932 hO935 hc938 (St.hpN (As := [[(p753, .cells #[.int .i64 t897.2.1.config.Clients, .int .i64 t897.2.1.config.Entries, .int .i64 t897.2.1.config.Bytes, .int .i64 t897.2.1.config.Reserve, .map (some b911), .int .i64 t897.2.1.entries, .int .i64 t897.2.1.bytes] 89 (0, 0))] ++ (G912), [(p769, .cells #[.int .i64 t897.2.2.C.Clients, .int .i64 t897.2.2.C.Entries, .int .i64 t897.2.2.C.Bytes, .int .i64 t897.2.2.C.Reserve, .slice A921 t897.2.2.L.length c922, .slice A925 t897.2.2.I.length c926] 104 (0, 0))] ++ (G923 ++ (G927))]) S939)).mono ?_
           rintro _ w940 ⟨G943, G945, rfl, hO944, hO946, T941⟩
           have S942 := St.callN (As := [[(p753, .cells #[.int .i64 t897.2.1.config.Clients, .int .i64 t897.2.1.config.Entries, .int .i64 t897.2.1.config.Bytes, .int .i64 t897.2.1.config.Reserve, .map (some b911), .int .i64 t897.2.1.entries, .int .i64 t897.2.1.bytes] 89 (0, 0))] ++ (G912), [(p769, .cells #[.int .i64 t897.2.2.C.Clients, .int .i64 t897.2.2.C.Entries, .int .i64 t897.2.2.C.Bytes, .int .i64 t897.2.2.C.Reserve, .slice A921 t897.2.2.L.length c922, .slice A925 t897.2.2.I.length c926] 104 (0, 0))] ++ (G923 ++ (G927))]) S939 T941
           change St _ _ _ [G943, G945, [(b347, .cells #[.pointer (some ⟨p753, 0, none⟩), .pointer (some ⟨p769, 0, none⟩), v636, v654] 60 (0, 0))], G638, G656] at S942
           refine ⟨_, rfl, ?_⟩
           obtain ⟨cs947, G948, ho949, hg950⟩ := hO944
           obtain ⟨b951, G952, rfl, hO953, hq954⟩ := ho949
           have S955 : St _ _ _ [[(p753, .cells #[.int .i64 t937.2.1.config.Clients, .int .i64 t937.2.1.config.Entries, .int .i64 t937.2.1.config.Bytes, .int .i64 t937.2.1.config.Reserve, .map (some b951), .int .i64 t937.2.1.entries, .int .i64 t937.2.1.bytes] 89 (0, 0))], G952, G945, [(b347, .cells #[.pointer (some ⟨p753, 0, none⟩), .pointer (some ⟨p769, 0, none⟩), v636, v654] 60 (0, 0))], G638, G656] := S942.objs (by rw [hg950, hq954]; simp)
           have S956 := S955.front 2 rfl
           change St _ _ _ [G945, [(p753, .cells #[.int .i64 t937.2.1.config.Clients, .int .i64 t937.2.1.config.Entries, .int .i64 t937.2.1.config.Bytes, .int .i64 t937.2.1.config.Reserve, .map (some b951), .int .i64 t937.2.1.entries, .int .i64 t937.2.1.bytes] 89 (0, 0))], G952, [(b347, .cells #[.pointer (some ⟨p753, 0, none⟩), .pointer (some ⟨p769, 0, none⟩), v636, v654] 60 (0, 0))], G638, G656] at S956
           obtain ⟨cs957, G958, ho959, hg960⟩ := hO946
           obtain ⟨A961, c962, G963, A965, c966, G967, rfl, hO964, hO968, hq969⟩ := ho959
           have S970 : St _ _ _ [[(p769, .cells #[.int .i64 t937.2.2.C.Clients, .int .i64 t937.2.2.C.Entries, .int .i64 t937.2.2.C.Bytes, .int .i64 t937.2.2.C.Reserve, .slice A961 t937.2.2.L.length c962, .slice A965 t937.2.2.I.length c966] 104 (0, 0))], G963, G967, [(p753, .cells #[.int .i64 t937.2.1.config.Clients, .int .i64 t937.2.1.config.Entries, .int .i64 t937.2.1.config.Bytes, .int .i64 t937.2.1.config.Reserve, .map (some b951), .int .i64 t937.2.1.entries, .int .i64 t937.2.1.bytes] 89 (0, 0))], G952, [(b347, .cells #[.pointer (some ⟨p753, 0, none⟩), .pointer (some ⟨p769, 0, none⟩), v636, v654] 60 (0, 0))], G638, G656] := S956.objs (by rw [hg960, hq969]; simp)
           refine WOps.p (G.assign rfl) rfl ?_
           refine WOps.nil ?_
           refine WEx.then_ ?_
           refine WCode.seq ?_
           refine WCode.region ?_
           refine WOps.p (G.move rfl) rfl ?_
           refine WOps.p (G.not rfl rfl) rfl ?_
           refine WOps.p (G.move rfl) rfl ?_
           rcases ite_some hF with ⟨h971, hF⟩ | ⟨h971, hF⟩
           ·
            refine WOps.on rfl (kbl (b := !t897.1) rfl (show (!t897.1) = false from by rw [h971]; rfl)) ?_
            refine WOps.p (G.move rfl) rfl ?_
            refine WOps.on rfl (kbl (b := !t897.1) rfl (show (!t897.1) = false from by rw [h971]; rfl)) ?_
            refine WOps.p (G.not rfl rfl) rfl ?_
            refine WOps.p (G.pick_f (kb (b := !t897.1) rfl (show (!t897.1) = false from by rw [h971]; rfl)) rfl) rfl ?_
            refine WOps.nil ?_
            refine WEx.then_ ?_
            refine WCode.forget (l' := [(16, .slice (some ⟨b347, 0, none⟩) ([0, 0] : List Int).length 2), (20, .int .i64 x627), (22, .int .i64 x828), (23, .int .i64 x860), (152, .bool t937.1), (153, .bool (!t937.1)), (154, .bool (!t937.1))]) ⟨rfl, rfl, rfl, rfl, rfl, rfl, rfl, trivial⟩ ?_
            rcases ite_some hF with ⟨h972, hF⟩ | ⟨h972, hF⟩
            ·
             refine WCode.cond_f (kb (b := !t937.1) rfl (show (!t937.1) = false from by rw [h972]; rfl)) ?_
             refine WCode.skip ?_
             refine WEx.in_normal ?_
             refine WEx.then_ ?_
             refine WCode.region ?_
             refine WOps.p (G.move rfl) rfl ?_
             refine WOps.p (G.add rfl rfl (r := (w64 (x860 + 1))) rfl) rfl ?_
             refine WOps.p (G.assign rfl) rfl ?_
             refine WOps.nil ?_
             have S973 := (((((((S970.front 4 rfl).front 3 rfl).front 3 rfl).front 7 rfl).front 7 rfl).front 7 rfl).front 7 rfl).front 7 rfl
             change St _ _ _ [[(p769, .cells #[.int .i64 t937.2.2.C.Clients, .int .i64 t937.2.2.C.Entries, .int .i64 t937.2.2.C.Bytes, .int .i64 t937.2.2.C.Reserve, .slice A961 t937.2.2.L.length c962, .slice A965 t937.2.2.I.length c966] 104 (0, 0))], [(p753, .cells #[.int .i64 t937.2.1.config.Clients, .int .i64 t937.2.1.config.Entries, .int .i64 t937.2.1.config.Bytes, .int .i64 t937.2.1.config.Reserve, .map (some b951), .int .i64 t937.2.1.entries, .int .i64 t937.2.1.bytes] 89 (0, 0))], [(b347, .cells #[.pointer (some ⟨p753, 0, none⟩), .pointer (some ⟨p769, 0, none⟩), v636, v654] 60 (0, 0))], G638, G656, G963, G967, G952] at S973
             refine WEx.again _ _ (by omega) ?_ ⟨w64 (x860 + 1), t937.2.2.C.Clients, t937.2.2.C.Entries, t937.2.2.C.Bytes, t937.2.2.C.Reserve, A961, c962, t937.2.2.L, G963, A965, c966, t937.2.2.I, G967, t937.2.1.config.Clients, t937.2.1.config.Entries, t937.2.1.config.Bytes, t937.2.1.config.Reserve, b951, t937.2.1.clients, G952, t937.2.1.entries, t937.2.1.bytes, rfl, hF, (by omega), hO964, hO968, hO953, S973⟩
             exact ⟨rfl, rfl, rfl, rfl, trivial⟩
            ·
             refine WCode.cond_t (kb (b := !t937.1) rfl (show (!t937.1) = true from by rw [(Bool.eq_false_iff.2 h972)]; rfl)) ?_
             refine WCode.seq ?_
             refine WCode.region ?_
             refine WOps.p (G.assign rfl) rfl ?_
             refine WOps.nil ?_
             refine WEx.then_ ?_
             refine WCode.ret ?_
             refine WEx.in_ret ?_
             refine WEx.then_ret ?_
             refine WEx.then_ret ?_
             refine WEx.in_ret ?_
             refine WEx.in_ret ?_
             refine WEx.then_ret ?_
             refine WEx.then_ret ?_
             refine WEx.in_ret ?_
             refine WEx.in_ret ?_
             refine WEx.then_ret ?_
             refine WEx.then_ret ?_
             refine WEx.in_ret ?_
             refine WEx.then_ret ?_
             obtain rfl := some_eq hF
             refine WEx.ret1 rfl rfl ?_
             exact ⟨rfl, St.keep (As := []) S970⟩
           ·
            refine WOps.off rfl (kbl (b := !t897.1) rfl (show (!t897.1) = true from by rw [(Bool.eq_false_iff.2 h971)]; rfl)) rfl rfl ?_
            refine WOps.off rfl (kbl (b := !t897.1) rfl (show (!t897.1) = true from by rw [(Bool.eq_false_iff.2 h971)]; rfl)) rfl rfl ?_
            refine WOps.p (G.pick_t (kb (b := !t897.1) rfl (show (!t897.1) = true from by rw [(Bool.eq_false_iff.2 h971)]; rfl)) rfl) rfl ?_
            refine WOps.nil ?_
            refine WEx.then_ ?_
            refine WCode.forget (l' := [(16, .slice (some ⟨b347, 0, none⟩) ([0, 0] : List Int).length 2), (20, .int .i64 x627), (22, .int .i64 x828), (23, .int .i64 x860), (152, undef), (153, undef), (154, .bool true)]) ⟨rfl, rfl, rfl, rfl, rfl, rfl, rfl, trivial⟩ ?_
            refine WCode.cond_t rfl ?_
            refine WCode.seq ?_
            refine WCode.region ?_
            refine WOps.p (G.assign rfl) rfl ?_
            refine WOps.nil ?_
            refine WEx.then_ ?_
            refine WCode.ret ?_
            refine WEx.in_ret ?_
            refine WEx.then_ret ?_
            refine WEx.then_ret ?_
            refine WEx.in_ret ?_
            refine WEx.in_ret ?_
            refine WEx.then_ret ?_
            refine WEx.then_ret ?_
            refine WEx.in_ret ?_
            refine WEx.in_ret ?_
            refine WEx.then_ret ?_
            refine WEx.then_ret ?_
            refine WEx.in_ret ?_
            refine WEx.then_ret ?_
            obtain rfl := some_eq hF
            refine WEx.ret1 rfl rfl ?_
            exact ⟨rfl, St.keep (As := []) S970⟩
          ·
           refine WCode.cond_f (kb (b := decide (x860 < 100)) rfl (decide_eq_false h890)) ?_
           refine WCode.exit ?_
           refine WEx.then_exit ?_
           refine WEx.then_exit ?_
           refine WEx.in_exit ?_
           refine WEx.in_normal ?_
           refine WEx.then_ ?_
           refine WCode.region ?_
           refine WOps.p (G.move rfl) rfl ?_
           refine WOps.p (G.add rfl rfl (r := (w64 (x828 + 1))) rfl) rfl ?_
           refine WOps.p (G.assign rfl) rfl ?_
           refine WOps.nil ?_
           refine WEx.again _ _ (by omega) ?_ ⟨w64 (x828 + 1), x861, x862, x863, x864, A865, c866, l867, G868, A870, c871, l872, G873, x875, x876, x877, x878, b879, l880, G881, x883, x884, rfl, hF, (by omega), hO869, hO874, hO882, S886⟩
           exact ⟨rfl, rfl, rfl, trivial⟩
         ·
          refine WCode.cond_f (kb (b := decide (x828 < 8)) rfl (decide_eq_false h859)) ?_
          refine WCode.exit ?_
          refine WEx.then_exit ?_
          refine WEx.then_exit ?_
          refine WEx.in_exit ?_
          refine WEx.in_normal ?_
          refine WEx.then_ ?_
          refine WCode.region ?_
          refine WOps.p (G.move rfl) rfl ?_
          refine WOps.p (G.add rfl rfl (r := (w64 (x627 + 1))) rfl) rfl ?_
          refine WOps.p (G.assign rfl) rfl ?_
          refine WOps.nil ?_
          have S974 := (S854.front 7 rfl).front 2 rfl
          change St _ _ _ [[(p753, .cells #[.int .i64 x843, .int .i64 x844, .int .i64 x845, .int .i64 x846, .map (some b847), .int .i64 x851, .int .i64 x852] 89 (0, 0))], G849, [(p769, .cells #[.int .i64 x829, .int .i64 x830, .int .i64 x831, .int .i64 x832, .slice A833 l835.length c834, .slice A838 l840.length c839] 104 (0, 0))], [(b347, .cells #[.pointer (some ⟨p753, 0, none⟩), .pointer (some ⟨p769, 0, none⟩), v636, v654] 60 (0, 0))], G638, G656, G836, G841] at S974
          have hO975 : ObjO 89 Cache.rp p753 (⟨(⟨x843, x844, x845, x846⟩ : CacheConfig), l848, x851, x852⟩ : Cache) ([(p753, .cells #[.int .i64 x843, .int .i64 x844, .int .i64 x845, .int .i64 x846, .map (some b847), .int .i64 x851, .int .i64 x852] 89 (0, 0))] ++ (G849)) := ⟨_, _, ⟨b847, G849, rfl, hO850, rfl⟩, rfl⟩
          have S976 : St _ _ _ [[(p753, .cells #[.int .i64 x843, .int .i64 x844, .int .i64 x845, .int .i64 x846, .map (some b847), .int .i64 x851, .int .i64 x852] 89 (0, 0))] ++ (G849), [(p769, .cells #[.int .i64 x829, .int .i64 x830, .int .i64 x831, .int .i64 x832, .slice A833 l835.length c834, .slice A838 l840.length c839] 104 (0, 0))], [(b347, .cells #[.pointer (some ⟨p753, 0, none⟩), .pointer (some ⟨p769, 0, none⟩), v636, v654] 60 (0, 0))], G638, G656, G836, G841] := S974.objs (by simp)
          have S977 := ((S976.front 6 rfl).front 6 rfl).front 3 rfl
          change St _ _ _ [[(p769, .cells #[.int .i64 x829, .int .i64 x830, .int .i64 x831, .int .i64 x832, .slice A833 l835.length c834, .slice A838 l840.length c839] 104 (0, 0))], G836, G841, [(p753, .cells #[.int .i64 x843, .int .i64 x844, .int .i64 x845, .int .i64 x846, .map (some b847), .int .i64 x851, .int .i64 x852] 89 (0, 0))] ++ (G849), [(b347, .cells #[.pointer (some ⟨p753, 0, none⟩), .pointer (some ⟨p769, 0, none⟩), v636, v654] 60 (0, 0))], G638, G656] at S977
          have hO978 : ObjO 104 Cache104.rp p769 (⟨(⟨x829, x830, x831, x832⟩ : CacheConfig), l835, l840⟩ : Cache104) ([(p769, .cells #[.int .i64 x829, .int .i64 x830, .int .i64 x831, .int .i64 x832, .slice A833 l835.length c834, .slice A838 l840.length c839] 104 (0, 0))] ++ (G836 ++ (G841))) := ⟨_, _, ⟨A833, c834, G836, A838, c839, G841, rfl, hO837, hO842, rfl⟩, rfl⟩
          have S979 : St _ _ _ [[(p769, .cells #[.int .i64 x829, .int .i64 x830, .int .i64 x831, .int .i64 x832, .slice A833 l835.length c834, .slice A838 l840.length c839] 104 (0, 0))] ++ (G836 ++ (G841)), [(p753, .cells #[.int .i64 x843, .int .i64 x844, .int .i64 x845, .int .i64 x846, .map (some b847), .int .i64 x851, .int .i64 x852] 89 (0, 0))] ++ (G849), [(b347, .cells #[.pointer (some ⟨p753, 0, none⟩), .pointer (some ⟨p769, 0, none⟩), v636, v654] 60 (0, 0))], G638, G656] := S977.objs (by simp)
          have S980 := ((((S979.front 4 rfl).front 4 rfl).front 2 rfl).front 3 rfl).front 4 rfl
          change St _ _ _ [[(b347, .cells #[.pointer (some ⟨p753, 0, none⟩), .pointer (some ⟨p769, 0, none⟩), v636, v654] 60 (0, 0))], [(p753, .cells #[.int .i64 x843, .int .i64 x844, .int .i64 x845, .int .i64 x846, .map (some b847), .int .i64 x851, .int .i64 x852] 89 (0, 0))] ++ (G849), [(p769, .cells #[.int .i64 x829, .int .i64 x830, .int .i64 x831, .int .i64 x832, .slice A833 l835.length c834, .slice A838 l840.length c839] 104 (0, 0))] ++ (G836 ++ (G841)), G638, G656] at S980
          refine WEx.again _ _ (by omega) ?_ ⟨w64 (x627 + 1), (.pointer (some ⟨p753, 0, none⟩)), (some (⟨(⟨x843, x844, x845, x846⟩ : CacheConfig), l848, x851, x852⟩ : Cache)), [(p753, .cells #[.int .i64 x843, .int .i64 x844, .int .i64 x845, .int .i64 x846, .map (some b847), .int .i64 x851, .int .i64 x852] 89 (0, 0))] ++ (G849), (.pointer (some ⟨p769, 0, none⟩)), (some (⟨(⟨x829, x830, x831, x832⟩ : CacheConfig), l835, l840⟩ : Cache104)), [(p769, .cells #[.int .i64 x829, .int .i64 x830, .int .i64 x831, .int .i64 x832, .slice A833 l835.length c834, .slice A838 l840.length c839] 104 (0, 0))] ++ (G836 ++ (G841)), v636, o637, G638, v654, o655, G656, rfl, hF, (by omega), ⟨_, rfl, hO975⟩, ⟨_, rfl, hO978⟩, hO639, hO657, S980⟩
          exact ⟨rfl, rfl, trivial⟩
        ·
         refine WCode.cond_t (kb (b := !t793.1) rfl (show (!t793.1) = true from by rw [(Bool.eq_false_iff.2 h827)]; rfl)) ?_
         refine WCode.seq ?_
         refine WCode.region ?_
         refine WOps.p (G.assign rfl) rfl ?_
         refine WOps.nil ?_
         refine WEx.then_ ?_
         refine WCode.forget (l' := [(6, .bool false)]) ⟨rfl, trivial⟩ ?_
         refine WCode.ret ?_
         refine WEx.then_ret ?_
         refine WEx.in_ret ?_
         refine WEx.then_ret ?_
         refine WEx.then_ret ?_
         refine WEx.in_ret ?_
         refine WEx.then_ret ?_
         obtain rfl := some_eq hF
         refine WEx.ret1 rfl rfl ?_
         exact ⟨rfl, St.keep (As := []) S826⟩
       ·
        exact nomatch (show (none : Option Bool) = some r_ from hF)
      ·
       exact nomatch (show (none : Option Bool) = some r_ from hF)
     ·
      rcases ite_some hF with ⟨h997, hF⟩ | ⟨h997, hF⟩
      ·
       refine WOps.p (G.idx (o := 0) (j := 1) T.el61 rfl rfl rfl (show x627 = ((1 : Nat) : Int) from h997) (by decide) : GP _ _ _ _ (.pointer (some ⟨b347, 2, none⟩))) rfl ?_
       refine WOps.r (G.loada T.agg60_2 rfl (cs := [v636, v654]) (cellsAt.of_blk (S659.blk 0 rfl) rfl)) rfl ?_
       refine WOps.p (G.build (cells := #[.bool false, .bool false, .int .i64 99, .int .i64 0, .int .i64 0, .int .i64 0, .int .i64 0, .int .i64 0, .string (bs ([] : List UInt8))]) (evp_spec (evp_cons rfl evp_nil)) (by kernel_rfl)) rfl ?_
       rcases ite_some hF with ⟨h998, hF⟩ | ⟨h998, hF⟩
       ·
        rcases ite_some hF with ⟨h1015, hF⟩ | ⟨h1015, hF⟩
        ·
         obtain ⟨x1016, hc1017, hF⟩ := bind_some hF
         have ho1018 := hO639
         rw [hc1017] at ho1018
         obtain ⟨p1019, hv1020, hO1021⟩ := ho1018
         subst hv1020
         have S1022 := S659.front 2 rfl
         change St _ _ _ [G638, [(b347, .cells #[v628, v650, .pointer (some ⟨p1019, 0, none⟩), v654] 60 (0, 0))], G630, G652, G656] at S1022
         obtain ⟨cs1023, G1024, ho1025, hg1026⟩ := hO1021
         obtain ⟨b1027, G1028, rfl, hO1029, hq1030⟩ := ho1025
         have S1031 : St _ _ _ [[(p1019, .cells #[.int .i64 x1016.config.Clients, .int .i64 x1016.config.Entries, .int .i64 x1016.config.Bytes, .int .i64 x1016.config.Reserve, .map (some b1027), .int .i64 x1016.entries, .int .i64 x1016.bytes] 89 (0, 0))], G1028, [(b347, .cells #[v628, v650, .pointer (some ⟨p1019, 0, none⟩), v654] 60 (0, 0))], G630, G652, G656] := S1022.objs (by rw [hg1026, hq1030]; simp)
         obtain ⟨x1032, hc1033, hF⟩ := bind_some hF
         have ho1034 := hO657
         rw [hc1033] at ho1034
         obtain ⟨p1035, hv1036, hO1037⟩ := ho1034
         subst hv1036
         have S1038 := S1031.front 5 rfl
         change St _ _ _ [G656, [(p1019, .cells #[.int .i64 x1016.config.Clients, .int .i64 x1016.config.Entries, .int .i64 x1016.config.Bytes, .int .i64 x1016.config.Reserve, .map (some b1027), .int .i64 x1016.entries, .int .i64 x1016.bytes] 89 (0, 0))], G1028, [(b347, .cells #[v628, v650, .pointer (some ⟨p1019, 0, none⟩), .pointer (some ⟨p1035, 0, none⟩)] 60 (0, 0))], G630, G652] at S1038
         obtain ⟨cs1039, G1040, ho1041, hg1042⟩ := hO1037
         obtain ⟨A1043, c1044, G1045, A1047, c1048, G1049, rfl, hO1046, hO1050, hq1051⟩ := ho1041
         have S1052 : St _ _ _ [[(p1035, .cells #[.int .i64 x1032.C.Clients, .int .i64 x1032.C.Entries, .int .i64 x1032.C.Bytes, .int .i64 x1032.C.Reserve, .slice A1043 x1032.L.length c1044, .slice A1047 x1032.I.length c1048] 104 (0, 0))], G1045, G1049, [(p1019, .cells #[.int .i64 x1016.config.Clients, .int .i64 x1016.config.Entries, .int .i64 x1016.config.Bytes, .int .i64 x1016.config.Reserve, .map (some b1027), .int .i64 x1016.entries, .int .i64 x1016.bytes] 89 (0, 0))], G1028, [(b347, .cells #[v628, v650, .pointer (some ⟨p1019, 0, none⟩), .pointer (some ⟨p1035, 0, none⟩)] 60 (0, 0))], G630, G652] := S1038.objs (by rw [hg1042, hq1051]; simp)
         have S1053 := (S1052.front 4 rfl).front 4 rfl
         change St _ _ _ [[(p1019, .cells #[.int .i64 x1016.config.Clients, .int .i64 x1016.config.Entries, .int .i64 x1016.config.Bytes, .int .i64 x1016.config.Reserve, .map (some b1027), .int .i64 x1016.entries, .int .i64 x1016.bytes] 89 (0, 0))], G1028, [(p1035, .cells #[.int .i64 x1032.C.Clients, .int .i64 x1032.C.Entries, .int .i64 x1032.C.Bytes, .int .i64 x1032.C.Reserve, .slice A1043 x1032.L.length c1044, .slice A1047 x1032.I.length c1048] 104 (0, 0))], G1045, G1049, [(b347, .cells #[v628, v650, .pointer (some ⟨p1019, 0, none⟩), .pointer (some ⟨p1035, 0, none⟩)] 60 (0, 0))], G630, G652] at S1053
         have hO1054 : ObjO 89 Cache.rp p1019 x1016 ([(p1019, .cells #[.int .i64 x1016.config.Clients, .int .i64 x1016.config.Entries, .int .i64 x1016.config.Bytes, .int .i64 x1016.config.Reserve, .map (some b1027), .int .i64 x1016.entries, .int .i64 x1016.bytes] 89 (0, 0))] ++ (G1028)) := ⟨_, _, ⟨b1027, G1028, rfl, hO1029, rfl⟩, rfl⟩
         have S1055 : St _ _ _ [[(p1019, .cells #[.int .i64 x1016.config.Clients, .int .i64 x1016.config.Entries, .int .i64 x1016.config.Bytes, .int .i64 x1016.config.Reserve, .map (some b1027), .int .i64 x1016.entries, .int .i64 x1016.bytes] 89 (0, 0))] ++ (G1028), [(p1035, .cells #[.int .i64 x1032.C.Clients, .int .i64 x1032.C.Entries, .int .i64 x1032.C.Bytes, .int .i64 x1032.C.Reserve, .slice A1043 x1032.L.length c1044, .slice A1047 x1032.I.length c1048] 104 (0, 0))], G1045, G1049, [(b347, .cells #[v628, v650, .pointer (some ⟨p1019, 0, none⟩), .pointer (some ⟨p1035, 0, none⟩)] 60 (0, 0))], G630, G652] := S1053.objs (by simp)
         have S1056 := ((S1055.front 3 rfl).front 3 rfl).front 3 rfl
         change St _ _ _ [[(p1035, .cells #[.int .i64 x1032.C.Clients, .int .i64 x1032.C.Entries, .int .i64 x1032.C.Bytes, .int .i64 x1032.C.Reserve, .slice A1043 x1032.L.length c1044, .slice A1047 x1032.I.length c1048] 104 (0, 0))], G1045, G1049, [(p1019, .cells #[.int .i64 x1016.config.Clients, .int .i64 x1016.config.Entries, .int .i64 x1016.config.Bytes, .int .i64 x1016.config.Reserve, .map (some b1027), .int .i64 x1016.entries, .int .i64 x1016.bytes] 89 (0, 0))] ++ (G1028), [(b347, .cells #[v628, v650, .pointer (some ⟨p1019, 0, none⟩), .pointer (some ⟨p1035, 0, none⟩)] 60 (0, 0))], G630, G652] at S1056
         have hO1057 : ObjO 104 Cache104.rp p1035 x1032 ([(p1035, .cells #[.int .i64 x1032.C.Clients, .int .i64 x1032.C.Entries, .int .i64 x1032.C.Bytes, .int .i64 x1032.C.Reserve, .slice A1043 x1032.L.length c1044, .slice A1047 x1032.I.length c1048] 104 (0, 0))] ++ (G1045 ++ (G1049))) := ⟨_, _, ⟨A1043, c1044, G1045, A1047, c1048, G1049, rfl, hO1046, hO1050, rfl⟩, rfl⟩
         have S1058 : St _ _ _ [[(p1035, .cells #[.int .i64 x1032.C.Clients, .int .i64 x1032.C.Entries, .int .i64 x1032.C.Bytes, .int .i64 x1032.C.Reserve, .slice A1043 x1032.L.length c1044, .slice A1047 x1032.I.length c1048] 104 (0, 0))] ++ (G1045 ++ (G1049)), [(p1019, .cells #[.int .i64 x1016.config.Clients, .int .i64 x1016.config.Entries, .int .i64 x1016.config.Bytes, .int .i64 x1016.config.Reserve, .map (some b1027), .int .i64 x1016.entries, .int .i64 x1016.bytes] 89 (0, 0))] ++ (G1028), [(b347, .cells #[v628, v650, .pointer (some ⟨p1019, 0, none⟩), .pointer (some ⟨p1035, 0, none⟩)] 60 (0, 0))], G630, G652] := S1056.objs (by simp)
         obtain ⟨t1059, hc1060, hF⟩ := bind_some hF
         have S1061 := S1058.front 1 rfl
         change St _ _ _ [[(p1019, .cells #[.int .i64 x1016.config.Clients, .int .i64 x1016.config.Entries, .int .i64 x1016.config.Bytes, .int .i64 x1016.config.Reserve, .map (some b1027), .int .i64 x1016.entries, .int .i64 x1016.bytes] 89 (0, 0))] ++ (G1028), [(p1035, .cells #[.int .i64 x1032.C.Clients, .int .i64 x1032.C.Entries, .int .i64 x1032.C.Bytes, .int .i64 x1032.C.Reserve, .slice A1043 x1032.L.length c1044, .slice A1047 x1032.I.length c1048] 104 (0, 0))] ++ (G1045 ++ (G1049)), [(b347, .cells #[v628, v650, .pointer (some ⟨p1019, 0, none⟩), .pointer (some ⟨p1035, 0, none⟩)] 60 (0, 0))], G630, G652] at S1061
         refine WOps.call T.call24 (evs_cons rfl (evs_cons rfl evs_nil)) rfl ?_
         refine (ca_step_calls k730 x1016 x1032 (⟨false, false, 99, 0, 0, 0, (⟨0, 0⟩ : WhoC), ([] : List UInt8)⟩ : OpC) hO1054 hO1057 hc1060 (St.hpN (As := [[(p1019, .cells #[.int .i64 x1016.config.Clients, .int .i64 x1016.config.Entries, .int .i64 x1016.config.Bytes, .int .i64 x1016.config.Reserve, .map (some b1027), .int .i64 x1016.entries, .int .i64 x1016.bytes] 89 (0, 0))] ++ (G1028), [(p1035, .cells #[.int .i64 x1032.C.Clients, .int .i64 x1032.C.Entries, .int .i64 x1032.C.Bytes, .int .i64 x1032.C.Reserve, .slice A1043 x1032.L.length c1044, .slice A1047 x1032.I.length c1048] 104 (0, 0))] ++ (G1045 ++ (G1049))]) S1061)).mono ?_
         rintro _ w1062 ⟨G1065, G1067, rfl, hO1066, hO1068, T1063⟩
         have S1064 := St.callN (As := [[(p1019, .cells #[.int .i64 x1016.config.Clients, .int .i64 x1016.config.Entries, .int .i64 x1016.config.Bytes, .int .i64 x1016.config.Reserve, .map (some b1027), .int .i64 x1016.entries, .int .i64 x1016.bytes] 89 (0, 0))] ++ (G1028), [(p1035, .cells #[.int .i64 x1032.C.Clients, .int .i64 x1032.C.Entries, .int .i64 x1032.C.Bytes, .int .i64 x1032.C.Reserve, .slice A1043 x1032.L.length c1044, .slice A1047 x1032.I.length c1048] 104 (0, 0))] ++ (G1045 ++ (G1049))]) S1061 T1063
         change St _ _ _ [G1065, G1067, [(b347, .cells #[v628, v650, .pointer (some ⟨p1019, 0, none⟩), .pointer (some ⟨p1035, 0, none⟩)] 60 (0, 0))], G630, G652] at S1064
         refine ⟨_, rfl, ?_⟩
         obtain ⟨cs1069, G1070, ho1071, hg1072⟩ := hO1066
         obtain ⟨b1073, G1074, rfl, hO1075, hq1076⟩ := ho1071
         have S1077 : St _ _ _ [[(p1019, .cells #[.int .i64 t1059.2.1.config.Clients, .int .i64 t1059.2.1.config.Entries, .int .i64 t1059.2.1.config.Bytes, .int .i64 t1059.2.1.config.Reserve, .map (some b1073), .int .i64 t1059.2.1.entries, .int .i64 t1059.2.1.bytes] 89 (0, 0))], G1074, G1067, [(b347, .cells #[v628, v650, .pointer (some ⟨p1019, 0, none⟩), .pointer (some ⟨p1035, 0, none⟩)] 60 (0, 0))], G630, G652] := S1064.objs (by rw [hg1072, hq1076]; simp)
         have S1078 := S1077.front 2 rfl
         change St _ _ _ [G1067, [(p1019, .cells #[.int .i64 t1059.2.1.config.Clients, .int .i64 t1059.2.1.config.Entries, .int .i64 t1059.2.1.config.Bytes, .int .i64 t1059.2.1.config.Reserve, .map (some b1073), .int .i64 t1059.2.1.entries, .int .i64 t1059.2.1.bytes] 89 (0, 0))], G1074, [(b347, .cells #[v628, v650, .pointer (some ⟨p1019, 0, none⟩), .pointer (some ⟨p1035, 0, none⟩)] 60 (0, 0))], G630, G652] at S1078
         obtain ⟨cs1079, G1080, ho1081, hg1082⟩ := hO1068
         obtain ⟨A1083, c1084, G1085, A1087, c1088, G1089, rfl, hO1086, hO1090, hq1091⟩ := ho1081
         have S1092 : St _ _ _ [[(p1035, .cells #[.int .i64 t1059.2.2.C.Clients, .int .i64 t1059.2.2.C.Entries, .int .i64 t1059.2.2.C.Bytes, .int .i64 t1059.2.2.C.Reserve, .slice A1083 t1059.2.2.L.length c1084, .slice A1087 t1059.2.2.I.length c1088] 104 (0, 0))], G1085, G1089, [(p1019, .cells #[.int .i64 t1059.2.1.config.Clients, .int .i64 t1059.2.1.config.Entries, .int .i64 t1059.2.1.config.Bytes, .int .i64 t1059.2.1.config.Reserve, .map (some b1073), .int .i64 t1059.2.1.entries, .int .i64 t1059.2.1.bytes] 89 (0, 0))], G1074, [(b347, .cells #[v628, v650, .pointer (some ⟨p1019, 0, none⟩), .pointer (some ⟨p1035, 0, none⟩)] 60 (0, 0))], G630, G652] := S1078.objs (by rw [hg1082, hq1091]; simp)
         refine WOps.p (G.assign rfl) rfl ?_
         refine WOps.nil ?_
         refine WEx.then_ ?_
         refine WCode.seq ?_
         refine WCode.seq ?_
         refine WCode.region ?_
         refine WOps.p (G.move rfl) rfl ?_
         refine WOps.p (G.not rfl rfl) rfl ?_
         refine WOps.nil ?_
         refine WEx.then_ ?_
         rcases ite_some hF with ⟨h1093, hF⟩ | ⟨h1093, hF⟩
         ·
          refine WCode.cond_f (kb (b := !t1059.1) rfl (show (!t1059.1) = false from by rw [h1093]; rfl)) ?_
          refine WCode.skip ?_
          refine WEx.then_ ?_
          refine WCode.seq ?_
          refine WCode.region ?_
          refine WOps.p (G.assign rfl) rfl ?_
          refine WOps.nil ?_
          refine WEx.then_ ?_
          refine WCode.block ?_
          have S1123 := (((((((S1092.front 4 rfl).front 3 rfl).front 3 rfl).front 7 rfl).front 7 rfl).front 7 rfl).front 7 rfl).front 7 rfl
          change St _ _ _ [[(p1035, .cells #[.int .i64 t1059.2.2.C.Clients, .int .i64 t1059.2.2.C.Entries, .int .i64 t1059.2.2.C.Bytes, .int .i64 t1059.2.2.C.Reserve, .slice A1083 t1059.2.2.L.length c1084, .slice A1087 t1059.2.2.I.length c1088] 104 (0, 0))], [(p1019, .cells #[.int .i64 t1059.2.1.config.Clients, .int .i64 t1059.2.1.config.Entries, .int .i64 t1059.2.1.config.Bytes, .int .i64 t1059.2.1.config.Reserve, .map (some b1073), .int .i64 t1059.2.1.entries, .int .i64 t1059.2.1.bytes] 89 (0, 0))], [(b347, .cells #[v628, v650, .pointer (some ⟨p1019, 0, none⟩), .pointer (some ⟨p1035, 0, none⟩)] 60 (0, 0))], G630, G652, G1085, G1089, G1074] at S1123
          refine WCode.forget (l' := [(16, .slice (some ⟨b347, 0, none⟩) ([0, 0] : List Int).length 2), (20, .int .i64 x627), (22, .int .i64 0)]) ⟨rfl, rfl, rfl, trivial⟩ ?_
          refine WCode.loop (fun n_ l_ w_ => ∃ x1094 : Int, ∃ x1095 : Int, ∃ x1096 : Int, ∃ x1097 : Int, ∃ x1098 : Int, ∃ A1099 : Option Addr, ∃ c1100 : Nat, ∃ l1101 : List Known123, ∃ G1102 : Grp, ∃ A1104 : Option Addr, ∃ c1105 : Nat, ∃ l1106 : List Item, ∃ G1107 : Grp, ∃ x1109 : Int, ∃ x1110 : Int, ∃ x1111 : Int, ∃ x1112 : Int, ∃ b1113 : Nat, ∃ l1114 : List (WhoC × Known), ∃ G1115 : Grp, ∃ x1117 : Int, ∃ x1118 : Int, l_ = [(16, .slice (some ⟨b347, 0, none⟩) ([0, 0] : List Int).length 2), (20, .int .i64 x627), (22, .int .i64 x1094)] ∧ law_CPlays.l5 n_ x627 o629 o651 x1094 x1095 x1096 x1097 x1098 l1101 l1106 x1109 x1110 x1111 x1112 l1114 x1117 x1118 = some r_ ∧ n_ ≤ k730 ∧ (SlO 123 Known123.rp (.slice A1099 l1101.length c1100) l1101 G1102) ∧ (SlO 127 Item.rp (.slice A1104 l1106.length c1105) l1106 G1107) ∧ (CliO M87.k 96 Known.rp b1113 l1114 G1115) ∧ St w (KS []) w_ [[(p1035, .cells #[.int .i64 x1095, .int .i64 x1096, .int .i64 x1097, .int .i64 x1098, .slice A1099 l1101.length c1100, .slice A1104 l1106.length c1105] 104 (0, 0))], [(p1019, .cells #[.int .i64 x1109, .int .i64 x1110, .int .i64 x1111, .int .i64 x1112, .map (some b1113), .int .i64 x1117, .int .i64 x1118] 89 (0, 0))], [(b347, .cells #[v628, v650, .pointer (some ⟨p1019, 0, none⟩), .pointer (some ⟨p1035, 0, none⟩)] 60 (0, 0))], G630, G652, G1102, G1107, G1115]) k730 ⟨0, t1059.2.2.C.Clients, t1059.2.2.C.Entries, t1059.2.2.C.Bytes, t1059.2.2.C.Reserve, A1083, c1084, t1059.2.2.L, G1085, A1087, c1088, t1059.2.2.I, G1089, t1059.2.1.config.Clients, t1059.2.1.config.Entries, t1059.2.1.config.Bytes, t1059.2.1.config.Reserve, b1073, t1059.2.1.clients, G1074, t1059.2.1.entries, t1059.2.1.bytes, rfl, hF, Nat.le_refl _, hO1086, hO1090, hO1075, S1123⟩ ?_
          rintro n1122 _ w1119 ⟨x1094, x1095, x1096, x1097, x1098, A1099, c1100, l1101, G1102, A1104, c1105, l1106, G1107, x1109, x1110, x1111, x1112, b1113, l1114, G1115, x1117, x1118, rfl, hF, hle1124, hO1103, hO1108, hO1116, S1120⟩
          obtain _ | k1121 := n1122
          · exact nomatch (show (none : Option Bool) = some r_ from hF)
          rw [law_CPlays.l5] at hF
          refine WCode.seq ?_
          refine WCode.seq ?_
          refine WCode.region ?_
          refine WOps.p (G.move rfl) rfl ?_
          refine WOps.p (G.lss rfl rfl rfl) rfl ?_
          refine WOps.nil ?_
          refine WEx.then_ ?_
          rcases ite_some hF with ⟨h1125, hF⟩ | ⟨h1125, hF⟩
          ·
           refine WCode.cond_t (kb (b := decide (x1094 < 8)) rfl (decide_eq_true h1125)) ?_
           refine WCode.skip ?_
           refine WEx.then_ ?_
           refine WCode.seq ?_
           refine WCode.block ?_
           refine WCode.seq ?_
           refine WCode.region ?_
           refine WOps.p (G.assign rfl) rfl ?_
           refine WOps.nil ?_
           refine WEx.then_ ?_
           refine WCode.block ?_
           refine WCode.forget (l' := [(16, .slice (some ⟨b347, 0, none⟩) ([0, 0] : List Int).length 2), (20, .int .i64 x627), (22, .int .i64 x1094), (23, .int .i64 0)]) ⟨rfl, rfl, rfl, rfl, trivial⟩ ?_
           refine WCode.loop (fun n_ l_ w_ => ∃ x1126 : Int, ∃ x1127 : Int, ∃ x1128 : Int, ∃ x1129 : Int, ∃ x1130 : Int, ∃ A1131 : Option Addr, ∃ c1132 : Nat, ∃ l1133 : List Known123, ∃ G1134 : Grp, ∃ A1136 : Option Addr, ∃ c1137 : Nat, ∃ l1138 : List Item, ∃ G1139 : Grp, ∃ x1141 : Int, ∃ x1142 : Int, ∃ x1143 : Int, ∃ x1144 : Int, ∃ b1145 : Nat, ∃ l1146 : List (WhoC × Known), ∃ G1147 : Grp, ∃ x1149 : Int, ∃ x1150 : Int, l_ = [(16, .slice (some ⟨b347, 0, none⟩) ([0, 0] : List Int).length 2), (20, .int .i64 x627), (22, .int .i64 x1094), (23, .int .i64 x1126)] ∧ law_CPlays.l6 n_ x627 o629 o651 x1094 x1126 x1127 x1128 x1129 x1130 l1133 l1138 x1141 x1142 x1143 x1144 l1146 x1149 x1150 = some r_ ∧ n_ ≤ k1121 ∧ (SlO 123 Known123.rp (.slice A1131 l1133.length c1132) l1133 G1134) ∧ (SlO 127 Item.rp (.slice A1136 l1138.length c1137) l1138 G1139) ∧ (CliO M87.k 96 Known.rp b1145 l1146 G1147) ∧ St w (KS []) w_ [[(p1035, .cells #[.int .i64 x1127, .int .i64 x1128, .int .i64 x1129, .int .i64 x1130, .slice A1131 l1133.length c1132, .slice A1136 l1138.length c1137] 104 (0, 0))], [(p1019, .cells #[.int .i64 x1141, .int .i64 x1142, .int .i64 x1143, .int .i64 x1144, .map (some b1145), .int .i64 x1149, .int .i64 x1150] 89 (0, 0))], [(b347, .cells #[v628, v650, .pointer (some ⟨p1019, 0, none⟩), .pointer (some ⟨p1035, 0, none⟩)] 60 (0, 0))], G630, G652, G1134, G1139, G1147]) k1121 ⟨0, x1095, x1096, x1097, x1098, A1099, c1100, l1101, G1102, A1104, c1105, l1106, G1107, x1109, x1110, x1111, x1112, b1113, l1114, G1115, x1117, x1118, rfl, hF, Nat.le_refl _, hO1103, hO1108, hO1116, S1120⟩ ?_
           rintro n1154 _ w1151 ⟨x1126, x1127, x1128, x1129, x1130, A1131, c1132, l1133, G1134, A1136, c1137, l1138, G1139, x1141, x1142, x1143, x1144, b1145, l1146, G1147, x1149, x1150, rfl, hF, hle1155, hO1135, hO1140, hO1148, S1152⟩
           obtain _ | k1153 := n1154
           · exact nomatch (show (none : Option Bool) = some r_ from hF)
           rw [law_CPlays.l6] at hF
           refine WCode.seq ?_
           refine WCode.seq ?_
           refine WCode.region ?_
           refine WOps.p (G.move rfl) rfl ?_
           refine WOps.p (G.lss rfl rfl rfl) rfl ?_
           refine WOps.nil ?_
           refine WEx.then_ ?_
           rcases ite_some hF with ⟨h1156, hF⟩ | ⟨h1156, hF⟩
           ·
            refine WCode.cond_t (kb (b := decide (x1126 < 100)) rfl (decide_eq_true h1156)) ?_
            refine WCode.skip ?_
            refine WEx.then_ ?_
            refine WCode.seq ?_
            refine WCode.block ?_
            refine WCode.seq ?_
            refine WCode.region ?_
            refine WOps.p (G.move rfl) rfl ?_
            refine WOps.p (G.move rfl) rfl ?_
            refine WOps.p (G.idx (o := 0) (j := 1) T.el61 rfl rfl rfl (show x627 = ((1 : Nat) : Int) from h997) (by decide) : GP _ _ _ _ (.pointer (some ⟨b347, 2, none⟩))) rfl ?_
            refine WOps.r (G.loada T.agg60_2 rfl (cs := [.pointer (some ⟨p1019, 0, none⟩), .pointer (some ⟨p1035, 0, none⟩)]) (cellsAt.of_blk (S1152.blk 2 rfl) rfl)) rfl ?_
            refine WOps.p (G.move rfl) rfl ?_
            refine WOps.p (G.move rfl) rfl ?_
            refine WOps.p (G.build (cells := #[.bool false, .bool false, .int .i64 6, .int .i64 x1094, .int .i64 x1126, .int .i64 0, .int .i64 0, .int .i64 0, .string (bs ([] : List UInt8))]) (evp_spec (evp_cons rfl (evp_cons rfl (evp_cons rfl evp_nil)))) (by kernel_rfl)) rfl ?_
            have S1157 := (S1152.front 7 rfl).front 2 rfl
            change St _ _ _ [[(p1019, .cells #[.int .i64 x1141, .int .i64 x1142, .int .i64 x1143, .int .i64 x1144, .map (some b1145), .int .i64 x1149, .int .i64 x1150] 89 (0, 0))], G1147, [(p1035, .cells #[.int .i64 x1127, .int .i64 x1128, .int .i64 x1129, .int .i64 x1130, .slice A1131 l1133.length c1132, .slice A1136 l1138.length c1137] 104 (0, 0))], [(b347, .cells #[v628, v650, .pointer (some ⟨p1019, 0, none⟩), .pointer (some ⟨p1035, 0, none⟩)] 60 (0, 0))], G630, G652, G1134, G1139] at S1157
            have hO1158 : ObjO 89 Cache.rp p1019 (⟨(⟨x1141, x1142, x1143, x1144⟩ : CacheConfig), l1146, x1149, x1150⟩ : Cache) ([(p1019, .cells #[.int .i64 x1141, .int .i64 x1142, .int .i64 x1143, .int .i64 x1144, .map (some b1145), .int .i64 x1149, .int .i64 x1150] 89 (0, 0))] ++ (G1147)) := ⟨_, _, ⟨b1145, G1147, rfl, hO1148, rfl⟩, rfl⟩
            have S1159 : St _ _ _ [[(p1019, .cells #[.int .i64 x1141, .int .i64 x1142, .int .i64 x1143, .int .i64 x1144, .map (some b1145), .int .i64 x1149, .int .i64 x1150] 89 (0, 0))] ++ (G1147), [(p1035, .cells #[.int .i64 x1127, .int .i64 x1128, .int .i64 x1129, .int .i64 x1130, .slice A1131 l1133.length c1132, .slice A1136 l1138.length c1137] 104 (0, 0))], [(b347, .cells #[v628, v650, .pointer (some ⟨p1019, 0, none⟩), .pointer (some ⟨p1035, 0, none⟩)] 60 (0, 0))], G630, G652, G1134, G1139] := S1157.objs (by simp)
            have S1160 := ((S1159.front 6 rfl).front 6 rfl).front 3 rfl
            change St _ _ _ [[(p1035, .cells #[.int .i64 x1127, .int .i64 x1128, .int .i64 x1129, .int .i64 x1130, .slice A1131 l1133.length c1132, .slice A1136 l1138.length c1137] 104 (0, 0))], G1134, G1139, [(p1019, .cells #[.int .i64 x1141, .int .i64 x1142, .int .i64 x1143, .int .i64 x1144, .map (some b1145), .int .i64 x1149, .int .i64 x1150] 89 (0, 0))] ++ (G1147), [(b347, .cells #[v628, v650, .pointer (some ⟨p1019, 0, none⟩), .pointer (some ⟨p1035, 0, none⟩)] 60 (0, 0))], G630, G652] at S1160
            have hO1161 : ObjO 104 Cache104.rp p1035 (⟨(⟨x1127, x1128, x1129, x1130⟩ : CacheConfig), l1133, l1138⟩ : Cache104) ([(p1035, .cells #[.int .i64 x1127, .int .i64 x1128, .int .i64 x1129, .int .i64 x1130, .slice A1131 l1133.length c1132, .slice A1136 l1138.length c1137] 104 (0, 0))] ++ (G1134 ++ (G1139))) := ⟨_, _, ⟨A1131, c1132, G1134, A1136, c1137, G1139, rfl, hO1135, hO1140, rfl⟩, rfl⟩
            have S1162 : St _ _ _ [[(p1035, .cells #[.int .i64 x1127, .int .i64 x1128, .int .i64 x1129, .int .i64 x1130, .slice A1131 l1133.length c1132, .slice A1136 l1138.length c1137] 104 (0, 0))] ++ (G1134 ++ (G1139)), [(p1019, .cells #[.int .i64 x1141, .int .i64 x1142, .int .i64 x1143, .int .i64 x1144, .map (some b1145), .int .i64 x1149, .int .i64 x1150] 89 (0, 0))] ++ (G1147), [(b347, .cells #[v628, v650, .pointer (some ⟨p1019, 0, none⟩), .pointer (some ⟨p1035, 0, none⟩)] 60 (0, 0))], G630, G652] := S1160.objs (by simp)
            obtain ⟨t1163, hc1164, hF⟩ := bind_some hF
            have S1165 := S1162.front 1 rfl
            change St _ _ _ [[(p1019, .cells #[.int .i64 x1141, .int .i64 x1142, .int .i64 x1143, .int .i64 x1144, .map (some b1145), .int .i64 x1149, .int .i64 x1150] 89 (0, 0))] ++ (G1147), [(p1035, .cells #[.int .i64 x1127, .int .i64 x1128, .int .i64 x1129, .int .i64 x1130, .slice A1131 l1133.length c1132, .slice A1136 l1138.length c1137] 104 (0, 0))] ++ (G1134 ++ (G1139)), [(b347, .cells #[v628, v650, .pointer (some ⟨p1019, 0, none⟩), .pointer (some ⟨p1035, 0, none⟩)] 60 (0, 0))], G630, G652] at S1165
            refine WOps.call T.call24 (evs_cons rfl (evs_cons rfl evs_nil)) rfl ?_
            refine (ca_step_calls k1153 (⟨(⟨x1141, x1142, x1143, x1144⟩ : CacheConfig), l1146, x1149, x1150⟩ : Cache) (⟨(⟨x1127, x1128, x1129, x1130⟩ : CacheConfig), l1133, l1138⟩ : Cache104) (⟨false, false, 6, x1094, x1126, 0, (⟨0, 0⟩ : WhoC), ([] : List UInt8)⟩ : OpC) hO1158 hO1161 hc1164 (St.hpN (As := [[(p1019, .cells #[.int .i64 x1141, .int .i64 x1142, .int .i64 x1143, .int .i64 x1144, .map (some b1145), .int .i64 x1149, .int .i64 x1150] 89 (0, 0))] ++ (G1147), [(p1035, .cells #[.int .i64 x1127, .int .i64 x1128, .int .i64 x1129, .int .i64 x1130, .slice A1131 l1133.length c1132, .slice A1136 l1138.length c1137] 104 (0, 0))] ++ (G1134 ++ (G1139))]) S1165)).mono ?_
            rintro _ w1166 ⟨G1169, G1171, rfl, hO1170, hO1172, T1167⟩
            have S1168 := St.callN (As := [[(p1019, .cells #[.int .i64 x1141, .int .i64 x1142, .int .i64 x1143, .int .i64 x1144, .map (some b1145), .int .i64 x1149, .int .i64 x1150] 89 (0, 0))] ++ (G1147), [(p1035, .cells #[.int .i64 x1127, .int .i64 x1128, .int .i64 x1129, .int .i64 x1130, .slice A1131 l1133.length c1132, .slice A1136 l1138.length c1137] 104 (0, 0))] ++ (G1134 ++ (G1139))]) S1165 T1167
            change St _ _ _ [G1169, G1171, [(b347, .cells #[v628, v650, .pointer (some ⟨p1019, 0, none⟩), .pointer (some ⟨p1035, 0, none⟩)] 60 (0, 0))], G630, G652] at S1168
            refine ⟨_, rfl, ?_⟩
            obtain ⟨cs1173, G1174, ho1175, hg1176⟩ := hO1170
            obtain ⟨b1177, G1178, rfl, hO1179, hq1180⟩ := ho1175
            have S1181 : St _ _ _ [[(p1019, .cells #[.int .i64 t1163.2.1.config.Clients, .int .i64 t1163.2.1.config.Entries, .int .i64 t1163.2.1.config.Bytes, .int .i64 t1163.2.1.config.Reserve, .map (some b1177), .int .i64 t1163.2.1.entries, .int .i64 t1163.2.1.bytes] 89 (0, 0))], G1178, G1171, [(b347, .cells #[v628, v650, .pointer (some ⟨p1019, 0, none⟩), .pointer (some ⟨p1035, 0, none⟩)] 60 (0, 0))], G630, G652] := S1168.objs (by rw [hg1176, hq1180]; simp)
            have S1182 := S1181.front 2 rfl
            change St _ _ _ [G1171, [(p1019, .cells #[.int .i64 t1163.2.1.config.Clients, .int .i64 t1163.2.1.config.Entries, .int .i64 t1163.2.1.config.Bytes, .int .i64 t1163.2.1.config.Reserve, .map (some b1177), .int .i64 t1163.2.1.entries, .int .i64 t1163.2.1.bytes] 89 (0, 0))], G1178, [(b347, .cells #[v628, v650, .pointer (some ⟨p1019, 0, none⟩), .pointer (some ⟨p1035, 0, none⟩)] 60 (0, 0))], G630, G652] at S1182
            obtain ⟨cs1183, G1184, ho1185, hg1186⟩ := hO1172
            obtain ⟨A1187, c1188, G1189, A1191, c1192, G1193, rfl, hO1190, hO1194, hq1195⟩ := ho1185
            have S1196 : St _ _ _ [[(p1035, .cells #[.int .i64 t1163.2.2.C.Clients, .int .i64 t1163.2.2.C.Entries, .int .i64 t1163.2.2.C.Bytes, .int .i64 t1163.2.2.C.Reserve, .slice A1187 t1163.2.2.L.length c1188, .slice A1191 t1163.2.2.I.length c1192] 104 (0, 0))], G1189, G1193, [(p1019, .cells #[.int .i64 t1163.2.1.config.Clients, .int .i64 t1163.2.1.config.Entries, .int .i64 t1163.2.1.config.Bytes, .int .i64 t1163.2.1.config.Reserve, .map (some b1177), .int .i64 t1163.2.1.entries, .int .i64 t1163.2.1.bytes] 89 (0, 0))], G1178, [(b347, .cells #[v628, v650, .pointer (some ⟨p1019, 0, none⟩), .pointer (some ⟨p1035, 0, none⟩)] 60 (0, 0))], G630, G652] := S1182.objs (by rw [hg1186, hq1195]; simp)
            refine WOps.p (G.assign rfl) rfl ?_
            refine WOps.nil ?_
            refine WEx.then_ ?_
            refine WCode.forget (l' := [(16, .slice (some ⟨b347, 0, none⟩) ([0, 0] : List Int).length 2), (20, .int .i64 x627), (22, .int .i64 x1094), (23, .int .i64 x1126), (24, .bool t1163.1)]) ⟨rfl, rfl, rfl, rfl, rfl, trivial⟩ ?_
            refine WCode.seq ?_
            refine WCode.region ?_
            refine WOps.p (G.move rfl) rfl ?_
            refine WOps.p (G.move rfl) rfl ?_
            refine WOps.p (G.idx (o := 0) (j := 1) T.el61 rfl rfl rfl (show x627 = ((1 : Nat) : Int) from h997) (by decide) : GP _ _ _ _ (.pointer (some ⟨b347, 2, none⟩))) rfl ?_
            refine WOps.r (G.loada T.agg60_2 rfl (cs := [.pointer (some ⟨p1019, 0, none⟩), .pointer (some ⟨p1035, 0, none⟩)]) (cellsAt.of_blk (S1196.blk 5 rfl) rfl)) rfl ?_
            refine WOps.p (G.move rfl) rfl ?_
            refine WOps.p (G.build (cells := #[.bool false, .bool false, .int .i64 7, .int .i64 x1094, .int .i64 0, .int .i64 0, .int .i64 0, .int .i64 0, .string (bs ([] : List UInt8))]) (evp_spec (evp_cons rfl (evp_cons rfl evp_nil))) (by kernel_rfl)) rfl ?_
            have S1197 := (S1196.front 4 rfl).front 4 rfl
            change St _ _ _ [[(p1019, .cells #[.int .i64 t1163.2.1.config.Clients, .int .i64 t1163.2.1.config.Entries, .int .i64 t1163.2.1.config.Bytes, .int .i64 t1163.2.1.config.Reserve, .map (some b1177), .int .i64 t1163.2.1.entries, .int .i64 t1163.2.1.bytes] 89 (0, 0))], G1178, [(p1035, .cells #[.int .i64 t1163.2.2.C.Clients, .int .i64 t1163.2.2.C.Entries, .int .i64 t1163.2.2.C.Bytes, .int .i64 t1163.2.2.C.Reserve, .slice A1187 t1163.2.2.L.length c1188, .slice A1191 t1163.2.2.I.length c1192] 104 (0, 0))], G1189, G1193, [(b347, .cells #[v628, v650, .pointer (some ⟨p1019, 0, none⟩), .pointer (some ⟨p1035, 0, none⟩)] 60 (0, 0))], G630, G652] at S1197
            have hO1198 : ObjO 89 Cache.rp p1019 t1163.2.1 ([(p1019, .cells #[.int .i64 t1163.2.1.config.Clients, .int .i64 t1163.2.1.config.Entries, .int .i64 t1163.2.1.config.Bytes, .int .i64 t1163.2.1.config.Reserve, .map (some b1177), .int .i64 t1163.2.1.entries, .int .i64 t1163.2.1.bytes] 89 (0, 0))] ++ (G1178)) := ⟨_, _, ⟨b1177, G1178, rfl, hO1179, rfl⟩, rfl⟩
            have S1199 : St _ _ _ [[(p1019, .cells #[.int .i64 t1163.2.1.config.Clients, .int .i64 t1163.2.1.config.Entries, .int .i64 t1163.2.1.config.Bytes, .int .i64 t1163.2.1.config.Reserve, .map (some b1177), .int .i64 t1163.2.1.entries, .int .i64 t1163.2.1.bytes] 89 (0, 0))] ++ (G1178), [(p1035, .cells #[.int .i64 t1163.2.2.C.Clients, .int .i64 t1163.2.2.C.Entries, .int .i64 t1163.2.2.C.Bytes, .int .i64 t1163.2.2.C.Reserve, .slice A1187 t1163.2.2.L.length c1188, .slice A1191 t1163.2.2.I.length c1192] 104 (0, 0))], G1189, G1193, [(b347, .cells #[v628, v650, .pointer (some ⟨p1019, 0, none⟩), .pointer (some ⟨p1035, 0, none⟩)] 60 (0, 0))], G630, G652] := S1197.objs (by simp)
            have S1200 := ((S1199.front 3 rfl).front 3 rfl).front 3 rfl
            change St _ _ _ [[(p1035, .cells #[.int .i64 t1163.2.2.C.Clients, .int .i64 t1163.2.2.C.Entries, .int .i64 t1163.2.2.C.Bytes, .int .i64 t1163.2.2.C.Reserve, .slice A1187 t1163.2.2.L.length c1188, .slice A1191 t1163.2.2.I.length c1192] 104 (0, 0))], G1189, G1193, [(p1019, .cells #[.int .i64 t1163.2.1.config.Clients, .int .i64 t1163.2.1.config.Entries, .int .i64 t1163.2.1.config.Bytes, .int .i64 t1163.2.1.config.Reserve, .map (some b1177), .int .i64 t1163.2.1.entries, .int .i64 t1163.2.1.bytes] 89 (0, 0))] ++ (G1178), [(b347, .cells #[v628, v650, .pointer (some ⟨p1019, 0, none⟩), .pointer (some ⟨p1035, 0, none⟩)] 60 (0, 0))], G630, G652] at S1200
            have hO1201 : ObjO 104 Cache104.rp p1035 t1163.2.2 ([(p1035, .cells #[.int .i64 t1163.2.2.C.Clients, .int .i64 t1163.2.2.C.Entries, .int .i64 t1163.2.2.C.Bytes, .int .i64 t1163.2.2.C.Reserve, .slice A1187 t1163.2.2.L.length c1188, .slice A1191 t1163.2.2.I.length c1192] 104 (0, 0))] ++ (G1189 ++ (G1193))) := ⟨_, _, ⟨A1187, c1188, G1189, A1191, c1192, G1193, rfl, hO1190, hO1194, rfl⟩, rfl⟩
            have S1202 : St _ _ _ [[(p1035, .cells #[.int .i64 t1163.2.2.C.Clients, .int .i64 t1163.2.2.C.Entries, .int .i64 t1163.2.2.C.Bytes, .int .i64 t1163.2.2.C.Reserve, .slice A1187 t1163.2.2.L.length c1188, .slice A1191 t1163.2.2.I.length c1192] 104 (0, 0))] ++ (G1189 ++ (G1193)), [(p1019, .cells #[.int .i64 t1163.2.1.config.Clients, .int .i64 t1163.2.1.config.Entries, .int .i64 t1163.2.1.config.Bytes, .int .i64 t1163.2.1.config.Reserve, .map (some b1177), .int .i64 t1163.2.1.entries, .int .i64 t1163.2.1.bytes] 89 (0, 0))] ++ (G1178), [(b347, .cells #[v628, v650, .pointer (some ⟨p1019, 0, none⟩), .pointer (some ⟨p1035, 0, none⟩)] 60 (0, 0))], G630, G652] := S1200.objs (by simp)
            obtain ⟨t1203, hc1204, hF⟩ := bind_some hF
            have S1205 := S1202.front 1 rfl
            change St _ _ _ [[(p1019, .cells #[.int .i64 t1163.2.1.config.Clients, .int .i64 t1163.2.1.config.Entries, .int .i64 t1163.2.1.config.Bytes, .int .i64 t1163.2.1.config.Reserve, .map (some b1177), .int .i64 t1163.2.1.entries, .int .i64 t1163.2.1.bytes] 89 (0, 0))] ++ (G1178), [(p1035, .cells #[.int .i64 t1163.2.2.C.Clients, .int .i64 t1163.2.2.C.Entries, .int .i64 t1163.2.2.C.Bytes, .int .i64 t1163.2.2.C.Reserve, .slice A1187 t1163.2.2.L.length c1188, .slice A1191 t1163.2.2.I.length c1192] 104 (0, 0))] ++ (G1189 ++ (G1193)), [(b347, .cells #[v628, v650, .pointer (some ⟨p1019, 0, none⟩), .pointer (some ⟨p1035, 0, none⟩)] 60 (0, 0))], G630, G652] at S1205
            refine WOps.call T.call24 (evs_cons rfl (evs_cons rfl evs_nil)) rfl ?_
            refine (ca_step_calls k1153 t1163.2.1 t1163.2.2 (⟨false, false, 7, x1094, 0, 0, (⟨0, 0⟩ : WhoC), ([] : List UInt8)⟩ : OpC) hO1198 hO1201 hc1204 (St.hpN (As := [[(p1019, .cells #[.int .i64 t1163.2.1.config.Clients, .int .i64 t1163.2.1.config.Entries, .int .i64 t1163.2.1.config.Bytes, .int .i64 t1163.2.1.config.Reserve, .map (some b1177), .int .i64 t1163.2.1.entries, .int .i64 t1163.2.1.bytes] 89 (0, 0))] ++ (G1178), [(p1035, .cells #[.int .i64 t1163.2.2.C.Clients, .int .i64 t1163.2.2.C.Entries, .int .i64 t1163.2.2.C.Bytes, .int .i64 t1163.2.2.C.Reserve, .slice A1187 t1163.2.2.L.length c1188, .slice A1191 t1163.2.2.I.length c1192] 104 (0, 0))] ++ (G1189 ++ (G1193))]) S1205)).mono ?_
            rintro _ w1206 ⟨G1209, G1211, rfl, hO1210, hO1212, T1207⟩
            have S1208 := St.callN (As := [[(p1019, .cells #[.int .i64 t1163.2.1.config.Clients, .int .i64 t1163.2.1.config.Entries, .int .i64 t1163.2.1.config.Bytes, .int .i64 t1163.2.1.config.Reserve, .map (some b1177), .int .i64 t1163.2.1.entries, .int .i64 t1163.2.1.bytes] 89 (0, 0))] ++ (G1178), [(p1035, .cells #[.int .i64 t1163.2.2.C.Clients, .int .i64 t1163.2.2.C.Entries, .int .i64 t1163.2.2.C.Bytes, .int .i64 t1163.2.2.C.Reserve, .slice A1187 t1163.2.2.L.length c1188, .slice A1191 t1163.2.2.I.length c1192] 104 (0, 0))] ++ (G1189 ++ (G1193))]) S1205 T1207
            change St _ _ _ [G1209, G1211, [(b347, .cells #[v628, v650, .pointer (some ⟨p1019, 0, none⟩), .pointer (some ⟨p1035, 0, none⟩)] 60 (0, 0))], G630, G652] at S1208
            refine ⟨_, rfl, ?_⟩
            obtain ⟨cs1213, G1214, ho1215, hg1216⟩ := hO1210
            obtain ⟨b1217, G1218, rfl, hO1219, hq1220⟩ := ho1215
            have S1221 : St _ _ _ [[(p1019, .cells #[.int .i64 t1203.2.1.config.Clients, .int .i64 t1203.2.1.config.Entries, .int .i64 t1203.2.1.config.Bytes, .int .i64 t1203.2.1.config.Reserve, .map (some b1217), .int .i64 t1203.2.1.entries, .int .i64 t1203.2.1.bytes] 89 (0, 0))], G1218, G1211, [(b347, .cells #[v628, v650, .pointer (some ⟨p1019, 0, none⟩), .pointer (some ⟨p1035, 0, none⟩)] 60 (0, 0))], G630, G652] := S1208.objs (by rw [hg1216, hq1220]; simp)
            have S1222 := S1221.front 2 rfl
            change St _ _ _ [G1211, [(p1019, .cells #[.int .i64 t1203.2.1.config.Clients, .int .i64 t1203.2.1.config.Entries, .int .i64 t1203.2.1.config.Bytes, .int .i64 t1203.2.1.config.Reserve, .map (some b1217), .int .i64 t1203.2.1.entries, .int .i64 t1203.2.1.bytes] 89 (0, 0))], G1218, [(b347, .cells #[v628, v650, .pointer (some ⟨p1019, 0, none⟩), .pointer (some ⟨p1035, 0, none⟩)] 60 (0, 0))], G630, G652] at S1222
            obtain ⟨cs1223, G1224, ho1225, hg1226⟩ := hO1212
            obtain ⟨A1227, c1228, G1229, A1231, c1232, G1233, rfl, hO1230, hO1234, hq1235⟩ := ho1225
            have S1236 : St _ _ _ [[(p1035, .cells #[.int .i64 t1203.2.2.C.Clients, .int .i64 t1203.2.2.C.Entries, .int .i64 t1203.2.2.C.Bytes, .int .i64 t1203.2.2.C.Reserve, .slice A1227 t1203.2.2.L.length c1228, .slice A1231 t1203.2.2.I.length c1232] 104 (0, 0))], G1229, G1233, [(p1019, .cells #[.int .i64 t1203.2.1.config.Clients, .int .i64 t1203.2.1.config.Entries, .int .i64 t1203.2.1.config.Bytes, .int .i64 t1203.2.1.config.Reserve, .map (some b1217), .int .i64 t1203.2.1.entries, .int .i64 t1203.2.1.bytes] 89 (0, 0))], G1218, [(b347, .cells #[v628, v650, .pointer (some ⟨p1019, 0, none⟩), .pointer (some ⟨p1035, 0, none⟩)] 60 (0, 0))], G630, G652] := S1222.objs (by rw [hg1226, hq1235]; simp)
            refine WOps.p (G.assign rfl) rfl ?_
            refine WOps.nil ?_
            refine WEx.then_ ?_
            refine WCode.seq ?_
            refine WCode.region ?_
            refine WOps.p (G.move rfl) rfl ?_
            refine WOps.p (G.not rfl rfl) rfl ?_
            refine WOps.p (G.move rfl) rfl ?_
            rcases ite_some hF with ⟨h1237, hF⟩ | ⟨h1237, hF⟩
            ·
             refine WOps.on rfl (kbl (b := !t1163.1) rfl (show (!t1163.1) = false from by rw [h1237]; rfl)) ?_
             refine WOps.p (G.move rfl) rfl ?_
             refine WOps.on rfl (kbl (b := !t1163.1) rfl (show (!t1163.1) = false from by rw [h1237]; rfl)) ?_
             refine WOps.p (G.not rfl rfl) rfl ?_
             refine WOps.p (G.pick_f (kb (b := !t1163.1) rfl (show (!t1163.1) = false from by rw [h1237]; rfl)) rfl) rfl ?_
             refine WOps.nil ?_
             refine WEx.then_ ?_
             refine WCode.forget (l' := [(16, .slice (some ⟨b347, 0, none⟩) ([0, 0] : List Int).length 2), (20, .int .i64 x627), (22, .int .i64 x1094), (23, .int .i64 x1126), (152, .bool t1203.1), (153, .bool (!t1203.1)), (154, .bool (!t1203.1))]) ⟨rfl, rfl, rfl, rfl, rfl, rfl, rfl, trivial⟩ ?_
             rcases ite_some hF with ⟨h1238, hF⟩ | ⟨h1238, hF⟩
             ·
              refine WCode.cond_f (kb (b := !t1203.1) rfl (show (!t1203.1) = false from by rw [h1238]; rfl)) ?_
              refine WCode.skip ?_
              refine WEx.in_normal ?_
              refine WEx.then_ ?_
              refine WCode.region ?_
              refine WOps.p (G.move rfl) rfl ?_
              refine WOps.p (G.add rfl rfl (r := (w64 (x1126 + 1))) rfl) rfl ?_
              refine WOps.p (G.assign rfl) rfl ?_
              refine WOps.nil ?_
              have S1239 := (((((((S1236.front 4 rfl).front 3 rfl).front 3 rfl).front 7 rfl).front 7 rfl).front 7 rfl).front 7 rfl).front 7 rfl
              change St _ _ _ [[(p1035, .cells #[.int .i64 t1203.2.2.C.Clients, .int .i64 t1203.2.2.C.Entries, .int .i64 t1203.2.2.C.Bytes, .int .i64 t1203.2.2.C.Reserve, .slice A1227 t1203.2.2.L.length c1228, .slice A1231 t1203.2.2.I.length c1232] 104 (0, 0))], [(p1019, .cells #[.int .i64 t1203.2.1.config.Clients, .int .i64 t1203.2.1.config.Entries, .int .i64 t1203.2.1.config.Bytes, .int .i64 t1203.2.1.config.Reserve, .map (some b1217), .int .i64 t1203.2.1.entries, .int .i64 t1203.2.1.bytes] 89 (0, 0))], [(b347, .cells #[v628, v650, .pointer (some ⟨p1019, 0, none⟩), .pointer (some ⟨p1035, 0, none⟩)] 60 (0, 0))], G630, G652, G1229, G1233, G1218] at S1239
              refine WEx.again _ _ (by omega) ?_ ⟨w64 (x1126 + 1), t1203.2.2.C.Clients, t1203.2.2.C.Entries, t1203.2.2.C.Bytes, t1203.2.2.C.Reserve, A1227, c1228, t1203.2.2.L, G1229, A1231, c1232, t1203.2.2.I, G1233, t1203.2.1.config.Clients, t1203.2.1.config.Entries, t1203.2.1.config.Bytes, t1203.2.1.config.Reserve, b1217, t1203.2.1.clients, G1218, t1203.2.1.entries, t1203.2.1.bytes, rfl, hF, (by omega), hO1230, hO1234, hO1219, S1239⟩
              exact ⟨rfl, rfl, rfl, rfl, trivial⟩
             ·
              refine WCode.cond_t (kb (b := !t1203.1) rfl (show (!t1203.1) = true from by rw [(Bool.eq_false_iff.2 h1238)]; rfl)) ?_
              refine WCode.seq ?_
              refine WCode.region ?_
              refine WOps.p (G.assign rfl) rfl ?_
              refine WOps.nil ?_
              refine WEx.then_ ?_
              refine WCode.ret ?_
              refine WEx.in_ret ?_
              refine WEx.then_ret ?_
              refine WEx.then_ret ?_
              refine WEx.in_ret ?_
              refine WEx.in_ret ?_
              refine WEx.then_ret ?_
              refine WEx.then_ret ?_
              refine WEx.in_ret ?_
              refine WEx.in_ret ?_
              refine WEx.then_ret ?_
              refine WEx.then_ret ?_
              refine WEx.in_ret ?_
              refine WEx.then_ret ?_
              obtain rfl := some_eq hF
              refine WEx.ret1 rfl rfl ?_
              exact ⟨rfl, St.keep (As := []) S1236⟩
            ·
             refine WOps.off rfl (kbl (b := !t1163.1) rfl (show (!t1163.1) = true from by rw [(Bool.eq_false_iff.2 h1237)]; rfl)) rfl rfl ?_
             refine WOps.off rfl (kbl (b := !t1163.1) rfl (show (!t1163.1) = true from by rw [(Bool.eq_false_iff.2 h1237)]; rfl)) rfl rfl ?_
             refine WOps.p (G.pick_t (kb (b := !t1163.1) rfl (show (!t1163.1) = true from by rw [(Bool.eq_false_iff.2 h1237)]; rfl)) rfl) rfl ?_
             refine WOps.nil ?_
             refine WEx.then_ ?_
             refine WCode.forget (l' := [(16, .slice (some ⟨b347, 0, none⟩) ([0, 0] : List Int).length 2), (20, .int .i64 x627), (22, .int .i64 x1094), (23, .int .i64 x1126), (152, undef), (153, undef), (154, .bool true)]) ⟨rfl, rfl, rfl, rfl, rfl, rfl, rfl, trivial⟩ ?_
             refine WCode.cond_t rfl ?_
             refine WCode.seq ?_
             refine WCode.region ?_
             refine WOps.p (G.assign rfl) rfl ?_
             refine WOps.nil ?_
             refine WEx.then_ ?_
             refine WCode.ret ?_
             refine WEx.in_ret ?_
             refine WEx.then_ret ?_
             refine WEx.then_ret ?_
             refine WEx.in_ret ?_
             refine WEx.in_ret ?_
             refine WEx.then_ret ?_
             refine WEx.then_ret ?_
             refine WEx.in_ret ?_
             refine WEx.in_ret ?_
             refine WEx.then_ret ?_
             refine WEx.then_ret ?_
             refine WEx.in_ret ?_
             refine WEx.then_ret ?_
             obtain rfl := some_eq hF
             refine WEx.ret1 rfl rfl ?_
             exact ⟨rfl, St.keep (As := []) S1236⟩
           ·
            refine WCode.cond_f (kb (b := decide (x1126 < 100)) rfl (decide_eq_false h1156)) ?_
            refine WCode.exit ?_
            refine WEx.then_exit ?_
            refine WEx.then_exit ?_
            refine WEx.in_exit ?_
            refine WEx.in_normal ?_
            refine WEx.then_ ?_
            refine WCode.region ?_
            refine WOps.p (G.move rfl) rfl ?_
            refine WOps.p (G.add rfl rfl (r := (w64 (x1094 + 1))) rfl) rfl ?_
            refine WOps.p (G.assign rfl) rfl ?_
            refine WOps.nil ?_
            refine WEx.again _ _ (by omega) ?_ ⟨w64 (x1094 + 1), x1127, x1128, x1129, x1130, A1131, c1132, l1133, G1134, A1136, c1137, l1138, G1139, x1141, x1142, x1143, x1144, b1145, l1146, G1147, x1149, x1150, rfl, hF, (by omega), hO1135, hO1140, hO1148, S1152⟩
            exact ⟨rfl, rfl, rfl, trivial⟩
          ·
           refine WCode.cond_f (kb (b := decide (x1094 < 8)) rfl (decide_eq_false h1125)) ?_
           refine WCode.exit ?_
           refine WEx.then_exit ?_
           refine WEx.then_exit ?_
           refine WEx.in_exit ?_
           refine WEx.in_normal ?_
           refine WEx.then_ ?_
           refine WCode.region ?_
           refine WOps.p (G.move rfl) rfl ?_
           refine WOps.p (G.add rfl rfl (r := (w64 (x627 + 1))) rfl) rfl ?_
           refine WOps.p (G.assign rfl) rfl ?_
           refine WOps.nil ?_
           have S1240 := (S1120.front 7 rfl).front 2 rfl
           change St _ _ _ [[(p1019, .cells #[.int .i64 x1109, .int .i64 x1110, .int .i64 x1111, .int .i64 x1112, .map (some b1113), .int .i64 x1117, .int .i64 x1118] 89 (0, 0))], G1115, [(p1035, .cells #[.int .i64 x1095, .int .i64 x1096, .int .i64 x1097, .int .i64 x1098, .slice A1099 l1101.length c1100, .slice A1104 l1106.length c1105] 104 (0, 0))], [(b347, .cells #[v628, v650, .pointer (some ⟨p1019, 0, none⟩), .pointer (some ⟨p1035, 0, none⟩)] 60 (0, 0))], G630, G652, G1102, G1107] at S1240
           have hO1241 : ObjO 89 Cache.rp p1019 (⟨(⟨x1109, x1110, x1111, x1112⟩ : CacheConfig), l1114, x1117, x1118⟩ : Cache) ([(p1019, .cells #[.int .i64 x1109, .int .i64 x1110, .int .i64 x1111, .int .i64 x1112, .map (some b1113), .int .i64 x1117, .int .i64 x1118] 89 (0, 0))] ++ (G1115)) := ⟨_, _, ⟨b1113, G1115, rfl, hO1116, rfl⟩, rfl⟩
           have S1242 : St _ _ _ [[(p1019, .cells #[.int .i64 x1109, .int .i64 x1110, .int .i64 x1111, .int .i64 x1112, .map (some b1113), .int .i64 x1117, .int .i64 x1118] 89 (0, 0))] ++ (G1115), [(p1035, .cells #[.int .i64 x1095, .int .i64 x1096, .int .i64 x1097, .int .i64 x1098, .slice A1099 l1101.length c1100, .slice A1104 l1106.length c1105] 104 (0, 0))], [(b347, .cells #[v628, v650, .pointer (some ⟨p1019, 0, none⟩), .pointer (some ⟨p1035, 0, none⟩)] 60 (0, 0))], G630, G652, G1102, G1107] := S1240.objs (by simp)
           have S1243 := ((S1242.front 6 rfl).front 6 rfl).front 3 rfl
           change St _ _ _ [[(p1035, .cells #[.int .i64 x1095, .int .i64 x1096, .int .i64 x1097, .int .i64 x1098, .slice A1099 l1101.length c1100, .slice A1104 l1106.length c1105] 104 (0, 0))], G1102, G1107, [(p1019, .cells #[.int .i64 x1109, .int .i64 x1110, .int .i64 x1111, .int .i64 x1112, .map (some b1113), .int .i64 x1117, .int .i64 x1118] 89 (0, 0))] ++ (G1115), [(b347, .cells #[v628, v650, .pointer (some ⟨p1019, 0, none⟩), .pointer (some ⟨p1035, 0, none⟩)] 60 (0, 0))], G630, G652] at S1243
           have hO1244 : ObjO 104 Cache104.rp p1035 (⟨(⟨x1095, x1096, x1097, x1098⟩ : CacheConfig), l1101, l1106⟩ : Cache104) ([(p1035, .cells #[.int .i64 x1095, .int .i64 x1096, .int .i64 x1097, .int .i64 x1098, .slice A1099 l1101.length c1100, .slice A1104 l1106.length c1105] 104 (0, 0))] ++ (G1102 ++ (G1107))) := ⟨_, _, ⟨A1099, c1100, G1102, A1104, c1105, G1107, rfl, hO1103, hO1108, rfl⟩, rfl⟩
           have S1245 : St _ _ _ [[(p1035, .cells #[.int .i64 x1095, .int .i64 x1096, .int .i64 x1097, .int .i64 x1098, .slice A1099 l1101.length c1100, .slice A1104 l1106.length c1105] 104 (0, 0))] ++ (G1102 ++ (G1107)), [(p1019, .cells #[.int .i64 x1109, .int .i64 x1110, .int .i64 x1111, .int .i64 x1112, .map (some b1113), .int .i64 x1117, .int .i64 x1118] 89 (0, 0))] ++ (G1115), [(b347, .cells #[v628, v650, .pointer (some ⟨p1019, 0, none⟩), .pointer (some ⟨p1035, 0, none⟩)] 60 (0, 0))], G630, G652] := S1243.objs (by simp)
           have S1246 := (((S1245.front 1 rfl).front 4 rfl).front 4 rfl).front 4 rfl
           change St _ _ _ [[(b347, .cells #[v628, v650, .pointer (some ⟨p1019, 0, none⟩), .pointer (some ⟨p1035, 0, none⟩)] 60 (0, 0))], G630, G652, [(p1019, .cells #[.int .i64 x1109, .int .i64 x1110, .int .i64 x1111, .int .i64 x1112, .map (some b1113), .int .i64 x1117, .int .i64 x1118] 89 (0, 0))] ++ (G1115), [(p1035, .cells #[.int .i64 x1095, .int .i64 x1096, .int .i64 x1097, .int .i64 x1098, .slice A1099 l1101.length c1100, .slice A1104 l1106.length c1105] 104 (0, 0))] ++ (G1102 ++ (G1107))] at S1246
           refine WEx.again _ _ (by omega) ?_ ⟨w64 (x627 + 1), v628, o629, G630, v650, o651, G652, (.pointer (some ⟨p1019, 0, none⟩)), (some (⟨(⟨x1109, x1110, x1111, x1112⟩ : CacheConfig), l1114, x1117, x1118⟩ : Cache)), [(p1019, .cells #[.int .i64 x1109, .int .i64 x1110, .int .i64 x1111, .int .i64 x1112, .map (some b1113), .int .i64 x1117, .int .i64 x1118] 89 (0, 0))] ++ (G1115), (.pointer (some ⟨p1035, 0, none⟩)), (some (⟨(⟨x1095, x1096, x1097, x1098⟩ : CacheConfig), l1101, l1106⟩ : Cache104)), [(p1035, .cells #[.int .i64 x1095, .int .i64 x1096, .int .i64 x1097, .int .i64 x1098, .slice A1099 l1101.length c1100, .slice A1104 l1106.length c1105] 104 (0, 0))] ++ (G1102 ++ (G1107)), rfl, hF, (by omega), hO631, hO653, ⟨_, rfl, hO1241⟩, ⟨_, rfl, hO1244⟩, S1246⟩
           exact ⟨rfl, rfl, trivial⟩
         ·
          refine WCode.cond_t (kb (b := !t1059.1) rfl (show (!t1059.1) = true from by rw [(Bool.eq_false_iff.2 h1093)]; rfl)) ?_
          refine WCode.seq ?_
          refine WCode.region ?_
          refine WOps.p (G.assign rfl) rfl ?_
          refine WOps.nil ?_
          refine WEx.then_ ?_
          refine WCode.forget (l' := [(6, .bool false)]) ⟨rfl, trivial⟩ ?_
          refine WCode.ret ?_
          refine WEx.then_ret ?_
          refine WEx.in_ret ?_
          refine WEx.then_ret ?_
          refine WEx.then_ret ?_
          refine WEx.in_ret ?_
          refine WEx.then_ret ?_
          obtain rfl := some_eq hF
          refine WEx.ret1 rfl rfl ?_
          exact ⟨rfl, St.keep (As := []) S1092⟩
        ·
         exact nomatch (show (none : Option Bool) = some r_ from hF)
       ·
        exact nomatch (show (none : Option Bool) = some r_ from hF)
      ·
       exact nomatch (show (none : Option Bool) = some r_ from hF)
   ·
    refine WCode.cond_f (kb (b := decide (x627 < 2)) rfl (decide_eq_false h649)) ?_
    refine WCode.exit ?_
    refine WEx.then_exit ?_
    refine WEx.then_exit ?_
    refine WEx.in_exit ?_
    refine WEx.then_ ?_
    refine WCode.seq ?_
    refine WCode.region ?_
    refine WOps.p (G.assign rfl) rfl ?_
    refine WOps.nil ?_
    refine WEx.then_ ?_
    refine WCode.ret ?_
    obtain rfl := some_eq hF
    refine WEx.ret1 rfl rfl ?_
    exact ⟨rfl, St.keep (As := []) S645⟩

end Go.Proofs.Ytpdpfiaediadgaa
