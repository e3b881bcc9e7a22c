/- Functions and their walks (printed by auto.py over the engine). -/
import Derived.Test.YtpdpfiaediadgaaProg
import Derived.Test.YtpdpfiaediadgaaCF
namespace Go.Proofs.Ytpdpfiaediadgaa
open Go Go.Eng
set_option linter.unusedSimpArgs false
set_option linter.unusedVariables false

theorem T.agg36_9 : isAggT Try.prog 36 9 = true := by kernel_rfl
theorem T.ar23_4_1 : arEl Try.prog 23 = some (4, 1) := by kernel_rfl
theorem T.call11 : Callable Try.prog 11 := Callable.mk Try.func11 (by kernel_rfl) (by kernel_rfl)
theorem T.call12 : Callable Try.prog 12 := Callable.mk Try.func12 (by kernel_rfl) (by kernel_rfl)
theorem T.call14 : Callable Try.prog 14 := Callable.mk Try.func14 (by kernel_rfl) (by kernel_rfl)
theorem T.el24 : slEl Try.prog 24 = some 9 := by kernel_rfl
theorem T.el32 : slEl Try.prog 32 = some 5 := by kernel_rfl
theorem T.elt32 : Elt Try.prog 32 40 5 48 := elt_mk (z := .agg #[.int .i64 0, .int .i64 0, .int .i64 0, .bool false, .string ⟨#[]⟩]) Try.underlying32 (by kernel_rfl) rfl
theorem T.fld36_2 : fldOff Try.prog 36 2 = some 2 := by kernel_rfl
theorem T.fld36_7 : fldOff Try.prog 36 7 = some 8 := by kernel_rfl
theorem T.fld40_0 : fldOff Try.prog 40 0 = some 0 := by kernel_rfl
theorem T.fld40_1 : fldOff Try.prog 40 1 = some 2 := by kernel_rfl
theorem T.fld40_2 : fldOff Try.prog 40 2 = some 3 := by kernel_rfl
theorem T.fld40_3 : fldOff Try.prog 40 3 = some 4 := by kernel_rfl
theorem T.size36_9 : sizeT Try.prog 36 = some 9 := by kernel_rfl
theorem T.size4_1 : sizeT Try.prog 4 = some 1 := by kernel_rfl
theorem T.size9_1 : sizeT Try.prog 9 = some 1 := by kernel_rfl
theorem T.zero36 : zeroOf Try.prog 36 = some (.agg #[.bool false, .bool false, .int .i64 0, .int .i64 0, .int .i64 0, .int .i64 0, .int .i64 0, .int .i64 0, .string (bs ([] : List UInt8))]) := by kernel_rfl
structure S23 where
  e0 : Int
  e1 : Int
  e2 : Int
  e3 : Int
  deriving DecidableEq
def S23.cs (x : S23) : List Value := [.int .i64 x.e0, .int .i64 x.e1, .int .i64 x.e2, .int .i64 x.e3]
def S23.rp : Rp S23 := .plain S23.cs 4 (fun _ => rfl) (fun _ => rfl)
structure Seen where
  w : WhoC
  sequence : Int
  done : Bool
  reply : List UInt8
  deriving DecidableEq
def Seen.cs (x : Seen) : List Value := [.int .i64 x.w.Address, .int .i64 x.w.Instance, .int .i64 x.sequence, .bool x.done, .string (bs x.reply)]
def Seen.rp : Rp Seen := .plain Seen.cs 5 (fun _ => rfl) (fun _ => rfl)


mutual
def law_Once.j3 : Nat → List OpC → CacheConfig → Int → Int → Int × Cache → List Seen → Option Bool
  | 0, _, _, _, _, _, _ => none
  | k314 + 1, a1, t12, x57, x58, t178, l196 => (law_Once.l1 k314 a1 t12 l196 x57 (w64 (x58 + 1)) t178.2.config.Clients t178.2.config.Entries t178.2.config.Bytes t178.2.config.Reserve t178.2.clients t178.2.entries t178.2.bytes)
def law_Once.j4 : Nat → List OpC → CacheConfig → List Seen → Int → Int → OpC → Int → Int × Cache → Bool → Option Bool
  | 0, _, _, _, _, _, _, _, _, _ => none
  | k256 + 1, a1, t12, l54, x57, x58, x82, x120, t178, b204 => (if b204 = true then (some false) else (Option.bind (idx l54 x120) fun x258 => (Option.bind (upd l54 x120 (⟨x258.w, x258.sequence, true, x258.reply⟩ : Seen)) fun l272 => (Option.bind (idx l272 x120) fun x282 => (Option.bind (upd l272 x120 (⟨x282.w, x282.sequence, x282.done, x82.Reply⟩ : Seen)) fun l296 => (law_Once.j3 k256 a1 t12 x57 x58 t178 l296))))))
def law_Once.j6 : Nat → List OpC → CacheConfig → List Seen → Int → Int → WhoC × Int × Int → Int → Int × (List UInt8) × Cache → Int → Int → Bool → Int → Bool → Int → Bool → Int → Int → Int → Bool → Bool → Int → Bool → Option Bool
  | 0, _, _, _, _, _, _, _, _, _, _, _, _, _, _, _, _, _, _, _, _, _, _ => none
  | k468 + 1, a1, t12, l54, x57, x58, t106, x120, t329, t345, x351, b352, x353, b354, x355, b356, x357, x358, x359, b360, b361, t418, b452 => (if b452 = true then (if x120 < 0 then (some false) else (Option.bind (idx l54 x120) fun x471 => (if (x471.done == (decide (t329.1 = 3))) = true then (Option.bind (idx l54 x120) fun x486 => (if t329.2.1 = x486.reply then (if t106.2.1 < t345 then (some false) else (law_Once.l1 k468 a1 t12 l54 t418 (w64 (x58 + 1)) t329.2.2.config.Clients t329.2.2.config.Entries t329.2.2.config.Bytes t329.2.2.config.Reserve t329.2.2.clients t329.2.2.entries t329.2.2.bytes)) else (some false))) else (some false)))) else (if t329.1 = 5 then (if 0 ≤ x120 then (some false) else (law_Once.l1 k468 a1 t12 l54 t418 (w64 (x58 + 1)) t329.2.2.config.Clients t329.2.2.config.Entries t329.2.2.config.Bytes t329.2.2.config.Reserve t329.2.2.clients t329.2.2.entries t329.2.2.bytes)) else (if t329.1 = 4 then (if 0 < t345 then (if t345 ≤ t106.2.1 then (if 1 ≤ t106.2.1 then (if t106.2.1 < 4294967296 then (if 1 ≤ t106.2.2 then (if t106.2.2 < 4294967296 then (some false) else (law_Once.l1 k468 a1 t12 l54 t418 (w64 (x58 + 1)) t329.2.2.config.Clients t329.2.2.config.Entries t329.2.2.config.Bytes t329.2.2.config.Reserve t329.2.2.clients t329.2.2.entries t329.2.2.bytes)) else (law_Once.l1 k468 a1 t12 l54 t418 (w64 (x58 + 1)) t329.2.2.config.Clients t329.2.2.config.Entries t329.2.2.config.Bytes t329.2.2.config.Reserve t329.2.2.clients t329.2.2.entries t329.2.2.bytes)) else (law_Once.l1 k468 a1 t12 l54 t418 (w64 (x58 + 1)) t329.2.2.config.Clients t329.2.2.config.Entries t329.2.2.config.Bytes t329.2.2.config.Reserve t329.2.2.clients t329.2.2.entries t329.2.2.bytes)) else (law_Once.l1 k468 a1 t12 l54 t418 (w64 (x58 + 1)) t329.2.2.config.Clients t329.2.2.config.Entries t329.2.2.config.Bytes t329.2.2.config.Reserve t329.2.2.clients t329.2.2.entries t329.2.2.bytes)) else (law_Once.l1 k468 a1 t12 l54 t418 (w64 (x58 + 1)) t329.2.2.config.Clients t329.2.2.config.Entries t329.2.2.config.Bytes t329.2.2.config.Reserve t329.2.2.clients t329.2.2.entries t329.2.2.bytes)) else (law_Once.l1 k468 a1 t12 l54 t418 (w64 (x58 + 1)) t329.2.2.config.Clients t329.2.2.config.Entries t329.2.2.config.Bytes t329.2.2.config.Reserve t329.2.2.clients t329.2.2.entries t329.2.2.bytes)) else (some false))))
def law_Once.j5 : Nat → List OpC → CacheConfig → List Seen → Int → Int → WhoC × Int × Int → Int → Int × (List UInt8) × Cache → Int → Int → Bool → Int → Bool → Int → Bool → Int → Int → Int → Bool → Bool → Option Bool
  | 0, _, _, _, _, _, _, _, _, _, _, _, _, _, _, _, _, _, _, _, _ => none
  | k417 + 1, a1, t12, l54, x57, x58, t106, x120, t329, t345, x351, b352, x353, b354, x355, b356, x357, x358, x359, b360, b361 => (Option.bind (ca_Clients k417 t329.2.2) fun t418 => (if t329.1 = 1 then (if 0 ≤ x120 then (some false) else (if t106.2.1 < t345 then (some false) else (if t345 < t106.2.2 then (some false) else (Option.bind (catN 2932031007402 l54 ([(⟨t106.1, t106.2.1, false, ([] : List UInt8)⟩ : Seen)] : List Seen)) fun l436 => (law_Once.l1 k417 a1 t12 l436 t418 (w64 (x58 + 1)) t329.2.2.config.Clients t329.2.2.config.Entries t329.2.2.config.Bytes t329.2.2.config.Reserve t329.2.2.clients t329.2.2.entries t329.2.2.bytes))))) else (if t329.1 = 2 then (law_Once.j6 k417 a1 t12 l54 x57 x58 t106 x120 t329 t345 x351 b352 x353 b354 x355 b356 x357 x358 x359 b360 b361 t418 (decide (t329.1 = 2))) else (law_Once.j6 k417 a1 t12 l54 x57 x58 t106 x120 t329 t345 x351 b352 x353 b354 x355 b356 x357 x358 x359 b360 b361 t418 (decide (t329.1 = 3))))))
def law_Once.j2 : Nat → List OpC → CacheConfig → List Seen → Int → Int → Int → Int → Int → Int → List (WhoC × Known) → Int → Int → OpC → WhoC × Int × Int → Int → Bool → Option Bool
  | 0, _, _, _, _, _, _, _, _, _, _, _, _, _, _, _, _ => none
  | k172 + 1, a1, t12, l54, x57, x58, x59, x60, x61, x62, l64, x67, x68, x82, t106, x120, b166 => (if b166 = true then (Option.bind (ca_Done k172 (⟨(⟨x59, x60, x61, x62⟩ : CacheConfig), l64, x67, x68⟩ : Cache) t106.1 t106.2.1 x82.Reply) fun t178 => (if t178.1 = 0 then (if x120 < 0 then (law_Once.j4 k172 a1 t12 l54 x57 x58 x82 x120 t178 true) else (Option.bind (idx l54 x120) fun x216 => (if x216.done = true then (law_Once.j4 k172 a1 t12 l54 x57 x58 x82 x120 t178 true) else (if t12.Reserve < (x82.Reply.length : Int) then (law_Once.j4 k172 a1 t12 l54 x57 x58 x82 x120 t178 true) else (Option.bind (ca_Water k172 t178.2 t106.1) fun t244 => (law_Once.j4 k172 a1 t12 l54 x57 x58 x82 x120 t178 (decide (t106.2.1 < t244)))))))) else (law_Once.j3 k172 a1 t12 x57 x58 t178 l54))) else (Option.bind (ca_Water k172 (⟨(⟨x59, x60, x61, x62⟩ : CacheConfig), l64, x67, x68⟩ : Cache) t106.1) fun t319 => (Option.bind (ca_Ask k172 (⟨(⟨x59, x60, x61, x62⟩ : CacheConfig), l64, x67, x68⟩ : Cache) t106.1 t106.2.1 t106.2.2) fun t329 => (Option.bind (ca_Water k172 t329.2.2 t106.1) fun t345 => (if t345 < t319 then (some false) else (Option.bind (ca_Clients k172 t329.2.2) fun t369 => (if t369 < x57 then (some false) else (Option.bind (ca_Clients k172 t329.2.2) fun t376 => (if t12.Clients < t376 then (some false) else (Option.bind (ca_Bytes k172 t329.2.2) fun t383 => (if t12.Bytes < t383 then (some false) else (Option.bind (ca_Entries k172 t329.2.2) fun t390 => (Option.bind (ca_Clients k172 t329.2.2) fun t396 => (if (w64 (t396 * t12.Entries)) < t390 then (some false) else (if t329.1 = 3 then (law_Once.j5 k172 a1 t12 l54 x57 x58 t106 x120 t329 t345 t369 (decide (t369 < x57)) t376 (decide (t12.Clients < t376)) t383 (decide (t12.Bytes < t383)) t390 t396 (w64 (t396 * t12.Entries)) (decide ((w64 (t396 * t12.Entries)) < t390)) false) else (if t329.2.1 = ([] : List UInt8) then (law_Once.j5 k172 a1 t12 l54 x57 x58 t106 x120 t329 t345 t369 (decide (t369 < x57)) t376 (decide (t12.Clients < t376)) t383 (decide (t12.Bytes < t383)) t390 t396 (w64 (t396 * t12.Entries)) (decide ((w64 (t396 * t12.Entries)) < t390)) (!(decide (t329.2.1 = ([] : List UInt8))))) else (some false)))))))))))))))))
def law_Once.j1 : Nat → List OpC → CacheConfig → List Seen → Int → Int → Int → Int → Int → Int → List (WhoC × Known) → Int → Int → OpC → WhoC × Int × Int → Int → Option Bool
  | 0, _, _, _, _, _, _, _, _, _, _, _, _, _, _, _ => none
  | k165 + 1, a1, t12, l54, x57, x58, x59, x60, x61, x62, l64, x67, x68, x82, t106, x120 => (if x82.What = 4 then (law_Once.j2 k165 a1 t12 l54 x57 x58 x59 x60 x61 x62 l64 x67 x68 x82 t106 x120 true) else (law_Once.j2 k165 a1 t12 l54 x57 x58 x59 x60 x61 x62 l64 x67 x68 x82 t106 x120 (decide (x82.What = 5))))
def law_Once.l2 : Nat → List OpC → CacheConfig → List Seen → Int → Int → Int → Int → Int → Int → List (WhoC × Known) → Int → Int → OpC → WhoC × Int × Int → Int → Int → Option Bool
  | 0, _, _, _, _, _, _, _, _, _, _, _, _, _, _, _, _ => none
  | k129 + 1, a1, t12, l54, x57, x58, x59, x60, x61, x62, l64, x67, x68, x82, t106, x125, x126 => (if x126 < (l54.length : Int) then (Option.bind (idx l54 x126) fun x135 => (if x135.w = t106.1 then (Option.bind (idx l54 x126) fun x150 => (if x150.sequence = t106.2.1 then (law_Once.l2 k129 a1 t12 l54 x57 x58 x59 x60 x61 x62 l64 x67 x68 x82 t106 x126 (w64 (x126 + 1))) else (law_Once.l2 k129 a1 t12 l54 x57 x58 x59 x60 x61 x62 l64 x67 x68 x82 t106 x125 (w64 (x126 + 1))))) else (law_Once.l2 k129 a1 t12 l54 x57 x58 x59 x60 x61 x62 l64 x67 x68 x82 t106 x125 (w64 (x126 + 1))))) else (law_Once.j1 k129 a1 t12 l54 x57 x58 x59 x60 x61 x62 l64 x67 x68 x82 t106 x125))
def law_Once.l1 : Nat → List OpC → CacheConfig → List Seen → Int → Int → Int → Int → Int → Int → List (WhoC × Known) → Int → Int → Option Bool
  | 0, _, _, _, _, _, _, _, _, _, _, _, _ => none
  | k71 + 1, a1, t12, l54, x57, x58, x59, x60, x61, x62, l64, x67, x68 => (if x58 < (a1.length : Int) then (Option.bind (idx a1 x58) fun x82 => (Option.bind (ca_names k71 x82) fun t106 => (law_Once.l2 k71 a1 t12 l54 x57 x58 x59 x60 x61 x62 l64 x67 x68 x82 t106 (-1) 0))) else (some true))
end
def law_Once (k : Nat) (a0 : S23) (a1 : List OpC) : Option Bool := (Option.bind (ca_known k) fun t7 => (Option.bind (ca_config k a0.e0 a0.e1 a0.e2 a0.e3) fun t12 => (Option.bind (ca_New k t12) fun t26 => (if t7 = true then (if (t26.1).isSome = true then (Option.bind (t26.1) fun x36 => (if t26.2 = 0 then (law_Once.l1 k a1 t12 [] 0 0 x36.config.Clients x36.config.Entries x36.config.Bytes x36.config.Reserve x36.clients x36.entries x36.bytes) else (some false))) else (some false)) else (some false)))))
set_option maxRecDepth 100000 in
set_option maxHeartbeats 1000000 in
theorem law_Once_calls (k : Nat) (a0 : S23) (a1 : List OpC) {A1 : Option Addr} {c1 : Nat} {F1 : Nat → Prop} {w : World} (hR1 : SlR OpC.rp w F1 A1 c1 a1) (hF1 : ∀ b, F1 b → NK w [] b) {r_ : Bool} (h_ : law_Once k a0 a1 = some r_) :
    Calls Try.prog 4 [.agg #[.int .i64 a0.e0, .int .i64 a0.e1, .int .i64 a0.e2, .int .i64 a0.e3], .slice A1 a1.length c1].toArray w fun e w' => e = .returned (.bool r_) ∧ St w (KS []) w' [] := by
  have hF := h_
  clear h_
  unfold law_Once at hF
  have S := St.ofFalse (As := []) (St.init0 w)
  refine enter 273 [(0, .agg #[.int .i64 a0.e0, .int .i64 a0.e1, .int .i64 a0.e2, .int .i64 a0.e3]), (1, .slice A1 a1.length c1)] Try.func4 rfl rfl rfl rfl ?_
  refine WCode.seq ?_
  refine WCode.region ?_
  obtain ⟨b1, w2, E3, S4, X5, L6⟩ := St.box S Try.prog 23 (.agg #[.int .i64 a0.e0, .int .i64 a0.e1, .int .i64 a0.e2, .int .i64 a0.e3])
  change St _ _ _ [[(b1, .cells #[.int .i64 a0.e0, .int .i64 a0.e1, .int .i64 a0.e2, .int .i64 a0.e3] 23 (0, 0))]] at S4
  refine WOps.e (E3 rfl) rfl ?_
  refine WOps.p (G.assign rfl) rfl ?_
  refine WOps.nil ?_
  refine WEx.then_ ?_
  refine WCode.seq ?_
  refine WCode.region ?_
  obtain ⟨t7, hc8, hF⟩ := bind_some hF
  refine WOps.call T.call11 evs_nil rfl ?_
  refine (ca_known_calls k hc8).mono ?_
  rintro _ w9 ⟨rfl, T10⟩
  have S11 := St.callN (As := []) S4 T10
  change St _ _ _ [[(b1, .cells #[.int .i64 a0.e0, .int .i64 a0.e1, .int .i64 a0.e2, .int .i64 a0.e3] 23 (0, 0))]] at S11
  refine ⟨_, rfl, ?_⟩
  refine WOps.p (G.assign rfl) rfl ?_
  refine WOps.nil ?_
  refine WEx.then_ ?_
  refine WCode.seq ?_
  refine WCode.region ?_
  refine WOps.p (G.idxa T.ar23_4_1 rfl (j := 0) rfl (by decide) (show 0 + 0 * 1 = 0 from rfl)) rfl ?_
  refine WOps.r (G.load1 T.one3 rfl (cell_blk (S11.blk 0 rfl) rfl)) rfl ?_
  refine WOps.p (G.idxa T.ar23_4_1 rfl (j := 1) rfl (by decide) (show 0 + 1 * 1 = 1 from rfl)) rfl ?_
  refine WOps.r (G.load1 T.one3 rfl (cell_blk (S11.blk 0 rfl) rfl)) rfl ?_
  refine WOps.p (G.idxa T.ar23_4_1 rfl (j := 2) rfl (by decide) (show 0 + 2 * 1 = 2 from rfl)) rfl ?_
  refine WOps.r (G.load1 T.one3 rfl (cell_blk (S11.blk 0 rfl) rfl)) rfl ?_
  refine WOps.p (G.idxa T.ar23_4_1 rfl (j := 3) rfl (by decide) (show 0 + 3 * 1 = 3 from rfl)) rfl ?_
  refine WOps.r (G.load1 T.one3 rfl (cell_blk (S11.blk 0 rfl) rfl)) rfl ?_
  obtain ⟨t12, hc13, hF⟩ := bind_some hF
  refine WOps.call T.call12 (evs_cons rfl (evs_cons rfl (evs_cons rfl (evs_cons rfl evs_nil)))) rfl ?_
  refine (ca_config_calls k a0.e0 a0.e1 a0.e2 a0.e3 hc13).mono ?_
  rintro _ w14 ⟨rfl, T15⟩
  have S16 := St.callN (As := []) S11 T15
  change St _ _ _ [[(b1, .cells #[.int .i64 a0.e0, .int .i64 a0.e1, .int .i64 a0.e2, .int .i64 a0.e3] 23 (0, 0))]] at S16
  refine ⟨_, rfl, ?_⟩
  obtain ⟨b17, w18, E19, S20, X21, L22⟩ := St.var S16 (z := .agg #[.int .i64 0, .int .i64 0, .int .i64 0, .int .i64 0]) T.zero26
  change St _ _ _ [[(b17, .cells #[.int .i64 0, .int .i64 0, .int .i64 0, .int .i64 0] 26 (0, 0))], [(b1, .cells #[.int .i64 a0.e0, .int .i64 a0.e1, .int .i64 a0.e2, .int .i64 a0.e3] 23 (0, 0))]] at S20
  refine WOps.e E19 rfl ?_
  obtain ⟨w23, E24, S25⟩ := St.store (P := Try.prog) S20 0 26 (.agg #[.int .i64 t12.Clients, .int .i64 t12.Entries, .int .i64 t12.Bytes, .int .i64 t12.Reserve]) (off := 0) (cur' := #[.int .i64 t12.Clients, .int .i64 t12.Entries, .int .i64 t12.Bytes, .int .i64 t12.Reserve]) rfl T.size26_4 rfl rfl rfl
  change St _ _ _ [[(b17, .cells #[.int .i64 t12.Clients, .int .i64 t12.Entries, .int .i64 t12.Bytes, .int .i64 t12.Reserve] 26 (0, 0))], [(b1, .cells #[.int .i64 a0.e0, .int .i64 a0.e1, .int .i64 a0.e2, .int .i64 a0.e3] 23 (0, 0))]] at S25
  refine WOps.u (E24 rfl rfl) ?_
  refine WOps.nil ?_
  refine WEx.then_ ?_
  refine WCode.forget (l' := [(1, .slice A1 a1.length c1), (5, .bool t7), (6, .pointer (some ⟨b17, 0, none⟩))]) ⟨rfl, rfl, rfl, trivial⟩ ?_
  refine WCode.seq ?_
  refine WCode.region ?_
  refine WOps.r (G.loada T.agg26_4 rfl (cs := [.int .i64 t12.Clients, .int .i64 t12.Entries, .int .i64 t12.Bytes, .int .i64 t12.Reserve]) (cellsAt.of_blk (S25.blk 0 rfl) rfl)) rfl ?_
  obtain ⟨t26, hc27, hF⟩ := bind_some hF
  refine WOps.call T.call13 (evs_cons rfl evs_nil) rfl ?_
  refine (ca_New_calls k t12 hc27).mono ?_
  rintro _ w28 ⟨v31, G32, rfl, hO33, T29⟩
  have S30 := St.callN (As := []) S25 T29
  change St _ _ _ [G32, [(b17, .cells #[.int .i64 t12.Clients, .int .i64 t12.Entries, .int .i64 t12.Bytes, .int .i64 t12.Reserve] 26 (0, 0))], [(b1, .cells #[.int .i64 a0.e0, .int .i64 a0.e1, .int .i64 a0.e2, .int .i64 a0.e3] 23 (0, 0))]] at S30
  refine ⟨_, rfl, ?_⟩
  refine WOps.p (G.move rfl) rfl ?_
  refine WOps.p (G.extract rfl rfl) rfl ?_
  refine WOps.p (G.extract rfl rfl) rfl ?_
  refine WOps.p (G.assign rfl) rfl ?_
  refine WOps.p (G.assign rfl) rfl ?_
  refine WOps.nil ?_
  refine WEx.then_ ?_
  refine WCode.seq ?_
  refine WCode.seq ?_
  refine WCode.region ?_
  refine WOps.p (G.move rfl) rfl ?_
  refine WOps.p (G.not rfl rfl) rfl ?_
  refine WOps.p (G.move rfl) rfl ?_
  rcases ite_some hF with ⟨h34, hF⟩ | ⟨h34, hF⟩
  ·
    refine WOps.on rfl (kbl (b := !t7) rfl (show (!t7) = false from by rw [h34]; rfl)) ?_
    refine WOps.p (G.move rfl) rfl ?_
    rcases ite_some hF with ⟨h35, hF⟩ | ⟨h35, hF⟩
    ·
      refine WOps.on rfl (kbl (b := !t7) rfl (show (!t7) = false from by rw [h34]; rfl)) ?_
      obtain ⟨x36, hc37, hF⟩ := bind_some hF
      have ho38 := hO33
      rw [hc37] at ho38
      obtain ⟨p39, hv40, hO41⟩ := ho38
      subst hv40
      obtain ⟨cs42, G43, ho44, hg45⟩ := hO41
      obtain ⟨b46, G47, rfl, hO48, hq49⟩ := ho44
      have S50 : St _ _ _ [[(p39, .cells #[.int .i64 x36.config.Clients, .int .i64 x36.config.Entries, .int .i64 x36.config.Bytes, .int .i64 x36.config.Reserve, .map (some b46), .int .i64 x36.entries, .int .i64 x36.bytes] 89 (0, 0))], G47, [(b17, .cells #[.int .i64 t12.Clients, .int .i64 t12.Entries, .int .i64 t12.Bytes, .int .i64 t12.Reserve] 26 (0, 0))], [(b1, .cells #[.int .i64 a0.e0, .int .i64 a0.e1, .int .i64 a0.e2, .int .i64 a0.e3] 23 (0, 0))]] := S30.objs (by rw [hg45, hq49]; simp)
      refine WOps.p (G.eqp_nil Try.underlying28 rfl rfl rfl) rfl ?_
      refine WOps.p (G.pick_f (kb (b := !t7) rfl (show (!t7) = false from by rw [h34]; rfl)) rfl) rfl ?_
      refine WOps.p (G.move rfl) rfl ?_
      refine WOps.on rfl rfl ?_
      refine WOps.p (G.move rfl) rfl ?_
      refine WOps.on rfl rfl ?_
      refine WOps.p (G.neq rfl rfl rfl) rfl ?_
      refine WOps.p (G.pick_f rfl rfl) rfl ?_
      refine WOps.nil ?_
      refine WEx.then_ ?_
      refine WCode.forget (l' := [(1, .slice A1 a1.length c1), (6, .pointer (some ⟨b17, 0, none⟩)), (7, .pointer (some ⟨p39, 0, none⟩)), (47, .bool (!(decide (t26.2 = 0))))]) ⟨rfl, rfl, rfl, rfl, trivial⟩ ?_
      rcases ite_some hF with ⟨h51, hF⟩ | ⟨h51, hF⟩
      ·
        refine WCode.cond_f (kb (b := !(decide (t26.2 = 0))) rfl (show (!(decide (t26.2 = 0))) = false from by rw [(decide_eq_true h51)]; rfl)) ?_
        refine WCode.skip ?_
        refine WEx.then_ ?_
        refine WCode.seq ?_
        refine WCode.region ?_
        refine WOps.p (G.assign rfl) rfl ?_
        refine WOps.nil ?_
        refine WEx.then_ ?_
        refine WCode.seq ?_
        refine WCode.region ?_
        refine WOps.p (G.assign rfl) rfl ?_
        refine WOps.nil ?_
        refine WEx.then_ ?_
        refine WCode.seq ?_
        refine WCode.seq ?_
        refine WCode.region ?_
        refine WOps.p (G.assign rfl) rfl ?_
        refine WOps.nil ?_
        refine WEx.then_ ?_
        refine WCode.block ?_
        have S73 := S50.emp
        have S75 := S73.front 2 rfl
        change St _ _ _ [G47, ([] : Grp), [(p39, .cells #[.int .i64 x36.config.Clients, .int .i64 x36.config.Entries, .int .i64 x36.config.Bytes, .int .i64 x36.config.Reserve, .map (some b46), .int .i64 x36.entries, .int .i64 x36.bytes] 89 (0, 0))], [(b17, .cells #[.int .i64 t12.Clients, .int .i64 t12.Entries, .int .i64 t12.Bytes, .int .i64 t12.Reserve] 26 (0, 0))], [(b1, .cells #[.int .i64 a0.e0, .int .i64 a0.e1, .int .i64 a0.e2, .int .i64 a0.e3] 23 (0, 0))]] at S75
        have S76 := S75.front 1 rfl
        change St _ _ _ [([] : Grp), G47, [(p39, .cells #[.int .i64 x36.config.Clients, .int .i64 x36.config.Entries, .int .i64 x36.config.Bytes, .int .i64 x36.config.Reserve, .map (some b46), .int .i64 x36.entries, .int .i64 x36.bytes] 89 (0, 0))], [(b17, .cells #[.int .i64 t12.Clients, .int .i64 t12.Entries, .int .i64 t12.Bytes, .int .i64 t12.Reserve] 26 (0, 0))], [(b1, .cells #[.int .i64 a0.e0, .int .i64 a0.e1, .int .i64 a0.e2, .int .i64 a0.e3] 23 (0, 0))]] at S76
        have S77 := S76.front 3 rfl
        change St _ _ _ [[(b17, .cells #[.int .i64 t12.Clients, .int .i64 t12.Entries, .int .i64 t12.Bytes, .int .i64 t12.Reserve] 26 (0, 0))], ([] : Grp), G47, [(p39, .cells #[.int .i64 x36.config.Clients, .int .i64 x36.config.Entries, .int .i64 x36.config.Bytes, .int .i64 x36.config.Reserve, .map (some b46), .int .i64 x36.entries, .int .i64 x36.bytes] 89 (0, 0))], [(b1, .cells #[.int .i64 a0.e0, .int .i64 a0.e1, .int .i64 a0.e2, .int .i64 a0.e3] 23 (0, 0))]] at S77
        have S78 := S77.front 3 rfl
        change St _ _ _ [[(p39, .cells #[.int .i64 x36.config.Clients, .int .i64 x36.config.Entries, .int .i64 x36.config.Bytes, .int .i64 x36.config.Reserve, .map (some b46), .int .i64 x36.entries, .int .i64 x36.bytes] 89 (0, 0))], [(b17, .cells #[.int .i64 t12.Clients, .int .i64 t12.Entries, .int .i64 t12.Bytes, .int .i64 t12.Reserve] 26 (0, 0))], ([] : Grp), G47, [(b1, .cells #[.int .i64 a0.e0, .int .i64 a0.e1, .int .i64 a0.e2, .int .i64 a0.e3] 23 (0, 0))]] at S78
        have S79 := St.keep (As := [[(p39, .cells #[.int .i64 x36.config.Clients, .int .i64 x36.config.Entries, .int .i64 x36.config.Bytes, .int .i64 x36.config.Reserve, .map (some b46), .int .i64 x36.entries, .int .i64 x36.bytes] 89 (0, 0))], [(b17, .cells #[.int .i64 t12.Clients, .int .i64 t12.Entries, .int .i64 t12.Bytes, .int .i64 t12.Reserve] 26 (0, 0))], ([] : Grp), G47]) S78
        refine WCode.forget (l' := [(1, .slice A1 a1.length c1), (6, .pointer (some ⟨b17, 0, none⟩)), (7, .pointer (some ⟨p39, 0, none⟩)), (9, .slice none 0 0), (10, .int .i64 0), (11, .int .i64 0)]) ⟨rfl, rfl, rfl, rfl, rfl, rfl, trivial⟩ ?_
        refine WCode.loop (fun n_ l_ w_ => ∃ A52 : Option Addr, ∃ c53 : Nat, ∃ l54 : List Seen, ∃ G55 : Grp, ∃ x57 : Int, ∃ x58 : Int, ∃ x59 : Int, ∃ x60 : Int, ∃ x61 : Int, ∃ x62 : Int, ∃ b63 : Nat, ∃ l64 : List (WhoC × Known), ∃ G65 : Grp, ∃ x67 : Int, ∃ x68 : Int, l_ = [(1, .slice A1 a1.length c1), (6, .pointer (some ⟨b17, 0, none⟩)), (7, .pointer (some ⟨p39, 0, none⟩)), (9, .slice A52 l54.length c53), (10, .int .i64 x57), (11, .int .i64 x58)] ∧ law_Once.l1 n_ a1 t12 l54 x57 x58 x59 x60 x61 x62 l64 x67 x68 = some r_ ∧ (SlO 40 Seen.rp (.slice A52 l54.length c53) l54 G55) ∧ (CliO M87.k 96 Known.rp b63 l64 G65) ∧ St w (KS []) w_ [[(p39, .cells #[.int .i64 x59, .int .i64 x60, .int .i64 x61, .int .i64 x62, .map (some b63), .int .i64 x67, .int .i64 x68] 89 (0, 0))], [(b17, .cells #[.int .i64 t12.Clients, .int .i64 t12.Entries, .int .i64 t12.Bytes, .int .i64 t12.Reserve] 26 (0, 0))], G55, G65]) k ⟨none, 0, [], ([] : Grp), 0, 0, x36.config.Clients, x36.config.Entries, x36.config.Bytes, x36.config.Reserve, b46, x36.clients, G47, x36.entries, x36.bytes, rfl, hF, (SlO.nil 40 Seen.rp), hO48, S79⟩ ?_
        rintro n72 _ w69 ⟨A52, c53, l54, G55, x57, x58, x59, x60, x61, x62, b63, l64, G65, x67, x68, rfl, hF, hO56, hO66, S70⟩
        obtain _ | k71 := n72
        · exact nomatch (show (none : Option Bool) = some r_ from hF)
        rw [law_Once.l1] at hF
        refine WCode.seq ?_
        refine WCode.seq ?_
        refine WCode.region ?_
        refine WOps.p (G.move rfl) rfl ?_
        refine WOps.p (G.move rfl) rfl ?_
        refine WOps.p (G.len T.el24 rfl) rfl ?_
        refine WOps.p (G.lss rfl rfl rfl) rfl ?_
        refine WOps.nil ?_
        refine WEx.then_ ?_
        rcases ite_some hF with ⟨h81, hF⟩ | ⟨h81, hF⟩
        ·
          refine WCode.cond_t (kb (b := decide (x58 < (a1.length : Int))) rfl (decide_eq_true h81)) ?_
          refine WCode.skip ?_
          refine WEx.then_ ?_
          refine WCode.seq ?_
          refine WCode.block ?_
          refine WCode.seq ?_
          refine WCode.region ?_
          refine WOps.p (G.move rfl) rfl ?_
          refine WOps.p (G.move rfl) rfl ?_
          obtain ⟨x82, hc83, hF⟩ := bind_some hF
          obtain ⟨j84, ej85, hj86, hl87⟩ := idx_spec hc83
          obtain ⟨b88, o89, cs90, eA91, hf92, hc93, hr94⟩ := SlR.at_ (hR1.ext (S70.keepF hF1)) hj86
          have hq95 : cs90 = [.bool x82.Other, .bool x82.Raw, .int .i64 x82.What, .int .i64 x82.Who, .int .i64 x82.Sequence, .int .i64 x82.Water, .int .i64 x82.Whose.Address, .int .i64 x82.Whose.Instance, .string (bs x82.Reply)] := hr94
          subst hq95
          change cellsAt _ _ (o89 + j84 * 9) [.bool x82.Other, .bool x82.Raw, .int .i64 x82.What, .int .i64 x82.Who, .int .i64 x82.Sequence, .int .i64 x82.Water, .int .i64 x82.Whose.Address, .int .i64 x82.Whose.Instance, .string (bs x82.Reply)] at hc93
          refine WOps.p (G.idx T.el24 rfl eA91 rfl ej85 hl87) rfl ?_
          refine WOps.r (G.loada T.agg36_9 rfl (cs := [.bool x82.Other, .bool x82.Raw, .int .i64 x82.What, .int .i64 x82.Who, .int .i64 x82.Sequence, .int .i64 x82.Water, .int .i64 x82.Whose.Address, .int .i64 x82.Whose.Instance, .string (bs x82.Reply)]) hc93) rfl ?_
          obtain ⟨b96, w97, E98, S99, X100, L101⟩ := St.var S70 (z := .agg #[.bool false, .bool false, .int .i64 0, .int .i64 0, .int .i64 0, .int .i64 0, .int .i64 0, .int .i64 0, .string (bs ([] : List UInt8))]) T.zero36
          have c102 := hc93.ext X100
          change St _ _ _ [[(b96, .cells #[.bool false, .bool false, .int .i64 0, .int .i64 0, .int .i64 0, .int .i64 0, .int .i64 0, .int .i64 0, .string (bs ([] : List UInt8))] 36 (0, 0))], [(p39, .cells #[.int .i64 x59, .int .i64 x60, .int .i64 x61, .int .i64 x62, .map (some b63), .int .i64 x67, .int .i64 x68] 89 (0, 0))], [(b17, .cells #[.int .i64 t12.Clients, .int .i64 t12.Entries, .int .i64 t12.Bytes, .int .i64 t12.Reserve] 26 (0, 0))], G55, G65] at S99
          refine WOps.e E98 rfl ?_
          obtain ⟨w103, E104, S105⟩ := St.store (P := Try.prog) S99 0 36 (.agg #[.bool x82.Other, .bool x82.Raw, .int .i64 x82.What, .int .i64 x82.Who, .int .i64 x82.Sequence, .int .i64 x82.Water, .int .i64 x82.Whose.Address, .int .i64 x82.Whose.Instance, .string (bs x82.Reply)]) (off := 0) (cur' := #[.bool x82.Other, .bool x82.Raw, .int .i64 x82.What, .int .i64 x82.Who, .int .i64 x82.Sequence, .int .i64 x82.Water, .int .i64 x82.Whose.Address, .int .i64 x82.Whose.Instance, .string (bs x82.Reply)]) rfl T.size36_9 rfl rfl rfl
          change St _ _ _ [[(b96, .cells #[.bool x82.Other, .bool x82.Raw, .int .i64 x82.What, .int .i64 x82.Who, .int .i64 x82.Sequence, .int .i64 x82.Water, .int .i64 x82.Whose.Address, .int .i64 x82.Whose.Instance, .string (bs x82.Reply)] 36 (0, 0))], [(p39, .cells #[.int .i64 x59, .int .i64 x60, .int .i64 x61, .int .i64 x62, .map (some b63), .int .i64 x67, .int .i64 x68] 89 (0, 0))], [(b17, .cells #[.int .i64 t12.Clients, .int .i64 t12.Entries, .int .i64 t12.Bytes, .int .i64 t12.Reserve] 26 (0, 0))], G55, G65] at S105
          refine WOps.u (E104 rfl rfl) ?_
          refine WOps.nil ?_
          refine WEx.then_ ?_
          refine WCode.seq ?_
          refine WCode.region ?_
          refine WOps.r (G.loada T.agg36_9 rfl (cs := [.bool x82.Other, .bool x82.Raw, .int .i64 x82.What, .int .i64 x82.Who, .int .i64 x82.Sequence, .int .i64 x82.Water, .int .i64 x82.Whose.Address, .int .i64 x82.Whose.Instance, .string (bs x82.Reply)]) (cellsAt.of_blk (S105.blk 0 rfl) rfl)) rfl ?_
          obtain ⟨t106, hc107, hF⟩ := bind_some hF
          refine WOps.call T.call14 (evs_cons rfl evs_nil) rfl ?_
          refine (ca_names_calls k71 x82 hc107).mono ?_
          rintro _ w108 ⟨rfl, T109⟩
          have S110 := St.callN (As := []) S105 T109
          change St _ _ _ [[(b96, .cells #[.bool x82.Other, .bool x82.Raw, .int .i64 x82.What, .int .i64 x82.Who, .int .i64 x82.Sequence, .int .i64 x82.Water, .int .i64 x82.Whose.Address, .int .i64 x82.Whose.Instance, .string (bs x82.Reply)] 36 (0, 0))], [(p39, .cells #[.int .i64 x59, .int .i64 x60, .int .i64 x61, .int .i64 x62, .map (some b63), .int .i64 x67, .int .i64 x68] 89 (0, 0))], [(b17, .cells #[.int .i64 t12.Clients, .int .i64 t12.Entries, .int .i64 t12.Bytes, .int .i64 t12.Reserve] 26 (0, 0))], G55, G65] at S110
          refine ⟨_, rfl, ?_⟩
          refine WOps.p (G.move rfl) rfl ?_
          refine WOps.p (G.extract rfl rfl) rfl ?_
          refine WOps.p (G.extract rfl rfl) rfl ?_
          refine WOps.p (G.extract rfl rfl) rfl ?_
          obtain ⟨b111, w112, E113, S114, X115, L116⟩ := St.var S110 (z := .agg #[.int .i64 0, .int .i64 0]) T.zero34
          change St _ _ _ [[(b111, .cells #[.int .i64 0, .int .i64 0] 34 (0, 0))], [(b96, .cells #[.bool x82.Other, .bool x82.Raw, .int .i64 x82.What, .int .i64 x82.Who, .int .i64 x82.Sequence, .int .i64 x82.Water, .int .i64 x82.Whose.Address, .int .i64 x82.Whose.Instance, .string (bs x82.Reply)] 36 (0, 0))], [(p39, .cells #[.int .i64 x59, .int .i64 x60, .int .i64 x61, .int .i64 x62, .map (some b63), .int .i64 x67, .int .i64 x68] 89 (0, 0))], [(b17, .cells #[.int .i64 t12.Clients, .int .i64 t12.Entries, .int .i64 t12.Bytes, .int .i64 t12.Reserve] 26 (0, 0))], G55, G65] at S114
          refine WOps.e E113 rfl ?_
          obtain ⟨w117, E118, S119⟩ := St.store (P := Try.prog) S114 0 34 (.agg #[.int .i64 t106.1.Address, .int .i64 t106.1.Instance]) (off := 0) (cur' := #[.int .i64 t106.1.Address, .int .i64 t106.1.Instance]) rfl T.size34_2 rfl rfl rfl
          change St _ _ _ [[(b111, .cells #[.int .i64 t106.1.Address, .int .i64 t106.1.Instance] 34 (0, 0))], [(b96, .cells #[.bool x82.Other, .bool x82.Raw, .int .i64 x82.What, .int .i64 x82.Who, .int .i64 x82.Sequence, .int .i64 x82.Water, .int .i64 x82.Whose.Address, .int .i64 x82.Whose.Instance, .string (bs x82.Reply)] 36 (0, 0))], [(p39, .cells #[.int .i64 x59, .int .i64 x60, .int .i64 x61, .int .i64 x62, .map (some b63), .int .i64 x67, .int .i64 x68] 89 (0, 0))], [(b17, .cells #[.int .i64 t12.Clients, .int .i64 t12.Entries, .int .i64 t12.Bytes, .int .i64 t12.Reserve] 26 (0, 0))], G55, G65] at S119
          refine WOps.u (E118 rfl rfl) ?_
          refine WOps.p (G.assign rfl) rfl ?_
          refine WOps.p (G.assign rfl) rfl ?_
          refine WOps.nil ?_
          refine WEx.then_ ?_
          refine WCode.forget (l' := [(1, .slice A1 a1.length c1), (6, .pointer (some ⟨b17, 0, none⟩)), (7, .pointer (some ⟨p39, 0, none⟩)), (9, .slice A52 l54.length c53), (10, .int .i64 x57), (11, .int .i64 x58), (12, .pointer (some ⟨b96, 0, none⟩)), (13, .pointer (some ⟨b111, 0, none⟩)), (14, .int .i64 t106.2.1), (15, .int .i64 t106.2.2)]) ⟨rfl, rfl, rfl, rfl, rfl, rfl, rfl, rfl, rfl, rfl, trivial⟩ ?_
          refine WCode.seq ?_
          refine WCode.region ?_
          refine WOps.p (G.assign rfl) rfl ?_
          refine WOps.nil ?_
          refine WEx.then_ ?_
          refine WCode.cutseq (fun l_ w_ => ∃ q123 : Nat, ∃ x120 : Int, l_ = [(1, .slice A1 a1.length c1), (6, .pointer (some ⟨b17, 0, none⟩)), (7, .pointer (some ⟨p39, 0, none⟩)), (9, .slice A52 l54.length c53), (10, .int .i64 x57), (11, .int .i64 x58), (12, .pointer (some ⟨b96, 0, none⟩)), (13, .pointer (some ⟨b111, 0, none⟩)), (14, .int .i64 t106.2.1), (15, .int .i64 t106.2.2), (16, .int .i64 x120)] ∧ law_Once.j1 q123 a1 t12 l54 x57 x58 x59 x60 x61 x62 l64 x67 x68 x82 t106 x120 = some r_ ∧ q123 ≤ k71 ∧ St w (KS []) w_ [[(b111, .cells #[.int .i64 t106.1.Address, .int .i64 t106.1.Instance] 34 (0, 0))], [(b96, .cells #[.bool x82.Other, .bool x82.Raw, .int .i64 x82.What, .int .i64 x82.Who, .int .i64 x82.Sequence, .int .i64 x82.Water, .int .i64 x82.Whose.Address, .int .i64 x82.Whose.Instance, .string (bs x82.Reply)] 36 (0, 0))], [(p39, .cells #[.int .i64 x59, .int .i64 x60, .int .i64 x61, .int .i64 x62, .map (some b63), .int .i64 x67, .int .i64 x68] 89 (0, 0))], [(b17, .cells #[.int .i64 t12.Clients, .int .i64 t12.Entries, .int .i64 t12.Bytes, .int .i64 t12.Reserve] 26 (0, 0))], G55, G65]) ?_ ?_
          ·
            refine WCode.seq ?_
            refine WCode.region ?_
            refine WOps.p (G.assign rfl) rfl ?_
            refine WOps.nil ?_
            refine WEx.then_ ?_
            refine WCode.block ?_
            refine WCode.forget (l' := [(1, .slice A1 a1.length c1), (6, .pointer (some ⟨b17, 0, none⟩)), (7, .pointer (some ⟨p39, 0, none⟩)), (9, .slice A52 l54.length c53), (10, .int .i64 x57), (11, .int .i64 x58), (12, .pointer (some ⟨b96, 0, none⟩)), (13, .pointer (some ⟨b111, 0, none⟩)), (14, .int .i64 t106.2.1), (15, .int .i64 t106.2.2), (16, .int .i64 (-1)), (17, .int .i64 0)]) ⟨rfl, rfl, rfl, rfl, rfl, rfl, rfl, rfl, rfl, rfl, rfl, rfl, trivial⟩ ?_
            refine WCode.loop (fun n_ l_ w_ => ∃ x125 : Int, ∃ x126 : Int, l_ = [(1, .slice A1 a1.length c1), (6, .pointer (some ⟨b17, 0, none⟩)), (7, .pointer (some ⟨p39, 0, none⟩)), (9, .slice A52 l54.length c53), (10, .int .i64 x57), (11, .int .i64 x58), (12, .pointer (some ⟨b96, 0, none⟩)), (13, .pointer (some ⟨b111, 0, none⟩)), (14, .int .i64 t106.2.1), (15, .int .i64 t106.2.2), (16, .int .i64 x125), (17, .int .i64 x126)] ∧ law_Once.l2 n_ a1 t12 l54 x57 x58 x59 x60 x61 x62 l64 x67 x68 x82 t106 x125 x126 = some r_ ∧ n_ ≤ k71 ∧ St w (KS []) w_ [[(b111, .cells #[.int .i64 t106.1.Address, .int .i64 t106.1.Instance] 34 (0, 0))], [(b96, .cells #[.bool x82.Other, .bool x82.Raw, .int .i64 x82.What, .int .i64 x82.Who, .int .i64 x82.Sequence, .int .i64 x82.Water, .int .i64 x82.Whose.Address, .int .i64 x82.Whose.Instance, .string (bs x82.Reply)] 36 (0, 0))], [(p39, .cells #[.int .i64 x59, .int .i64 x60, .int .i64 x61, .int .i64 x62, .map (some b63), .int .i64 x67, .int .i64 x68] 89 (0, 0))], [(b17, .cells #[.int .i64 t12.Clients, .int .i64 t12.Entries, .int .i64 t12.Bytes, .int .i64 t12.Reserve] 26 (0, 0))], G55, G65]) k71 ⟨-1, 0, rfl, hF, Nat.le_refl _, S119⟩ ?_
            rintro n130 _ w127 ⟨x125, x126, rfl, hF, hle131, S128⟩
            obtain _ | k129 := n130
            · exact nomatch (show (none : Option Bool) = some r_ from hF)
            rw [law_Once.l2] at hF
            refine WCode.seq ?_
            refine WCode.seq ?_
            refine WCode.region ?_
            refine WOps.p (G.move rfl) rfl ?_
            refine WOps.p (G.move rfl) rfl ?_
            refine WOps.p (G.len T.el32 rfl) rfl ?_
            refine WOps.p (G.lss rfl rfl rfl) rfl ?_
            refine WOps.nil ?_
            refine WEx.then_ ?_
            rcases ite_some hF with ⟨h132, hF⟩ | ⟨h132, hF⟩
            ·
              refine WCode.cond_t (kb (b := decide (x126 < (l54.length : Int))) rfl (decide_eq_true h132)) ?_
              refine WCode.skip ?_
              refine WEx.then_ ?_
              refine WCode.seq ?_
              refine WCode.block ?_
              refine WCode.seq ?_
              refine WCode.drawH (.one 0 0 (.one 1 0 (.one 2 0 (.one 3 0 (.one 4 1 (.one 5 1 (.one 6 0 (.one 7 0 (.one 8 0 (.one 9 0 (.one 10 0 (.one 11 0 (.one 13 0 (.one 12 1 (.one 14 0 (.one 15 0 .nil)))))))))))))))) (fun W_ => SlR Seen.rp W_ (· ∈ keys G55) A52 c53 l54 ∧ cellsAt W_ b111 0 [.int .i64 t106.1.Address, .int .i64 t106.1.Instance] ∧ True) T.mixed (by kernel_rfl) (by intro _ _ d _ _ h; cases d <;> exact h) rfl rfl (by kernel_rfl) ?_ ?_
              all_goals have S133 := S128.drew
              all_goals generalize w127.drew = w134 at *
              · exact ⟨(hO56.rd (fun b o hb => S133.grp 4 rfl hb)), cellsAt.of_blk (S133.blk 0 rfl) rfl, trivial⟩
              refine WH.p rfl wants (G.move rfl) rfl ?_
              refine WH.p rfl wants (G.move rfl) rfl ?_
              obtain ⟨x135, hc136, hF⟩ := bind_some hF
              obtain ⟨j137, ej138, hj139, hl140⟩ := idx_spec hc136
              obtain ⟨b141, o142, cs143, eA144, hf145, hc146, hr147⟩ := SlR.at_ (hO56.rd (fun b o hb => S133.grp 4 rfl hb)) hj139
              have hq148 : cs143 = [.int .i64 x135.w.Address, .int .i64 x135.w.Instance, .int .i64 x135.sequence, .bool x135.done, .string (bs x135.reply)] := hr147
              subst hq148
              change cellsAt _ _ (o142 + j137 * 5) [.int .i64 x135.w.Address, .int .i64 x135.w.Instance, .int .i64 x135.sequence, .bool x135.done, .string (bs x135.reply)] at hc146
              refine WH.p rfl wants (G.idx T.el32 rfl eA144 rfl ej138 hl140) rfl ?_
              refine WH.p rfl wants (G.field T.fld40_0 rfl (show o142 + j137 * 5 + 0 = o142 + j137 * 5 + 0 from rfl)) rfl ?_
              refine WH.r rfl wants (fun _ h_ => G.loada T.agg34_2 rfl (cs := [.int .i64 x135.w.Address, .int .i64 x135.w.Instance]) (cellsAt.part (SlR.cellsP h_.1 hj139 eA144) 0 rfl)) rfl ?_
              refine WH.r rfl wants (fun _ h_ => G.loada T.agg34_2 rfl (cs := [.int .i64 t106.1.Address, .int .i64 t106.1.Instance]) (cellsAt.part h_.2.1 0 rfl)) rfl ?_
              refine WH.p rfl wants (G.eqa rfl rfl (by kernel_rfl) (WhoC.eqIn34 x135.w t106.1) rfl) rfl ?_
              refine WH.p rfl wants (G.move rfl) rfl ?_
              rcases ite_some hF with ⟨h149, hF⟩ | ⟨h149, hF⟩
              ·
                refine WH.p rfl (wants_on rfl (kbl (b := decide (x135.w = t106.1)) rfl (decide_eq_true h149))) (G.move rfl) rfl ?_
                refine WH.p rfl (wants_on rfl (kbl (b := decide (x135.w = t106.1)) rfl (decide_eq_true h149))) (G.move rfl) rfl ?_
                obtain ⟨x150, hc151, hF⟩ := bind_some hF
                obtain ⟨j152, ej153, hj154, hl155⟩ := idx_spec hc151
                obtain ⟨b156, o157, cs158, eA159, hf160, hc161, hr162⟩ := SlR.at_ (hO56.rd (fun b o hb => S133.grp 4 rfl hb)) hj154
                have hq163 : cs158 = [.int .i64 x150.w.Address, .int .i64 x150.w.Instance, .int .i64 x150.sequence, .bool x150.done, .string (bs x150.reply)] := hr162
                subst hq163
                change cellsAt _ _ (o157 + j152 * 5) [.int .i64 x150.w.Address, .int .i64 x150.w.Instance, .int .i64 x150.sequence, .bool x150.done, .string (bs x150.reply)] at hc161
                refine WH.p rfl (wants_on rfl (kbl (b := decide (x135.w = t106.1)) rfl (decide_eq_true h149))) (G.idx T.el32 rfl eA159 rfl ej153 hl155) rfl ?_
                refine WH.p rfl (wants_on rfl (kbl (b := decide (x135.w = t106.1)) rfl (decide_eq_true h149))) (G.field T.fld40_1 rfl (show o157 + j152 * 5 + 2 = o157 + j152 * 5 + 2 from rfl)) rfl ?_
                refine WH.p rfl (wants_on rfl (kbl (b := decide (x135.w = t106.1)) rfl (decide_eq_true h149))) (G.move rfl) rfl ?_
                refine WH.r rfl (wants_on rfl (kbl (b := decide (x135.w = t106.1)) rfl (decide_eq_true h149))) (fun _ h_ => G.load1 T.one3 rfl (cellsAt.at (SlR.cellsP h_.1 hj154 eA159) 2 rfl)) rfl ?_
                refine WH.p rfl (wants_on rfl (kbl (b := decide (x135.w = t106.1)) rfl (decide_eq_true h149))) (G.eql rfl rfl rfl) rfl ?_
                refine WH.p rfl wants (G.pick_t (kb (b := decide (x135.w = t106.1)) rfl (decide_eq_true h149)) rfl) rfl ?_
                refine WH.nil ?_
                refine WEx.then_ ?_
                refine WCode.forget (l' := [(1, .slice A1 a1.length c1), (6, .pointer (some ⟨b17, 0, none⟩)), (7, .pointer (some ⟨p39, 0, none⟩)), (9, .slice A52 l54.length c53), (10, .int .i64 x57), (11, .int .i64 x58), (12, .pointer (some ⟨b96, 0, none⟩)), (13, .pointer (some ⟨b111, 0, none⟩)), (14, .int .i64 t106.2.1), (15, .int .i64 t106.2.2), (16, .int .i64 x125), (17, .int .i64 x126), (78, .slice A52 l54.length c53), (79, .int .i64 x126), (80, .pointer (some ⟨b156, o157 + j152 * 5, none⟩)), (81, .pointer (some ⟨b156, o157 + j152 * 5 + 2, none⟩)), (82, .int .i64 x150.sequence), (83, .int .i64 t106.2.1), (84, .bool (decide (x150.sequence = t106.2.1))), (85, .bool (decide (x150.sequence = t106.2.1)))]) ⟨rfl, rfl, rfl, rfl, rfl, rfl, rfl, rfl, rfl, rfl, rfl, rfl, rfl, rfl, rfl, rfl, rfl, rfl, rfl, rfl, trivial⟩ ?_
                rcases ite_some hF with ⟨h164, hF⟩ | ⟨h164, hF⟩
                ·
                  refine WCode.cond_t (kb (b := decide (x150.sequence = t106.2.1)) rfl (decide_eq_true h164)) ?_
                  refine WCode.region ?_
                  refine WOps.p (G.move rfl) rfl ?_
                  refine WOps.p (G.assign rfl) rfl ?_
                  refine WOps.nil ?_
                  refine WEx.in_normal ?_
                  refine WEx.then_ ?_
                  refine WCode.region ?_
                  refine WOps.p (G.move rfl) rfl ?_
                  refine WOps.p (G.add rfl rfl (r := (w64 (x126 + 1))) rfl) rfl ?_
                  refine WOps.p (G.assign rfl) rfl ?_
                  refine WOps.nil ?_
                  refine WEx.again _ _ (by omega) ?_ ⟨x126, w64 (x126 + 1), rfl, hF, (by omega), S133⟩
                  exact ⟨rfl, rfl, rfl, rfl, rfl, rfl, rfl, rfl, rfl, rfl, rfl, rfl, trivial⟩
                ·
                  refine WCode.cond_f (kb (b := decide (x150.sequence = t106.2.1)) rfl (decide_eq_false h164)) ?_
                  refine WCode.skip ?_
                  refine WEx.in_normal ?_
                  refine WEx.then_ ?_
                  refine WCode.region ?_
                  refine WOps.p (G.move rfl) rfl ?_
                  refine WOps.p (G.add rfl rfl (r := (w64 (x126 + 1))) rfl) rfl ?_
                  refine WOps.p (G.assign rfl) rfl ?_
                  refine WOps.nil ?_
                  refine WEx.again _ _ (by omega) ?_ ⟨x125, w64 (x126 + 1), rfl, hF, (by omega), S133⟩
                  exact ⟨rfl, rfl, rfl, rfl, rfl, rfl, rfl, rfl, rfl, rfl, rfl, rfl, trivial⟩
              ·
                refine WH.off rfl rfl (kbl (b := decide (x135.w = t106.1)) rfl (decide_eq_false h149)) rfl rfl rfl ?_
                refine WH.off rfl rfl (kbl (b := decide (x135.w = t106.1)) rfl (decide_eq_false h149)) rfl rfl rfl ?_
                refine WH.off rfl rfl (kbl (b := decide (x135.w = t106.1)) rfl (decide_eq_false h149)) rfl rfl rfl ?_
                refine WH.off rfl rfl (kbl (b := decide (x135.w = t106.1)) rfl (decide_eq_false h149)) rfl rfl rfl ?_
                refine WH.off rfl rfl (kbl (b := decide (x135.w = t106.1)) rfl (decide_eq_false h149)) rfl rfl rfl ?_
                refine WH.off rfl rfl (kbl (b := decide (x135.w = t106.1)) rfl (decide_eq_false h149)) rfl rfl rfl ?_
                refine WH.off rfl rfl (kbl (b := decide (x135.w = t106.1)) rfl (decide_eq_false h149)) rfl rfl rfl ?_
                refine WH.p rfl wants (G.pick_f (kb (b := decide (x135.w = t106.1)) rfl (decide_eq_false h149)) rfl) rfl ?_
                refine WH.nil ?_
                refine WEx.then_ ?_
                refine WCode.forget (l' := [(1, .slice A1 a1.length c1), (6, .pointer (some ⟨b17, 0, none⟩)), (7, .pointer (some ⟨p39, 0, none⟩)), (9, .slice A52 l54.length c53), (10, .int .i64 x57), (11, .int .i64 x58), (12, .pointer (some ⟨b96, 0, none⟩)), (13, .pointer (some ⟨b111, 0, none⟩)), (14, .int .i64 t106.2.1), (15, .int .i64 t106.2.2), (16, .int .i64 x125), (17, .int .i64 x126), (78, undef), (79, undef), (80, undef), (81, undef), (82, undef), (83, undef), (84, undef), (85, .bool false)]) ⟨rfl, rfl, rfl, rfl, rfl, rfl, rfl, rfl, rfl, rfl, rfl, rfl, rfl, rfl, rfl, rfl, rfl, rfl, rfl, rfl, trivial⟩ ?_
                refine WCode.cond_f rfl ?_
                refine WCode.skip ?_
                refine WEx.in_normal ?_
                refine WEx.then_ ?_
                refine WCode.region ?_
                refine WOps.p (G.move rfl) rfl ?_
                refine WOps.p (G.add rfl rfl (r := (w64 (x126 + 1))) rfl) rfl ?_
                refine WOps.p (G.assign rfl) rfl ?_
                refine WOps.nil ?_
                refine WEx.again _ _ (by omega) ?_ ⟨x125, w64 (x126 + 1), rfl, hF, (by omega), S133⟩
                exact ⟨rfl, rfl, rfl, rfl, rfl, rfl, rfl, rfl, rfl, rfl, rfl, rfl, trivial⟩
            ·
              refine WCode.cond_f (kb (b := decide (x126 < (l54.length : Int))) rfl (decide_eq_false h132)) ?_
              refine WCode.exit ?_
              refine WEx.then_exit ?_
              refine WEx.then_exit ?_
              refine WEx.in_exit ?_
              refine WEx.cutend _ ?_ ⟨k129, x125, rfl, hF, (by omega), S128⟩
              exact ⟨rfl, rfl, rfl, rfl, rfl, rfl, rfl, rfl, rfl, rfl, rfl, trivial⟩
          ·
            rintro _ w121 ⟨q123, x120, rfl, hF, hq124, S122⟩
            obtain _ | k165 := q123
            · exact nomatch (show (none : Option Bool) = some r_ from hF)
            rw [law_Once.j1] at hF
            refine WCode.seq ?_
            refine WCode.cutseq (fun l_ w_ => ∃ q169 : Nat, ∃ b166 : Bool, l_ = [(1, .slice A1 a1.length c1), (6, .pointer (some ⟨b17, 0, none⟩)), (7, .pointer (some ⟨p39, 0, none⟩)), (9, .slice A52 l54.length c53), (10, .int .i64 x57), (11, .int .i64 x58), (12, .pointer (some ⟨b96, 0, none⟩)), (13, .pointer (some ⟨b111, 0, none⟩)), (14, .int .i64 t106.2.1), (15, .int .i64 t106.2.2), (16, .int .i64 x120), (94, .bool b166)] ∧ law_Once.j2 q169 a1 t12 l54 x57 x58 x59 x60 x61 x62 l64 x67 x68 x82 t106 x120 b166 = some r_ ∧ q169 ≤ k165 ∧ St w (KS []) w_ [[(b111, .cells #[.int .i64 t106.1.Address, .int .i64 t106.1.Instance] 34 (0, 0))], [(b96, .cells #[.bool x82.Other, .bool x82.Raw, .int .i64 x82.What, .int .i64 x82.Who, .int .i64 x82.Sequence, .int .i64 x82.Water, .int .i64 x82.Whose.Address, .int .i64 x82.Whose.Instance, .string (bs x82.Reply)] 36 (0, 0))], [(p39, .cells #[.int .i64 x59, .int .i64 x60, .int .i64 x61, .int .i64 x62, .map (some b63), .int .i64 x67, .int .i64 x68] 89 (0, 0))], [(b17, .cells #[.int .i64 t12.Clients, .int .i64 t12.Entries, .int .i64 t12.Bytes, .int .i64 t12.Reserve] 26 (0, 0))], G55, G65]) ?_ ?_
            ·
              refine WCode.region ?_
              refine WOps.p (G.field T.fld36_2 rfl (show 0 + 2 = 2 from rfl)) rfl ?_
              refine WOps.r (G.load1 T.one3 rfl (cell_blk (S122.blk 1 rfl) rfl)) rfl ?_
              refine WOps.p (G.eql rfl rfl rfl) rfl ?_
              refine WOps.p (G.move rfl) rfl ?_
              rcases ite_some hF with ⟨h171, hF⟩ | ⟨h171, hF⟩
              ·
                refine WOps.off rfl (kbl (b := decide (x82.What = 4)) rfl (decide_eq_true h171)) rfl rfl ?_
                refine WOps.off rfl (kbl (b := decide (x82.What = 4)) rfl (decide_eq_true h171)) rfl rfl ?_
                refine WOps.off rfl (kbl (b := decide (x82.What = 4)) rfl (decide_eq_true h171)) rfl rfl ?_
                refine WOps.p (G.pick_t (kb (b := decide (x82.What = 4)) rfl (decide_eq_true h171)) rfl) rfl ?_
                refine WOps.nil ?_
                refine WEx.cutend _ ?_ ⟨k165, true, rfl, hF, (by omega), S122⟩
                exact ⟨rfl, rfl, rfl, rfl, rfl, rfl, rfl, rfl, rfl, rfl, rfl, rfl, trivial⟩
              ·
                refine WOps.on rfl (kbl (b := decide (x82.What = 4)) rfl (decide_eq_false h171)) ?_
                refine WOps.p (G.field T.fld36_2 rfl (show 0 + 2 = 2 from rfl)) rfl ?_
                refine WOps.on rfl (kbl (b := decide (x82.What = 4)) rfl (decide_eq_false h171)) ?_
                refine WOps.r (G.load1 T.one3 rfl (cell_blk (S122.blk 1 rfl) rfl)) rfl ?_
                refine WOps.on rfl (kbl (b := decide (x82.What = 4)) rfl (decide_eq_false h171)) ?_
                refine WOps.p (G.eql rfl rfl rfl) rfl ?_
                refine WOps.p (G.pick_f (kb (b := decide (x82.What = 4)) rfl (decide_eq_false h171)) rfl) rfl ?_
                refine WOps.nil ?_
                refine WEx.cutend _ ?_ ⟨k165, decide (x82.What = 5), rfl, hF, (by omega), S122⟩
                exact ⟨rfl, rfl, rfl, rfl, rfl, rfl, rfl, rfl, rfl, rfl, rfl, rfl, trivial⟩
            ·
              rintro _ w167 ⟨q169, b166, rfl, hF, hq170, S168⟩
              obtain _ | k172 := q169
              · exact nomatch (show (none : Option Bool) = some r_ from hF)
              rw [law_Once.j2] at hF
              rcases ite_some hF with ⟨h173, hF⟩ | ⟨h173, hF⟩
              ·
                refine WCode.cond_t (kb (b := b166) rfl h173) ?_
                refine WCode.seq ?_
                refine WCode.region ?_
                refine WOps.p (G.move rfl) rfl ?_
                refine WOps.r (G.loada T.agg34_2 rfl (cs := [.int .i64 t106.1.Address, .int .i64 t106.1.Instance]) (cellsAt.of_blk (S168.blk 0 rfl) rfl)) rfl ?_
                refine WOps.p (G.move rfl) rfl ?_
                refine WOps.p (G.field T.fld36_7 rfl (show 0 + 8 = 8 from rfl)) rfl ?_
                refine WOps.r (G.load1 T.one9 rfl (cell_blk (S168.blk 1 rfl) rfl)) rfl ?_
                have S174 := S168.front 5 rfl
                change St _ _ _ [G65, [(b111, .cells #[.int .i64 t106.1.Address, .int .i64 t106.1.Instance] 34 (0, 0))], [(b96, .cells #[.bool x82.Other, .bool x82.Raw, .int .i64 x82.What, .int .i64 x82.Who, .int .i64 x82.Sequence, .int .i64 x82.Water, .int .i64 x82.Whose.Address, .int .i64 x82.Whose.Instance, .string (bs x82.Reply)] 36 (0, 0))], [(p39, .cells #[.int .i64 x59, .int .i64 x60, .int .i64 x61, .int .i64 x62, .map (some b63), .int .i64 x67, .int .i64 x68] 89 (0, 0))], [(b17, .cells #[.int .i64 t12.Clients, .int .i64 t12.Entries, .int .i64 t12.Bytes, .int .i64 t12.Reserve] 26 (0, 0))], G55] at S174
                have S175 := S174.front 3 rfl
                change St _ _ _ [[(p39, .cells #[.int .i64 x59, .int .i64 x60, .int .i64 x61, .int .i64 x62, .map (some b63), .int .i64 x67, .int .i64 x68] 89 (0, 0))], G65, [(b111, .cells #[.int .i64 t106.1.Address, .int .i64 t106.1.Instance] 34 (0, 0))], [(b96, .cells #[.bool x82.Other, .bool x82.Raw, .int .i64 x82.What, .int .i64 x82.Who, .int .i64 x82.Sequence, .int .i64 x82.Water, .int .i64 x82.Whose.Address, .int .i64 x82.Whose.Instance, .string (bs x82.Reply)] 36 (0, 0))], [(b17, .cells #[.int .i64 t12.Clients, .int .i64 t12.Entries, .int .i64 t12.Bytes, .int .i64 t12.Reserve] 26 (0, 0))], G55] at S175
                have hO176 : ObjO 89 Cache.rp p39 (⟨(⟨x59, x60, x61, x62⟩ : CacheConfig), l64, x67, x68⟩ : Cache) ([(p39, .cells #[.int .i64 x59, .int .i64 x60, .int .i64 x61, .int .i64 x62, .map (some b63), .int .i64 x67, .int .i64 x68] 89 (0, 0))] ++ (G65)) := ⟨_, _, ⟨b63, G65, rfl, hO66, rfl⟩, rfl⟩
                have S177 : St _ _ _ [[(p39, .cells #[.int .i64 x59, .int .i64 x60, .int .i64 x61, .int .i64 x62, .map (some b63), .int .i64 x67, .int .i64 x68] 89 (0, 0))] ++ (G65), [(b111, .cells #[.int .i64 t106.1.Address, .int .i64 t106.1.Instance] 34 (0, 0))], [(b96, .cells #[.bool x82.Other, .bool x82.Raw, .int .i64 x82.What, .int .i64 x82.Who, .int .i64 x82.Sequence, .int .i64 x82.Water, .int .i64 x82.Whose.Address, .int .i64 x82.Whose.Instance, .string (bs x82.Reply)] 36 (0, 0))], [(b17, .cells #[.int .i64 t12.Clients, .int .i64 t12.Entries, .int .i64 t12.Bytes, .int .i64 t12.Reserve] 26 (0, 0))], G55] := S175.objs (by simp)
                obtain ⟨t178, hc179, hF⟩ := bind_some hF
                refine WOps.call T.call15 (evs_cons rfl (evs_cons rfl (evs_cons rfl (evs_cons rfl evs_nil)))) rfl ?_
                refine (ca_Done_calls k172 (⟨(⟨x59, x60, x61, x62⟩ : CacheConfig), l64, x67, x68⟩ : Cache) t106.1 t106.2.1 x82.Reply hO176 hc179 (St.hpN (As := [[(p39, .cells #[.int .i64 x59, .int .i64 x60, .int .i64 x61, .int .i64 x62, .map (some b63), .int .i64 x67, .int .i64 x68] 89 (0, 0))] ++ (G65)]) S177)).mono ?_
                rintro _ w180 ⟨G183, rfl, hO184, T181⟩
                have S182 := St.callN (As := [[(p39, .cells #[.int .i64 x59, .int .i64 x60, .int .i64 x61, .int .i64 x62, .map (some b63), .int .i64 x67, .int .i64 x68] 89 (0, 0))] ++ (G65)]) S177 T181
                change St _ _ _ [G183, [(b111, .cells #[.int .i64 t106.1.Address, .int .i64 t106.1.Instance] 34 (0, 0))], [(b96, .cells #[.bool x82.Other, .bool x82.Raw, .int .i64 x82.What, .int .i64 x82.Who, .int .i64 x82.Sequence, .int .i64 x82.Water, .int .i64 x82.Whose.Address, .int .i64 x82.Whose.Instance, .string (bs x82.Reply)] 36 (0, 0))], [(b17, .cells #[.int .i64 t12.Clients, .int .i64 t12.Entries, .int .i64 t12.Bytes, .int .i64 t12.Reserve] 26 (0, 0))], G55] at S182
                refine ⟨_, rfl, ?_⟩
                obtain ⟨cs185, G186, ho187, hg188⟩ := hO184
                obtain ⟨b189, G190, rfl, hO191, hq192⟩ := ho187
                have S193 : St _ _ _ [[(p39, .cells #[.int .i64 t178.2.config.Clients, .int .i64 t178.2.config.Entries, .int .i64 t178.2.config.Bytes, .int .i64 t178.2.config.Reserve, .map (some b189), .int .i64 t178.2.entries, .int .i64 t178.2.bytes] 89 (0, 0))], G190, [(b111, .cells #[.int .i64 t106.1.Address, .int .i64 t106.1.Instance] 34 (0, 0))], [(b96, .cells #[.bool x82.Other, .bool x82.Raw, .int .i64 x82.What, .int .i64 x82.Who, .int .i64 x82.Sequence, .int .i64 x82.Water, .int .i64 x82.Whose.Address, .int .i64 x82.Whose.Instance, .string (bs x82.Reply)] 36 (0, 0))], [(b17, .cells #[.int .i64 t12.Clients, .int .i64 t12.Entries, .int .i64 t12.Bytes, .int .i64 t12.Reserve] 26 (0, 0))], G55] := S182.objs (by rw [hg188, hq192]; simp)
                refine WOps.p (G.assign rfl) rfl ?_
                refine WOps.nil ?_
                refine WEx.then_ ?_
                refine WCode.cutseq (fun l_ w_ => ∃ q201 : Nat, ∃ A194 : Option Addr, ∃ c195 : Nat, ∃ l196 : List Seen, ∃ G197 : Grp, l_ = [(1, .slice A1 a1.length c1), (6, .pointer (some ⟨b17, 0, none⟩)), (7, .pointer (some ⟨p39, 0, none⟩)), (9, .slice A194 l196.length c195), (10, .int .i64 x57), (11, .int .i64 x58)] ∧ law_Once.j3 q201 a1 t12 x57 x58 t178 l196 = some r_ ∧ q201 ≤ k172 ∧ (SlO 40 Seen.rp (.slice A194 l196.length c195) l196 G197) ∧ St w (KS []) w_ [[(p39, .cells #[.int .i64 t178.2.config.Clients, .int .i64 t178.2.config.Entries, .int .i64 t178.2.config.Bytes, .int .i64 t178.2.config.Reserve, .map (some b189), .int .i64 t178.2.entries, .int .i64 t178.2.bytes] 89 (0, 0))], [(b17, .cells #[.int .i64 t12.Clients, .int .i64 t12.Entries, .int .i64 t12.Bytes, .int .i64 t12.Reserve] 26 (0, 0))], G190, G197]) ?_ ?_
                ·
                  refine WCode.seq ?_
                  refine WCode.region ?_
                  refine WOps.p (G.move rfl) rfl ?_
                  refine WOps.p (G.eql rfl rfl rfl) rfl ?_
                  refine WOps.nil ?_
                  refine WEx.then_ ?_
                  refine WCode.forget (l' := [(1, .slice A1 a1.length c1), (6, .pointer (some ⟨b17, 0, none⟩)), (7, .pointer (some ⟨p39, 0, none⟩)), (9, .slice A52 l54.length c53), (10, .int .i64 x57), (11, .int .i64 x58), (12, .pointer (some ⟨b96, 0, none⟩)), (13, .pointer (some ⟨b111, 0, none⟩)), (14, .int .i64 t106.2.1), (16, .int .i64 x120), (102, .bool (decide (t178.1 = 0)))]) ⟨rfl, rfl, rfl, rfl, rfl, rfl, rfl, rfl, rfl, rfl, rfl, trivial⟩ ?_
                  rcases ite_some hF with ⟨h203, hF⟩ | ⟨h203, hF⟩
                  ·
                    refine WCode.cond_t (kb (b := decide (t178.1 = 0)) rfl (decide_eq_true h203)) ?_
                    refine WCode.seq ?_
                    refine WCode.cutseq (fun l_ w_ => ∃ q207 : Nat, ∃ b204 : Bool, l_ = [(1, .slice A1 a1.length c1), (6, .pointer (some ⟨b17, 0, none⟩)), (7, .pointer (some ⟨p39, 0, none⟩)), (9, .slice A52 l54.length c53), (10, .int .i64 x57), (11, .int .i64 x58), (12, .pointer (some ⟨b96, 0, none⟩)), (16, .int .i64 x120), (126, .bool b204)] ∧ law_Once.j4 q207 a1 t12 l54 x57 x58 x82 x120 t178 b204 = some r_ ∧ q207 ≤ k172 ∧ St w (KS []) w_ [[(p39, .cells #[.int .i64 t178.2.config.Clients, .int .i64 t178.2.config.Entries, .int .i64 t178.2.config.Bytes, .int .i64 t178.2.config.Reserve, .map (some b189), .int .i64 t178.2.entries, .int .i64 t178.2.bytes] 89 (0, 0))], [(b96, .cells #[.bool x82.Other, .bool x82.Raw, .int .i64 x82.What, .int .i64 x82.Who, .int .i64 x82.Sequence, .int .i64 x82.Water, .int .i64 x82.Whose.Address, .int .i64 x82.Whose.Instance, .string (bs x82.Reply)] 36 (0, 0))], [(b17, .cells #[.int .i64 t12.Clients, .int .i64 t12.Entries, .int .i64 t12.Bytes, .int .i64 t12.Reserve] 26 (0, 0))], G55, G190]) ?_ ?_
                    ·
                      refine WCode.region ?_
                      refine WOps.p (G.move rfl) rfl ?_
                      refine WOps.p (G.lss rfl rfl rfl) rfl ?_
                      refine WOps.p (G.move rfl) rfl ?_
                      rcases ite_some hF with ⟨h209, hF⟩ | ⟨h209, hF⟩
                      ·
                        refine WOps.off rfl (kbl (b := decide (x120 < 0)) rfl (decide_eq_true h209)) rfl rfl ?_
                        refine WOps.off rfl (kbl (b := decide (x120 < 0)) rfl (decide_eq_true h209)) rfl rfl ?_
                        refine WOps.off rfl (kbl (b := decide (x120 < 0)) rfl (decide_eq_true h209)) rfl rfl ?_
                        refine WOps.off rfl (kbl (b := decide (x120 < 0)) rfl (decide_eq_true h209)) rfl rfl ?_
                        refine WOps.off rfl (kbl (b := decide (x120 < 0)) rfl (decide_eq_true h209)) rfl rfl ?_
                        refine WOps.p (G.pick_t (kb (b := decide (x120 < 0)) rfl (decide_eq_true h209)) rfl) rfl ?_
                        refine WOps.p (G.move rfl) rfl ?_
                        refine WOps.off rfl rfl rfl rfl ?_
                        refine WOps.off rfl rfl rfl rfl ?_
                        refine WOps.off rfl rfl rfl rfl ?_
                        refine WOps.off rfl rfl rfl rfl ?_
                        refine WOps.off rfl rfl rfl rfl ?_
                        refine WOps.off rfl rfl rfl rfl ?_
                        refine WOps.p (G.pick_t rfl rfl) rfl ?_
                        refine WOps.p (G.move rfl) rfl ?_
                        refine WOps.off rfl rfl rfl rfl ?_
                        refine WOps.off rfl rfl rfl rfl ?_
                        refine WOps.off rfl rfl rfl rfl ?_
                        refine WOps.off rfl rfl rfl rfl ?_
                        refine WOps.off rfl rfl rfl rfl ?_
                        refine WOps.p (G.pick_t rfl rfl) rfl ?_
                        refine WOps.nil ?_
                        have S210 := S193.front 1 rfl
                        change St _ _ _ [G190, [(p39, .cells #[.int .i64 t178.2.config.Clients, .int .i64 t178.2.config.Entries, .int .i64 t178.2.config.Bytes, .int .i64 t178.2.config.Reserve, .map (some b189), .int .i64 t178.2.entries, .int .i64 t178.2.bytes] 89 (0, 0))], [(b111, .cells #[.int .i64 t106.1.Address, .int .i64 t106.1.Instance] 34 (0, 0))], [(b96, .cells #[.bool x82.Other, .bool x82.Raw, .int .i64 x82.What, .int .i64 x82.Who, .int .i64 x82.Sequence, .int .i64 x82.Water, .int .i64 x82.Whose.Address, .int .i64 x82.Whose.Instance, .string (bs x82.Reply)] 36 (0, 0))], [(b17, .cells #[.int .i64 t12.Clients, .int .i64 t12.Entries, .int .i64 t12.Bytes, .int .i64 t12.Reserve] 26 (0, 0))], G55] at S210
                        have S211 := S210.front 5 rfl
                        change St _ _ _ [G55, G190, [(p39, .cells #[.int .i64 t178.2.config.Clients, .int .i64 t178.2.config.Entries, .int .i64 t178.2.config.Bytes, .int .i64 t178.2.config.Reserve, .map (some b189), .int .i64 t178.2.entries, .int .i64 t178.2.bytes] 89 (0, 0))], [(b111, .cells #[.int .i64 t106.1.Address, .int .i64 t106.1.Instance] 34 (0, 0))], [(b96, .cells #[.bool x82.Other, .bool x82.Raw, .int .i64 x82.What, .int .i64 x82.Who, .int .i64 x82.Sequence, .int .i64 x82.Water, .int .i64 x82.Whose.Address, .int .i64 x82.Whose.Instance, .string (bs x82.Reply)] 36 (0, 0))], [(b17, .cells #[.int .i64 t12.Clients, .int .i64 t12.Entries, .int .i64 t12.Bytes, .int .i64 t12.Reserve] 26 (0, 0))]] at S211
                        have S212 := S211.front 5 rfl
                        change St _ _ _ [[(b17, .cells #[.int .i64 t12.Clients, .int .i64 t12.Entries, .int .i64 t12.Bytes, .int .i64 t12.Reserve] 26 (0, 0))], G55, G190, [(p39, .cells #[.int .i64 t178.2.config.Clients, .int .i64 t178.2.config.Entries, .int .i64 t178.2.config.Bytes, .int .i64 t178.2.config.Reserve, .map (some b189), .int .i64 t178.2.entries, .int .i64 t178.2.bytes] 89 (0, 0))], [(b111, .cells #[.int .i64 t106.1.Address, .int .i64 t106.1.Instance] 34 (0, 0))], [(b96, .cells #[.bool x82.Other, .bool x82.Raw, .int .i64 x82.What, .int .i64 x82.Who, .int .i64 x82.Sequence, .int .i64 x82.Water, .int .i64 x82.Whose.Address, .int .i64 x82.Whose.Instance, .string (bs x82.Reply)] 36 (0, 0))]] at S212
                        have S213 := S212.front 5 rfl
                        change St _ _ _ [[(b96, .cells #[.bool x82.Other, .bool x82.Raw, .int .i64 x82.What, .int .i64 x82.Who, .int .i64 x82.Sequence, .int .i64 x82.Water, .int .i64 x82.Whose.Address, .int .i64 x82.Whose.Instance, .string (bs x82.Reply)] 36 (0, 0))], [(b17, .cells #[.int .i64 t12.Clients, .int .i64 t12.Entries, .int .i64 t12.Bytes, .int .i64 t12.Reserve] 26 (0, 0))], G55, G190, [(p39, .cells #[.int .i64 t178.2.config.Clients, .int .i64 t178.2.config.Entries, .int .i64 t178.2.config.Bytes, .int .i64 t178.2.config.Reserve, .map (some b189), .int .i64 t178.2.entries, .int .i64 t178.2.bytes] 89 (0, 0))], [(b111, .cells #[.int .i64 t106.1.Address, .int .i64 t106.1.Instance] 34 (0, 0))]] at S213
                        have S214 := S213.front 4 rfl
                        change St _ _ _ [[(p39, .cells #[.int .i64 t178.2.config.Clients, .int .i64 t178.2.config.Entries, .int .i64 t178.2.config.Bytes, .int .i64 t178.2.config.Reserve, .map (some b189), .int .i64 t178.2.entries, .int .i64 t178.2.bytes] 89 (0, 0))], [(b96, .cells #[.bool x82.Other, .bool x82.Raw, .int .i64 x82.What, .int .i64 x82.Who, .int .i64 x82.Sequence, .int .i64 x82.Water, .int .i64 x82.Whose.Address, .int .i64 x82.Whose.Instance, .string (bs x82.Reply)] 36 (0, 0))], [(b17, .cells #[.int .i64 t12.Clients, .int .i64 t12.Entries, .int .i64 t12.Bytes, .int .i64 t12.Reserve] 26 (0, 0))], G55, G190, [(b111, .cells #[.int .i64 t106.1.Address, .int .i64 t106.1.Instance] 34 (0, 0))]] at S214
                        have S215 := St.keep (As := [[(p39, .cells #[.int .i64 t178.2.config.Clients, .int .i64 t178.2.config.Entries, .int .i64 t178.2.config.Bytes, .int .i64 t178.2.config.Reserve, .map (some b189), .int .i64 t178.2.entries, .int .i64 t178.2.bytes] 89 (0, 0))], [(b96, .cells #[.bool x82.Other, .bool x82.Raw, .int .i64 x82.What, .int .i64 x82.Who, .int .i64 x82.Sequence, .int .i64 x82.Water, .int .i64 x82.Whose.Address, .int .i64 x82.Whose.Instance, .string (bs x82.Reply)] 36 (0, 0))], [(b17, .cells #[.int .i64 t12.Clients, .int .i64 t12.Entries, .int .i64 t12.Bytes, .int .i64 t12.Reserve] 26 (0, 0))], G55, G190]) S214
                        refine WEx.cutend _ ?_ ⟨k172, true, rfl, hF, (by omega), S215⟩
                        exact ⟨rfl, rfl, rfl, rfl, rfl, rfl, rfl, rfl, rfl, trivial⟩
                      ·
                        refine WOps.on rfl (kbl (b := decide (x120 < 0)) rfl (decide_eq_false h209)) ?_
                        refine WOps.p (G.move rfl) rfl ?_
                        refine WOps.on rfl (kbl (b := decide (x120 < 0)) rfl (decide_eq_false h209)) ?_
                        refine WOps.p (G.move rfl) rfl ?_
                        refine WOps.on rfl (kbl (b := decide (x120 < 0)) rfl (decide_eq_false h209)) ?_
                        obtain ⟨x216, hc217, hF⟩ := bind_some hF
                        obtain ⟨j218, ej219, hj220, hl221⟩ := idx_spec hc217
                        obtain ⟨b222, o223, cs224, eA225, hf226, hc227, hr228⟩ := SlR.at_ (hO56.rd (fun b o hb => S193.grp 5 rfl hb)) hj220
                        have hq229 : cs224 = [.int .i64 x216.w.Address, .int .i64 x216.w.Instance, .int .i64 x216.sequence, .bool x216.done, .string (bs x216.reply)] := hr228
                        subst hq229
                        change cellsAt _ _ (o223 + j218 * 5) [.int .i64 x216.w.Address, .int .i64 x216.w.Instance, .int .i64 x216.sequence, .bool x216.done, .string (bs x216.reply)] at hc227
                        refine WOps.p (G.idx T.el32 rfl eA225 rfl ej219 hl221) rfl ?_
                        refine WOps.on rfl (kbl (b := decide (x120 < 0)) rfl (decide_eq_false h209)) ?_
                        refine WOps.p (G.field T.fld40_2 rfl (show o223 + j218 * 5 + 3 = o223 + j218 * 5 + 3 from rfl)) rfl ?_
                        refine WOps.on rfl (kbl (b := decide (x120 < 0)) rfl (decide_eq_false h209)) ?_
                        refine WOps.r (G.load1 T.one4 rfl (cellsAt.at hc227 3 rfl)) rfl ?_
                        refine WOps.p (G.pick_f (kb (b := decide (x120 < 0)) rfl (decide_eq_false h209)) rfl) rfl ?_
                        refine WOps.p (G.move rfl) rfl ?_
                        rcases ite_some hF with ⟨h230, hF⟩ | ⟨h230, hF⟩
                        ·
                          refine WOps.off rfl (kbl (b := x216.done) rfl h230) rfl rfl ?_
                          refine WOps.off rfl (kbl (b := x216.done) rfl h230) rfl rfl ?_
                          refine WOps.off rfl (kbl (b := x216.done) rfl h230) rfl rfl ?_
                          refine WOps.off rfl (kbl (b := x216.done) rfl h230) rfl rfl ?_
                          refine WOps.off rfl (kbl (b := x216.done) rfl h230) rfl rfl ?_
                          refine WOps.off rfl (kbl (b := x216.done) rfl h230) rfl rfl ?_
                          refine WOps.p (G.pick_t (kb (b := x216.done) rfl h230) rfl) rfl ?_
                          refine WOps.p (G.move rfl) rfl ?_
                          refine WOps.off rfl rfl rfl rfl ?_
                          refine WOps.off rfl rfl rfl rfl ?_
                          refine WOps.off rfl rfl rfl rfl ?_
                          refine WOps.off rfl rfl rfl rfl ?_
                          refine WOps.off rfl rfl rfl rfl ?_
                          refine WOps.p (G.pick_t rfl rfl) rfl ?_
                          refine WOps.nil ?_
                          have S231 := S193.front 1 rfl
                          change St _ _ _ [G190, [(p39, .cells #[.int .i64 t178.2.config.Clients, .int .i64 t178.2.config.Entries, .int .i64 t178.2.config.Bytes, .int .i64 t178.2.config.Reserve, .map (some b189), .int .i64 t178.2.entries, .int .i64 t178.2.bytes] 89 (0, 0))], [(b111, .cells #[.int .i64 t106.1.Address, .int .i64 t106.1.Instance] 34 (0, 0))], [(b96, .cells #[.bool x82.Other, .bool x82.Raw, .int .i64 x82.What, .int .i64 x82.Who, .int .i64 x82.Sequence, .int .i64 x82.Water, .int .i64 x82.Whose.Address, .int .i64 x82.Whose.Instance, .string (bs x82.Reply)] 36 (0, 0))], [(b17, .cells #[.int .i64 t12.Clients, .int .i64 t12.Entries, .int .i64 t12.Bytes, .int .i64 t12.Reserve] 26 (0, 0))], G55] at S231
                          have S232 := S231.front 5 rfl
                          change St _ _ _ [G55, G190, [(p39, .cells #[.int .i64 t178.2.config.Clients, .int .i64 t178.2.config.Entries, .int .i64 t178.2.config.Bytes, .int .i64 t178.2.config.Reserve, .map (some b189), .int .i64 t178.2.entries, .int .i64 t178.2.bytes] 89 (0, 0))], [(b111, .cells #[.int .i64 t106.1.Address, .int .i64 t106.1.Instance] 34 (0, 0))], [(b96, .cells #[.bool x82.Other, .bool x82.Raw, .int .i64 x82.What, .int .i64 x82.Who, .int .i64 x82.Sequence, .int .i64 x82.Water, .int .i64 x82.Whose.Address, .int .i64 x82.Whose.Instance, .string (bs x82.Reply)] 36 (0, 0))], [(b17, .cells #[.int .i64 t12.Clients, .int .i64 t12.Entries, .int .i64 t12.Bytes, .int .i64 t12.Reserve] 26 (0, 0))]] at S232
                          have S233 := S232.front 5 rfl
                          change St _ _ _ [[(b17, .cells #[.int .i64 t12.Clients, .int .i64 t12.Entries, .int .i64 t12.Bytes, .int .i64 t12.Reserve] 26 (0, 0))], G55, G190, [(p39, .cells #[.int .i64 t178.2.config.Clients, .int .i64 t178.2.config.Entries, .int .i64 t178.2.config.Bytes, .int .i64 t178.2.config.Reserve, .map (some b189), .int .i64 t178.2.entries, .int .i64 t178.2.bytes] 89 (0, 0))], [(b111, .cells #[.int .i64 t106.1.Address, .int .i64 t106.1.Instance] 34 (0, 0))], [(b96, .cells #[.bool x82.Other, .bool x82.Raw, .int .i64 x82.What, .int .i64 x82.Who, .int .i64 x82.Sequence, .int .i64 x82.Water, .int .i64 x82.Whose.Address, .int .i64 x82.Whose.Instance, .string (bs x82.Reply)] 36 (0, 0))]] at S233
                          have S234 := S233.front 5 rfl
                          change St _ _ _ [[(b96, .cells #[.bool x82.Other, .bool x82.Raw, .int .i64 x82.What, .int .i64 x82.Who, .int .i64 x82.Sequence, .int .i64 x82.Water, .int .i64 x82.Whose.Address, .int .i64 x82.Whose.Instance, .string (bs x82.Reply)] 36 (0, 0))], [(b17, .cells #[.int .i64 t12.Clients, .int .i64 t12.Entries, .int .i64 t12.Bytes, .int .i64 t12.Reserve] 26 (0, 0))], G55, G190, [(p39, .cells #[.int .i64 t178.2.config.Clients, .int .i64 t178.2.config.Entries, .int .i64 t178.2.config.Bytes, .int .i64 t178.2.config.Reserve, .map (some b189), .int .i64 t178.2.entries, .int .i64 t178.2.bytes] 89 (0, 0))], [(b111, .cells #[.int .i64 t106.1.Address, .int .i64 t106.1.Instance] 34 (0, 0))]] at S234
                          have S235 := S234.front 4 rfl
                          change St _ _ _ [[(p39, .cells #[.int .i64 t178.2.config.Clients, .int .i64 t178.2.config.Entries, .int .i64 t178.2.config.Bytes, .int .i64 t178.2.config.Reserve, .map (some b189), .int .i64 t178.2.entries, .int .i64 t178.2.bytes] 89 (0, 0))], [(b96, .cells #[.bool x82.Other, .bool x82.Raw, .int .i64 x82.What, .int .i64 x82.Who, .int .i64 x82.Sequence, .int .i64 x82.Water, .int .i64 x82.Whose.Address, .int .i64 x82.Whose.Instance, .string (bs x82.Reply)] 36 (0, 0))], [(b17, .cells #[.int .i64 t12.Clients, .int .i64 t12.Entries, .int .i64 t12.Bytes, .int .i64 t12.Reserve] 26 (0, 0))], G55, G190, [(b111, .cells #[.int .i64 t106.1.Address, .int .i64 t106.1.Instance] 34 (0, 0))]] at S235
                          have S236 := St.keep (As := [[(p39, .cells #[.int .i64 t178.2.config.Clients, .int .i64 t178.2.config.Entries, .int .i64 t178.2.config.Bytes, .int .i64 t178.2.config.Reserve, .map (some b189), .int .i64 t178.2.entries, .int .i64 t178.2.bytes] 89 (0, 0))], [(b96, .cells #[.bool x82.Other, .bool x82.Raw, .int .i64 x82.What, .int .i64 x82.Who, .int .i64 x82.Sequence, .int .i64 x82.Water, .int .i64 x82.Whose.Address, .int .i64 x82.Whose.Instance, .string (bs x82.Reply)] 36 (0, 0))], [(b17, .cells #[.int .i64 t12.Clients, .int .i64 t12.Entries, .int .i64 t12.Bytes, .int .i64 t12.Reserve] 26 (0, 0))], G55, G190]) S235
                          refine WEx.cutend _ ?_ ⟨k172, true, rfl, hF, (by omega), S236⟩
                          exact ⟨rfl, rfl, rfl, rfl, rfl, rfl, rfl, rfl, rfl, trivial⟩
                        ·
                          refine WOps.on rfl (kbl (b := x216.done) rfl (Bool.eq_false_iff.2 h230)) ?_
                          refine WOps.p (G.field T.fld36_7 rfl (show 0 + 8 = 8 from rfl)) rfl ?_
                          refine WOps.on rfl (kbl (b := x216.done) rfl (Bool.eq_false_iff.2 h230)) ?_
                          refine WOps.r (G.load1 T.one9 rfl (cell_blk (S193.blk 3 rfl) rfl)) rfl ?_
                          refine WOps.on rfl (kbl (b := x216.done) rfl (Bool.eq_false_iff.2 h230)) ?_
                          refine WOps.p (G.lenb T.str9 rfl) rfl ?_
                          refine WOps.on rfl (kbl (b := x216.done) rfl (Bool.eq_false_iff.2 h230)) ?_
                          refine WOps.p (G.field T.fld26_3 rfl (show 0 + 3 = 3 from rfl)) rfl ?_
                          refine WOps.on rfl (kbl (b := x216.done) rfl (Bool.eq_false_iff.2 h230)) ?_
                          refine WOps.r (G.load1 T.one3 rfl (cell_blk (S193.blk 4 rfl) rfl)) rfl ?_
                          refine WOps.on rfl (kbl (b := x216.done) rfl (Bool.eq_false_iff.2 h230)) ?_
                          refine WOps.p (G.gtr rfl rfl rfl) rfl ?_
                          refine WOps.p (G.pick_f (kb (b := x216.done) rfl (Bool.eq_false_iff.2 h230)) rfl) rfl ?_
                          refine WOps.p (G.move rfl) rfl ?_
                          rcases ite_some hF with ⟨h237, hF⟩ | ⟨h237, hF⟩
                          ·
                            refine WOps.off rfl (kbl (b := decide (t12.Reserve < (x82.Reply.length : Int))) rfl (decide_eq_true h237)) rfl rfl ?_
                            refine WOps.off rfl (kbl (b := decide (t12.Reserve < (x82.Reply.length : Int))) rfl (decide_eq_true h237)) rfl rfl ?_
                            refine WOps.off rfl (kbl (b := decide (t12.Reserve < (x82.Reply.length : Int))) rfl (decide_eq_true h237)) rfl rfl ?_
                            refine WOps.off rfl (kbl (b := decide (t12.Reserve < (x82.Reply.length : Int))) rfl (decide_eq_true h237)) rfl rfl ?_
                            refine WOps.off rfl (kbl (b := decide (t12.Reserve < (x82.Reply.length : Int))) rfl (decide_eq_true h237)) rfl rfl ?_
                            refine WOps.p (G.pick_t (kb (b := decide (t12.Reserve < (x82.Reply.length : Int))) rfl (decide_eq_true h237)) rfl) rfl ?_
                            refine WOps.nil ?_
                            have S238 := S193.front 1 rfl
                            change St _ _ _ [G190, [(p39, .cells #[.int .i64 t178.2.config.Clients, .int .i64 t178.2.config.Entries, .int .i64 t178.2.config.Bytes, .int .i64 t178.2.config.Reserve, .map (some b189), .int .i64 t178.2.entries, .int .i64 t178.2.bytes] 89 (0, 0))], [(b111, .cells #[.int .i64 t106.1.Address, .int .i64 t106.1.Instance] 34 (0, 0))], [(b96, .cells #[.bool x82.Other, .bool x82.Raw, .int .i64 x82.What, .int .i64 x82.Who, .int .i64 x82.Sequence, .int .i64 x82.Water, .int .i64 x82.Whose.Address, .int .i64 x82.Whose.Instance, .string (bs x82.Reply)] 36 (0, 0))], [(b17, .cells #[.int .i64 t12.Clients, .int .i64 t12.Entries, .int .i64 t12.Bytes, .int .i64 t12.Reserve] 26 (0, 0))], G55] at S238
                            have S239 := S238.front 5 rfl
                            change St _ _ _ [G55, G190, [(p39, .cells #[.int .i64 t178.2.config.Clients, .int .i64 t178.2.config.Entries, .int .i64 t178.2.config.Bytes, .int .i64 t178.2.config.Reserve, .map (some b189), .int .i64 t178.2.entries, .int .i64 t178.2.bytes] 89 (0, 0))], [(b111, .cells #[.int .i64 t106.1.Address, .int .i64 t106.1.Instance] 34 (0, 0))], [(b96, .cells #[.bool x82.Other, .bool x82.Raw, .int .i64 x82.What, .int .i64 x82.Who, .int .i64 x82.Sequence, .int .i64 x82.Water, .int .i64 x82.Whose.Address, .int .i64 x82.Whose.Instance, .string (bs x82.Reply)] 36 (0, 0))], [(b17, .cells #[.int .i64 t12.Clients, .int .i64 t12.Entries, .int .i64 t12.Bytes, .int .i64 t12.Reserve] 26 (0, 0))]] at S239
                            have S240 := S239.front 5 rfl
                            change St _ _ _ [[(b17, .cells #[.int .i64 t12.Clients, .int .i64 t12.Entries, .int .i64 t12.Bytes, .int .i64 t12.Reserve] 26 (0, 0))], G55, G190, [(p39, .cells #[.int .i64 t178.2.config.Clients, .int .i64 t178.2.config.Entries, .int .i64 t178.2.config.Bytes, .int .i64 t178.2.config.Reserve, .map (some b189), .int .i64 t178.2.entries, .int .i64 t178.2.bytes] 89 (0, 0))], [(b111, .cells #[.int .i64 t106.1.Address, .int .i64 t106.1.Instance] 34 (0, 0))], [(b96, .cells #[.bool x82.Other, .bool x82.Raw, .int .i64 x82.What, .int .i64 x82.Who, .int .i64 x82.Sequence, .int .i64 x82.Water, .int .i64 x82.Whose.Address, .int .i64 x82.Whose.Instance, .string (bs x82.Reply)] 36 (0, 0))]] at S240
                            have S241 := S240.front 5 rfl
                            change St _ _ _ [[(b96, .cells #[.bool x82.Other, .bool x82.Raw, .int .i64 x82.What, .int .i64 x82.Who, .int .i64 x82.Sequence, .int .i64 x82.Water, .int .i64 x82.Whose.Address, .int .i64 x82.Whose.Instance, .string (bs x82.Reply)] 36 (0, 0))], [(b17, .cells #[.int .i64 t12.Clients, .int .i64 t12.Entries, .int .i64 t12.Bytes, .int .i64 t12.Reserve] 26 (0, 0))], G55, G190, [(p39, .cells #[.int .i64 t178.2.config.Clients, .int .i64 t178.2.config.Entries, .int .i64 t178.2.config.Bytes, .int .i64 t178.2.config.Reserve, .map (some b189), .int .i64 t178.2.entries, .int .i64 t178.2.bytes] 89 (0, 0))], [(b111, .cells #[.int .i64 t106.1.Address, .int .i64 t106.1.Instance] 34 (0, 0))]] at S241
                            have S242 := S241.front 4 rfl
                            change St _ _ _ [[(p39, .cells #[.int .i64 t178.2.config.Clients, .int .i64 t178.2.config.Entries, .int .i64 t178.2.config.Bytes, .int .i64 t178.2.config.Reserve, .map (some b189), .int .i64 t178.2.entries, .int .i64 t178.2.bytes] 89 (0, 0))], [(b96, .cells #[.bool x82.Other, .bool x82.Raw, .int .i64 x82.What, .int .i64 x82.Who, .int .i64 x82.Sequence, .int .i64 x82.Water, .int .i64 x82.Whose.Address, .int .i64 x82.Whose.Instance, .string (bs x82.Reply)] 36 (0, 0))], [(b17, .cells #[.int .i64 t12.Clients, .int .i64 t12.Entries, .int .i64 t12.Bytes, .int .i64 t12.Reserve] 26 (0, 0))], G55, G190, [(b111, .cells #[.int .i64 t106.1.Address, .int .i64 t106.1.Instance] 34 (0, 0))]] at S242
                            have S243 := St.keep (As := [[(p39, .cells #[.int .i64 t178.2.config.Clients, .int .i64 t178.2.config.Entries, .int .i64 t178.2.config.Bytes, .int .i64 t178.2.config.Reserve, .map (some b189), .int .i64 t178.2.entries, .int .i64 t178.2.bytes] 89 (0, 0))], [(b96, .cells #[.bool x82.Other, .bool x82.Raw, .int .i64 x82.What, .int .i64 x82.Who, .int .i64 x82.Sequence, .int .i64 x82.Water, .int .i64 x82.Whose.Address, .int .i64 x82.Whose.Instance, .string (bs x82.Reply)] 36 (0, 0))], [(b17, .cells #[.int .i64 t12.Clients, .int .i64 t12.Entries, .int .i64 t12.Bytes, .int .i64 t12.Reserve] 26 (0, 0))], G55, G190]) S242
                            refine WEx.cutend _ ?_ ⟨k172, true, rfl, hF, (by omega), S243⟩
                            exact ⟨rfl, rfl, rfl, rfl, rfl, rfl, rfl, rfl, rfl, trivial⟩
                          ·
                            refine WOps.on rfl (kbl (b := decide (t12.Reserve < (x82.Reply.length : Int))) rfl (decide_eq_false h237)) ?_
                            refine WOps.p (G.move rfl) rfl ?_
                            refine WOps.on rfl (kbl (b := decide (t12.Reserve < (x82.Reply.length : Int))) rfl (decide_eq_false h237)) ?_
                            refine WOps.p (G.move rfl) rfl ?_
                            refine WOps.on rfl (kbl (b := decide (t12.Reserve < (x82.Reply.length : Int))) rfl (decide_eq_false h237)) ?_
                            refine WOps.r (G.loada T.agg34_2 rfl (cs := [.int .i64 t106.1.Address, .int .i64 t106.1.Instance]) (cellsAt.of_blk (S193.blk 2 rfl) rfl)) rfl ?_
                            refine WOps.on rfl (kbl (b := decide (t12.Reserve < (x82.Reply.length : Int))) rfl (decide_eq_false h237)) ?_
                            obtain ⟨t244, hc245, hF⟩ := bind_some hF
                            have hP246 : PtR 89 Cache.rp w180 (KS [[(p39, .cells #[.int .i64 t178.2.config.Clients, .int .i64 t178.2.config.Entries, .int .i64 t178.2.config.Bytes, .int .i64 t178.2.config.Reserve, .map (some b189), .int .i64 t178.2.entries, .int .i64 t178.2.bytes] 89 (0, 0))], G190]) p39 t178.2 := ⟨_, S193.blk 0 rfl, KS_at 0 rfl (by simp [keys]), ⟨b189, rfl, ((hO191.rd (fun b o hb => S193.grp 1 rfl hb)).mono (fun b hb => KS_at 1 rfl hb))⟩⟩
                            refine WOps.call T.call16 (evs_cons rfl (evs_cons rfl evs_nil)) rfl ?_
                            refine (ca_Water_calls k172 t178.2 t106.1 hP246 (St.outN (Bs := []) (As := [[(p39, .cells #[.int .i64 t178.2.config.Clients, .int .i64 t178.2.config.Entries, .int .i64 t178.2.config.Bytes, .int .i64 t178.2.config.Reserve, .map (some b189), .int .i64 t178.2.entries, .int .i64 t178.2.bytes] 89 (0, 0))], G190]) S193) hc245).mono ?_
                            rintro _ w247 ⟨rfl, T248⟩
                            have S249 := St.callN (As := []) S193 T248
                            change St _ _ _ [[(p39, .cells #[.int .i64 t178.2.config.Clients, .int .i64 t178.2.config.Entries, .int .i64 t178.2.config.Bytes, .int .i64 t178.2.config.Reserve, .map (some b189), .int .i64 t178.2.entries, .int .i64 t178.2.bytes] 89 (0, 0))], G190, [(b111, .cells #[.int .i64 t106.1.Address, .int .i64 t106.1.Instance] 34 (0, 0))], [(b96, .cells #[.bool x82.Other, .bool x82.Raw, .int .i64 x82.What, .int .i64 x82.Who, .int .i64 x82.Sequence, .int .i64 x82.Water, .int .i64 x82.Whose.Address, .int .i64 x82.Whose.Instance, .string (bs x82.Reply)] 36 (0, 0))], [(b17, .cells #[.int .i64 t12.Clients, .int .i64 t12.Entries, .int .i64 t12.Bytes, .int .i64 t12.Reserve] 26 (0, 0))], G55] at S249
                            refine ⟨_, rfl, ?_⟩
                            refine WOps.on rfl (kbl (b := decide (t12.Reserve < (x82.Reply.length : Int))) rfl (decide_eq_false h237)) ?_
                            refine WOps.p (G.lss rfl rfl rfl) rfl ?_
                            refine WOps.p (G.pick_f (kb (b := decide (t12.Reserve < (x82.Reply.length : Int))) rfl (decide_eq_false h237)) rfl) rfl ?_
                            refine WOps.nil ?_
                            have S250 := S249.front 1 rfl
                            change St _ _ _ [G190, [(p39, .cells #[.int .i64 t178.2.config.Clients, .int .i64 t178.2.config.Entries, .int .i64 t178.2.config.Bytes, .int .i64 t178.2.config.Reserve, .map (some b189), .int .i64 t178.2.entries, .int .i64 t178.2.bytes] 89 (0, 0))], [(b111, .cells #[.int .i64 t106.1.Address, .int .i64 t106.1.Instance] 34 (0, 0))], [(b96, .cells #[.bool x82.Other, .bool x82.Raw, .int .i64 x82.What, .int .i64 x82.Who, .int .i64 x82.Sequence, .int .i64 x82.Water, .int .i64 x82.Whose.Address, .int .i64 x82.Whose.Instance, .string (bs x82.Reply)] 36 (0, 0))], [(b17, .cells #[.int .i64 t12.Clients, .int .i64 t12.Entries, .int .i64 t12.Bytes, .int .i64 t12.Reserve] 26 (0, 0))], G55] at S250
                            have S251 := S250.front 5 rfl
                            change St _ _ _ [G55, G190, [(p39, .cells #[.int .i64 t178.2.config.Clients, .int .i64 t178.2.config.Entries, .int .i64 t178.2.config.Bytes, .int .i64 t178.2.config.Reserve, .map (some b189), .int .i64 t178.2.entries, .int .i64 t178.2.bytes] 89 (0, 0))], [(b111, .cells #[.int .i64 t106.1.Address, .int .i64 t106.1.Instance] 34 (0, 0))], [(b96, .cells #[.bool x82.Other, .bool x82.Raw, .int .i64 x82.What, .int .i64 x82.Who, .int .i64 x82.Sequence, .int .i64 x82.Water, .int .i64 x82.Whose.Address, .int .i64 x82.Whose.Instance, .string (bs x82.Reply)] 36 (0, 0))], [(b17, .cells #[.int .i64 t12.Clients, .int .i64 t12.Entries, .int .i64 t12.Bytes, .int .i64 t12.Reserve] 26 (0, 0))]] at S251
                            have S252 := S251.front 5 rfl
                            change St _ _ _ [[(b17, .cells #[.int .i64 t12.Clients, .int .i64 t12.Entries, .int .i64 t12.Bytes, .int .i64 t12.Reserve] 26 (0, 0))], G55, G190, [(p39, .cells #[.int .i64 t178.2.config.Clients, .int .i64 t178.2.config.Entries, .int .i64 t178.2.config.Bytes, .int .i64 t178.2.config.Reserve, .map (some b189), .int .i64 t178.2.entries, .int .i64 t178.2.bytes] 89 (0, 0))], [(b111, .cells #[.int .i64 t106.1.Address, .int .i64 t106.1.Instance] 34 (0, 0))], [(b96, .cells #[.bool x82.Other, .bool x82.Raw, .int .i64 x82.What, .int .i64 x82.Who, .int .i64 x82.Sequence, .int .i64 x82.Water, .int .i64 x82.Whose.Address, .int .i64 x82.Whose.Instance, .string (bs x82.Reply)] 36 (0, 0))]] at S252
                            have S253 := S252.front 5 rfl
                            change St _ _ _ [[(b96, .cells #[.bool x82.Other, .bool x82.Raw, .int .i64 x82.What, .int .i64 x82.Who, .int .i64 x82.Sequence, .int .i64 x82.Water, .int .i64 x82.Whose.Address, .int .i64 x82.Whose.Instance, .string (bs x82.Reply)] 36 (0, 0))], [(b17, .cells #[.int .i64 t12.Clients, .int .i64 t12.Entries, .int .i64 t12.Bytes, .int .i64 t12.Reserve] 26 (0, 0))], G55, G190, [(p39, .cells #[.int .i64 t178.2.config.Clients, .int .i64 t178.2.config.Entries, .int .i64 t178.2.config.Bytes, .int .i64 t178.2.config.Reserve, .map (some b189), .int .i64 t178.2.entries, .int .i64 t178.2.bytes] 89 (0, 0))], [(b111, .cells #[.int .i64 t106.1.Address, .int .i64 t106.1.Instance] 34 (0, 0))]] at S253
                            have S254 := S253.front 4 rfl
                            change St _ _ _ [[(p39, .cells #[.int .i64 t178.2.config.Clients, .int .i64 t178.2.config.Entries, .int .i64 t178.2.config.Bytes, .int .i64 t178.2.config.Reserve, .map (some b189), .int .i64 t178.2.entries, .int .i64 t178.2.bytes] 89 (0, 0))], [(b96, .cells #[.bool x82.Other, .bool x82.Raw, .int .i64 x82.What, .int .i64 x82.Who, .int .i64 x82.Sequence, .int .i64 x82.Water, .int .i64 x82.Whose.Address, .int .i64 x82.Whose.Instance, .string (bs x82.Reply)] 36 (0, 0))], [(b17, .cells #[.int .i64 t12.Clients, .int .i64 t12.Entries, .int .i64 t12.Bytes, .int .i64 t12.Reserve] 26 (0, 0))], G55, G190, [(b111, .cells #[.int .i64 t106.1.Address, .int .i64 t106.1.Instance] 34 (0, 0))]] at S254
                            have S255 := St.keep (As := [[(p39, .cells #[.int .i64 t178.2.config.Clients, .int .i64 t178.2.config.Entries, .int .i64 t178.2.config.Bytes, .int .i64 t178.2.config.Reserve, .map (some b189), .int .i64 t178.2.entries, .int .i64 t178.2.bytes] 89 (0, 0))], [(b96, .cells #[.bool x82.Other, .bool x82.Raw, .int .i64 x82.What, .int .i64 x82.Who, .int .i64 x82.Sequence, .int .i64 x82.Water, .int .i64 x82.Whose.Address, .int .i64 x82.Whose.Instance, .string (bs x82.Reply)] 36 (0, 0))], [(b17, .cells #[.int .i64 t12.Clients, .int .i64 t12.Entries, .int .i64 t12.Bytes, .int .i64 t12.Reserve] 26 (0, 0))], G55, G190]) S254
                            refine WEx.cutend _ ?_ ⟨k172, decide (t106.2.1 < t244), rfl, hF, (by omega), S255⟩
                            exact ⟨rfl, rfl, rfl, rfl, rfl, rfl, rfl, rfl, rfl, trivial⟩
                    ·
                      rintro _ w205 ⟨q207, b204, rfl, hF, hq208, S206⟩
                      obtain _ | k256 := q207
                      · exact nomatch (show (none : Option Bool) = some r_ from hF)
                      rw [law_Once.j4] at hF
                      rcases ite_some hF with ⟨h257, hF⟩ | ⟨h257, hF⟩
                      ·
                        refine WCode.cond_t (kb (b := b204) rfl h257) ?_
                        refine WCode.seq ?_
                        refine WCode.region ?_
                        refine WOps.p (G.assign rfl) rfl ?_
                        refine WOps.nil ?_
                        refine WEx.then_ ?_
                        refine WCode.ret ?_
                        refine WEx.then_ret ?_
                        refine WEx.then_ret ?_
                        refine WEx.then_ret ?_
                        refine WEx.in_ret ?_
                        refine WEx.then_ret ?_
                        refine WEx.then_ret ?_
                        refine WEx.in_ret ?_
                        refine WEx.then_ret ?_
                        obtain rfl := some_eq hF
                        refine WEx.ret1 rfl rfl ?_
                        exact ⟨rfl, St.keep (As := []) S206⟩
                      ·
                        refine WCode.cond_f (kb (b := b204) rfl (Bool.eq_false_iff.2 h257)) ?_
                        refine WCode.skip ?_
                        refine WEx.then_ ?_
                        refine WCode.seq ?_
                        refine WCode.region ?_
                        refine WOps.p (G.move rfl) rfl ?_
                        refine WOps.p (G.move rfl) rfl ?_
                        obtain ⟨x258, hc259, hF⟩ := bind_some hF
                        obtain ⟨j260, ej261, hj262, hl263⟩ := idx_spec hc259
                        obtain ⟨b264, o265, cs266, eA267, hf268, hc269, hr270⟩ := SlR.at_ (hO56.rd (fun b o hb => S206.grp 3 rfl hb)) hj262
                        have hq271 : cs266 = [.int .i64 x258.w.Address, .int .i64 x258.w.Instance, .int .i64 x258.sequence, .bool x258.done, .string (bs x258.reply)] := hr270
                        subst hq271
                        change cellsAt _ _ (o265 + j260 * 5) [.int .i64 x258.w.Address, .int .i64 x258.w.Instance, .int .i64 x258.sequence, .bool x258.done, .string (bs x258.reply)] at hc269
                        refine WOps.p (G.idx T.el32 rfl eA267 rfl ej261 hl263) rfl ?_
                        refine WOps.p (G.field T.fld40_2 rfl (show o265 + j260 * 5 + 3 = o265 + j260 * 5 + 3 from rfl)) rfl ?_
                        obtain ⟨l272, hc273, hF⟩ := bind_some hF
                        have e274 := upd_spec' hc273 ej261
                        have S275 := S206.front 3 rfl
                        change St _ _ _ [G55, [(p39, .cells #[.int .i64 t178.2.config.Clients, .int .i64 t178.2.config.Entries, .int .i64 t178.2.config.Bytes, .int .i64 t178.2.config.Reserve, .map (some b189), .int .i64 t178.2.entries, .int .i64 t178.2.bytes] 89 (0, 0))], [(b96, .cells #[.bool x82.Other, .bool x82.Raw, .int .i64 x82.What, .int .i64 x82.Who, .int .i64 x82.Sequence, .int .i64 x82.Water, .int .i64 x82.Whose.Address, .int .i64 x82.Whose.Instance, .string (bs x82.Reply)] 36 (0, 0))], [(b17, .cells #[.int .i64 t12.Clients, .int .i64 t12.Entries, .int .i64 t12.Bytes, .int .i64 t12.Reserve] 26 (0, 0))], G190] at S275
                        obtain ⟨w276, G277, E278, hO279, S280⟩ := St.storeF (P := Try.prog) (T := 4) S275 hO56 T.size4_1 hj262 eA267 (⟨x258.w, x258.sequence, true, x258.reply⟩ : Seen) (v := .bool true) [.int .i64 x258.w.Address, .int .i64 x258.w.Instance, .int .i64 x258.sequence] [.bool x258.done] [.string (bs x258.reply)] rfl rfl rfl
                        rw [← e274] at hO279
                        have hl281 : (l54).length = l272.length := by rw [e274, List.length_set]
                        try rw [hl281] at S280
                        try rw [hl281]
                        change St _ _ _ [G277, [(p39, .cells #[.int .i64 t178.2.config.Clients, .int .i64 t178.2.config.Entries, .int .i64 t178.2.config.Bytes, .int .i64 t178.2.config.Reserve, .map (some b189), .int .i64 t178.2.entries, .int .i64 t178.2.bytes] 89 (0, 0))], [(b96, .cells #[.bool x82.Other, .bool x82.Raw, .int .i64 x82.What, .int .i64 x82.Who, .int .i64 x82.Sequence, .int .i64 x82.Water, .int .i64 x82.Whose.Address, .int .i64 x82.Whose.Instance, .string (bs x82.Reply)] 36 (0, 0))], [(b17, .cells #[.int .i64 t12.Clients, .int .i64 t12.Entries, .int .i64 t12.Bytes, .int .i64 t12.Reserve] 26 (0, 0))], G190] at S280
                        refine WOps.u (E278 rfl rfl) ?_
                        refine WOps.nil ?_
                        refine WEx.then_ ?_
                        refine WCode.region ?_
                        refine WOps.p (G.move rfl) rfl ?_
                        refine WOps.p (G.move rfl) rfl ?_
                        refine WOps.p (G.field T.fld36_7 rfl (show 0 + 8 = 8 from rfl)) rfl ?_
                        refine WOps.r (G.load1 T.one9 rfl (cell_blk (S280.blk 2 rfl) rfl)) rfl ?_
                        obtain ⟨x282, hc283, hF⟩ := bind_some hF
                        obtain ⟨j284, ej285, hj286, hl287⟩ := idx_spec hc283
                        obtain ⟨b288, o289, cs290, eA291, hf292, hc293, hr294⟩ := SlR.at_ (hO279.rd (fun b o hb => S280.grp 0 rfl hb)) hj286
                        have hq295 : cs290 = [.int .i64 x282.w.Address, .int .i64 x282.w.Instance, .int .i64 x282.sequence, .bool x282.done, .string (bs x282.reply)] := hr294
                        subst hq295
                        change cellsAt _ _ (o289 + j284 * 5) [.int .i64 x282.w.Address, .int .i64 x282.w.Instance, .int .i64 x282.sequence, .bool x282.done, .string (bs x282.reply)] at hc293
                        refine WOps.p (G.idx T.el32 rfl eA291 rfl ej285 hl287) rfl ?_
                        refine WOps.p (G.field T.fld40_3 rfl (show o289 + j284 * 5 + 4 = o289 + j284 * 5 + 4 from rfl)) rfl ?_
                        obtain ⟨l296, hc297, hF⟩ := bind_some hF
                        have e298 := upd_spec' hc297 ej285
                        obtain ⟨w299, G300, E301, hO302, S303⟩ := St.storeF (P := Try.prog) (T := 9) S280 hO279 T.size9_1 hj286 eA291 (⟨x282.w, x282.sequence, x282.done, x82.Reply⟩ : Seen) (v := .string (bs x82.Reply)) [.int .i64 x282.w.Address, .int .i64 x282.w.Instance, .int .i64 x282.sequence, .bool x282.done] [.string (bs x282.reply)] [] rfl rfl rfl
                        rw [← e298] at hO302
                        have hl304 : (l272).length = l296.length := by rw [e298, List.length_set]
                        try rw [hl304] at S303
                        try rw [hl304]
                        change St _ _ _ [G300, [(p39, .cells #[.int .i64 t178.2.config.Clients, .int .i64 t178.2.config.Entries, .int .i64 t178.2.config.Bytes, .int .i64 t178.2.config.Reserve, .map (some b189), .int .i64 t178.2.entries, .int .i64 t178.2.bytes] 89 (0, 0))], [(b96, .cells #[.bool x82.Other, .bool x82.Raw, .int .i64 x82.What, .int .i64 x82.Who, .int .i64 x82.Sequence, .int .i64 x82.Water, .int .i64 x82.Whose.Address, .int .i64 x82.Whose.Instance, .string (bs x82.Reply)] 36 (0, 0))], [(b17, .cells #[.int .i64 t12.Clients, .int .i64 t12.Entries, .int .i64 t12.Bytes, .int .i64 t12.Reserve] 26 (0, 0))], G190] at S303
                        refine WOps.u (E301 rfl rfl) ?_
                        refine WOps.nil ?_
                        have S305 := S303.front 4 rfl
                        change St _ _ _ [G190, G300, [(p39, .cells #[.int .i64 t178.2.config.Clients, .int .i64 t178.2.config.Entries, .int .i64 t178.2.config.Bytes, .int .i64 t178.2.config.Reserve, .map (some b189), .int .i64 t178.2.entries, .int .i64 t178.2.bytes] 89 (0, 0))], [(b96, .cells #[.bool x82.Other, .bool x82.Raw, .int .i64 x82.What, .int .i64 x82.Who, .int .i64 x82.Sequence, .int .i64 x82.Water, .int .i64 x82.Whose.Address, .int .i64 x82.Whose.Instance, .string (bs x82.Reply)] 36 (0, 0))], [(b17, .cells #[.int .i64 t12.Clients, .int .i64 t12.Entries, .int .i64 t12.Bytes, .int .i64 t12.Reserve] 26 (0, 0))]] at S305
                        have S306 := S305.front 4 rfl
                        change St _ _ _ [[(b17, .cells #[.int .i64 t12.Clients, .int .i64 t12.Entries, .int .i64 t12.Bytes, .int .i64 t12.Reserve] 26 (0, 0))], G190, G300, [(p39, .cells #[.int .i64 t178.2.config.Clients, .int .i64 t178.2.config.Entries, .int .i64 t178.2.config.Bytes, .int .i64 t178.2.config.Reserve, .map (some b189), .int .i64 t178.2.entries, .int .i64 t178.2.bytes] 89 (0, 0))], [(b96, .cells #[.bool x82.Other, .bool x82.Raw, .int .i64 x82.What, .int .i64 x82.Who, .int .i64 x82.Sequence, .int .i64 x82.Water, .int .i64 x82.Whose.Address, .int .i64 x82.Whose.Instance, .string (bs x82.Reply)] 36 (0, 0))]] at S306
                        have S307 := S306.front 3 rfl
                        change St _ _ _ [[(p39, .cells #[.int .i64 t178.2.config.Clients, .int .i64 t178.2.config.Entries, .int .i64 t178.2.config.Bytes, .int .i64 t178.2.config.Reserve, .map (some b189), .int .i64 t178.2.entries, .int .i64 t178.2.bytes] 89 (0, 0))], [(b17, .cells #[.int .i64 t12.Clients, .int .i64 t12.Entries, .int .i64 t12.Bytes, .int .i64 t12.Reserve] 26 (0, 0))], G190, G300, [(b96, .cells #[.bool x82.Other, .bool x82.Raw, .int .i64 x82.What, .int .i64 x82.Who, .int .i64 x82.Sequence, .int .i64 x82.Water, .int .i64 x82.Whose.Address, .int .i64 x82.Whose.Instance, .string (bs x82.Reply)] 36 (0, 0))]] at S307
                        have S308 := St.keep (As := [[(p39, .cells #[.int .i64 t178.2.config.Clients, .int .i64 t178.2.config.Entries, .int .i64 t178.2.config.Bytes, .int .i64 t178.2.config.Reserve, .map (some b189), .int .i64 t178.2.entries, .int .i64 t178.2.bytes] 89 (0, 0))], [(b17, .cells #[.int .i64 t12.Clients, .int .i64 t12.Entries, .int .i64 t12.Bytes, .int .i64 t12.Reserve] 26 (0, 0))], G190, G300]) S307
                        refine WEx.cutend _ ?_ ⟨k256, A52, c53, l296, G300, rfl, hF, (by omega), hO302, S308⟩
                        exact ⟨rfl, rfl, rfl, rfl, rfl, rfl, trivial⟩
                  ·
                    refine WCode.cond_f (kb (b := decide (t178.1 = 0)) rfl (decide_eq_false h203)) ?_
                    refine WCode.skip ?_
                    have S309 := S193.front 5 rfl
                    change St _ _ _ [G55, [(p39, .cells #[.int .i64 t178.2.config.Clients, .int .i64 t178.2.config.Entries, .int .i64 t178.2.config.Bytes, .int .i64 t178.2.config.Reserve, .map (some b189), .int .i64 t178.2.entries, .int .i64 t178.2.bytes] 89 (0, 0))], G190, [(b111, .cells #[.int .i64 t106.1.Address, .int .i64 t106.1.Instance] 34 (0, 0))], [(b96, .cells #[.bool x82.Other, .bool x82.Raw, .int .i64 x82.What, .int .i64 x82.Who, .int .i64 x82.Sequence, .int .i64 x82.Water, .int .i64 x82.Whose.Address, .int .i64 x82.Whose.Instance, .string (bs x82.Reply)] 36 (0, 0))], [(b17, .cells #[.int .i64 t12.Clients, .int .i64 t12.Entries, .int .i64 t12.Bytes, .int .i64 t12.Reserve] 26 (0, 0))]] at S309
                    have S310 := S309.front 2 rfl
                    change St _ _ _ [G190, G55, [(p39, .cells #[.int .i64 t178.2.config.Clients, .int .i64 t178.2.config.Entries, .int .i64 t178.2.config.Bytes, .int .i64 t178.2.config.Reserve, .map (some b189), .int .i64 t178.2.entries, .int .i64 t178.2.bytes] 89 (0, 0))], [(b111, .cells #[.int .i64 t106.1.Address, .int .i64 t106.1.Instance] 34 (0, 0))], [(b96, .cells #[.bool x82.Other, .bool x82.Raw, .int .i64 x82.What, .int .i64 x82.Who, .int .i64 x82.Sequence, .int .i64 x82.Water, .int .i64 x82.Whose.Address, .int .i64 x82.Whose.Instance, .string (bs x82.Reply)] 36 (0, 0))], [(b17, .cells #[.int .i64 t12.Clients, .int .i64 t12.Entries, .int .i64 t12.Bytes, .int .i64 t12.Reserve] 26 (0, 0))]] at S310
                    have S311 := S310.front 5 rfl
                    change St _ _ _ [[(b17, .cells #[.int .i64 t12.Clients, .int .i64 t12.Entries, .int .i64 t12.Bytes, .int .i64 t12.Reserve] 26 (0, 0))], G190, G55, [(p39, .cells #[.int .i64 t178.2.config.Clients, .int .i64 t178.2.config.Entries, .int .i64 t178.2.config.Bytes, .int .i64 t178.2.config.Reserve, .map (some b189), .int .i64 t178.2.entries, .int .i64 t178.2.bytes] 89 (0, 0))], [(b111, .cells #[.int .i64 t106.1.Address, .int .i64 t106.1.Instance] 34 (0, 0))], [(b96, .cells #[.bool x82.Other, .bool x82.Raw, .int .i64 x82.What, .int .i64 x82.Who, .int .i64 x82.Sequence, .int .i64 x82.Water, .int .i64 x82.Whose.Address, .int .i64 x82.Whose.Instance, .string (bs x82.Reply)] 36 (0, 0))]] at S311
                    have S312 := S311.front 3 rfl
                    change St _ _ _ [[(p39, .cells #[.int .i64 t178.2.config.Clients, .int .i64 t178.2.config.Entries, .int .i64 t178.2.config.Bytes, .int .i64 t178.2.config.Reserve, .map (some b189), .int .i64 t178.2.entries, .int .i64 t178.2.bytes] 89 (0, 0))], [(b17, .cells #[.int .i64 t12.Clients, .int .i64 t12.Entries, .int .i64 t12.Bytes, .int .i64 t12.Reserve] 26 (0, 0))], G190, G55, [(b111, .cells #[.int .i64 t106.1.Address, .int .i64 t106.1.Instance] 34 (0, 0))], [(b96, .cells #[.bool x82.Other, .bool x82.Raw, .int .i64 x82.What, .int .i64 x82.Who, .int .i64 x82.Sequence, .int .i64 x82.Water, .int .i64 x82.Whose.Address, .int .i64 x82.Whose.Instance, .string (bs x82.Reply)] 36 (0, 0))]] at S312
                    have S313 := St.keep (As := [[(p39, .cells #[.int .i64 t178.2.config.Clients, .int .i64 t178.2.config.Entries, .int .i64 t178.2.config.Bytes, .int .i64 t178.2.config.Reserve, .map (some b189), .int .i64 t178.2.entries, .int .i64 t178.2.bytes] 89 (0, 0))], [(b17, .cells #[.int .i64 t12.Clients, .int .i64 t12.Entries, .int .i64 t12.Bytes, .int .i64 t12.Reserve] 26 (0, 0))], G190, G55]) S312
                    refine WEx.cutend _ ?_ ⟨k172, A52, c53, l54, G55, rfl, hF, (by omega), hO56, S313⟩
                    exact ⟨rfl, rfl, rfl, rfl, rfl, rfl, trivial⟩
                ·
                  rintro _ w199 ⟨q201, A194, c195, l196, G197, rfl, hF, hq202, hO198, S200⟩
                  obtain _ | k314 := q201
                  · exact nomatch (show (none : Option Bool) = some r_ from hF)
                  rw [law_Once.j3] at hF
                  refine WCode.exit ?_
                  refine WEx.then_exit ?_
                  refine WEx.in_exit ?_
                  refine WEx.then_ ?_
                  refine WCode.region ?_
                  refine WOps.p (G.move rfl) rfl ?_
                  refine WOps.p (G.add rfl rfl (r := (w64 (x58 + 1))) rfl) rfl ?_
                  refine WOps.p (G.assign rfl) rfl ?_
                  refine WOps.nil ?_
                  have S315 := S200.front 2 rfl
                  change St _ _ _ [G190, [(p39, .cells #[.int .i64 t178.2.config.Clients, .int .i64 t178.2.config.Entries, .int .i64 t178.2.config.Bytes, .int .i64 t178.2.config.Reserve, .map (some b189), .int .i64 t178.2.entries, .int .i64 t178.2.bytes] 89 (0, 0))], [(b17, .cells #[.int .i64 t12.Clients, .int .i64 t12.Entries, .int .i64 t12.Bytes, .int .i64 t12.Reserve] 26 (0, 0))], G197] at S315
                  have S316 := S315.front 3 rfl
                  change St _ _ _ [G197, G190, [(p39, .cells #[.int .i64 t178.2.config.Clients, .int .i64 t178.2.config.Entries, .int .i64 t178.2.config.Bytes, .int .i64 t178.2.config.Reserve, .map (some b189), .int .i64 t178.2.entries, .int .i64 t178.2.bytes] 89 (0, 0))], [(b17, .cells #[.int .i64 t12.Clients, .int .i64 t12.Entries, .int .i64 t12.Bytes, .int .i64 t12.Reserve] 26 (0, 0))]] at S316
                  have S317 := S316.front 3 rfl
                  change St _ _ _ [[(b17, .cells #[.int .i64 t12.Clients, .int .i64 t12.Entries, .int .i64 t12.Bytes, .int .i64 t12.Reserve] 26 (0, 0))], G197, G190, [(p39, .cells #[.int .i64 t178.2.config.Clients, .int .i64 t178.2.config.Entries, .int .i64 t178.2.config.Bytes, .int .i64 t178.2.config.Reserve, .map (some b189), .int .i64 t178.2.entries, .int .i64 t178.2.bytes] 89 (0, 0))]] at S317
                  have S318 := S317.front 3 rfl
                  change St _ _ _ [[(p39, .cells #[.int .i64 t178.2.config.Clients, .int .i64 t178.2.config.Entries, .int .i64 t178.2.config.Bytes, .int .i64 t178.2.config.Reserve, .map (some b189), .int .i64 t178.2.entries, .int .i64 t178.2.bytes] 89 (0, 0))], [(b17, .cells #[.int .i64 t12.Clients, .int .i64 t12.Entries, .int .i64 t12.Bytes, .int .i64 t12.Reserve] 26 (0, 0))], G197, G190] at S318
                  refine WEx.again _ _ (by omega) ?_ ⟨A194, c195, l196, G197, x57, w64 (x58 + 1), t178.2.config.Clients, t178.2.config.Entries, t178.2.config.Bytes, t178.2.config.Reserve, b189, t178.2.clients, G190, t178.2.entries, t178.2.bytes, rfl, hF, hO198, hO191, S318⟩
                  exact ⟨rfl, rfl, rfl, rfl, rfl, rfl, trivial⟩
              ·
                refine WCode.cond_f (kb (b := b166) rfl (Bool.eq_false_iff.2 h173)) ?_
                refine WCode.skip ?_
                refine WEx.then_ ?_
                refine WCode.seq ?_
                refine WCode.region ?_
                refine WOps.p (G.move rfl) rfl ?_
                refine WOps.r (G.loada T.agg34_2 rfl (cs := [.int .i64 t106.1.Address, .int .i64 t106.1.Instance]) (cellsAt.of_blk (S168.blk 0 rfl) rfl)) rfl ?_
                obtain ⟨t319, hc320, hF⟩ := bind_some hF
                have S321 := S168.front 5 rfl
                change St _ _ _ [G65, [(b111, .cells #[.int .i64 t106.1.Address, .int .i64 t106.1.Instance] 34 (0, 0))], [(b96, .cells #[.bool x82.Other, .bool x82.Raw, .int .i64 x82.What, .int .i64 x82.Who, .int .i64 x82.Sequence, .int .i64 x82.Water, .int .i64 x82.Whose.Address, .int .i64 x82.Whose.Instance, .string (bs x82.Reply)] 36 (0, 0))], [(p39, .cells #[.int .i64 x59, .int .i64 x60, .int .i64 x61, .int .i64 x62, .map (some b63), .int .i64 x67, .int .i64 x68] 89 (0, 0))], [(b17, .cells #[.int .i64 t12.Clients, .int .i64 t12.Entries, .int .i64 t12.Bytes, .int .i64 t12.Reserve] 26 (0, 0))], G55] at S321
                have S322 := S321.front 3 rfl
                change St _ _ _ [[(p39, .cells #[.int .i64 x59, .int .i64 x60, .int .i64 x61, .int .i64 x62, .map (some b63), .int .i64 x67, .int .i64 x68] 89 (0, 0))], G65, [(b111, .cells #[.int .i64 t106.1.Address, .int .i64 t106.1.Instance] 34 (0, 0))], [(b96, .cells #[.bool x82.Other, .bool x82.Raw, .int .i64 x82.What, .int .i64 x82.Who, .int .i64 x82.Sequence, .int .i64 x82.Water, .int .i64 x82.Whose.Address, .int .i64 x82.Whose.Instance, .string (bs x82.Reply)] 36 (0, 0))], [(b17, .cells #[.int .i64 t12.Clients, .int .i64 t12.Entries, .int .i64 t12.Bytes, .int .i64 t12.Reserve] 26 (0, 0))], G55] at S322
                have hP323 : PtR 89 Cache.rp w167 (KS [[(p39, .cells #[.int .i64 x59, .int .i64 x60, .int .i64 x61, .int .i64 x62, .map (some b63), .int .i64 x67, .int .i64 x68] 89 (0, 0))], G65]) p39 (⟨(⟨x59, x60, x61, x62⟩ : CacheConfig), l64, x67, x68⟩ : Cache) := ⟨_, S322.blk 0 rfl, KS_at 0 rfl (by simp [keys]), ⟨b63, rfl, ((hO66.rd (fun b o hb => S322.grp 1 rfl hb)).mono (fun b hb => KS_at 1 rfl hb))⟩⟩
                refine WOps.call T.call16 (evs_cons rfl (evs_cons rfl evs_nil)) rfl ?_
                refine (ca_Water_calls k172 (⟨(⟨x59, x60, x61, x62⟩ : CacheConfig), l64, x67, x68⟩ : Cache) t106.1 hP323 (St.outN (Bs := []) (As := [[(p39, .cells #[.int .i64 x59, .int .i64 x60, .int .i64 x61, .int .i64 x62, .map (some b63), .int .i64 x67, .int .i64 x68] 89 (0, 0))], G65]) S322) hc320).mono ?_
                rintro _ w324 ⟨rfl, T325⟩
                have S326 := St.callN (As := []) S322 T325
                change St _ _ _ [[(p39, .cells #[.int .i64 x59, .int .i64 x60, .int .i64 x61, .int .i64 x62, .map (some b63), .int .i64 x67, .int .i64 x68] 89 (0, 0))], G65, [(b111, .cells #[.int .i64 t106.1.Address, .int .i64 t106.1.Instance] 34 (0, 0))], [(b96, .cells #[.bool x82.Other, .bool x82.Raw, .int .i64 x82.What, .int .i64 x82.Who, .int .i64 x82.Sequence, .int .i64 x82.Water, .int .i64 x82.Whose.Address, .int .i64 x82.Whose.Instance, .string (bs x82.Reply)] 36 (0, 0))], [(b17, .cells #[.int .i64 t12.Clients, .int .i64 t12.Entries, .int .i64 t12.Bytes, .int .i64 t12.Reserve] 26 (0, 0))], G55] at S326
                refine ⟨_, rfl, ?_⟩
                refine WOps.p (G.assign rfl) rfl ?_
                refine WOps.nil ?_
                refine WEx.then_ ?_
                refine WCode.seq ?_
                refine WCode.region ?_
                refine WOps.p (G.move rfl) rfl ?_
                refine WOps.r (G.loada T.agg34_2 rfl (cs := [.int .i64 t106.1.Address, .int .i64 t106.1.Instance]) (cellsAt.of_blk (S326.blk 2 rfl) rfl)) rfl ?_
                refine WOps.p (G.move rfl) rfl ?_
                refine WOps.p (G.move rfl) rfl ?_
                have hO327 : ObjO 89 Cache.rp p39 (⟨(⟨x59, x60, x61, x62⟩ : CacheConfig), l64, x67, x68⟩ : Cache) ([(p39, .cells #[.int .i64 x59, .int .i64 x60, .int .i64 x61, .int .i64 x62, .map (some b63), .int .i64 x67, .int .i64 x68] 89 (0, 0))] ++ (G65)) := ⟨_, _, ⟨b63, G65, rfl, hO66, rfl⟩, rfl⟩
                have S328 : St _ _ _ [[(p39, .cells #[.int .i64 x59, .int .i64 x60, .int .i64 x61, .int .i64 x62, .map (some b63), .int .i64 x67, .int .i64 x68] 89 (0, 0))] ++ (G65), [(b111, .cells #[.int .i64 t106.1.Address, .int .i64 t106.1.Instance] 34 (0, 0))], [(b96, .cells #[.bool x82.Other, .bool x82.Raw, .int .i64 x82.What, .int .i64 x82.Who, .int .i64 x82.Sequence, .int .i64 x82.Water, .int .i64 x82.Whose.Address, .int .i64 x82.Whose.Instance, .string (bs x82.Reply)] 36 (0, 0))], [(b17, .cells #[.int .i64 t12.Clients, .int .i64 t12.Entries, .int .i64 t12.Bytes, .int .i64 t12.Reserve] 26 (0, 0))], G55] := S326.objs (by simp)
                obtain ⟨t329, hc330, hF⟩ := bind_some hF
                refine WOps.call T.call17 (evs_cons rfl (evs_cons rfl (evs_cons rfl (evs_cons rfl evs_nil)))) rfl ?_
                refine (ca_Ask_calls k172 (⟨(⟨x59, x60, x61, x62⟩ : CacheConfig), l64, x67, x68⟩ : Cache) t106.1 t106.2.1 t106.2.2 hO327 hc330 (St.hpN (As := [[(p39, .cells #[.int .i64 x59, .int .i64 x60, .int .i64 x61, .int .i64 x62, .map (some b63), .int .i64 x67, .int .i64 x68] 89 (0, 0))] ++ (G65)]) S328)).mono ?_
                rintro _ w331 ⟨G334, rfl, hO335, T332⟩
                have S333 := St.callN (As := [[(p39, .cells #[.int .i64 x59, .int .i64 x60, .int .i64 x61, .int .i64 x62, .map (some b63), .int .i64 x67, .int .i64 x68] 89 (0, 0))] ++ (G65)]) S328 T332
                change St _ _ _ [G334, [(b111, .cells #[.int .i64 t106.1.Address, .int .i64 t106.1.Instance] 34 (0, 0))], [(b96, .cells #[.bool x82.Other, .bool x82.Raw, .int .i64 x82.What, .int .i64 x82.Who, .int .i64 x82.Sequence, .int .i64 x82.Water, .int .i64 x82.Whose.Address, .int .i64 x82.Whose.Instance, .string (bs x82.Reply)] 36 (0, 0))], [(b17, .cells #[.int .i64 t12.Clients, .int .i64 t12.Entries, .int .i64 t12.Bytes, .int .i64 t12.Reserve] 26 (0, 0))], G55] at S333
                refine ⟨_, rfl, ?_⟩
                obtain ⟨cs336, G337, ho338, hg339⟩ := hO335
                obtain ⟨b340, G341, rfl, hO342, hq343⟩ := ho338
                have S344 : St _ _ _ [[(p39, .cells #[.int .i64 t329.2.2.config.Clients, .int .i64 t329.2.2.config.Entries, .int .i64 t329.2.2.config.Bytes, .int .i64 t329.2.2.config.Reserve, .map (some b340), .int .i64 t329.2.2.entries, .int .i64 t329.2.2.bytes] 89 (0, 0))], G341, [(b111, .cells #[.int .i64 t106.1.Address, .int .i64 t106.1.Instance] 34 (0, 0))], [(b96, .cells #[.bool x82.Other, .bool x82.Raw, .int .i64 x82.What, .int .i64 x82.Who, .int .i64 x82.Sequence, .int .i64 x82.Water, .int .i64 x82.Whose.Address, .int .i64 x82.Whose.Instance, .string (bs x82.Reply)] 36 (0, 0))], [(b17, .cells #[.int .i64 t12.Clients, .int .i64 t12.Entries, .int .i64 t12.Bytes, .int .i64 t12.Reserve] 26 (0, 0))], G55] := S333.objs (by rw [hg339, hq343]; simp)
                refine WOps.p (G.move rfl) rfl ?_
                refine WOps.p (G.extract rfl rfl) rfl ?_
                refine WOps.p (G.extract rfl rfl) rfl ?_
                refine WOps.p (G.assign rfl) rfl ?_
                refine WOps.p (G.assign rfl) rfl ?_
                refine WOps.nil ?_
                refine WEx.then_ ?_
                refine WCode.forget (l' := [(1, .slice A1 a1.length c1), (6, .pointer (some ⟨b17, 0, none⟩)), (7, .pointer (some ⟨p39, 0, none⟩)), (9, .slice A52 l54.length c53), (10, .int .i64 x57), (11, .int .i64 x58), (13, .pointer (some ⟨b111, 0, none⟩)), (14, .int .i64 t106.2.1), (15, .int .i64 t106.2.2), (16, .int .i64 x120), (19, .int .i64 t319), (20, .int .i64 t329.1), (21, .string (bs t329.2.1))]) ⟨rfl, rfl, rfl, rfl, rfl, rfl, rfl, rfl, rfl, rfl, rfl, rfl, rfl, trivial⟩ ?_
                refine WCode.seq ?_
                refine WCode.region ?_
                refine WOps.p (G.move rfl) rfl ?_
                refine WOps.r (G.loada T.agg34_2 rfl (cs := [.int .i64 t106.1.Address, .int .i64 t106.1.Instance]) (cellsAt.of_blk (S344.blk 2 rfl) rfl)) rfl ?_
                obtain ⟨t345, hc346, hF⟩ := bind_some hF
                have hP347 : PtR 89 Cache.rp w331 (KS [[(p39, .cells #[.int .i64 t329.2.2.config.Clients, .int .i64 t329.2.2.config.Entries, .int .i64 t329.2.2.config.Bytes, .int .i64 t329.2.2.config.Reserve, .map (some b340), .int .i64 t329.2.2.entries, .int .i64 t329.2.2.bytes] 89 (0, 0))], G341]) p39 t329.2.2 := ⟨_, S344.blk 0 rfl, KS_at 0 rfl (by simp [keys]), ⟨b340, rfl, ((hO342.rd (fun b o hb => S344.grp 1 rfl hb)).mono (fun b hb => KS_at 1 rfl hb))⟩⟩
                refine WOps.call T.call16 (evs_cons rfl (evs_cons rfl evs_nil)) rfl ?_
                refine (ca_Water_calls k172 t329.2.2 t106.1 hP347 (St.outN (Bs := []) (As := [[(p39, .cells #[.int .i64 t329.2.2.config.Clients, .int .i64 t329.2.2.config.Entries, .int .i64 t329.2.2.config.Bytes, .int .i64 t329.2.2.config.Reserve, .map (some b340), .int .i64 t329.2.2.entries, .int .i64 t329.2.2.bytes] 89 (0, 0))], G341]) S344) hc346).mono ?_
                rintro _ w348 ⟨rfl, T349⟩
                have S350 := St.callN (As := []) S344 T349
                change St _ _ _ [[(p39, .cells #[.int .i64 t329.2.2.config.Clients, .int .i64 t329.2.2.config.Entries, .int .i64 t329.2.2.config.Bytes, .int .i64 t329.2.2.config.Reserve, .map (some b340), .int .i64 t329.2.2.entries, .int .i64 t329.2.2.bytes] 89 (0, 0))], G341, [(b111, .cells #[.int .i64 t106.1.Address, .int .i64 t106.1.Instance] 34 (0, 0))], [(b96, .cells #[.bool x82.Other, .bool x82.Raw, .int .i64 x82.What, .int .i64 x82.Who, .int .i64 x82.Sequence, .int .i64 x82.Water, .int .i64 x82.Whose.Address, .int .i64 x82.Whose.Instance, .string (bs x82.Reply)] 36 (0, 0))], [(b17, .cells #[.int .i64 t12.Clients, .int .i64 t12.Entries, .int .i64 t12.Bytes, .int .i64 t12.Reserve] 26 (0, 0))], G55] at S350
                refine ⟨_, rfl, ?_⟩
                refine WOps.p (G.assign rfl) rfl ?_
                refine WOps.nil ?_
                refine WEx.then_ ?_
                refine WCode.cutseq (fun l_ w_ => ∃ q364 : Nat, ∃ x351 : Int, ∃ b352 : Bool, ∃ x353 : Int, ∃ b354 : Bool, ∃ x355 : Int, ∃ b356 : Bool, ∃ x357 : Int, ∃ x358 : Int, ∃ x359 : Int, ∃ b360 : Bool, ∃ b361 : Bool, l_ = [(1, .slice A1 a1.length c1), (6, .pointer (some ⟨b17, 0, none⟩)), (7, .pointer (some ⟨p39, 0, none⟩)), (9, .slice A52 l54.length c53), (11, .int .i64 x58), (13, .pointer (some ⟨b111, 0, none⟩)), (14, .int .i64 t106.2.1), (15, .int .i64 t106.2.2), (16, .int .i64 x120), (20, .int .i64 t329.1), (21, .string (bs t329.2.1)), (22, .int .i64 t345), (155, .pointer (some ⟨p39, 0, none⟩)), (156, .int .i64 x351), (157, .int .i64 x57), (158, .bool b352), (161, .pointer (some ⟨p39, 0, none⟩)), (162, .int .i64 x353), (163, .pointer (some ⟨b17, 0, none⟩)), (164, .int .i64 t12.Clients), (165, .bool b354), (168, .pointer (some ⟨p39, 0, none⟩)), (169, .int .i64 x355), (170, .pointer (some ⟨b17, 2, none⟩)), (171, .int .i64 t12.Bytes), (172, .bool b356), (175, .pointer (some ⟨p39, 0, none⟩)), (176, .int .i64 x357), (177, .pointer (some ⟨p39, 0, none⟩)), (178, .int .i64 x358), (179, .pointer (some ⟨b17, 1, none⟩)), (180, .int .i64 t12.Entries), (181, .int .i64 x359), (182, .bool b360), (185, .int .i64 t329.1), (186, .bool (!(decide (t329.1 = 3)))), (187, .bool (!(decide (t329.1 = 3)))), (190, .bool b361)] ∧ law_Once.j5 q364 a1 t12 l54 x57 x58 t106 x120 t329 t345 x351 b352 x353 b354 x355 b356 x357 x358 x359 b360 b361 = some r_ ∧ q364 ≤ k172 ∧ St w (KS []) w_ [[(p39, .cells #[.int .i64 t329.2.2.config.Clients, .int .i64 t329.2.2.config.Entries, .int .i64 t329.2.2.config.Bytes, .int .i64 t329.2.2.config.Reserve, .map (some b340), .int .i64 t329.2.2.entries, .int .i64 t329.2.2.bytes] 89 (0, 0))], [(b111, .cells #[.int .i64 t106.1.Address, .int .i64 t106.1.Instance] 34 (0, 0))], [(b17, .cells #[.int .i64 t12.Clients, .int .i64 t12.Entries, .int .i64 t12.Bytes, .int .i64 t12.Reserve] 26 (0, 0))], G55, G341]) ?_ ?_
                ·
                  refine WCode.seq ?_
                  refine WCode.drawH (.one 0 0 (.one 1 0 (.one 2 0 (.one 3 0 (.one 4 0 (.one 6 0 (.one 5 2 (.one 7 0 (.one 8 0 (.one 9 0 (.one 10 0 (.one 12 0 (.one 13 1 (.one 11 2 (.one 14 0 (.one 15 0 (.one 16 0 (.one 17 0 (.one 19 0 (.one 20 1 (.one 18 2 (.one 21 0 (.one 22 0 (.one 23 0 (.one 24 0 (.one 26 0 (.one 28 0 (.one 29 1 (.one 25 2 (.one 27 2 (.one 30 0 (.one 31 0 (.one 32 0 (.one 33 0 (.one 34 0 (.one 35 0 (.one 36 0 (.one 37 0 (.one 38 0 (.one 39 0 (.one 40 0 .nil))))))))))))))))))))))))))))))))))))))))) (fun W_ => cellsAt W_ b17 0 [.int .i64 t12.Clients, .int .i64 t12.Entries, .int .i64 t12.Bytes, .int .i64 t12.Reserve] ∧ True) T.mixed (by kernel_rfl) (by intro _ _ d _ _ h; cases d <;> exact h) rfl rfl (by kernel_rfl) ?_ ?_
                  all_goals have S366 := S350.drew
                  all_goals generalize w348.drew = w367 at *
                  · exact ⟨cellsAt.of_blk (S366.blk 4 rfl) rfl, trivial⟩
                  refine WH.p rfl wants (G.move rfl) rfl ?_
                  refine WH.p rfl wants (G.move rfl) rfl ?_
                  refine WH.p rfl wants (G.lss rfl rfl rfl) rfl ?_
                  refine WH.p rfl wants (G.move rfl) rfl ?_
                  rcases ite_some hF with ⟨h368, hF⟩ | ⟨h368, hF⟩
                  ·
                    refine WH.off rfl rfl (kbl (b := decide (t345 < t319)) rfl (decide_eq_true h368)) rfl rfl rfl ?_
                    refine WH.off rfl rfl (kbl (b := decide (t345 < t319)) rfl (decide_eq_true h368)) rfl rfl rfl ?_
                    refine WH.off2 rfl rfl (kbl (b := decide (t345 < t319)) rfl (decide_eq_true h368)) rfl rfl ⟨cellsAt.of_blk (S366.blk 4 rfl) rfl, trivial⟩ ?_
                    refine WH.off rfl rfl (kbl (b := decide (t345 < t319)) rfl (decide_eq_true h368)) rfl rfl rfl ?_
                    refine WH.p rfl wants (G.pick_t (kb (b := decide (t345 < t319)) rfl (decide_eq_true h368)) rfl) rfl ?_
                    refine WH.p rfl wants (G.move rfl) rfl ?_
                    refine WH.off rfl rfl rfl rfl rfl rfl ?_
                    refine WH.off rfl rfl rfl rfl rfl rfl ?_
                    refine WH.off rfl rfl rfl rfl rfl rfl ?_
                    refine WH.off2 rfl rfl rfl rfl rfl ⟨cellsAt.of_blk (S366.blk 4 rfl) rfl, trivial⟩ ?_
                    refine WH.off rfl rfl rfl rfl rfl rfl ?_
                    refine WH.p rfl wants (G.pick_t rfl rfl) rfl ?_
                    refine WH.p rfl wants (G.move rfl) rfl ?_
                    refine WH.off rfl rfl rfl rfl rfl rfl ?_
                    refine WH.off rfl rfl rfl rfl rfl rfl ?_
                    refine WH.off rfl rfl rfl rfl rfl rfl ?_
                    refine WH.off2 rfl rfl rfl rfl rfl ⟨cellsAt.of_blk (S366.blk 4 rfl) rfl, trivial⟩ ?_
                    refine WH.off rfl rfl rfl rfl rfl rfl ?_
                    refine WH.p rfl wants (G.pick_t rfl rfl) rfl ?_
                    refine WH.p rfl wants (G.move rfl) rfl ?_
                    refine WH.off rfl rfl rfl rfl rfl rfl ?_
                    refine WH.off rfl rfl rfl rfl rfl rfl ?_
                    refine WH.off rfl rfl rfl rfl rfl rfl ?_
                    refine WH.off rfl rfl rfl rfl rfl rfl ?_
                    refine WH.off2 rfl rfl rfl rfl rfl ⟨cellsAt.of_blk (S366.blk 4 rfl) rfl, trivial⟩ ?_
                    refine WH.off2 rfl rfl rfl rfl rfl ⟨cellsAt.of_blk (S366.blk 4 rfl) rfl, trivial⟩ ?_
                    refine WH.off rfl rfl rfl rfl rfl rfl ?_
                    refine WH.off rfl rfl rfl rfl rfl rfl ?_
                    refine WH.p rfl wants (G.pick_t rfl rfl) rfl ?_
                    refine WH.p rfl wants (G.move rfl) rfl ?_
                    refine WH.off rfl rfl rfl rfl rfl rfl ?_
                    refine WH.off rfl rfl rfl rfl rfl rfl ?_
                    refine WH.off rfl rfl rfl rfl rfl rfl ?_
                    refine WH.off rfl rfl rfl rfl rfl rfl ?_
                    refine WH.off rfl rfl rfl rfl rfl rfl ?_
                    refine WH.off rfl rfl rfl rfl rfl rfl ?_
                    refine WH.p rfl wants (G.pick_t rfl rfl) rfl ?_
                    refine WH.nil ?_
                    refine WEx.then_ ?_
                    refine WCode.forget (l' := [(1, .slice A1 a1.length c1), (6, .pointer (some ⟨b17, 0, none⟩)), (7, .pointer (some ⟨p39, 0, none⟩)), (9, .slice A52 l54.length c53), (11, .int .i64 x58), (13, .pointer (some ⟨b111, 0, none⟩)), (14, .int .i64 t106.2.1), (15, .int .i64 t106.2.2), (16, .int .i64 x120), (20, .int .i64 t329.1), (21, .string (bs t329.2.1)), (22, .int .i64 t345), (155, undef), (156, undef), (157, undef), (158, undef), (161, undef), (162, undef), (163, undef), (164, undef), (165, undef), (168, undef), (169, undef), (170, undef), (171, undef), (172, undef), (175, undef), (176, undef), (177, undef), (178, undef), (179, undef), (180, undef), (181, undef), (182, undef), (185, undef), (186, undef), (187, undef), (188, undef), (189, undef), (190, undef), (191, .bool true)]) ⟨rfl, rfl, rfl, rfl, rfl, rfl, rfl, rfl, rfl, rfl, rfl, rfl, rfl, rfl, rfl, rfl, rfl, rfl, rfl, rfl, rfl, rfl, rfl, rfl, rfl, rfl, rfl, rfl, rfl, rfl, rfl, rfl, rfl, rfl, rfl, rfl, rfl, rfl, rfl, rfl, rfl, trivial⟩ ?_
                    refine WCode.cond_t rfl ?_
                    refine WCode.seq ?_
                    refine WCode.region ?_
                    refine WOps.p (G.assign rfl) rfl ?_
                    refine WOps.nil ?_
                    refine WEx.then_ ?_
                    refine WCode.forget (l' := [(4, .bool false)]) ⟨rfl, trivial⟩ ?_
                    refine WCode.ret ?_
                    refine WEx.then_ret ?_
                    refine WEx.in_ret ?_
                    refine WEx.then_ret ?_
                    refine WEx.then_ret ?_
                    refine WEx.in_ret ?_
                    refine WEx.then_ret ?_
                    obtain rfl := some_eq hF
                    refine WEx.ret1 rfl rfl ?_
                    exact ⟨rfl, St.keep (As := []) S366⟩
                  ·
                    refine WH.p rfl (wants_on rfl (kbl (b := decide (t345 < t319)) rfl (decide_eq_false h368))) (G.move rfl) rfl ?_
                    refine WH.p rfl (wants_on rfl (kbl (b := decide (t345 < t319)) rfl (decide_eq_false h368))) (G.move rfl) rfl ?_
                    obtain ⟨t369, hc370, hF⟩ := bind_some hF
                    have hP371 : PtR 89 Cache.rp w367 (KS [[(p39, .cells #[.int .i64 t329.2.2.config.Clients, .int .i64 t329.2.2.config.Entries, .int .i64 t329.2.2.config.Bytes, .int .i64 t329.2.2.config.Reserve, .map (some b340), .int .i64 t329.2.2.entries, .int .i64 t329.2.2.bytes] 89 (0, 0))], G341]) p39 t329.2.2 := ⟨_, S366.blk 0 rfl, KS_at 0 rfl (by simp [keys]), ⟨b340, rfl, ((hO342.rd (fun b o hb => S366.grp 1 rfl hb)).mono (fun b hb => KS_at 1 rfl hb))⟩⟩
                    refine WH.call rfl (wants_on rfl (kbl (b := decide (t345 < t319)) rfl (decide_eq_false h368))) T.call18 (evs_cons rfl evs_nil) rfl ?_
                    refine (ca_Clients_calls k172 t329.2.2 hP371 (St.outN (Bs := []) (As := [[(p39, .cells #[.int .i64 t329.2.2.config.Clients, .int .i64 t329.2.2.config.Entries, .int .i64 t329.2.2.config.Bytes, .int .i64 t329.2.2.config.Reserve, .map (some b340), .int .i64 t329.2.2.entries, .int .i64 t329.2.2.bytes] 89 (0, 0))], G341]) S366) hc370).mono ?_
                    rintro _ w372 ⟨rfl, T373⟩
                    have S374 := St.callN (As := []) S366 T373
                    change St _ _ _ [[(p39, .cells #[.int .i64 t329.2.2.config.Clients, .int .i64 t329.2.2.config.Entries, .int .i64 t329.2.2.config.Bytes, .int .i64 t329.2.2.config.Reserve, .map (some b340), .int .i64 t329.2.2.entries, .int .i64 t329.2.2.bytes] 89 (0, 0))], G341, [(b111, .cells #[.int .i64 t106.1.Address, .int .i64 t106.1.Instance] 34 (0, 0))], [(b96, .cells #[.bool x82.Other, .bool x82.Raw, .int .i64 x82.What, .int .i64 x82.Who, .int .i64 x82.Sequence, .int .i64 x82.Water, .int .i64 x82.Whose.Address, .int .i64 x82.Whose.Instance, .string (bs x82.Reply)] 36 (0, 0))], [(b17, .cells #[.int .i64 t12.Clients, .int .i64 t12.Entries, .int .i64 t12.Bytes, .int .i64 t12.Reserve] 26 (0, 0))], G55] at S374
                    refine ⟨_, rfl, ?_⟩
                    refine ⟨⟨cellsAt.of_blk (S374.blk 4 rfl) rfl, trivial⟩, ?_⟩
                    refine WH.p rfl (wants_on rfl (kbl (b := decide (t345 < t319)) rfl (decide_eq_false h368))) (G.lss rfl rfl rfl) rfl ?_
                    refine WH.p rfl wants (G.pick_f (kb (b := decide (t345 < t319)) rfl (decide_eq_false h368)) rfl) rfl ?_
                    refine WH.p rfl wants (G.move rfl) rfl ?_
                    rcases ite_some hF with ⟨h375, hF⟩ | ⟨h375, hF⟩
                    ·
                      refine WH.off rfl rfl (kbl (b := decide (t369 < x57)) rfl (decide_eq_true h375)) rfl rfl rfl ?_
                      refine WH.off rfl rfl (kbl (b := decide (t369 < x57)) rfl (decide_eq_true h375)) rfl rfl rfl ?_
                      refine WH.off rfl rfl (kbl (b := decide (t369 < x57)) rfl (decide_eq_true h375)) rfl rfl rfl ?_
                      refine WH.off2 rfl rfl (kbl (b := decide (t369 < x57)) rfl (decide_eq_true h375)) rfl rfl ⟨cellsAt.of_blk (S374.blk 4 rfl) rfl, trivial⟩ ?_
                      refine WH.off rfl rfl (kbl (b := decide (t369 < x57)) rfl (decide_eq_true h375)) rfl rfl rfl ?_
                      refine WH.p rfl wants (G.pick_t (kb (b := decide (t369 < x57)) rfl (decide_eq_true h375)) rfl) rfl ?_
                      refine WH.p rfl wants (G.move rfl) rfl ?_
                      refine WH.off rfl rfl rfl rfl rfl rfl ?_
                      refine WH.off rfl rfl rfl rfl rfl rfl ?_
                      refine WH.off rfl rfl rfl rfl rfl rfl ?_
                      refine WH.off2 rfl rfl rfl rfl rfl ⟨cellsAt.of_blk (S374.blk 4 rfl) rfl, trivial⟩ ?_
                      refine WH.off rfl rfl rfl rfl rfl rfl ?_
                      refine WH.p rfl wants (G.pick_t rfl rfl) rfl ?_
                      refine WH.p rfl wants (G.move rfl) rfl ?_
                      refine WH.off rfl rfl rfl rfl rfl rfl ?_
                      refine WH.off rfl rfl rfl rfl rfl rfl ?_
                      refine WH.off rfl rfl rfl rfl rfl rfl ?_
                      refine WH.off rfl rfl rfl rfl rfl rfl ?_
                      refine WH.off2 rfl rfl rfl rfl rfl ⟨cellsAt.of_blk (S374.blk 4 rfl) rfl, trivial⟩ ?_
                      refine WH.off2 rfl rfl rfl rfl rfl ⟨cellsAt.of_blk (S374.blk 4 rfl) rfl, trivial⟩ ?_
                      refine WH.off rfl rfl rfl rfl rfl rfl ?_
                      refine WH.off rfl rfl rfl rfl rfl rfl ?_
                      refine WH.p rfl wants (G.pick_t rfl rfl) rfl ?_
                      refine WH.p rfl wants (G.move rfl) rfl ?_
                      refine WH.off rfl rfl rfl rfl rfl rfl ?_
                      refine WH.off rfl rfl rfl rfl rfl rfl ?_
                      refine WH.off rfl rfl rfl rfl rfl rfl ?_
                      refine WH.off rfl rfl rfl rfl rfl rfl ?_
                      refine WH.off rfl rfl rfl rfl rfl rfl ?_
                      refine WH.off rfl rfl rfl rfl rfl rfl ?_
                      refine WH.p rfl wants (G.pick_t rfl rfl) rfl ?_
                      refine WH.nil ?_
                      refine WEx.then_ ?_
                      refine WCode.forget (l' := [(1, .slice A1 a1.length c1), (6, .pointer (some ⟨b17, 0, none⟩)), (7, .pointer (some ⟨p39, 0, none⟩)), (9, .slice A52 l54.length c53), (11, .int .i64 x58), (13, .pointer (some ⟨b111, 0, none⟩)), (14, .int .i64 t106.2.1), (15, .int .i64 t106.2.2), (16, .int .i64 x120), (20, .int .i64 t329.1), (21, .string (bs t329.2.1)), (22, .int .i64 t345), (155, .pointer (some ⟨p39, 0, none⟩)), (156, .int .i64 t369), (157, .int .i64 x57), (158, .bool (decide (t369 < x57))), (161, undef), (162, undef), (163, undef), (164, undef), (165, undef), (168, undef), (169, undef), (170, undef), (171, undef), (172, undef), (175, undef), (176, undef), (177, undef), (178, undef), (179, undef), (180, undef), (181, undef), (182, undef), (185, undef), (186, undef), (187, undef), (188, undef), (189, undef), (190, undef), (191, .bool true)]) ⟨rfl, rfl, rfl, rfl, rfl, rfl, rfl, rfl, rfl, rfl, rfl, rfl, rfl, rfl, rfl, rfl, rfl, rfl, rfl, rfl, rfl, rfl, rfl, rfl, rfl, rfl, rfl, rfl, rfl, rfl, rfl, rfl, rfl, rfl, rfl, rfl, rfl, rfl, rfl, rfl, rfl, trivial⟩ ?_
                      refine WCode.cond_t rfl ?_
                      refine WCode.seq ?_
                      refine WCode.region ?_
                      refine WOps.p (G.assign rfl) rfl ?_
                      refine WOps.nil ?_
                      refine WEx.then_ ?_
                      refine WCode.forget (l' := [(4, .bool false)]) ⟨rfl, trivial⟩ ?_
                      refine WCode.ret ?_
                      refine WEx.then_ret ?_
                      refine WEx.in_ret ?_
                      refine WEx.then_ret ?_
                      refine WEx.then_ret ?_
                      refine WEx.in_ret ?_
                      refine WEx.then_ret ?_
                      obtain rfl := some_eq hF
                      refine WEx.ret1 rfl rfl ?_
                      exact ⟨rfl, St.keep (As := []) S374⟩
                    ·
                      refine WH.p rfl (wants_on rfl (kbl (b := decide (t369 < x57)) rfl (decide_eq_false h375))) (G.move rfl) rfl ?_
                      refine WH.p rfl (wants_on rfl (kbl (b := decide (t369 < x57)) rfl (decide_eq_false h375))) (G.field T.fld26_0 rfl (show 0 + 0 = 0 from rfl)) rfl ?_
                      refine WH.r rfl (wants_on rfl (kbl (b := decide (t369 < x57)) rfl (decide_eq_false h375))) (fun _ h_ => G.load1 T.one3 rfl (cellsAt.at h_.1 0 rfl)) rfl ?_
                      obtain ⟨t376, hc377, hF⟩ := bind_some hF
                      have hP378 : PtR 89 Cache.rp w372 (KS [[(p39, .cells #[.int .i64 t329.2.2.config.Clients, .int .i64 t329.2.2.config.Entries, .int .i64 t329.2.2.config.Bytes, .int .i64 t329.2.2.config.Reserve, .map (some b340), .int .i64 t329.2.2.entries, .int .i64 t329.2.2.bytes] 89 (0, 0))], G341]) p39 t329.2.2 := ⟨_, S374.blk 0 rfl, KS_at 0 rfl (by simp [keys]), ⟨b340, rfl, ((hO342.rd (fun b o hb => S374.grp 1 rfl hb)).mono (fun b hb => KS_at 1 rfl hb))⟩⟩
                      refine WH.call rfl (wants_on rfl (kbl (b := decide (t369 < x57)) rfl (decide_eq_false h375))) T.call18 (evs_cons rfl evs_nil) rfl ?_
                      refine (ca_Clients_calls k172 t329.2.2 hP378 (St.outN (Bs := []) (As := [[(p39, .cells #[.int .i64 t329.2.2.config.Clients, .int .i64 t329.2.2.config.Entries, .int .i64 t329.2.2.config.Bytes, .int .i64 t329.2.2.config.Reserve, .map (some b340), .int .i64 t329.2.2.entries, .int .i64 t329.2.2.bytes] 89 (0, 0))], G341]) S374) hc377).mono ?_
                      rintro _ w379 ⟨rfl, T380⟩
                      have S381 := St.callN (As := []) S374 T380
                      change St _ _ _ [[(p39, .cells #[.int .i64 t329.2.2.config.Clients, .int .i64 t329.2.2.config.Entries, .int .i64 t329.2.2.config.Bytes, .int .i64 t329.2.2.config.Reserve, .map (some b340), .int .i64 t329.2.2.entries, .int .i64 t329.2.2.bytes] 89 (0, 0))], G341, [(b111, .cells #[.int .i64 t106.1.Address, .int .i64 t106.1.Instance] 34 (0, 0))], [(b96, .cells #[.bool x82.Other, .bool x82.Raw, .int .i64 x82.What, .int .i64 x82.Who, .int .i64 x82.Sequence, .int .i64 x82.Water, .int .i64 x82.Whose.Address, .int .i64 x82.Whose.Instance, .string (bs x82.Reply)] 36 (0, 0))], [(b17, .cells #[.int .i64 t12.Clients, .int .i64 t12.Entries, .int .i64 t12.Bytes, .int .i64 t12.Reserve] 26 (0, 0))], G55] at S381
                      refine ⟨_, rfl, ?_⟩
                      refine ⟨⟨cellsAt.of_blk (S381.blk 4 rfl) rfl, trivial⟩, ?_⟩
                      refine WH.p rfl (wants_on rfl (kbl (b := decide (t369 < x57)) rfl (decide_eq_false h375))) (G.gtr rfl rfl rfl) rfl ?_
                      refine WH.p rfl wants (G.pick_f (kb (b := decide (t369 < x57)) rfl (decide_eq_false h375)) rfl) rfl ?_
                      refine WH.p rfl wants (G.move rfl) rfl ?_
                      rcases ite_some hF with ⟨h382, hF⟩ | ⟨h382, hF⟩
                      ·
                        refine WH.off rfl rfl (kbl (b := decide (t12.Clients < t376)) rfl (decide_eq_true h382)) rfl rfl rfl ?_
                        refine WH.off rfl rfl (kbl (b := decide (t12.Clients < t376)) rfl (decide_eq_true h382)) rfl rfl rfl ?_
                        refine WH.off rfl rfl (kbl (b := decide (t12.Clients < t376)) rfl (decide_eq_true h382)) rfl rfl rfl ?_
                        refine WH.off2 rfl rfl (kbl (b := decide (t12.Clients < t376)) rfl (decide_eq_true h382)) rfl rfl ⟨cellsAt.of_blk (S381.blk 4 rfl) rfl, trivial⟩ ?_
                        refine WH.off rfl rfl (kbl (b := decide (t12.Clients < t376)) rfl (decide_eq_true h382)) rfl rfl rfl ?_
                        refine WH.p rfl wants (G.pick_t (kb (b := decide (t12.Clients < t376)) rfl (decide_eq_true h382)) rfl) rfl ?_
                        refine WH.p rfl wants (G.move rfl) rfl ?_
                        refine WH.off rfl rfl rfl rfl rfl rfl ?_
                        refine WH.off rfl rfl rfl rfl rfl rfl ?_
                        refine WH.off rfl rfl rfl rfl rfl rfl ?_
                        refine WH.off rfl rfl rfl rfl rfl rfl ?_
                        refine WH.off2 rfl rfl rfl rfl rfl ⟨cellsAt.of_blk (S381.blk 4 rfl) rfl, trivial⟩ ?_
                        refine WH.off2 rfl rfl rfl rfl rfl ⟨cellsAt.of_blk (S381.blk 4 rfl) rfl, trivial⟩ ?_
                        refine WH.off rfl rfl rfl rfl rfl rfl ?_
                        refine WH.off rfl rfl rfl rfl rfl rfl ?_
                        refine WH.p rfl wants (G.pick_t rfl rfl) rfl ?_
                        refine WH.p rfl wants (G.move rfl) rfl ?_
                        refine WH.off rfl rfl rfl rfl rfl rfl ?_
                        refine WH.off rfl rfl rfl rfl rfl rfl ?_
                        refine WH.off rfl rfl rfl rfl rfl rfl ?_
                        refine WH.off rfl rfl rfl rfl rfl rfl ?_
                        refine WH.off rfl rfl rfl rfl rfl rfl ?_
                        refine WH.off rfl rfl rfl rfl rfl rfl ?_
                        refine WH.p rfl wants (G.pick_t rfl rfl) rfl ?_
                        refine WH.nil ?_
                        refine WEx.then_ ?_
                        refine WCode.forget (l' := [(1, .slice A1 a1.length c1), (6, .pointer (some ⟨b17, 0, none⟩)), (7, .pointer (some ⟨p39, 0, none⟩)), (9, .slice A52 l54.length c53), (11, .int .i64 x58), (13, .pointer (some ⟨b111, 0, none⟩)), (14, .int .i64 t106.2.1), (15, .int .i64 t106.2.2), (16, .int .i64 x120), (20, .int .i64 t329.1), (21, .string (bs t329.2.1)), (22, .int .i64 t345), (155, .pointer (some ⟨p39, 0, none⟩)), (156, .int .i64 t369), (157, .int .i64 x57), (158, .bool (decide (t369 < x57))), (161, .pointer (some ⟨p39, 0, none⟩)), (162, .int .i64 t376), (163, .pointer (some ⟨b17, 0, none⟩)), (164, .int .i64 t12.Clients), (165, .bool (decide (t12.Clients < t376))), (168, undef), (169, undef), (170, undef), (171, undef), (172, undef), (175, undef), (176, undef), (177, undef), (178, undef), (179, undef), (180, undef), (181, undef), (182, undef), (185, undef), (186, undef), (187, undef), (188, undef), (189, undef), (190, undef), (191, .bool true)]) ⟨rfl, rfl, rfl, rfl, rfl, rfl, rfl, rfl, rfl, rfl, rfl, rfl, rfl, rfl, rfl, rfl, rfl, rfl, rfl, rfl, rfl, rfl, rfl, rfl, rfl, rfl, rfl, rfl, rfl, rfl, rfl, rfl, rfl, rfl, rfl, rfl, rfl, rfl, rfl, rfl, rfl, trivial⟩ ?_
                        refine WCode.cond_t rfl ?_
                        refine WCode.seq ?_
                        refine WCode.region ?_
                        refine WOps.p (G.assign rfl) rfl ?_
                        refine WOps.nil ?_
                        refine WEx.then_ ?_
                        refine WCode.forget (l' := [(4, .bool false)]) ⟨rfl, trivial⟩ ?_
                        refine WCode.ret ?_
                        refine WEx.then_ret ?_
                        refine WEx.in_ret ?_
                        refine WEx.then_ret ?_
                        refine WEx.then_ret ?_
                        refine WEx.in_ret ?_
                        refine WEx.then_ret ?_
                        obtain rfl := some_eq hF
                        refine WEx.ret1 rfl rfl ?_
                        exact ⟨rfl, St.keep (As := []) S381⟩
                      ·
                        refine WH.p rfl (wants_on rfl (kbl (b := decide (t12.Clients < t376)) rfl (decide_eq_false h382))) (G.move rfl) rfl ?_
                        refine WH.p rfl (wants_on rfl (kbl (b := decide (t12.Clients < t376)) rfl (decide_eq_false h382))) (G.field T.fld26_2 rfl (show 0 + 2 = 2 from rfl)) rfl ?_
                        refine WH.r rfl (wants_on rfl (kbl (b := decide (t12.Clients < t376)) rfl (decide_eq_false h382))) (fun _ h_ => G.load1 T.one3 rfl (cellsAt.at h_.1 2 rfl)) rfl ?_
                        obtain ⟨t383, hc384, hF⟩ := bind_some hF
                        have hP385 : PtR 89 Cache.rp w379 (KS [[(p39, .cells #[.int .i64 t329.2.2.config.Clients, .int .i64 t329.2.2.config.Entries, .int .i64 t329.2.2.config.Bytes, .int .i64 t329.2.2.config.Reserve, .map (some b340), .int .i64 t329.2.2.entries, .int .i64 t329.2.2.bytes] 89 (0, 0))], G341]) p39 t329.2.2 := ⟨_, S381.blk 0 rfl, KS_at 0 rfl (by simp [keys]), ⟨b340, rfl, ((hO342.rd (fun b o hb => S381.grp 1 rfl hb)).mono (fun b hb => KS_at 1 rfl hb))⟩⟩
                        refine WH.call rfl (wants_on rfl (kbl (b := decide (t12.Clients < t376)) rfl (decide_eq_false h382))) T.call19 (evs_cons rfl evs_nil) rfl ?_
                        refine (ca_Bytes_calls k172 t329.2.2 hP385 (St.outN (Bs := []) (As := [[(p39, .cells #[.int .i64 t329.2.2.config.Clients, .int .i64 t329.2.2.config.Entries, .int .i64 t329.2.2.config.Bytes, .int .i64 t329.2.2.config.Reserve, .map (some b340), .int .i64 t329.2.2.entries, .int .i64 t329.2.2.bytes] 89 (0, 0))], G341]) S381) hc384).mono ?_
                        rintro _ w386 ⟨rfl, T387⟩
                        have S388 := St.callN (As := []) S381 T387
                        change St _ _ _ [[(p39, .cells #[.int .i64 t329.2.2.config.Clients, .int .i64 t329.2.2.config.Entries, .int .i64 t329.2.2.config.Bytes, .int .i64 t329.2.2.config.Reserve, .map (some b340), .int .i64 t329.2.2.entries, .int .i64 t329.2.2.bytes] 89 (0, 0))], G341, [(b111, .cells #[.int .i64 t106.1.Address, .int .i64 t106.1.Instance] 34 (0, 0))], [(b96, .cells #[.bool x82.Other, .bool x82.Raw, .int .i64 x82.What, .int .i64 x82.Who, .int .i64 x82.Sequence, .int .i64 x82.Water, .int .i64 x82.Whose.Address, .int .i64 x82.Whose.Instance, .string (bs x82.Reply)] 36 (0, 0))], [(b17, .cells #[.int .i64 t12.Clients, .int .i64 t12.Entries, .int .i64 t12.Bytes, .int .i64 t12.Reserve] 26 (0, 0))], G55] at S388
                        refine ⟨_, rfl, ?_⟩
                        refine ⟨⟨cellsAt.of_blk (S388.blk 4 rfl) rfl, trivial⟩, ?_⟩
                        refine WH.p rfl (wants_on rfl (kbl (b := decide (t12.Clients < t376)) rfl (decide_eq_false h382))) (G.gtr rfl rfl rfl) rfl ?_
                        refine WH.p rfl wants (G.pick_f (kb (b := decide (t12.Clients < t376)) rfl (decide_eq_false h382)) rfl) rfl ?_
                        refine WH.p rfl wants (G.move rfl) rfl ?_
                        rcases ite_some hF with ⟨h389, hF⟩ | ⟨h389, hF⟩
                        ·
                          refine WH.off rfl rfl (kbl (b := decide (t12.Bytes < t383)) rfl (decide_eq_true h389)) rfl rfl rfl ?_
                          refine WH.off rfl rfl (kbl (b := decide (t12.Bytes < t383)) rfl (decide_eq_true h389)) rfl rfl rfl ?_
                          refine WH.off rfl rfl (kbl (b := decide (t12.Bytes < t383)) rfl (decide_eq_true h389)) rfl rfl rfl ?_
                          refine WH.off rfl rfl (kbl (b := decide (t12.Bytes < t383)) rfl (decide_eq_true h389)) rfl rfl rfl ?_
                          refine WH.off2 rfl rfl (kbl (b := decide (t12.Bytes < t383)) rfl (decide_eq_true h389)) rfl rfl ⟨cellsAt.of_blk (S388.blk 4 rfl) rfl, trivial⟩ ?_
                          refine WH.off2 rfl rfl (kbl (b := decide (t12.Bytes < t383)) rfl (decide_eq_true h389)) rfl rfl ⟨cellsAt.of_blk (S388.blk 4 rfl) rfl, trivial⟩ ?_
                          refine WH.off rfl rfl (kbl (b := decide (t12.Bytes < t383)) rfl (decide_eq_true h389)) rfl rfl rfl ?_
                          refine WH.off rfl rfl (kbl (b := decide (t12.Bytes < t383)) rfl (decide_eq_true h389)) rfl rfl rfl ?_
                          refine WH.p rfl wants (G.pick_t (kb (b := decide (t12.Bytes < t383)) rfl (decide_eq_true h389)) rfl) rfl ?_
                          refine WH.p rfl wants (G.move rfl) rfl ?_
                          refine WH.off rfl rfl rfl rfl rfl rfl ?_
                          refine WH.off rfl rfl rfl rfl rfl rfl ?_
                          refine WH.off rfl rfl rfl rfl rfl rfl ?_
                          refine WH.off rfl rfl rfl rfl rfl rfl ?_
                          refine WH.off rfl rfl rfl rfl rfl rfl ?_
                          refine WH.off rfl rfl rfl rfl rfl rfl ?_
                          refine WH.p rfl wants (G.pick_t rfl rfl) rfl ?_
                          refine WH.nil ?_
                          refine WEx.then_ ?_
                          refine WCode.forget (l' := [(1, .slice A1 a1.length c1), (6, .pointer (some ⟨b17, 0, none⟩)), (7, .pointer (some ⟨p39, 0, none⟩)), (9, .slice A52 l54.length c53), (11, .int .i64 x58), (13, .pointer (some ⟨b111, 0, none⟩)), (14, .int .i64 t106.2.1), (15, .int .i64 t106.2.2), (16, .int .i64 x120), (20, .int .i64 t329.1), (21, .string (bs t329.2.1)), (22, .int .i64 t345), (155, .pointer (some ⟨p39, 0, none⟩)), (156, .int .i64 t369), (157, .int .i64 x57), (158, .bool (decide (t369 < x57))), (161, .pointer (some ⟨p39, 0, none⟩)), (162, .int .i64 t376), (163, .pointer (some ⟨b17, 0, none⟩)), (164, .int .i64 t12.Clients), (165, .bool (decide (t12.Clients < t376))), (168, .pointer (some ⟨p39, 0, none⟩)), (169, .int .i64 t383), (170, .pointer (some ⟨b17, 2, none⟩)), (171, .int .i64 t12.Bytes), (172, .bool (decide (t12.Bytes < t383))), (175, undef), (176, undef), (177, undef), (178, undef), (179, undef), (180, undef), (181, undef), (182, undef), (185, undef), (186, undef), (187, undef), (188, undef), (189, undef), (190, undef), (191, .bool true)]) ⟨rfl, rfl, rfl, rfl, rfl, rfl, rfl, rfl, rfl, rfl, rfl, rfl, rfl, rfl, rfl, rfl, rfl, rfl, rfl, rfl, rfl, rfl, rfl, rfl, rfl, rfl, rfl, rfl, rfl, rfl, rfl, rfl, rfl, rfl, rfl, rfl, rfl, rfl, rfl, rfl, rfl, trivial⟩ ?_
                          refine WCode.cond_t rfl ?_
                          refine WCode.seq ?_
                          refine WCode.region ?_
                          refine WOps.p (G.assign rfl) rfl ?_
                          refine WOps.nil ?_
                          refine WEx.then_ ?_
                          refine WCode.forget (l' := [(4, .bool false)]) ⟨rfl, trivial⟩ ?_
                          refine WCode.ret ?_
                          refine WEx.then_ret ?_
                          refine WEx.in_ret ?_
                          refine WEx.then_ret ?_
                          refine WEx.then_ret ?_
                          refine WEx.in_ret ?_
                          refine WEx.then_ret ?_
                          obtain rfl := some_eq hF
                          refine WEx.ret1 rfl rfl ?_
                          exact ⟨rfl, St.keep (As := []) S388⟩
                        ·
                          refine WH.p rfl (wants_on rfl (kbl (b := decide (t12.Bytes < t383)) rfl (decide_eq_false h389))) (G.move rfl) rfl ?_
                          refine WH.p rfl (wants_on rfl (kbl (b := decide (t12.Bytes < t383)) rfl (decide_eq_false h389))) (G.move rfl) rfl ?_
                          refine WH.p rfl (wants_on rfl (kbl (b := decide (t12.Bytes < t383)) rfl (decide_eq_false h389))) (G.field T.fld26_1 rfl (show 0 + 1 = 1 from rfl)) rfl ?_
                          refine WH.r rfl (wants_on rfl (kbl (b := decide (t12.Bytes < t383)) rfl (decide_eq_false h389))) (fun _ h_ => G.load1 T.one3 rfl (cellsAt.at h_.1 1 rfl)) rfl ?_
                          obtain ⟨t390, hc391, hF⟩ := bind_some hF
                          have hP392 : PtR 89 Cache.rp w386 (KS [[(p39, .cells #[.int .i64 t329.2.2.config.Clients, .int .i64 t329.2.2.config.Entries, .int .i64 t329.2.2.config.Bytes, .int .i64 t329.2.2.config.Reserve, .map (some b340), .int .i64 t329.2.2.entries, .int .i64 t329.2.2.bytes] 89 (0, 0))], G341]) p39 t329.2.2 := ⟨_, S388.blk 0 rfl, KS_at 0 rfl (by simp [keys]), ⟨b340, rfl, ((hO342.rd (fun b o hb => S388.grp 1 rfl hb)).mono (fun b hb => KS_at 1 rfl hb))⟩⟩
                          refine WH.call rfl (wants_on rfl (kbl (b := decide (t12.Bytes < t383)) rfl (decide_eq_false h389))) T.call20 (evs_cons rfl evs_nil) rfl ?_
                          refine (ca_Entries_calls k172 t329.2.2 hP392 (St.outN (Bs := []) (As := [[(p39, .cells #[.int .i64 t329.2.2.config.Clients, .int .i64 t329.2.2.config.Entries, .int .i64 t329.2.2.config.Bytes, .int .i64 t329.2.2.config.Reserve, .map (some b340), .int .i64 t329.2.2.entries, .int .i64 t329.2.2.bytes] 89 (0, 0))], G341]) S388) hc391).mono ?_
                          rintro _ w393 ⟨rfl, T394⟩
                          have S395 := St.callN (As := []) S388 T394
                          change St _ _ _ [[(p39, .cells #[.int .i64 t329.2.2.config.Clients, .int .i64 t329.2.2.config.Entries, .int .i64 t329.2.2.config.Bytes, .int .i64 t329.2.2.config.Reserve, .map (some b340), .int .i64 t329.2.2.entries, .int .i64 t329.2.2.bytes] 89 (0, 0))], G341, [(b111, .cells #[.int .i64 t106.1.Address, .int .i64 t106.1.Instance] 34 (0, 0))], [(b96, .cells #[.bool x82.Other, .bool x82.Raw, .int .i64 x82.What, .int .i64 x82.Who, .int .i64 x82.Sequence, .int .i64 x82.Water, .int .i64 x82.Whose.Address, .int .i64 x82.Whose.Instance, .string (bs x82.Reply)] 36 (0, 0))], [(b17, .cells #[.int .i64 t12.Clients, .int .i64 t12.Entries, .int .i64 t12.Bytes, .int .i64 t12.Reserve] 26 (0, 0))], G55] at S395
                          refine ⟨_, rfl, ?_⟩
                          refine ⟨⟨cellsAt.of_blk (S395.blk 4 rfl) rfl, trivial⟩, ?_⟩
                          obtain ⟨t396, hc397, hF⟩ := bind_some hF
                          have hP398 : PtR 89 Cache.rp w393 (KS [[(p39, .cells #[.int .i64 t329.2.2.config.Clients, .int .i64 t329.2.2.config.Entries, .int .i64 t329.2.2.config.Bytes, .int .i64 t329.2.2.config.Reserve, .map (some b340), .int .i64 t329.2.2.entries, .int .i64 t329.2.2.bytes] 89 (0, 0))], G341]) p39 t329.2.2 := ⟨_, S395.blk 0 rfl, KS_at 0 rfl (by simp [keys]), ⟨b340, rfl, ((hO342.rd (fun b o hb => S395.grp 1 rfl hb)).mono (fun b hb => KS_at 1 rfl hb))⟩⟩
                          refine WH.call rfl (wants_on rfl (kbl (b := decide (t12.Bytes < t383)) rfl (decide_eq_false h389))) T.call18 (evs_cons rfl evs_nil) rfl ?_
                          refine (ca_Clients_calls k172 t329.2.2 hP398 (St.outN (Bs := []) (As := [[(p39, .cells #[.int .i64 t329.2.2.config.Clients, .int .i64 t329.2.2.config.Entries, .int .i64 t329.2.2.config.Bytes, .int .i64 t329.2.2.config.Reserve, .map (some b340), .int .i64 t329.2.2.entries, .int .i64 t329.2.2.bytes] 89 (0, 0))], G341]) S395) hc397).mono ?_
                          rintro _ w399 ⟨rfl, T400⟩
                          have S401 := St.callN (As := []) S395 T400
                          change St _ _ _ [[(p39, .cells #[.int .i64 t329.2.2.config.Clients, .int .i64 t329.2.2.config.Entries, .int .i64 t329.2.2.config.Bytes, .int .i64 t329.2.2.config.Reserve, .map (some b340), .int .i64 t329.2.2.entries, .int .i64 t329.2.2.bytes] 89 (0, 0))], G341, [(b111, .cells #[.int .i64 t106.1.Address, .int .i64 t106.1.Instance] 34 (0, 0))], [(b96, .cells #[.bool x82.Other, .bool x82.Raw, .int .i64 x82.What, .int .i64 x82.Who, .int .i64 x82.Sequence, .int .i64 x82.Water, .int .i64 x82.Whose.Address, .int .i64 x82.Whose.Instance, .string (bs x82.Reply)] 36 (0, 0))], [(b17, .cells #[.int .i64 t12.Clients, .int .i64 t12.Entries, .int .i64 t12.Bytes, .int .i64 t12.Reserve] 26 (0, 0))], G55] at S401
                          refine ⟨_, rfl, ?_⟩
                          refine ⟨⟨cellsAt.of_blk (S401.blk 4 rfl) rfl, trivial⟩, ?_⟩
                          refine WH.p rfl (wants_on rfl (kbl (b := decide (t12.Bytes < t383)) rfl (decide_eq_false h389))) (G.mul rfl rfl (r := (w64 (t396 * t12.Entries))) rfl) rfl ?_
                          refine WH.p rfl (wants_on rfl (kbl (b := decide (t12.Bytes < t383)) rfl (decide_eq_false h389))) (G.gtr rfl rfl rfl) rfl ?_
                          refine WH.p rfl wants (G.pick_f (kb (b := decide (t12.Bytes < t383)) rfl (decide_eq_false h389)) rfl) rfl ?_
                          refine WH.p rfl wants (G.move rfl) rfl ?_
                          rcases ite_some hF with ⟨h402, hF⟩ | ⟨h402, hF⟩
                          ·
                            refine WH.off rfl rfl (kbl (b := decide ((w64 (t396 * t12.Entries)) < t390)) rfl (decide_eq_true h402)) rfl rfl rfl ?_
                            refine WH.off rfl rfl (kbl (b := decide ((w64 (t396 * t12.Entries)) < t390)) rfl (decide_eq_true h402)) rfl rfl rfl ?_
                            refine WH.off rfl rfl (kbl (b := decide ((w64 (t396 * t12.Entries)) < t390)) rfl (decide_eq_true h402)) rfl rfl rfl ?_
                            refine WH.off rfl rfl rfl rfl rfl rfl ?_
                            refine WH.off rfl rfl rfl rfl rfl rfl ?_
                            refine WH.off rfl rfl (kbl (b := decide ((w64 (t396 * t12.Entries)) < t390)) rfl (decide_eq_true h402)) rfl rfl rfl ?_
                            refine WH.p rfl wants (G.pick_t (kb (b := decide ((w64 (t396 * t12.Entries)) < t390)) rfl (decide_eq_true h402)) rfl) rfl ?_
                            refine WH.nil ?_
                            refine WEx.then_ ?_
                            refine WCode.forget (l' := [(1, .slice A1 a1.length c1), (6, .pointer (some ⟨b17, 0, none⟩)), (7, .pointer (some ⟨p39, 0, none⟩)), (9, .slice A52 l54.length c53), (11, .int .i64 x58), (13, .pointer (some ⟨b111, 0, none⟩)), (14, .int .i64 t106.2.1), (15, .int .i64 t106.2.2), (16, .int .i64 x120), (20, .int .i64 t329.1), (21, .string (bs t329.2.1)), (22, .int .i64 t345), (155, .pointer (some ⟨p39, 0, none⟩)), (156, .int .i64 t369), (157, .int .i64 x57), (158, .bool (decide (t369 < x57))), (161, .pointer (some ⟨p39, 0, none⟩)), (162, .int .i64 t376), (163, .pointer (some ⟨b17, 0, none⟩)), (164, .int .i64 t12.Clients), (165, .bool (decide (t12.Clients < t376))), (168, .pointer (some ⟨p39, 0, none⟩)), (169, .int .i64 t383), (170, .pointer (some ⟨b17, 2, none⟩)), (171, .int .i64 t12.Bytes), (172, .bool (decide (t12.Bytes < t383))), (175, .pointer (some ⟨p39, 0, none⟩)), (176, .int .i64 t390), (177, .pointer (some ⟨p39, 0, none⟩)), (178, .int .i64 t396), (179, .pointer (some ⟨b17, 1, none⟩)), (180, .int .i64 t12.Entries), (181, .int .i64 (w64 (t396 * t12.Entries))), (182, .bool (decide ((w64 (t396 * t12.Entries)) < t390))), (185, undef), (186, undef), (187, undef), (188, undef), (189, undef), (190, undef), (191, .bool true)]) ⟨rfl, rfl, rfl, rfl, rfl, rfl, rfl, rfl, rfl, rfl, rfl, rfl, rfl, rfl, rfl, rfl, rfl, rfl, rfl, rfl, rfl, rfl, rfl, rfl, rfl, rfl, rfl, rfl, rfl, rfl, rfl, rfl, rfl, rfl, rfl, rfl, rfl, rfl, rfl, rfl, rfl, trivial⟩ ?_
                            refine WCode.cond_t rfl ?_
                            refine WCode.seq ?_
                            refine WCode.region ?_
                            refine WOps.p (G.assign rfl) rfl ?_
                            refine WOps.nil ?_
                            refine WEx.then_ ?_
                            refine WCode.forget (l' := [(4, .bool false)]) ⟨rfl, trivial⟩ ?_
                            refine WCode.ret ?_
                            refine WEx.then_ret ?_
                            refine WEx.in_ret ?_
                            refine WEx.then_ret ?_
                            refine WEx.then_ret ?_
                            refine WEx.in_ret ?_
                            refine WEx.then_ret ?_
                            obtain rfl := some_eq hF
                            refine WEx.ret1 rfl rfl ?_
                            exact ⟨rfl, St.keep (As := []) S401⟩
                          ·
                            refine WH.p rfl (wants_on rfl (kbl (b := decide ((w64 (t396 * t12.Entries)) < t390)) rfl (decide_eq_false h402))) (G.move rfl) rfl ?_
                            refine WH.p rfl (wants_on rfl (kbl (b := decide ((w64 (t396 * t12.Entries)) < t390)) rfl (decide_eq_false h402))) (G.neq rfl rfl rfl) rfl ?_
                            refine WH.p rfl (wants_on rfl (kbl (b := decide ((w64 (t396 * t12.Entries)) < t390)) rfl (decide_eq_false h402))) (G.move rfl) rfl ?_
                            rcases ite_some hF with ⟨h403, hF⟩ | ⟨h403, hF⟩
                            ·
                              refine WH.off rfl rfl (kbl (b := !(decide (t329.1 = 3))) rfl (show (!(decide (t329.1 = 3))) = false from by rw [(decide_eq_true h403)]; rfl)) rfl rfl rfl ?_
                              refine WH.off rfl rfl (kbl (b := !(decide (t329.1 = 3))) rfl (show (!(decide (t329.1 = 3))) = false from by rw [(decide_eq_true h403)]; rfl)) rfl rfl rfl ?_
                              refine WH.p rfl (wants_on rfl (kbl (b := decide ((w64 (t396 * t12.Entries)) < t390)) rfl (decide_eq_false h402))) (G.pick_f (kb (b := !(decide (t329.1 = 3))) rfl (show (!(decide (t329.1 = 3))) = false from by rw [(decide_eq_true h403)]; rfl)) rfl) rfl ?_
                              refine WH.p rfl wants (G.pick_f (kb (b := decide ((w64 (t396 * t12.Entries)) < t390)) rfl (decide_eq_false h402)) rfl) rfl ?_
                              refine WH.nil ?_
                              refine WEx.then_ ?_
                              refine WCode.forget (l' := [(1, .slice A1 a1.length c1), (6, .pointer (some ⟨b17, 0, none⟩)), (7, .pointer (some ⟨p39, 0, none⟩)), (9, .slice A52 l54.length c53), (11, .int .i64 x58), (13, .pointer (some ⟨b111, 0, none⟩)), (14, .int .i64 t106.2.1), (15, .int .i64 t106.2.2), (16, .int .i64 x120), (20, .int .i64 t329.1), (21, .string (bs t329.2.1)), (22, .int .i64 t345), (155, .pointer (some ⟨p39, 0, none⟩)), (156, .int .i64 t369), (157, .int .i64 x57), (158, .bool (decide (t369 < x57))), (161, .pointer (some ⟨p39, 0, none⟩)), (162, .int .i64 t376), (163, .pointer (some ⟨b17, 0, none⟩)), (164, .int .i64 t12.Clients), (165, .bool (decide (t12.Clients < t376))), (168, .pointer (some ⟨p39, 0, none⟩)), (169, .int .i64 t383), (170, .pointer (some ⟨b17, 2, none⟩)), (171, .int .i64 t12.Bytes), (172, .bool (decide (t12.Bytes < t383))), (175, .pointer (some ⟨p39, 0, none⟩)), (176, .int .i64 t390), (177, .pointer (some ⟨p39, 0, none⟩)), (178, .int .i64 t396), (179, .pointer (some ⟨b17, 1, none⟩)), (180, .int .i64 t12.Entries), (181, .int .i64 (w64 (t396 * t12.Entries))), (182, .bool (decide ((w64 (t396 * t12.Entries)) < t390))), (185, .int .i64 t329.1), (186, .bool (!(decide (t329.1 = 3)))), (187, .bool (!(decide (t329.1 = 3)))), (188, undef), (189, undef), (190, .bool false), (191, .bool false)]) ⟨rfl, rfl, rfl, rfl, rfl, rfl, rfl, rfl, rfl, rfl, rfl, rfl, rfl, rfl, rfl, rfl, rfl, rfl, rfl, rfl, rfl, rfl, rfl, rfl, rfl, rfl, rfl, rfl, rfl, rfl, rfl, rfl, rfl, rfl, rfl, rfl, rfl, rfl, rfl, rfl, rfl, trivial⟩ ?_
                              refine WCode.cond_f rfl ?_
                              refine WCode.skip ?_
                              have S404 := S401.front 1 rfl
                              change St _ _ _ [G341, [(p39, .cells #[.int .i64 t329.2.2.config.Clients, .int .i64 t329.2.2.config.Entries, .int .i64 t329.2.2.config.Bytes, .int .i64 t329.2.2.config.Reserve, .map (some b340), .int .i64 t329.2.2.entries, .int .i64 t329.2.2.bytes] 89 (0, 0))], [(b111, .cells #[.int .i64 t106.1.Address, .int .i64 t106.1.Instance] 34 (0, 0))], [(b96, .cells #[.bool x82.Other, .bool x82.Raw, .int .i64 x82.What, .int .i64 x82.Who, .int .i64 x82.Sequence, .int .i64 x82.Water, .int .i64 x82.Whose.Address, .int .i64 x82.Whose.Instance, .string (bs x82.Reply)] 36 (0, 0))], [(b17, .cells #[.int .i64 t12.Clients, .int .i64 t12.Entries, .int .i64 t12.Bytes, .int .i64 t12.Reserve] 26 (0, 0))], G55] at S404
                              have S405 := S404.front 5 rfl
                              change St _ _ _ [G55, G341, [(p39, .cells #[.int .i64 t329.2.2.config.Clients, .int .i64 t329.2.2.config.Entries, .int .i64 t329.2.2.config.Bytes, .int .i64 t329.2.2.config.Reserve, .map (some b340), .int .i64 t329.2.2.entries, .int .i64 t329.2.2.bytes] 89 (0, 0))], [(b111, .cells #[.int .i64 t106.1.Address, .int .i64 t106.1.Instance] 34 (0, 0))], [(b96, .cells #[.bool x82.Other, .bool x82.Raw, .int .i64 x82.What, .int .i64 x82.Who, .int .i64 x82.Sequence, .int .i64 x82.Water, .int .i64 x82.Whose.Address, .int .i64 x82.Whose.Instance, .string (bs x82.Reply)] 36 (0, 0))], [(b17, .cells #[.int .i64 t12.Clients, .int .i64 t12.Entries, .int .i64 t12.Bytes, .int .i64 t12.Reserve] 26 (0, 0))]] at S405
                              have S406 := S405.front 5 rfl
                              change St _ _ _ [[(b17, .cells #[.int .i64 t12.Clients, .int .i64 t12.Entries, .int .i64 t12.Bytes, .int .i64 t12.Reserve] 26 (0, 0))], G55, G341, [(p39, .cells #[.int .i64 t329.2.2.config.Clients, .int .i64 t329.2.2.config.Entries, .int .i64 t329.2.2.config.Bytes, .int .i64 t329.2.2.config.Reserve, .map (some b340), .int .i64 t329.2.2.entries, .int .i64 t329.2.2.bytes] 89 (0, 0))], [(b111, .cells #[.int .i64 t106.1.Address, .int .i64 t106.1.Instance] 34 (0, 0))], [(b96, .cells #[.bool x82.Other, .bool x82.Raw, .int .i64 x82.What, .int .i64 x82.Who, .int .i64 x82.Sequence, .int .i64 x82.Water, .int .i64 x82.Whose.Address, .int .i64 x82.Whose.Instance, .string (bs x82.Reply)] 36 (0, 0))]] at S406
                              have S407 := S406.front 4 rfl
                              change St _ _ _ [[(b111, .cells #[.int .i64 t106.1.Address, .int .i64 t106.1.Instance] 34 (0, 0))], [(b17, .cells #[.int .i64 t12.Clients, .int .i64 t12.Entries, .int .i64 t12.Bytes, .int .i64 t12.Reserve] 26 (0, 0))], G55, G341, [(p39, .cells #[.int .i64 t329.2.2.config.Clients, .int .i64 t329.2.2.config.Entries, .int .i64 t329.2.2.config.Bytes, .int .i64 t329.2.2.config.Reserve, .map (some b340), .int .i64 t329.2.2.entries, .int .i64 t329.2.2.bytes] 89 (0, 0))], [(b96, .cells #[.bool x82.Other, .bool x82.Raw, .int .i64 x82.What, .int .i64 x82.Who, .int .i64 x82.Sequence, .int .i64 x82.Water, .int .i64 x82.Whose.Address, .int .i64 x82.Whose.Instance, .string (bs x82.Reply)] 36 (0, 0))]] at S407
                              have S408 := S407.front 4 rfl
                              change St _ _ _ [[(p39, .cells #[.int .i64 t329.2.2.config.Clients, .int .i64 t329.2.2.config.Entries, .int .i64 t329.2.2.config.Bytes, .int .i64 t329.2.2.config.Reserve, .map (some b340), .int .i64 t329.2.2.entries, .int .i64 t329.2.2.bytes] 89 (0, 0))], [(b111, .cells #[.int .i64 t106.1.Address, .int .i64 t106.1.Instance] 34 (0, 0))], [(b17, .cells #[.int .i64 t12.Clients, .int .i64 t12.Entries, .int .i64 t12.Bytes, .int .i64 t12.Reserve] 26 (0, 0))], G55, G341, [(b96, .cells #[.bool x82.Other, .bool x82.Raw, .int .i64 x82.What, .int .i64 x82.Who, .int .i64 x82.Sequence, .int .i64 x82.Water, .int .i64 x82.Whose.Address, .int .i64 x82.Whose.Instance, .string (bs x82.Reply)] 36 (0, 0))]] at S408
                              have S409 := St.keep (As := [[(p39, .cells #[.int .i64 t329.2.2.config.Clients, .int .i64 t329.2.2.config.Entries, .int .i64 t329.2.2.config.Bytes, .int .i64 t329.2.2.config.Reserve, .map (some b340), .int .i64 t329.2.2.entries, .int .i64 t329.2.2.bytes] 89 (0, 0))], [(b111, .cells #[.int .i64 t106.1.Address, .int .i64 t106.1.Instance] 34 (0, 0))], [(b17, .cells #[.int .i64 t12.Clients, .int .i64 t12.Entries, .int .i64 t12.Bytes, .int .i64 t12.Reserve] 26 (0, 0))], G55, G341]) S408
                              refine WEx.cutend _ ?_ ⟨k172, t369, decide (t369 < x57), t376, decide (t12.Clients < t376), t383, decide (t12.Bytes < t383), t390, t396, w64 (t396 * t12.Entries), decide ((w64 (t396 * t12.Entries)) < t390), false, rfl, hF, (by omega), S409⟩
                              exact ⟨rfl, rfl, rfl, rfl, rfl, rfl, rfl, rfl, rfl, rfl, rfl, rfl, rfl, rfl, rfl, rfl, rfl, rfl, rfl, rfl, rfl, rfl, rfl, rfl, rfl, rfl, rfl, rfl, rfl, rfl, rfl, rfl, rfl, rfl, rfl, rfl, rfl, rfl, trivial⟩
                            ·
                              refine WH.p rfl (wants_on rfl (kbl (b := !(decide (t329.1 = 3))) rfl (show (!(decide (t329.1 = 3))) = true from by rw [(decide_eq_false h403)]; rfl))) (G.move rfl) rfl ?_
                              refine WH.p rfl (wants_on rfl (kbl (b := !(decide (t329.1 = 3))) rfl (show (!(decide (t329.1 = 3))) = true from by rw [(decide_eq_false h403)]; rfl))) (G.neqlb' rfl rfl rfl) rfl ?_
                              refine WH.p rfl (wants_on rfl (kbl (b := decide ((w64 (t396 * t12.Entries)) < t390)) rfl (decide_eq_false h402))) (G.pick_t (kb (b := !(decide (t329.1 = 3))) rfl (show (!(decide (t329.1 = 3))) = true from by rw [(decide_eq_false h403)]; rfl)) rfl) rfl ?_
                              refine WH.p rfl wants (G.pick_f (kb (b := decide ((w64 (t396 * t12.Entries)) < t390)) rfl (decide_eq_false h402)) rfl) rfl ?_
                              refine WH.nil ?_
                              refine WEx.then_ ?_
                              refine WCode.forget (l' := [(1, .slice A1 a1.length c1), (6, .pointer (some ⟨b17, 0, none⟩)), (7, .pointer (some ⟨p39, 0, none⟩)), (9, .slice A52 l54.length c53), (11, .int .i64 x58), (13, .pointer (some ⟨b111, 0, none⟩)), (14, .int .i64 t106.2.1), (15, .int .i64 t106.2.2), (16, .int .i64 x120), (20, .int .i64 t329.1), (21, .string (bs t329.2.1)), (22, .int .i64 t345), (155, .pointer (some ⟨p39, 0, none⟩)), (156, .int .i64 t369), (157, .int .i64 x57), (158, .bool (decide (t369 < x57))), (161, .pointer (some ⟨p39, 0, none⟩)), (162, .int .i64 t376), (163, .pointer (some ⟨b17, 0, none⟩)), (164, .int .i64 t12.Clients), (165, .bool (decide (t12.Clients < t376))), (168, .pointer (some ⟨p39, 0, none⟩)), (169, .int .i64 t383), (170, .pointer (some ⟨b17, 2, none⟩)), (171, .int .i64 t12.Bytes), (172, .bool (decide (t12.Bytes < t383))), (175, .pointer (some ⟨p39, 0, none⟩)), (176, .int .i64 t390), (177, .pointer (some ⟨p39, 0, none⟩)), (178, .int .i64 t396), (179, .pointer (some ⟨b17, 1, none⟩)), (180, .int .i64 t12.Entries), (181, .int .i64 (w64 (t396 * t12.Entries))), (182, .bool (decide ((w64 (t396 * t12.Entries)) < t390))), (185, .int .i64 t329.1), (186, .bool (!(decide (t329.1 = 3)))), (187, .bool (!(decide (t329.1 = 3)))), (188, .string (bs t329.2.1)), (189, .bool (!(decide (t329.2.1 = ([] : List UInt8))))), (190, .bool (!(decide (t329.2.1 = ([] : List UInt8))))), (191, .bool (!(decide (t329.2.1 = ([] : List UInt8)))))]) ⟨rfl, rfl, rfl, rfl, rfl, rfl, rfl, rfl, rfl, rfl, rfl, rfl, rfl, rfl, rfl, rfl, rfl, rfl, rfl, rfl, rfl, rfl, rfl, rfl, rfl, rfl, rfl, rfl, rfl, rfl, rfl, rfl, rfl, rfl, rfl, rfl, rfl, rfl, rfl, rfl, rfl, trivial⟩ ?_
                              rcases ite_some hF with ⟨h410, hF⟩ | ⟨h410, hF⟩
                              ·
                                refine WCode.cond_f (kb (b := !(decide (t329.2.1 = ([] : List UInt8)))) rfl (show (!(decide (t329.2.1 = ([] : List UInt8)))) = false from by rw [(decide_eq_true h410)]; rfl)) ?_
                                refine WCode.skip ?_
                                have S411 := S401.front 1 rfl
                                change St _ _ _ [G341, [(p39, .cells #[.int .i64 t329.2.2.config.Clients, .int .i64 t329.2.2.config.Entries, .int .i64 t329.2.2.config.Bytes, .int .i64 t329.2.2.config.Reserve, .map (some b340), .int .i64 t329.2.2.entries, .int .i64 t329.2.2.bytes] 89 (0, 0))], [(b111, .cells #[.int .i64 t106.1.Address, .int .i64 t106.1.Instance] 34 (0, 0))], [(b96, .cells #[.bool x82.Other, .bool x82.Raw, .int .i64 x82.What, .int .i64 x82.Who, .int .i64 x82.Sequence, .int .i64 x82.Water, .int .i64 x82.Whose.Address, .int .i64 x82.Whose.Instance, .string (bs x82.Reply)] 36 (0, 0))], [(b17, .cells #[.int .i64 t12.Clients, .int .i64 t12.Entries, .int .i64 t12.Bytes, .int .i64 t12.Reserve] 26 (0, 0))], G55] at S411
                                have S412 := S411.front 5 rfl
                                change St _ _ _ [G55, G341, [(p39, .cells #[.int .i64 t329.2.2.config.Clients, .int .i64 t329.2.2.config.Entries, .int .i64 t329.2.2.config.Bytes, .int .i64 t329.2.2.config.Reserve, .map (some b340), .int .i64 t329.2.2.entries, .int .i64 t329.2.2.bytes] 89 (0, 0))], [(b111, .cells #[.int .i64 t106.1.Address, .int .i64 t106.1.Instance] 34 (0, 0))], [(b96, .cells #[.bool x82.Other, .bool x82.Raw, .int .i64 x82.What, .int .i64 x82.Who, .int .i64 x82.Sequence, .int .i64 x82.Water, .int .i64 x82.Whose.Address, .int .i64 x82.Whose.Instance, .string (bs x82.Reply)] 36 (0, 0))], [(b17, .cells #[.int .i64 t12.Clients, .int .i64 t12.Entries, .int .i64 t12.Bytes, .int .i64 t12.Reserve] 26 (0, 0))]] at S412
                                have S413 := S412.front 5 rfl
                                change St _ _ _ [[(b17, .cells #[.int .i64 t12.Clients, .int .i64 t12.Entries, .int .i64 t12.Bytes, .int .i64 t12.Reserve] 26 (0, 0))], G55, G341, [(p39, .cells #[.int .i64 t329.2.2.config.Clients, .int .i64 t329.2.2.config.Entries, .int .i64 t329.2.2.config.Bytes, .int .i64 t329.2.2.config.Reserve, .map (some b340), .int .i64 t329.2.2.entries, .int .i64 t329.2.2.bytes] 89 (0, 0))], [(b111, .cells #[.int .i64 t106.1.Address, .int .i64 t106.1.Instance] 34 (0, 0))], [(b96, .cells #[.bool x82.Other, .bool x82.Raw, .int .i64 x82.What, .int .i64 x82.Who, .int .i64 x82.Sequence, .int .i64 x82.Water, .int .i64 x82.Whose.Address, .int .i64 x82.Whose.Instance, .string (bs x82.Reply)] 36 (0, 0))]] at S413
                                have S414 := S413.front 4 rfl
                                change St _ _ _ [[(b111, .cells #[.int .i64 t106.1.Address, .int .i64 t106.1.Instance] 34 (0, 0))], [(b17, .cells #[.int .i64 t12.Clients, .int .i64 t12.Entries, .int .i64 t12.Bytes, .int .i64 t12.Reserve] 26 (0, 0))], G55, G341, [(p39, .cells #[.int .i64 t329.2.2.config.Clients, .int .i64 t329.2.2.config.Entries, .int .i64 t329.2.2.config.Bytes, .int .i64 t329.2.2.config.Reserve, .map (some b340), .int .i64 t329.2.2.entries, .int .i64 t329.2.2.bytes] 89 (0, 0))], [(b96, .cells #[.bool x82.Other, .bool x82.Raw, .int .i64 x82.What, .int .i64 x82.Who, .int .i64 x82.Sequence, .int .i64 x82.Water, .int .i64 x82.Whose.Address, .int .i64 x82.Whose.Instance, .string (bs x82.Reply)] 36 (0, 0))]] at S414
                                have S415 := S414.front 4 rfl
                                change St _ _ _ [[(p39, .cells #[.int .i64 t329.2.2.config.Clients, .int .i64 t329.2.2.config.Entries, .int .i64 t329.2.2.config.Bytes, .int .i64 t329.2.2.config.Reserve, .map (some b340), .int .i64 t329.2.2.entries, .int .i64 t329.2.2.bytes] 89 (0, 0))], [(b111, .cells #[.int .i64 t106.1.Address, .int .i64 t106.1.Instance] 34 (0, 0))], [(b17, .cells #[.int .i64 t12.Clients, .int .i64 t12.Entries, .int .i64 t12.Bytes, .int .i64 t12.Reserve] 26 (0, 0))], G55, G341, [(b96, .cells #[.bool x82.Other, .bool x82.Raw, .int .i64 x82.What, .int .i64 x82.Who, .int .i64 x82.Sequence, .int .i64 x82.Water, .int .i64 x82.Whose.Address, .int .i64 x82.Whose.Instance, .string (bs x82.Reply)] 36 (0, 0))]] at S415
                                have S416 := St.keep (As := [[(p39, .cells #[.int .i64 t329.2.2.config.Clients, .int .i64 t329.2.2.config.Entries, .int .i64 t329.2.2.config.Bytes, .int .i64 t329.2.2.config.Reserve, .map (some b340), .int .i64 t329.2.2.entries, .int .i64 t329.2.2.bytes] 89 (0, 0))], [(b111, .cells #[.int .i64 t106.1.Address, .int .i64 t106.1.Instance] 34 (0, 0))], [(b17, .cells #[.int .i64 t12.Clients, .int .i64 t12.Entries, .int .i64 t12.Bytes, .int .i64 t12.Reserve] 26 (0, 0))], G55, G341]) S415
                                refine WEx.cutend _ ?_ ⟨k172, t369, decide (t369 < x57), t376, decide (t12.Clients < t376), t383, decide (t12.Bytes < t383), t390, t396, w64 (t396 * t12.Entries), decide ((w64 (t396 * t12.Entries)) < t390), !(decide (t329.2.1 = ([] : List UInt8))), rfl, hF, (by omega), S416⟩
                                exact ⟨rfl, rfl, rfl, rfl, rfl, rfl, rfl, rfl, rfl, rfl, rfl, rfl, rfl, rfl, rfl, rfl, rfl, rfl, rfl, rfl, rfl, rfl, rfl, rfl, rfl, rfl, rfl, rfl, rfl, rfl, rfl, rfl, rfl, rfl, rfl, rfl, rfl, rfl, trivial⟩
                              ·
                                refine WCode.cond_t (kb (b := !(decide (t329.2.1 = ([] : List UInt8)))) rfl (show (!(decide (t329.2.1 = ([] : List UInt8)))) = true from by rw [(decide_eq_false h410)]; rfl)) ?_
                                refine WCode.seq ?_
                                refine WCode.region ?_
                                refine WOps.p (G.assign rfl) rfl ?_
                                refine WOps.nil ?_
                                refine WEx.then_ ?_
                                refine WCode.forget (l' := [(4, .bool false)]) ⟨rfl, trivial⟩ ?_
                                refine WCode.ret ?_
                                refine WEx.then_ret ?_
                                refine WEx.in_ret ?_
                                refine WEx.then_ret ?_
                                refine WEx.then_ret ?_
                                refine WEx.in_ret ?_
                                refine WEx.then_ret ?_
                                obtain rfl := some_eq hF
                                refine WEx.ret1 rfl rfl ?_
                                exact ⟨rfl, St.keep (As := []) S401⟩
                ·
                  rintro _ w362 ⟨q364, x351, b352, x353, b354, x355, b356, x357, x358, x359, b360, b361, rfl, hF, hq365, S363⟩
                  obtain _ | k417 := q364
                  · exact nomatch (show (none : Option Bool) = some r_ from hF)
                  rw [law_Once.j5] at hF
                  refine WCode.seq ?_
                  refine WCode.region ?_
                  refine WOps.p (G.move rfl) rfl ?_
                  obtain ⟨t418, hc419, hF⟩ := bind_some hF
                  have S420 := S363.front 4 rfl
                  change St _ _ _ [G341, [(p39, .cells #[.int .i64 t329.2.2.config.Clients, .int .i64 t329.2.2.config.Entries, .int .i64 t329.2.2.config.Bytes, .int .i64 t329.2.2.config.Reserve, .map (some b340), .int .i64 t329.2.2.entries, .int .i64 t329.2.2.bytes] 89 (0, 0))], [(b111, .cells #[.int .i64 t106.1.Address, .int .i64 t106.1.Instance] 34 (0, 0))], [(b17, .cells #[.int .i64 t12.Clients, .int .i64 t12.Entries, .int .i64 t12.Bytes, .int .i64 t12.Reserve] 26 (0, 0))], G55] at S420
                  have S421 := S420.front 1 rfl
                  change St _ _ _ [[(p39, .cells #[.int .i64 t329.2.2.config.Clients, .int .i64 t329.2.2.config.Entries, .int .i64 t329.2.2.config.Bytes, .int .i64 t329.2.2.config.Reserve, .map (some b340), .int .i64 t329.2.2.entries, .int .i64 t329.2.2.bytes] 89 (0, 0))], G341, [(b111, .cells #[.int .i64 t106.1.Address, .int .i64 t106.1.Instance] 34 (0, 0))], [(b17, .cells #[.int .i64 t12.Clients, .int .i64 t12.Entries, .int .i64 t12.Bytes, .int .i64 t12.Reserve] 26 (0, 0))], G55] at S421
                  have hP422 : PtR 89 Cache.rp w362 (KS [[(p39, .cells #[.int .i64 t329.2.2.config.Clients, .int .i64 t329.2.2.config.Entries, .int .i64 t329.2.2.config.Bytes, .int .i64 t329.2.2.config.Reserve, .map (some b340), .int .i64 t329.2.2.entries, .int .i64 t329.2.2.bytes] 89 (0, 0))], G341]) p39 t329.2.2 := ⟨_, S421.blk 0 rfl, KS_at 0 rfl (by simp [keys]), ⟨b340, rfl, ((hO342.rd (fun b o hb => S421.grp 1 rfl hb)).mono (fun b hb => KS_at 1 rfl hb))⟩⟩
                  refine WOps.call T.call18 (evs_cons rfl evs_nil) rfl ?_
                  refine (ca_Clients_calls k417 t329.2.2 hP422 (St.outN (Bs := []) (As := [[(p39, .cells #[.int .i64 t329.2.2.config.Clients, .int .i64 t329.2.2.config.Entries, .int .i64 t329.2.2.config.Bytes, .int .i64 t329.2.2.config.Reserve, .map (some b340), .int .i64 t329.2.2.entries, .int .i64 t329.2.2.bytes] 89 (0, 0))], G341]) S421) hc419).mono ?_
                  rintro _ w423 ⟨rfl, T424⟩
                  have S425 := St.callN (As := []) S421 T424
                  change St _ _ _ [[(p39, .cells #[.int .i64 t329.2.2.config.Clients, .int .i64 t329.2.2.config.Entries, .int .i64 t329.2.2.config.Bytes, .int .i64 t329.2.2.config.Reserve, .map (some b340), .int .i64 t329.2.2.entries, .int .i64 t329.2.2.bytes] 89 (0, 0))], G341, [(b111, .cells #[.int .i64 t106.1.Address, .int .i64 t106.1.Instance] 34 (0, 0))], [(b17, .cells #[.int .i64 t12.Clients, .int .i64 t12.Entries, .int .i64 t12.Bytes, .int .i64 t12.Reserve] 26 (0, 0))], G55] at S425
                  refine ⟨_, rfl, ?_⟩
                  refine WOps.p (G.assign rfl) rfl ?_
                  refine WOps.nil ?_
                  refine WEx.then_ ?_
                  refine WCode.seq ?_
                  refine WCode.region ?_
                  refine WOps.p (G.move rfl) rfl ?_
                  refine WOps.nil ?_
                  refine WEx.then_ ?_
                  refine WCode.block ?_
                  refine WCode.seq ?_
                  refine WCode.region ?_
                  refine WOps.p (G.eql rfl rfl rfl) rfl ?_
                  refine WOps.p (G.assign rfl) rfl ?_
                  refine WOps.nil ?_
                  refine WEx.then_ ?_
                  rcases ite_some hF with ⟨h426, hF⟩ | ⟨h426, hF⟩
                  ·
                    refine WCode.cond_t (kb (b := decide (t329.1 = 1)) rfl (decide_eq_true h426)) ?_
                    refine WCode.seq ?_
                    refine WCode.seq ?_
                    refine WCode.region ?_
                    refine WOps.p (G.move rfl) rfl ?_
                    refine WOps.p (G.geq rfl rfl rfl) rfl ?_
                    refine WOps.p (G.move rfl) rfl ?_
                    rcases ite_some hF with ⟨h427, hF⟩ | ⟨h427, hF⟩
                    ·
                      refine WOps.off rfl (kbl (b := decide (0 ≤ x120)) rfl (decide_eq_true h427)) rfl rfl ?_
                      refine WOps.off rfl (kbl (b := decide (0 ≤ x120)) rfl (decide_eq_true h427)) rfl rfl ?_
                      refine WOps.off rfl (kbl (b := decide (0 ≤ x120)) rfl (decide_eq_true h427)) rfl rfl ?_
                      refine WOps.p (G.pick_t (kb (b := decide (0 ≤ x120)) rfl (decide_eq_true h427)) rfl) rfl ?_
                      refine WOps.p (G.move rfl) rfl ?_
                      refine WOps.off rfl rfl rfl rfl ?_
                      refine WOps.off rfl rfl rfl rfl ?_
                      refine WOps.off rfl rfl rfl rfl ?_
                      refine WOps.p (G.pick_t rfl rfl) rfl ?_
                      refine WOps.nil ?_
                      refine WEx.then_ ?_
                      refine WCode.forget (l' := [(1, .slice A1 a1.length c1), (6, .pointer (some ⟨b17, 0, none⟩)), (7, .pointer (some ⟨p39, 0, none⟩)), (9, .slice A52 l54.length c53), (10, .int .i64 t418), (11, .int .i64 x58), (13, .pointer (some ⟨b111, 0, none⟩)), (14, .int .i64 t106.2.1), (155, .pointer (some ⟨p39, 0, none⟩)), (156, .int .i64 x351), (157, .int .i64 x57), (158, .bool b352), (161, .pointer (some ⟨p39, 0, none⟩)), (162, .int .i64 x353), (163, .pointer (some ⟨b17, 0, none⟩)), (164, .int .i64 t12.Clients), (165, .bool b354), (168, .pointer (some ⟨p39, 0, none⟩)), (169, .int .i64 x355), (170, .pointer (some ⟨b17, 2, none⟩)), (171, .int .i64 t12.Bytes), (172, .bool b356), (175, .pointer (some ⟨p39, 0, none⟩)), (176, .int .i64 x357), (177, .pointer (some ⟨p39, 0, none⟩)), (178, .int .i64 x358), (179, .pointer (some ⟨b17, 1, none⟩)), (180, .int .i64 t12.Entries), (181, .int .i64 x359), (182, .bool b360), (185, .int .i64 t329.1), (186, .bool (!(decide (t329.1 = 3)))), (187, .bool (!(decide (t329.1 = 3)))), (190, .bool b361), (200, undef), (201, undef), (202, undef), (205, undef), (206, undef), (207, undef), (208, .bool true)]) ⟨rfl, rfl, rfl, rfl, rfl, rfl, rfl, rfl, rfl, rfl, rfl, rfl, rfl, rfl, rfl, rfl, rfl, rfl, rfl, rfl, rfl, rfl, rfl, rfl, rfl, rfl, rfl, rfl, rfl, rfl, rfl, rfl, rfl, rfl, rfl, rfl, rfl, rfl, rfl, rfl, rfl, trivial⟩ ?_
                      refine WCode.cond_t rfl ?_
                      refine WCode.seq ?_
                      refine WCode.region ?_
                      refine WOps.p (G.assign rfl) rfl ?_
                      refine WOps.nil ?_
                      refine WEx.then_ ?_
                      refine WCode.forget (l' := [(4, .bool false)]) ⟨rfl, trivial⟩ ?_
                      refine WCode.ret ?_
                      refine WEx.then_ret ?_
                      refine WEx.in_ret ?_
                      refine WEx.in_ret ?_
                      refine WEx.then_ret ?_
                      refine WEx.then_ret ?_
                      refine WEx.in_ret ?_
                      refine WEx.then_ret ?_
                      obtain rfl := some_eq hF
                      refine WEx.ret1 rfl rfl ?_
                      exact ⟨rfl, St.keep (As := []) S425⟩
                    ·
                      refine WOps.on rfl (kbl (b := decide (0 ≤ x120)) rfl (decide_eq_false h427)) ?_
                      refine WOps.p (G.move rfl) rfl ?_
                      refine WOps.on rfl (kbl (b := decide (0 ≤ x120)) rfl (decide_eq_false h427)) ?_
                      refine WOps.p (G.move rfl) rfl ?_
                      refine WOps.on rfl (kbl (b := decide (0 ≤ x120)) rfl (decide_eq_false h427)) ?_
                      refine WOps.p (G.lss rfl rfl rfl) rfl ?_
                      refine WOps.p (G.pick_f (kb (b := decide (0 ≤ x120)) rfl (decide_eq_false h427)) rfl) rfl ?_
                      refine WOps.p (G.move rfl) rfl ?_
                      rcases ite_some hF with ⟨h428, hF⟩ | ⟨h428, hF⟩
                      ·
                        refine WOps.off rfl (kbl (b := decide (t106.2.1 < t345)) rfl (decide_eq_true h428)) rfl rfl ?_
                        refine WOps.off rfl (kbl (b := decide (t106.2.1 < t345)) rfl (decide_eq_true h428)) rfl rfl ?_
                        refine WOps.off rfl (kbl (b := decide (t106.2.1 < t345)) rfl (decide_eq_true h428)) rfl rfl ?_
                        refine WOps.p (G.pick_t (kb (b := decide (t106.2.1 < t345)) rfl (decide_eq_true h428)) rfl) rfl ?_
                        refine WOps.nil ?_
                        refine WEx.then_ ?_
                        refine WCode.forget (l' := [(1, .slice A1 a1.length c1), (6, .pointer (some ⟨b17, 0, none⟩)), (7, .pointer (some ⟨p39, 0, none⟩)), (9, .slice A52 l54.length c53), (10, .int .i64 t418), (11, .int .i64 x58), (13, .pointer (some ⟨b111, 0, none⟩)), (14, .int .i64 t106.2.1), (155, .pointer (some ⟨p39, 0, none⟩)), (156, .int .i64 x351), (157, .int .i64 x57), (158, .bool b352), (161, .pointer (some ⟨p39, 0, none⟩)), (162, .int .i64 x353), (163, .pointer (some ⟨b17, 0, none⟩)), (164, .int .i64 t12.Clients), (165, .bool b354), (168, .pointer (some ⟨p39, 0, none⟩)), (169, .int .i64 x355), (170, .pointer (some ⟨b17, 2, none⟩)), (171, .int .i64 t12.Bytes), (172, .bool b356), (175, .pointer (some ⟨p39, 0, none⟩)), (176, .int .i64 x357), (177, .pointer (some ⟨p39, 0, none⟩)), (178, .int .i64 x358), (179, .pointer (some ⟨b17, 1, none⟩)), (180, .int .i64 t12.Entries), (181, .int .i64 x359), (182, .bool b360), (185, .int .i64 t329.1), (186, .bool (!(decide (t329.1 = 3)))), (187, .bool (!(decide (t329.1 = 3)))), (190, .bool b361), (200, .int .i64 t106.2.1), (201, .int .i64 t345), (202, .bool (decide (t106.2.1 < t345))), (205, undef), (206, undef), (207, undef), (208, .bool true)]) ⟨rfl, rfl, rfl, rfl, rfl, rfl, rfl, rfl, rfl, rfl, rfl, rfl, rfl, rfl, rfl, rfl, rfl, rfl, rfl, rfl, rfl, rfl, rfl, rfl, rfl, rfl, rfl, rfl, rfl, rfl, rfl, rfl, rfl, rfl, rfl, rfl, rfl, rfl, rfl, rfl, rfl, trivial⟩ ?_
                        refine WCode.cond_t rfl ?_
                        refine WCode.seq ?_
                        refine WCode.region ?_
                        refine WOps.p (G.assign rfl) rfl ?_
                        refine WOps.nil ?_
                        refine WEx.then_ ?_
                        refine WCode.forget (l' := [(4, .bool false)]) ⟨rfl, trivial⟩ ?_
                        refine WCode.ret ?_
                        refine WEx.then_ret ?_
                        refine WEx.in_ret ?_
                        refine WEx.in_ret ?_
                        refine WEx.then_ret ?_
                        refine WEx.then_ret ?_
                        refine WEx.in_ret ?_
                        refine WEx.then_ret ?_
                        obtain rfl := some_eq hF
                        refine WEx.ret1 rfl rfl ?_
                        exact ⟨rfl, St.keep (As := []) S425⟩
                      ·
                        refine WOps.on rfl (kbl (b := decide (t106.2.1 < t345)) rfl (decide_eq_false h428)) ?_
                        refine WOps.p (G.move rfl) rfl ?_
                        refine WOps.on rfl (kbl (b := decide (t106.2.1 < t345)) rfl (decide_eq_false h428)) ?_
                        refine WOps.p (G.move rfl) rfl ?_
                        refine WOps.on rfl (kbl (b := decide (t106.2.1 < t345)) rfl (decide_eq_false h428)) ?_
                        refine WOps.p (G.lss rfl rfl rfl) rfl ?_
                        refine WOps.p (G.pick_f (kb (b := decide (t106.2.1 < t345)) rfl (decide_eq_false h428)) rfl) rfl ?_
                        refine WOps.nil ?_
                        refine WEx.then_ ?_
                        refine WCode.forget (l' := [(1, .slice A1 a1.length c1), (6, .pointer (some ⟨b17, 0, none⟩)), (7, .pointer (some ⟨p39, 0, none⟩)), (9, .slice A52 l54.length c53), (10, .int .i64 t418), (11, .int .i64 x58), (13, .pointer (some ⟨b111, 0, none⟩)), (14, .int .i64 t106.2.1), (155, .pointer (some ⟨p39, 0, none⟩)), (156, .int .i64 x351), (157, .int .i64 x57), (158, .bool b352), (161, .pointer (some ⟨p39, 0, none⟩)), (162, .int .i64 x353), (163, .pointer (some ⟨b17, 0, none⟩)), (164, .int .i64 t12.Clients), (165, .bool b354), (168, .pointer (some ⟨p39, 0, none⟩)), (169, .int .i64 x355), (170, .pointer (some ⟨b17, 2, none⟩)), (171, .int .i64 t12.Bytes), (172, .bool b356), (175, .pointer (some ⟨p39, 0, none⟩)), (176, .int .i64 x357), (177, .pointer (some ⟨p39, 0, none⟩)), (178, .int .i64 x358), (179, .pointer (some ⟨b17, 1, none⟩)), (180, .int .i64 t12.Entries), (181, .int .i64 x359), (182, .bool b360), (185, .int .i64 t329.1), (186, .bool (!(decide (t329.1 = 3)))), (187, .bool (!(decide (t329.1 = 3)))), (190, .bool b361), (200, .int .i64 t106.2.1), (201, .int .i64 t345), (202, .bool (decide (t106.2.1 < t345))), (205, .int .i64 t345), (206, .int .i64 t106.2.2), (207, .bool (decide (t345 < t106.2.2))), (208, .bool (decide (t345 < t106.2.2)))]) ⟨rfl, rfl, rfl, rfl, rfl, rfl, rfl, rfl, rfl, rfl, rfl, rfl, rfl, rfl, rfl, rfl, rfl, rfl, rfl, rfl, rfl, rfl, rfl, rfl, rfl, rfl, rfl, rfl, rfl, rfl, rfl, rfl, rfl, rfl, rfl, rfl, rfl, rfl, rfl, rfl, rfl, trivial⟩ ?_
                        rcases ite_some hF with ⟨h429, hF⟩ | ⟨h429, hF⟩
                        ·
                          refine WCode.cond_t (kb (b := decide (t345 < t106.2.2)) rfl (decide_eq_true h429)) ?_
                          refine WCode.seq ?_
                          refine WCode.region ?_
                          refine WOps.p (G.assign rfl) rfl ?_
                          refine WOps.nil ?_
                          refine WEx.then_ ?_
                          refine WCode.forget (l' := [(4, .bool false)]) ⟨rfl, trivial⟩ ?_
                          refine WCode.ret ?_
                          refine WEx.then_ret ?_
                          refine WEx.in_ret ?_
                          refine WEx.in_ret ?_
                          refine WEx.then_ret ?_
                          refine WEx.then_ret ?_
                          refine WEx.in_ret ?_
                          refine WEx.then_ret ?_
                          obtain rfl := some_eq hF
                          refine WEx.ret1 rfl rfl ?_
                          exact ⟨rfl, St.keep (As := []) S425⟩
                        ·
                          refine WCode.cond_f (kb (b := decide (t345 < t106.2.2)) rfl (decide_eq_false h429)) ?_
                          refine WCode.skip ?_
                          refine WEx.then_ ?_
                          refine WCode.region ?_
                          refine WOps.p (G.move rfl) rfl ?_
                          refine WOps.r (G.loada T.agg34_2 rfl (cs := [.int .i64 t106.1.Address, .int .i64 t106.1.Instance]) (cellsAt.of_blk (S425.blk 2 rfl) rfl)) rfl ?_
                          refine WOps.p (G.move rfl) rfl ?_
                          refine WOps.p (G.build (cells := #[.int .i64 t106.1.Address, .int .i64 t106.1.Instance, .int .i64 t106.2.1, .bool false, .string (bs ([] : List UInt8))]) (evp_spec (evp_cons rfl (evp_cons rfl evp_nil))) (by kernel_rfl)) rfl ?_
                          obtain ⟨b430, w431, E432, S433, X434, L435⟩ := St.lit S425 (P := Try.prog) (t := 32) (e := 40) (n := 1) (vs := [(0, .agg #[.int .i64 t106.1.Address, .int .i64 t106.1.Instance, .int .i64 t106.2.1, .bool false, .string (bs ([] : List UInt8))])]) (cs := #[.int .i64 t106.1.Address, .int .i64 t106.1.Instance, .int .i64 t106.2.1, .bool false, .string (bs ([] : List UInt8))]) (by kernel_rfl)
                          change St _ _ _ [[(b430, .cells #[.int .i64 t106.1.Address, .int .i64 t106.1.Instance, .int .i64 t106.2.1, .bool false, .string (bs ([] : List UInt8))] 40 (0, 0))], [(p39, .cells #[.int .i64 t329.2.2.config.Clients, .int .i64 t329.2.2.config.Entries, .int .i64 t329.2.2.config.Bytes, .int .i64 t329.2.2.config.Reserve, .map (some b340), .int .i64 t329.2.2.entries, .int .i64 t329.2.2.bytes] 89 (0, 0))], G341, [(b111, .cells #[.int .i64 t106.1.Address, .int .i64 t106.1.Instance] 34 (0, 0))], [(b17, .cells #[.int .i64 t12.Clients, .int .i64 t12.Entries, .int .i64 t12.Bytes, .int .i64 t12.Reserve] 26 (0, 0))], G55] at S433
                          refine WOps.e (E432 (evp_cons rfl evp_nil)) rfl ?_
                          obtain ⟨l436, hc437, hF⟩ := bind_some hF
                          have S438 := S433.front 5 rfl
                          change St _ _ _ [G55, [(b430, .cells #[.int .i64 t106.1.Address, .int .i64 t106.1.Instance, .int .i64 t106.2.1, .bool false, .string (bs ([] : List UInt8))] 40 (0, 0))], [(p39, .cells #[.int .i64 t329.2.2.config.Clients, .int .i64 t329.2.2.config.Entries, .int .i64 t329.2.2.config.Bytes, .int .i64 t329.2.2.config.Reserve, .map (some b340), .int .i64 t329.2.2.entries, .int .i64 t329.2.2.bytes] 89 (0, 0))], G341, [(b111, .cells #[.int .i64 t106.1.Address, .int .i64 t106.1.Instance] 34 (0, 0))], [(b17, .cells #[.int .i64 t12.Clients, .int .i64 t12.Entries, .int .i64 t12.Bytes, .int .i64 t12.Reserve] 26 (0, 0))]] at S438
                          obtain ⟨A439, c440, G441, w442, E443, hO444, S445, hk446⟩ := St.appP (P := Try.prog) (r := Seen.rp) (M := ([(⟨t106.1, t106.2.1, false, ([] : List UInt8)⟩ : Seen)] : List Seen)) S438 T.elt32 rfl hO56 (Rd.of_blk (S438.blk 1 rfl) (n := 1) (sz := 5) rfl) ⟨_, _, [], [], rfl, rfl, ⟨rfl, rfl⟩, ⟨rfl, rfl⟩⟩ rfl hc437
                          change St _ _ _ [G441, [(b430, .cells #[.int .i64 t106.1.Address, .int .i64 t106.1.Instance, .int .i64 t106.2.1, .bool false, .string (bs ([] : List UInt8))] 40 (0, 0))], [(p39, .cells #[.int .i64 t329.2.2.config.Clients, .int .i64 t329.2.2.config.Entries, .int .i64 t329.2.2.config.Bytes, .int .i64 t329.2.2.config.Reserve, .map (some b340), .int .i64 t329.2.2.entries, .int .i64 t329.2.2.bytes] 89 (0, 0))], G341, [(b111, .cells #[.int .i64 t106.1.Address, .int .i64 t106.1.Instance] 34 (0, 0))], [(b17, .cells #[.int .i64 t12.Clients, .int .i64 t12.Entries, .int .i64 t12.Bytes, .int .i64 t12.Reserve] 26 (0, 0))]] at S445
                          refine WOps.e (E443 rfl rfl) rfl ?_
                          refine WOps.p (G.assign rfl) rfl ?_
                          refine WOps.nil ?_
                          refine WEx.in_normal ?_
                          refine WEx.in_normal ?_
                          refine WEx.then_ ?_
                          refine WCode.region ?_
                          refine WOps.p (G.move rfl) rfl ?_
                          refine WOps.p (G.add rfl rfl (r := (w64 (x58 + 1))) rfl) rfl ?_
                          refine WOps.p (G.assign rfl) rfl ?_
                          refine WOps.nil ?_
                          have S447 := S445.front 3 rfl
                          change St _ _ _ [G341, G441, [(b430, .cells #[.int .i64 t106.1.Address, .int .i64 t106.1.Instance, .int .i64 t106.2.1, .bool false, .string (bs ([] : List UInt8))] 40 (0, 0))], [(p39, .cells #[.int .i64 t329.2.2.config.Clients, .int .i64 t329.2.2.config.Entries, .int .i64 t329.2.2.config.Bytes, .int .i64 t329.2.2.config.Reserve, .map (some b340), .int .i64 t329.2.2.entries, .int .i64 t329.2.2.bytes] 89 (0, 0))], [(b111, .cells #[.int .i64 t106.1.Address, .int .i64 t106.1.Instance] 34 (0, 0))], [(b17, .cells #[.int .i64 t12.Clients, .int .i64 t12.Entries, .int .i64 t12.Bytes, .int .i64 t12.Reserve] 26 (0, 0))]] at S447
                          have S448 := S447.front 1 rfl
                          change St _ _ _ [G441, G341, [(b430, .cells #[.int .i64 t106.1.Address, .int .i64 t106.1.Instance, .int .i64 t106.2.1, .bool false, .string (bs ([] : List UInt8))] 40 (0, 0))], [(p39, .cells #[.int .i64 t329.2.2.config.Clients, .int .i64 t329.2.2.config.Entries, .int .i64 t329.2.2.config.Bytes, .int .i64 t329.2.2.config.Reserve, .map (some b340), .int .i64 t329.2.2.entries, .int .i64 t329.2.2.bytes] 89 (0, 0))], [(b111, .cells #[.int .i64 t106.1.Address, .int .i64 t106.1.Instance] 34 (0, 0))], [(b17, .cells #[.int .i64 t12.Clients, .int .i64 t12.Entries, .int .i64 t12.Bytes, .int .i64 t12.Reserve] 26 (0, 0))]] at S448
                          have S449 := S448.front 5 rfl
                          change St _ _ _ [[(b17, .cells #[.int .i64 t12.Clients, .int .i64 t12.Entries, .int .i64 t12.Bytes, .int .i64 t12.Reserve] 26 (0, 0))], G441, G341, [(b430, .cells #[.int .i64 t106.1.Address, .int .i64 t106.1.Instance, .int .i64 t106.2.1, .bool false, .string (bs ([] : List UInt8))] 40 (0, 0))], [(p39, .cells #[.int .i64 t329.2.2.config.Clients, .int .i64 t329.2.2.config.Entries, .int .i64 t329.2.2.config.Bytes, .int .i64 t329.2.2.config.Reserve, .map (some b340), .int .i64 t329.2.2.entries, .int .i64 t329.2.2.bytes] 89 (0, 0))], [(b111, .cells #[.int .i64 t106.1.Address, .int .i64 t106.1.Instance] 34 (0, 0))]] at S449
                          have S450 := S449.front 4 rfl
                          change St _ _ _ [[(p39, .cells #[.int .i64 t329.2.2.config.Clients, .int .i64 t329.2.2.config.Entries, .int .i64 t329.2.2.config.Bytes, .int .i64 t329.2.2.config.Reserve, .map (some b340), .int .i64 t329.2.2.entries, .int .i64 t329.2.2.bytes] 89 (0, 0))], [(b17, .cells #[.int .i64 t12.Clients, .int .i64 t12.Entries, .int .i64 t12.Bytes, .int .i64 t12.Reserve] 26 (0, 0))], G441, G341, [(b430, .cells #[.int .i64 t106.1.Address, .int .i64 t106.1.Instance, .int .i64 t106.2.1, .bool false, .string (bs ([] : List UInt8))] 40 (0, 0))], [(b111, .cells #[.int .i64 t106.1.Address, .int .i64 t106.1.Instance] 34 (0, 0))]] at S450
                          have S451 := St.keep (As := [[(p39, .cells #[.int .i64 t329.2.2.config.Clients, .int .i64 t329.2.2.config.Entries, .int .i64 t329.2.2.config.Bytes, .int .i64 t329.2.2.config.Reserve, .map (some b340), .int .i64 t329.2.2.entries, .int .i64 t329.2.2.bytes] 89 (0, 0))], [(b17, .cells #[.int .i64 t12.Clients, .int .i64 t12.Entries, .int .i64 t12.Bytes, .int .i64 t12.Reserve] 26 (0, 0))], G441, G341]) S450
                          refine WEx.again _ _ (by omega) ?_ ⟨A439, c440, l436, G441, t418, w64 (x58 + 1), t329.2.2.config.Clients, t329.2.2.config.Entries, t329.2.2.config.Bytes, t329.2.2.config.Reserve, b340, t329.2.2.clients, G341, t329.2.2.entries, t329.2.2.bytes, rfl, hF, hO444, hO342, S451⟩
                          exact ⟨rfl, rfl, rfl, rfl, rfl, rfl, trivial⟩
                  ·
                    refine WCode.cond_f (kb (b := decide (t329.1 = 1)) rfl (decide_eq_false h426)) ?_
                    refine WCode.cutseq (fun l_ w_ => ∃ q455 : Nat, ∃ b452 : Bool, l_ = [(1, .slice A1 a1.length c1), (6, .pointer (some ⟨b17, 0, none⟩)), (7, .pointer (some ⟨p39, 0, none⟩)), (9, .slice A52 l54.length c53), (10, .int .i64 t418), (11, .int .i64 x58), (14, .int .i64 t106.2.1), (15, .int .i64 t106.2.2), (16, .int .i64 x120), (20, .int .i64 t329.1), (21, .string (bs t329.2.1)), (22, .int .i64 t345), (155, .pointer (some ⟨p39, 0, none⟩)), (156, .int .i64 x351), (157, .int .i64 x57), (158, .bool b352), (161, .pointer (some ⟨p39, 0, none⟩)), (162, .int .i64 x353), (163, .pointer (some ⟨b17, 0, none⟩)), (164, .int .i64 t12.Clients), (165, .bool b354), (168, .pointer (some ⟨p39, 0, none⟩)), (169, .int .i64 x355), (170, .pointer (some ⟨b17, 2, none⟩)), (171, .int .i64 t12.Bytes), (172, .bool b356), (175, .pointer (some ⟨p39, 0, none⟩)), (176, .int .i64 x357), (177, .pointer (some ⟨p39, 0, none⟩)), (178, .int .i64 x358), (179, .pointer (some ⟨b17, 1, none⟩)), (180, .int .i64 t12.Entries), (181, .int .i64 x359), (182, .bool b360), (185, .int .i64 t329.1), (186, .bool (!(decide (t329.1 = 3)))), (187, .bool (!(decide (t329.1 = 3)))), (190, .bool b361), (194, .int .i64 t329.1), (215, .bool b452)] ∧ law_Once.j6 q455 a1 t12 l54 x57 x58 t106 x120 t329 t345 x351 b352 x353 b354 x355 b356 x357 x358 x359 b360 b361 t418 b452 = some r_ ∧ q455 ≤ k417 ∧ St w (KS []) w_ [[(p39, .cells #[.int .i64 t329.2.2.config.Clients, .int .i64 t329.2.2.config.Entries, .int .i64 t329.2.2.config.Bytes, .int .i64 t329.2.2.config.Reserve, .map (some b340), .int .i64 t329.2.2.entries, .int .i64 t329.2.2.bytes] 89 (0, 0))], [(b17, .cells #[.int .i64 t12.Clients, .int .i64 t12.Entries, .int .i64 t12.Bytes, .int .i64 t12.Reserve] 26 (0, 0))], G55, G341]) ?_ ?_
                    ·
                      refine WCode.seq ?_
                      refine WCode.region ?_
                      refine WOps.p (G.eql rfl rfl rfl) rfl ?_
                      refine WOps.p (G.assign rfl) rfl ?_
                      refine WOps.nil ?_
                      refine WEx.then_ ?_
                      rcases ite_some hF with ⟨h457, hF⟩ | ⟨h457, hF⟩
                      ·
                        refine WCode.cond_t (kb (b := decide (t329.1 = 2)) rfl (decide_eq_true h457)) ?_
                        refine WCode.skip ?_
                        have S458 := S425.front 1 rfl
                        change St _ _ _ [G341, [(p39, .cells #[.int .i64 t329.2.2.config.Clients, .int .i64 t329.2.2.config.Entries, .int .i64 t329.2.2.config.Bytes, .int .i64 t329.2.2.config.Reserve, .map (some b340), .int .i64 t329.2.2.entries, .int .i64 t329.2.2.bytes] 89 (0, 0))], [(b111, .cells #[.int .i64 t106.1.Address, .int .i64 t106.1.Instance] 34 (0, 0))], [(b17, .cells #[.int .i64 t12.Clients, .int .i64 t12.Entries, .int .i64 t12.Bytes, .int .i64 t12.Reserve] 26 (0, 0))], G55] at S458
                        have S459 := S458.front 4 rfl
                        change St _ _ _ [G55, G341, [(p39, .cells #[.int .i64 t329.2.2.config.Clients, .int .i64 t329.2.2.config.Entries, .int .i64 t329.2.2.config.Bytes, .int .i64 t329.2.2.config.Reserve, .map (some b340), .int .i64 t329.2.2.entries, .int .i64 t329.2.2.bytes] 89 (0, 0))], [(b111, .cells #[.int .i64 t106.1.Address, .int .i64 t106.1.Instance] 34 (0, 0))], [(b17, .cells #[.int .i64 t12.Clients, .int .i64 t12.Entries, .int .i64 t12.Bytes, .int .i64 t12.Reserve] 26 (0, 0))]] at S459
                        have S460 := S459.front 4 rfl
                        change St _ _ _ [[(b17, .cells #[.int .i64 t12.Clients, .int .i64 t12.Entries, .int .i64 t12.Bytes, .int .i64 t12.Reserve] 26 (0, 0))], G55, G341, [(p39, .cells #[.int .i64 t329.2.2.config.Clients, .int .i64 t329.2.2.config.Entries, .int .i64 t329.2.2.config.Bytes, .int .i64 t329.2.2.config.Reserve, .map (some b340), .int .i64 t329.2.2.entries, .int .i64 t329.2.2.bytes] 89 (0, 0))], [(b111, .cells #[.int .i64 t106.1.Address, .int .i64 t106.1.Instance] 34 (0, 0))]] at S460
                        have S461 := S460.front 3 rfl
                        change St _ _ _ [[(p39, .cells #[.int .i64 t329.2.2.config.Clients, .int .i64 t329.2.2.config.Entries, .int .i64 t329.2.2.config.Bytes, .int .i64 t329.2.2.config.Reserve, .map (some b340), .int .i64 t329.2.2.entries, .int .i64 t329.2.2.bytes] 89 (0, 0))], [(b17, .cells #[.int .i64 t12.Clients, .int .i64 t12.Entries, .int .i64 t12.Bytes, .int .i64 t12.Reserve] 26 (0, 0))], G55, G341, [(b111, .cells #[.int .i64 t106.1.Address, .int .i64 t106.1.Instance] 34 (0, 0))]] at S461
                        have S462 := St.keep (As := [[(p39, .cells #[.int .i64 t329.2.2.config.Clients, .int .i64 t329.2.2.config.Entries, .int .i64 t329.2.2.config.Bytes, .int .i64 t329.2.2.config.Reserve, .map (some b340), .int .i64 t329.2.2.entries, .int .i64 t329.2.2.bytes] 89 (0, 0))], [(b17, .cells #[.int .i64 t12.Clients, .int .i64 t12.Entries, .int .i64 t12.Bytes, .int .i64 t12.Reserve] 26 (0, 0))], G55, G341]) S461
                        refine WEx.cutend _ ?_ ⟨k417, decide (t329.1 = 2), rfl, hF, (by omega), S462⟩
                        exact ⟨rfl, rfl, rfl, rfl, rfl, rfl, rfl, rfl, rfl, rfl, rfl, rfl, rfl, rfl, rfl, rfl, rfl, rfl, rfl, rfl, rfl, rfl, rfl, rfl, rfl, rfl, rfl, rfl, rfl, rfl, rfl, rfl, rfl, rfl, rfl, rfl, rfl, rfl, rfl, rfl, trivial⟩
                      ·
                        refine WCode.cond_f (kb (b := decide (t329.1 = 2)) rfl (decide_eq_false h457)) ?_
                        refine WCode.region ?_
                        refine WOps.p (G.eql rfl rfl rfl) rfl ?_
                        refine WOps.p (G.assign rfl) rfl ?_
                        refine WOps.nil ?_
                        have S463 := S425.front 1 rfl
                        change St _ _ _ [G341, [(p39, .cells #[.int .i64 t329.2.2.config.Clients, .int .i64 t329.2.2.config.Entries, .int .i64 t329.2.2.config.Bytes, .int .i64 t329.2.2.config.Reserve, .map (some b340), .int .i64 t329.2.2.entries, .int .i64 t329.2.2.bytes] 89 (0, 0))], [(b111, .cells #[.int .i64 t106.1.Address, .int .i64 t106.1.Instance] 34 (0, 0))], [(b17, .cells #[.int .i64 t12.Clients, .int .i64 t12.Entries, .int .i64 t12.Bytes, .int .i64 t12.Reserve] 26 (0, 0))], G55] at S463
                        have S464 := S463.front 4 rfl
                        change St _ _ _ [G55, G341, [(p39, .cells #[.int .i64 t329.2.2.config.Clients, .int .i64 t329.2.2.config.Entries, .int .i64 t329.2.2.config.Bytes, .int .i64 t329.2.2.config.Reserve, .map (some b340), .int .i64 t329.2.2.entries, .int .i64 t329.2.2.bytes] 89 (0, 0))], [(b111, .cells #[.int .i64 t106.1.Address, .int .i64 t106.1.Instance] 34 (0, 0))], [(b17, .cells #[.int .i64 t12.Clients, .int .i64 t12.Entries, .int .i64 t12.Bytes, .int .i64 t12.Reserve] 26 (0, 0))]] at S464
                        have S465 := S464.front 4 rfl
                        change St _ _ _ [[(b17, .cells #[.int .i64 t12.Clients, .int .i64 t12.Entries, .int .i64 t12.Bytes, .int .i64 t12.Reserve] 26 (0, 0))], G55, G341, [(p39, .cells #[.int .i64 t329.2.2.config.Clients, .int .i64 t329.2.2.config.Entries, .int .i64 t329.2.2.config.Bytes, .int .i64 t329.2.2.config.Reserve, .map (some b340), .int .i64 t329.2.2.entries, .int .i64 t329.2.2.bytes] 89 (0, 0))], [(b111, .cells #[.int .i64 t106.1.Address, .int .i64 t106.1.Instance] 34 (0, 0))]] at S465
                        have S466 := S465.front 3 rfl
                        change St _ _ _ [[(p39, .cells #[.int .i64 t329.2.2.config.Clients, .int .i64 t329.2.2.config.Entries, .int .i64 t329.2.2.config.Bytes, .int .i64 t329.2.2.config.Reserve, .map (some b340), .int .i64 t329.2.2.entries, .int .i64 t329.2.2.bytes] 89 (0, 0))], [(b17, .cells #[.int .i64 t12.Clients, .int .i64 t12.Entries, .int .i64 t12.Bytes, .int .i64 t12.Reserve] 26 (0, 0))], G55, G341, [(b111, .cells #[.int .i64 t106.1.Address, .int .i64 t106.1.Instance] 34 (0, 0))]] at S466
                        have S467 := St.keep (As := [[(p39, .cells #[.int .i64 t329.2.2.config.Clients, .int .i64 t329.2.2.config.Entries, .int .i64 t329.2.2.config.Bytes, .int .i64 t329.2.2.config.Reserve, .map (some b340), .int .i64 t329.2.2.entries, .int .i64 t329.2.2.bytes] 89 (0, 0))], [(b17, .cells #[.int .i64 t12.Clients, .int .i64 t12.Entries, .int .i64 t12.Bytes, .int .i64 t12.Reserve] 26 (0, 0))], G55, G341]) S466
                        refine WEx.cutend _ ?_ ⟨k417, decide (t329.1 = 3), rfl, hF, (by omega), S467⟩
                        exact ⟨rfl, rfl, rfl, rfl, rfl, rfl, rfl, rfl, rfl, rfl, rfl, rfl, rfl, rfl, rfl, rfl, rfl, rfl, rfl, rfl, rfl, rfl, rfl, rfl, rfl, rfl, rfl, rfl, rfl, rfl, rfl, rfl, rfl, rfl, rfl, rfl, rfl, rfl, rfl, rfl, trivial⟩
                    ·
                      rintro _ w453 ⟨q455, b452, rfl, hF, hq456, S454⟩
                      obtain _ | k468 := q455
                      · exact nomatch (show (none : Option Bool) = some r_ from hF)
                      rw [law_Once.j6] at hF
                      rcases ite_some hF with ⟨h469, hF⟩ | ⟨h469, hF⟩
                      ·
                        refine WCode.cond_t (kb (b := b452) rfl h469) ?_
                        refine WCode.seq ?_
                        refine WCode.region ?_
                        refine WOps.p (G.move rfl) rfl ?_
                        refine WOps.p (G.lss rfl rfl rfl) rfl ?_
                        refine WOps.p (G.move rfl) rfl ?_
                        rcases ite_some hF with ⟨h470, hF⟩ | ⟨h470, hF⟩
                        ·
                          refine WOps.off rfl (kbl (b := decide (x120 < 0)) rfl (decide_eq_true h470)) rfl rfl ?_
                          refine WOps.off rfl (kbl (b := decide (x120 < 0)) rfl (decide_eq_true h470)) rfl rfl ?_
                          refine WOps.off rfl (kbl (b := decide (x120 < 0)) rfl (decide_eq_true h470)) rfl rfl ?_
                          refine WOps.off rfl (kbl (b := decide (x120 < 0)) rfl (decide_eq_true h470)) rfl rfl ?_
                          refine WOps.off rfl (kbl (b := decide (x120 < 0)) rfl (decide_eq_true h470)) rfl rfl ?_
                          refine WOps.off rfl (kbl (b := decide (x120 < 0)) rfl (decide_eq_true h470)) rfl rfl ?_
                          refine WOps.off rfl (kbl (b := decide (x120 < 0)) rfl (decide_eq_true h470)) rfl rfl ?_
                          refine WOps.off rfl (kbl (b := decide (x120 < 0)) rfl (decide_eq_true h470)) rfl rfl ?_
                          refine WOps.p (G.pick_t (kb (b := decide (x120 < 0)) rfl (decide_eq_true h470)) rfl) rfl ?_
                          refine WOps.p (G.move rfl) rfl ?_
                          refine WOps.off rfl rfl rfl rfl ?_
                          refine WOps.off rfl rfl rfl rfl ?_
                          refine WOps.off rfl rfl rfl rfl ?_
                          refine WOps.off rfl rfl rfl rfl ?_
                          refine WOps.off rfl rfl rfl rfl ?_
                          refine WOps.off rfl rfl rfl rfl ?_
                          refine WOps.off rfl rfl rfl rfl ?_
                          refine WOps.p (G.pick_t rfl rfl) rfl ?_
                          refine WOps.p (G.move rfl) rfl ?_
                          refine WOps.off rfl rfl rfl rfl ?_
                          refine WOps.off rfl rfl rfl rfl ?_
                          refine WOps.off rfl rfl rfl rfl ?_
                          refine WOps.p (G.pick_t rfl rfl) rfl ?_
                          refine WOps.nil ?_
                          refine WEx.then_ ?_
                          refine WCode.forget (l' := [(1, .slice A1 a1.length c1), (6, .pointer (some ⟨b17, 0, none⟩)), (7, .pointer (some ⟨p39, 0, none⟩)), (9, .slice A52 l54.length c53), (10, .int .i64 t418), (11, .int .i64 x58), (155, .pointer (some ⟨p39, 0, none⟩)), (156, .int .i64 x351), (157, .int .i64 x57), (158, .bool b352), (161, .pointer (some ⟨p39, 0, none⟩)), (162, .int .i64 x353), (163, .pointer (some ⟨b17, 0, none⟩)), (164, .int .i64 t12.Clients), (165, .bool b354), (168, .pointer (some ⟨p39, 0, none⟩)), (169, .int .i64 x355), (170, .pointer (some ⟨b17, 2, none⟩)), (171, .int .i64 t12.Bytes), (172, .bool b356), (175, .pointer (some ⟨p39, 0, none⟩)), (176, .int .i64 x357), (177, .pointer (some ⟨p39, 0, none⟩)), (178, .int .i64 x358), (179, .pointer (some ⟨b17, 1, none⟩)), (180, .int .i64 t12.Entries), (181, .int .i64 x359), (182, .bool b360), (185, .int .i64 t329.1), (186, .bool (!(decide (t329.1 = 3)))), (187, .bool (!(decide (t329.1 = 3)))), (190, .bool b361), (221, undef), (222, undef), (223, undef), (224, undef), (225, undef), (226, undef), (227, undef), (228, undef), (231, undef), (232, undef), (233, undef), (234, undef), (235, undef), (236, undef), (237, undef), (240, undef), (241, undef), (242, undef), (243, .bool true)]) ⟨rfl, rfl, rfl, rfl, rfl, rfl, rfl, rfl, rfl, rfl, rfl, rfl, rfl, rfl, rfl, rfl, rfl, rfl, rfl, rfl, rfl, rfl, rfl, rfl, rfl, rfl, rfl, rfl, rfl, rfl, rfl, rfl, rfl, rfl, rfl, rfl, rfl, rfl, rfl, rfl, rfl, rfl, rfl, rfl, rfl, rfl, rfl, rfl, rfl, rfl, rfl, trivial⟩ ?_
                          refine WCode.cond_t rfl ?_
                          refine WCode.seq ?_
                          refine WCode.region ?_
                          refine WOps.p (G.assign rfl) rfl ?_
                          refine WOps.nil ?_
                          refine WEx.then_ ?_
                          refine WCode.forget (l' := [(4, .bool false)]) ⟨rfl, trivial⟩ ?_
                          refine WCode.ret ?_
                          refine WEx.in_ret ?_
                          refine WEx.in_ret ?_
                          refine WEx.then_ret ?_
                          refine WEx.then_ret ?_
                          refine WEx.in_ret ?_
                          refine WEx.then_ret ?_
                          obtain rfl := some_eq hF
                          refine WEx.ret1 rfl rfl ?_
                          exact ⟨rfl, St.keep (As := []) S454⟩
                        ·
                          refine WOps.on rfl (kbl (b := decide (x120 < 0)) rfl (decide_eq_false h470)) ?_
                          refine WOps.p (G.move rfl) rfl ?_
                          refine WOps.on rfl (kbl (b := decide (x120 < 0)) rfl (decide_eq_false h470)) ?_
                          refine WOps.p (G.move rfl) rfl ?_
                          refine WOps.on rfl (kbl (b := decide (x120 < 0)) rfl (decide_eq_false h470)) ?_
                          obtain ⟨x471, hc472, hF⟩ := bind_some hF
                          obtain ⟨j473, ej474, hj475, hl476⟩ := idx_spec hc472
                          obtain ⟨b477, o478, cs479, eA480, hf481, hc482, hr483⟩ := SlR.at_ (hO56.rd (fun b o hb => S454.grp 2 rfl hb)) hj475
                          have hq484 : cs479 = [.int .i64 x471.w.Address, .int .i64 x471.w.Instance, .int .i64 x471.sequence, .bool x471.done, .string (bs x471.reply)] := hr483
                          subst hq484
                          change cellsAt _ _ (o478 + j473 * 5) [.int .i64 x471.w.Address, .int .i64 x471.w.Instance, .int .i64 x471.sequence, .bool x471.done, .string (bs x471.reply)] at hc482
                          refine WOps.p (G.idx T.el32 rfl eA480 rfl ej474 hl476) rfl ?_
                          refine WOps.on rfl (kbl (b := decide (x120 < 0)) rfl (decide_eq_false h470)) ?_
                          refine WOps.p (G.field T.fld40_2 rfl (show o478 + j473 * 5 + 3 = o478 + j473 * 5 + 3 from rfl)) rfl ?_
                          refine WOps.on rfl (kbl (b := decide (x120 < 0)) rfl (decide_eq_false h470)) ?_
                          refine WOps.r (G.load1 T.one4 rfl (cellsAt.at hc482 3 rfl)) rfl ?_
                          refine WOps.on rfl (kbl (b := decide (x120 < 0)) rfl (decide_eq_false h470)) ?_
                          refine WOps.p (G.move rfl) rfl ?_
                          refine WOps.on rfl (kbl (b := decide (x120 < 0)) rfl (decide_eq_false h470)) ?_
                          refine WOps.p (G.eql rfl rfl rfl) rfl ?_
                          refine WOps.on rfl (kbl (b := decide (x120 < 0)) rfl (decide_eq_false h470)) ?_
                          refine WOps.p (G.neqb Try.underlying4 rfl rfl rfl) rfl ?_
                          refine WOps.p (G.pick_f (kb (b := decide (x120 < 0)) rfl (decide_eq_false h470)) rfl) rfl ?_
                          refine WOps.p (G.move rfl) rfl ?_
                          rcases ite_some hF with ⟨h485, hF⟩ | ⟨h485, hF⟩
                          ·
                            refine WOps.on rfl (kbl (b := !(x471.done == (decide (t329.1 = 3)))) rfl (show (!(x471.done == (decide (t329.1 = 3)))) = false from by rw [h485]; rfl)) ?_
                            refine WOps.p (G.move rfl) rfl ?_
                            refine WOps.on rfl (kbl (b := !(x471.done == (decide (t329.1 = 3)))) rfl (show (!(x471.done == (decide (t329.1 = 3)))) = false from by rw [h485]; rfl)) ?_
                            refine WOps.p (G.move rfl) rfl ?_
                            refine WOps.on rfl (kbl (b := !(x471.done == (decide (t329.1 = 3)))) rfl (show (!(x471.done == (decide (t329.1 = 3)))) = false from by rw [h485]; rfl)) ?_
                            refine WOps.p (G.move rfl) rfl ?_
                            refine WOps.on rfl (kbl (b := !(x471.done == (decide (t329.1 = 3)))) rfl (show (!(x471.done == (decide (t329.1 = 3)))) = false from by rw [h485]; rfl)) ?_
                            obtain ⟨x486, hc487, hF⟩ := bind_some hF
                            obtain ⟨j488, ej489, hj490, hl491⟩ := idx_spec hc487
                            obtain ⟨b492, o493, cs494, eA495, hf496, hc497, hr498⟩ := SlR.at_ (hO56.rd (fun b o hb => S454.grp 2 rfl hb)) hj490
                            have hq499 : cs494 = [.int .i64 x486.w.Address, .int .i64 x486.w.Instance, .int .i64 x486.sequence, .bool x486.done, .string (bs x486.reply)] := hr498
                            subst hq499
                            change cellsAt _ _ (o493 + j488 * 5) [.int .i64 x486.w.Address, .int .i64 x486.w.Instance, .int .i64 x486.sequence, .bool x486.done, .string (bs x486.reply)] at hc497
                            refine WOps.p (G.idx T.el32 rfl eA495 rfl ej489 hl491) rfl ?_
                            refine WOps.on rfl (kbl (b := !(x471.done == (decide (t329.1 = 3)))) rfl (show (!(x471.done == (decide (t329.1 = 3)))) = false from by rw [h485]; rfl)) ?_
                            refine WOps.p (G.field T.fld40_3 rfl (show o493 + j488 * 5 + 4 = o493 + j488 * 5 + 4 from rfl)) rfl ?_
                            refine WOps.on rfl (kbl (b := !(x471.done == (decide (t329.1 = 3)))) rfl (show (!(x471.done == (decide (t329.1 = 3)))) = false from by rw [h485]; rfl)) ?_
                            refine WOps.r (G.load1 T.one9 rfl (cellsAt.at hc497 4 rfl)) rfl ?_
                            refine WOps.on rfl (kbl (b := !(x471.done == (decide (t329.1 = 3)))) rfl (show (!(x471.done == (decide (t329.1 = 3)))) = false from by rw [h485]; rfl)) ?_
                            refine WOps.p (G.neqlb' rfl rfl rfl) rfl ?_
                            refine WOps.p (G.pick_f (kb (b := !(x471.done == (decide (t329.1 = 3)))) rfl (show (!(x471.done == (decide (t329.1 = 3)))) = false from by rw [h485]; rfl)) rfl) rfl ?_
                            refine WOps.p (G.move rfl) rfl ?_
                            rcases ite_some hF with ⟨h500, hF⟩ | ⟨h500, hF⟩
                            ·
                              refine WOps.on rfl (kbl (b := !(decide (t329.2.1 = x486.reply))) rfl (show (!(decide (t329.2.1 = x486.reply))) = false from by rw [(decide_eq_true h500)]; rfl)) ?_
                              refine WOps.p (G.move rfl) rfl ?_
                              refine WOps.on rfl (kbl (b := !(decide (t329.2.1 = x486.reply))) rfl (show (!(decide (t329.2.1 = x486.reply))) = false from by rw [(decide_eq_true h500)]; rfl)) ?_
                              refine WOps.p (G.move rfl) rfl ?_
                              refine WOps.on rfl (kbl (b := !(decide (t329.2.1 = x486.reply))) rfl (show (!(decide (t329.2.1 = x486.reply))) = false from by rw [(decide_eq_true h500)]; rfl)) ?_
                              refine WOps.p (G.lss rfl rfl rfl) rfl ?_
                              refine WOps.p (G.pick_f (kb (b := !(decide (t329.2.1 = x486.reply))) rfl (show (!(decide (t329.2.1 = x486.reply))) = false from by rw [(decide_eq_true h500)]; rfl)) rfl) rfl ?_
                              refine WOps.nil ?_
                              refine WEx.then_ ?_
                              refine WCode.forget (l' := [(1, .slice A1 a1.length c1), (6, .pointer (some ⟨b17, 0, none⟩)), (7, .pointer (some ⟨p39, 0, none⟩)), (9, .slice A52 l54.length c53), (10, .int .i64 t418), (11, .int .i64 x58), (155, .pointer (some ⟨p39, 0, none⟩)), (156, .int .i64 x351), (157, .int .i64 x57), (158, .bool b352), (161, .pointer (some ⟨p39, 0, none⟩)), (162, .int .i64 x353), (163, .pointer (some ⟨b17, 0, none⟩)), (164, .int .i64 t12.Clients), (165, .bool b354), (168, .pointer (some ⟨p39, 0, none⟩)), (169, .int .i64 x355), (170, .pointer (some ⟨b17, 2, none⟩)), (171, .int .i64 t12.Bytes), (172, .bool b356), (175, .pointer (some ⟨p39, 0, none⟩)), (176, .int .i64 x357), (177, .pointer (some ⟨p39, 0, none⟩)), (178, .int .i64 x358), (179, .pointer (some ⟨b17, 1, none⟩)), (180, .int .i64 t12.Entries), (181, .int .i64 x359), (182, .bool b360), (185, .int .i64 t329.1), (186, .bool (!(decide (t329.1 = 3)))), (187, .bool (!(decide (t329.1 = 3)))), (190, .bool b361), (221, .slice A52 l54.length c53), (222, .int .i64 x120), (223, .pointer (some ⟨b477, o478 + j473 * 5, none⟩)), (224, .pointer (some ⟨b477, o478 + j473 * 5 + 3, none⟩)), (225, .bool x471.done), (226, .int .i64 t329.1), (227, .bool (decide (t329.1 = 3))), (228, .bool (!(x471.done == (decide (t329.1 = 3))))), (231, .string (bs t329.2.1)), (232, .slice A52 l54.length c53), (233, .int .i64 x120), (234, .pointer (some ⟨b492, o493 + j488 * 5, none⟩)), (235, .pointer (some ⟨b492, o493 + j488 * 5 + 4, none⟩)), (236, .string (bs x486.reply)), (237, .bool (!(decide (t329.2.1 = x486.reply)))), (240, .int .i64 t106.2.1), (241, .int .i64 t345), (242, .bool (decide (t106.2.1 < t345))), (243, .bool (decide (t106.2.1 < t345)))]) ⟨rfl, rfl, rfl, rfl, rfl, rfl, rfl, rfl, rfl, rfl, rfl, rfl, rfl, rfl, rfl, rfl, rfl, rfl, rfl, rfl, rfl, rfl, rfl, rfl, rfl, rfl, rfl, rfl, rfl, rfl, rfl, rfl, rfl, rfl, rfl, rfl, rfl, rfl, rfl, rfl, rfl, rfl, rfl, rfl, rfl, rfl, rfl, rfl, rfl, rfl, rfl, trivial⟩ ?_
                              rcases ite_some hF with ⟨h501, hF⟩ | ⟨h501, hF⟩
                              ·
                                refine WCode.cond_t (kb (b := decide (t106.2.1 < t345)) rfl (decide_eq_true h501)) ?_
                                refine WCode.seq ?_
                                refine WCode.region ?_
                                refine WOps.p (G.assign rfl) rfl ?_
                                refine WOps.nil ?_
                                refine WEx.then_ ?_
                                refine WCode.forget (l' := [(4, .bool false)]) ⟨rfl, trivial⟩ ?_
                                refine WCode.ret ?_
                                refine WEx.in_ret ?_
                                refine WEx.in_ret ?_
                                refine WEx.then_ret ?_
                                refine WEx.then_ret ?_
                                refine WEx.in_ret ?_
                                refine WEx.then_ret ?_
                                obtain rfl := some_eq hF
                                refine WEx.ret1 rfl rfl ?_
                                exact ⟨rfl, St.keep (As := []) S454⟩
                              ·
                                refine WCode.cond_f (kb (b := decide (t106.2.1 < t345)) rfl (decide_eq_false h501)) ?_
                                refine WCode.skip ?_
                                refine WEx.in_normal ?_
                                refine WEx.in_normal ?_
                                refine WEx.then_ ?_
                                refine WCode.region ?_
                                refine WOps.p (G.move rfl) rfl ?_
                                refine WOps.p (G.add rfl rfl (r := (w64 (x58 + 1))) rfl) rfl ?_
                                refine WOps.p (G.assign rfl) rfl ?_
                                refine WOps.nil ?_
                                refine WEx.again _ _ (by omega) ?_ ⟨A52, c53, l54, G55, t418, w64 (x58 + 1), t329.2.2.config.Clients, t329.2.2.config.Entries, t329.2.2.config.Bytes, t329.2.2.config.Reserve, b340, t329.2.2.clients, G341, t329.2.2.entries, t329.2.2.bytes, rfl, hF, hO56, hO342, S454⟩
                                exact ⟨rfl, rfl, rfl, rfl, rfl, rfl, trivial⟩
                            ·
                              refine WOps.off rfl (kbl (b := !(decide (t329.2.1 = x486.reply))) rfl (show (!(decide (t329.2.1 = x486.reply))) = true from by rw [(decide_eq_false h500)]; rfl)) rfl rfl ?_
                              refine WOps.off rfl (kbl (b := !(decide (t329.2.1 = x486.reply))) rfl (show (!(decide (t329.2.1 = x486.reply))) = true from by rw [(decide_eq_false h500)]; rfl)) rfl rfl ?_
                              refine WOps.off rfl (kbl (b := !(decide (t329.2.1 = x486.reply))) rfl (show (!(decide (t329.2.1 = x486.reply))) = true from by rw [(decide_eq_false h500)]; rfl)) rfl rfl ?_
                              refine WOps.p (G.pick_t (kb (b := !(decide (t329.2.1 = x486.reply))) rfl (show (!(decide (t329.2.1 = x486.reply))) = true from by rw [(decide_eq_false h500)]; rfl)) rfl) rfl ?_
                              refine WOps.nil ?_
                              refine WEx.then_ ?_
                              refine WCode.forget (l' := [(1, .slice A1 a1.length c1), (6, .pointer (some ⟨b17, 0, none⟩)), (7, .pointer (some ⟨p39, 0, none⟩)), (9, .slice A52 l54.length c53), (10, .int .i64 t418), (11, .int .i64 x58), (155, .pointer (some ⟨p39, 0, none⟩)), (156, .int .i64 x351), (157, .int .i64 x57), (158, .bool b352), (161, .pointer (some ⟨p39, 0, none⟩)), (162, .int .i64 x353), (163, .pointer (some ⟨b17, 0, none⟩)), (164, .int .i64 t12.Clients), (165, .bool b354), (168, .pointer (some ⟨p39, 0, none⟩)), (169, .int .i64 x355), (170, .pointer (some ⟨b17, 2, none⟩)), (171, .int .i64 t12.Bytes), (172, .bool b356), (175, .pointer (some ⟨p39, 0, none⟩)), (176, .int .i64 x357), (177, .pointer (some ⟨p39, 0, none⟩)), (178, .int .i64 x358), (179, .pointer (some ⟨b17, 1, none⟩)), (180, .int .i64 t12.Entries), (181, .int .i64 x359), (182, .bool b360), (185, .int .i64 t329.1), (186, .bool (!(decide (t329.1 = 3)))), (187, .bool (!(decide (t329.1 = 3)))), (190, .bool b361), (221, .slice A52 l54.length c53), (222, .int .i64 x120), (223, .pointer (some ⟨b477, o478 + j473 * 5, none⟩)), (224, .pointer (some ⟨b477, o478 + j473 * 5 + 3, none⟩)), (225, .bool x471.done), (226, .int .i64 t329.1), (227, .bool (decide (t329.1 = 3))), (228, .bool (!(x471.done == (decide (t329.1 = 3))))), (231, .string (bs t329.2.1)), (232, .slice A52 l54.length c53), (233, .int .i64 x120), (234, .pointer (some ⟨b492, o493 + j488 * 5, none⟩)), (235, .pointer (some ⟨b492, o493 + j488 * 5 + 4, none⟩)), (236, .string (bs x486.reply)), (237, .bool (!(decide (t329.2.1 = x486.reply)))), (240, undef), (241, undef), (242, undef), (243, .bool true)]) ⟨rfl, rfl, rfl, rfl, rfl, rfl, rfl, rfl, rfl, rfl, rfl, rfl, rfl, rfl, rfl, rfl, rfl, rfl, rfl, rfl, rfl, rfl, rfl, rfl, rfl, rfl, rfl, rfl, rfl, rfl, rfl, rfl, rfl, rfl, rfl, rfl, rfl, rfl, rfl, rfl, rfl, rfl, rfl, rfl, rfl, rfl, rfl, rfl, rfl, rfl, rfl, trivial⟩ ?_
                              refine WCode.cond_t rfl ?_
                              refine WCode.seq ?_
                              refine WCode.region ?_
                              refine WOps.p (G.assign rfl) rfl ?_
                              refine WOps.nil ?_
                              refine WEx.then_ ?_
                              refine WCode.forget (l' := [(4, .bool false)]) ⟨rfl, trivial⟩ ?_
                              refine WCode.ret ?_
                              refine WEx.in_ret ?_
                              refine WEx.in_ret ?_
                              refine WEx.then_ret ?_
                              refine WEx.then_ret ?_
                              refine WEx.in_ret ?_
                              refine WEx.then_ret ?_
                              obtain rfl := some_eq hF
                              refine WEx.ret1 rfl rfl ?_
                              exact ⟨rfl, St.keep (As := []) S454⟩
                          ·
                            refine WOps.off rfl (kbl (b := !(x471.done == (decide (t329.1 = 3)))) rfl (show (!(x471.done == (decide (t329.1 = 3)))) = true from by rw [(Bool.eq_false_iff.2 h485)]; rfl)) rfl rfl ?_
                            refine WOps.off rfl (kbl (b := !(x471.done == (decide (t329.1 = 3)))) rfl (show (!(x471.done == (decide (t329.1 = 3)))) = true from by rw [(Bool.eq_false_iff.2 h485)]; rfl)) rfl rfl ?_
                            refine WOps.off rfl (kbl (b := !(x471.done == (decide (t329.1 = 3)))) rfl (show (!(x471.done == (decide (t329.1 = 3)))) = true from by rw [(Bool.eq_false_iff.2 h485)]; rfl)) rfl rfl ?_
                            refine WOps.off rfl (kbl (b := !(x471.done == (decide (t329.1 = 3)))) rfl (show (!(x471.done == (decide (t329.1 = 3)))) = true from by rw [(Bool.eq_false_iff.2 h485)]; rfl)) rfl rfl ?_
                            refine WOps.off rfl (kbl (b := !(x471.done == (decide (t329.1 = 3)))) rfl (show (!(x471.done == (decide (t329.1 = 3)))) = true from by rw [(Bool.eq_false_iff.2 h485)]; rfl)) rfl rfl ?_
                            refine WOps.off rfl (kbl (b := !(x471.done == (decide (t329.1 = 3)))) rfl (show (!(x471.done == (decide (t329.1 = 3)))) = true from by rw [(Bool.eq_false_iff.2 h485)]; rfl)) rfl rfl ?_
                            refine WOps.off rfl (kbl (b := !(x471.done == (decide (t329.1 = 3)))) rfl (show (!(x471.done == (decide (t329.1 = 3)))) = true from by rw [(Bool.eq_false_iff.2 h485)]; rfl)) rfl rfl ?_
                            refine WOps.p (G.pick_t (kb (b := !(x471.done == (decide (t329.1 = 3)))) rfl (show (!(x471.done == (decide (t329.1 = 3)))) = true from by rw [(Bool.eq_false_iff.2 h485)]; rfl)) rfl) rfl ?_
                            refine WOps.p (G.move rfl) rfl ?_
                            refine WOps.off rfl rfl rfl rfl ?_
                            refine WOps.off rfl rfl rfl rfl ?_
                            refine WOps.off rfl rfl rfl rfl ?_
                            refine WOps.p (G.pick_t rfl rfl) rfl ?_
                            refine WOps.nil ?_
                            refine WEx.then_ ?_
                            refine WCode.forget (l' := [(1, .slice A1 a1.length c1), (6, .pointer (some ⟨b17, 0, none⟩)), (7, .pointer (some ⟨p39, 0, none⟩)), (9, .slice A52 l54.length c53), (10, .int .i64 t418), (11, .int .i64 x58), (155, .pointer (some ⟨p39, 0, none⟩)), (156, .int .i64 x351), (157, .int .i64 x57), (158, .bool b352), (161, .pointer (some ⟨p39, 0, none⟩)), (162, .int .i64 x353), (163, .pointer (some ⟨b17, 0, none⟩)), (164, .int .i64 t12.Clients), (165, .bool b354), (168, .pointer (some ⟨p39, 0, none⟩)), (169, .int .i64 x355), (170, .pointer (some ⟨b17, 2, none⟩)), (171, .int .i64 t12.Bytes), (172, .bool b356), (175, .pointer (some ⟨p39, 0, none⟩)), (176, .int .i64 x357), (177, .pointer (some ⟨p39, 0, none⟩)), (178, .int .i64 x358), (179, .pointer (some ⟨b17, 1, none⟩)), (180, .int .i64 t12.Entries), (181, .int .i64 x359), (182, .bool b360), (185, .int .i64 t329.1), (186, .bool (!(decide (t329.1 = 3)))), (187, .bool (!(decide (t329.1 = 3)))), (190, .bool b361), (221, .slice A52 l54.length c53), (222, .int .i64 x120), (223, .pointer (some ⟨b477, o478 + j473 * 5, none⟩)), (224, .pointer (some ⟨b477, o478 + j473 * 5 + 3, none⟩)), (225, .bool x471.done), (226, .int .i64 t329.1), (227, .bool (decide (t329.1 = 3))), (228, .bool (!(x471.done == (decide (t329.1 = 3))))), (231, undef), (232, undef), (233, undef), (234, undef), (235, undef), (236, undef), (237, undef), (240, undef), (241, undef), (242, undef), (243, .bool true)]) ⟨rfl, rfl, rfl, rfl, rfl, rfl, rfl, rfl, rfl, rfl, rfl, rfl, rfl, rfl, rfl, rfl, rfl, rfl, rfl, rfl, rfl, rfl, rfl, rfl, rfl, rfl, rfl, rfl, rfl, rfl, rfl, rfl, rfl, rfl, rfl, rfl, rfl, rfl, rfl, rfl, rfl, rfl, rfl, rfl, rfl, rfl, rfl, rfl, rfl, rfl, rfl, trivial⟩ ?_
                            refine WCode.cond_t rfl ?_
                            refine WCode.seq ?_
                            refine WCode.region ?_
                            refine WOps.p (G.assign rfl) rfl ?_
                            refine WOps.nil ?_
                            refine WEx.then_ ?_
                            refine WCode.forget (l' := [(4, .bool false)]) ⟨rfl, trivial⟩ ?_
                            refine WCode.ret ?_
                            refine WEx.in_ret ?_
                            refine WEx.in_ret ?_
                            refine WEx.then_ret ?_
                            refine WEx.then_ret ?_
                            refine WEx.in_ret ?_
                            refine WEx.then_ret ?_
                            obtain rfl := some_eq hF
                            refine WEx.ret1 rfl rfl ?_
                            exact ⟨rfl, St.keep (As := []) S454⟩
                      ·
                        refine WCode.cond_f (kb (b := b452) rfl (Bool.eq_false_iff.2 h469)) ?_
                        refine WCode.seq ?_
                        refine WCode.region ?_
                        refine WOps.p (G.eql rfl rfl rfl) rfl ?_
                        refine WOps.p (G.assign rfl) rfl ?_
                        refine WOps.nil ?_
                        refine WEx.then_ ?_
                        rcases ite_some hF with ⟨h502, hF⟩ | ⟨h502, hF⟩
                        ·
                          refine WCode.cond_t (kb (b := decide (t329.1 = 5)) rfl (decide_eq_true h502)) ?_
                          refine WCode.seq ?_
                          refine WCode.region ?_
                          refine WOps.p (G.move rfl) rfl ?_
                          refine WOps.p (G.geq rfl rfl rfl) rfl ?_
                          refine WOps.nil ?_
                          refine WEx.then_ ?_
                          refine WCode.forget (l' := [(1, .slice A1 a1.length c1), (6, .pointer (some ⟨b17, 0, none⟩)), (7, .pointer (some ⟨p39, 0, none⟩)), (9, .slice A52 l54.length c53), (10, .int .i64 t418), (11, .int .i64 x58), (155, .pointer (some ⟨p39, 0, none⟩)), (156, .int .i64 x351), (157, .int .i64 x57), (158, .bool b352), (161, .pointer (some ⟨p39, 0, none⟩)), (162, .int .i64 x353), (163, .pointer (some ⟨b17, 0, none⟩)), (164, .int .i64 t12.Clients), (165, .bool b354), (168, .pointer (some ⟨p39, 0, none⟩)), (169, .int .i64 x355), (170, .pointer (some ⟨b17, 2, none⟩)), (171, .int .i64 t12.Bytes), (172, .bool b356), (175, .pointer (some ⟨p39, 0, none⟩)), (176, .int .i64 x357), (177, .pointer (some ⟨p39, 0, none⟩)), (178, .int .i64 x358), (179, .pointer (some ⟨b17, 1, none⟩)), (180, .int .i64 t12.Entries), (181, .int .i64 x359), (182, .bool b360), (185, .int .i64 t329.1), (186, .bool (!(decide (t329.1 = 3)))), (187, .bool (!(decide (t329.1 = 3)))), (190, .bool b361), (247, .bool (decide (0 ≤ x120)))]) ⟨rfl, rfl, rfl, rfl, rfl, rfl, rfl, rfl, rfl, rfl, rfl, rfl, rfl, rfl, rfl, rfl, rfl, rfl, rfl, rfl, rfl, rfl, rfl, rfl, rfl, rfl, rfl, rfl, rfl, rfl, rfl, rfl, rfl, trivial⟩ ?_
                          rcases ite_some hF with ⟨h503, hF⟩ | ⟨h503, hF⟩
                          ·
                            refine WCode.cond_t (kb (b := decide (0 ≤ x120)) rfl (decide_eq_true h503)) ?_
                            refine WCode.seq ?_
                            refine WCode.region ?_
                            refine WOps.p (G.assign rfl) rfl ?_
                            refine WOps.nil ?_
                            refine WEx.then_ ?_
                            refine WCode.forget (l' := [(4, .bool false)]) ⟨rfl, trivial⟩ ?_
                            refine WCode.ret ?_
                            refine WEx.in_ret ?_
                            refine WEx.in_ret ?_
                            refine WEx.then_ret ?_
                            refine WEx.then_ret ?_
                            refine WEx.in_ret ?_
                            refine WEx.then_ret ?_
                            obtain rfl := some_eq hF
                            refine WEx.ret1 rfl rfl ?_
                            exact ⟨rfl, St.keep (As := []) S454⟩
                          ·
                            refine WCode.cond_f (kb (b := decide (0 ≤ x120)) rfl (decide_eq_false h503)) ?_
                            refine WCode.skip ?_
                            refine WEx.in_normal ?_
                            refine WEx.in_normal ?_
                            refine WEx.then_ ?_
                            refine WCode.region ?_
                            refine WOps.p (G.move rfl) rfl ?_
                            refine WOps.p (G.add rfl rfl (r := (w64 (x58 + 1))) rfl) rfl ?_
                            refine WOps.p (G.assign rfl) rfl ?_
                            refine WOps.nil ?_
                            refine WEx.again _ _ (by omega) ?_ ⟨A52, c53, l54, G55, t418, w64 (x58 + 1), t329.2.2.config.Clients, t329.2.2.config.Entries, t329.2.2.config.Bytes, t329.2.2.config.Reserve, b340, t329.2.2.clients, G341, t329.2.2.entries, t329.2.2.bytes, rfl, hF, hO56, hO342, S454⟩
                            exact ⟨rfl, rfl, rfl, rfl, rfl, rfl, trivial⟩
                        ·
                          refine WCode.cond_f (kb (b := decide (t329.1 = 5)) rfl (decide_eq_false h502)) ?_
                          refine WCode.seq ?_
                          refine WCode.region ?_
                          refine WOps.p (G.eql rfl rfl rfl) rfl ?_
                          refine WOps.p (G.assign rfl) rfl ?_
                          refine WOps.nil ?_
                          refine WEx.then_ ?_
                          rcases ite_some hF with ⟨h504, hF⟩ | ⟨h504, hF⟩
                          ·
                            refine WCode.cond_t (kb (b := decide (t329.1 = 4)) rfl (decide_eq_true h504)) ?_
                            refine WCode.seq ?_
                            refine WCode.region ?_
                            refine WOps.p (G.move rfl) rfl ?_
                            refine WOps.p (G.gtr rfl rfl rfl) rfl ?_
                            refine WOps.p (G.move rfl) rfl ?_
                            rcases ite_some hF with ⟨h505, hF⟩ | ⟨h505, hF⟩
                            ·
                              refine WOps.on rfl (kbl (b := decide (0 < t345)) rfl (decide_eq_true h505)) ?_
                              refine WOps.p (G.move rfl) rfl ?_
                              refine WOps.on rfl (kbl (b := decide (0 < t345)) rfl (decide_eq_true h505)) ?_
                              refine WOps.p (G.move rfl) rfl ?_
                              refine WOps.on rfl (kbl (b := decide (0 < t345)) rfl (decide_eq_true h505)) ?_
                              refine WOps.p (G.geq rfl rfl rfl) rfl ?_
                              refine WOps.p (G.pick_t (kb (b := decide (0 < t345)) rfl (decide_eq_true h505)) rfl) rfl ?_
                              refine WOps.p (G.move rfl) rfl ?_
                              rcases ite_some hF with ⟨h506, hF⟩ | ⟨h506, hF⟩
                              ·
                                refine WOps.on rfl (kbl (b := decide (t345 ≤ t106.2.1)) rfl (decide_eq_true h506)) ?_
                                refine WOps.p (G.move rfl) rfl ?_
                                refine WOps.on rfl (kbl (b := decide (t345 ≤ t106.2.1)) rfl (decide_eq_true h506)) ?_
                                refine WOps.p (G.geq rfl rfl rfl) rfl ?_
                                refine WOps.p (G.pick_t (kb (b := decide (t345 ≤ t106.2.1)) rfl (decide_eq_true h506)) rfl) rfl ?_
                                refine WOps.p (G.move rfl) rfl ?_
                                rcases ite_some hF with ⟨h507, hF⟩ | ⟨h507, hF⟩
                                ·
                                  refine WOps.on rfl (kbl (b := decide (1 ≤ t106.2.1)) rfl (decide_eq_true h507)) ?_
                                  refine WOps.p (G.move rfl) rfl ?_
                                  refine WOps.on rfl (kbl (b := decide (1 ≤ t106.2.1)) rfl (decide_eq_true h507)) ?_
                                  refine WOps.p (G.lss rfl rfl rfl) rfl ?_
                                  refine WOps.p (G.pick_t (kb (b := decide (1 ≤ t106.2.1)) rfl (decide_eq_true h507)) rfl) rfl ?_
                                  refine WOps.p (G.move rfl) rfl ?_
                                  rcases ite_some hF with ⟨h508, hF⟩ | ⟨h508, hF⟩
                                  ·
                                    refine WOps.on rfl (kbl (b := decide (t106.2.1 < 4294967296)) rfl (decide_eq_true h508)) ?_
                                    refine WOps.p (G.move rfl) rfl ?_
                                    refine WOps.on rfl (kbl (b := decide (t106.2.1 < 4294967296)) rfl (decide_eq_true h508)) ?_
                                    refine WOps.p (G.geq rfl rfl rfl) rfl ?_
                                    refine WOps.p (G.pick_t (kb (b := decide (t106.2.1 < 4294967296)) rfl (decide_eq_true h508)) rfl) rfl ?_
                                    refine WOps.p (G.move rfl) rfl ?_
                                    rcases ite_some hF with ⟨h509, hF⟩ | ⟨h509, hF⟩
                                    ·
                                      refine WOps.on rfl (kbl (b := decide (1 ≤ t106.2.2)) rfl (decide_eq_true h509)) ?_
                                      refine WOps.p (G.move rfl) rfl ?_
                                      refine WOps.on rfl (kbl (b := decide (1 ≤ t106.2.2)) rfl (decide_eq_true h509)) ?_
                                      refine WOps.p (G.lss rfl rfl rfl) rfl ?_
                                      refine WOps.p (G.pick_t (kb (b := decide (1 ≤ t106.2.2)) rfl (decide_eq_true h509)) rfl) rfl ?_
                                      refine WOps.nil ?_
                                      refine WEx.then_ ?_
                                      refine WCode.forget (l' := [(1, .slice A1 a1.length c1), (6, .pointer (some ⟨b17, 0, none⟩)), (7, .pointer (some ⟨p39, 0, none⟩)), (9, .slice A52 l54.length c53), (10, .int .i64 t418), (11, .int .i64 x58), (155, .pointer (some ⟨p39, 0, none⟩)), (156, .int .i64 x351), (157, .int .i64 x57), (158, .bool b352), (161, .pointer (some ⟨p39, 0, none⟩)), (162, .int .i64 x353), (163, .pointer (some ⟨b17, 0, none⟩)), (164, .int .i64 t12.Clients), (165, .bool b354), (168, .pointer (some ⟨p39, 0, none⟩)), (169, .int .i64 x355), (170, .pointer (some ⟨b17, 2, none⟩)), (171, .int .i64 t12.Bytes), (172, .bool b356), (175, .pointer (some ⟨p39, 0, none⟩)), (176, .int .i64 x357), (177, .pointer (some ⟨p39, 0, none⟩)), (178, .int .i64 x358), (179, .pointer (some ⟨b17, 1, none⟩)), (180, .int .i64 t12.Entries), (181, .int .i64 x359), (182, .bool b360), (185, .int .i64 t329.1), (186, .bool (!(decide (t329.1 = 3)))), (187, .bool (!(decide (t329.1 = 3)))), (190, .bool b361), (253, .int .i64 t106.2.1), (254, .int .i64 t345), (255, .bool (decide (t345 ≤ t106.2.1))), (258, .int .i64 t106.2.1), (259, .bool (decide (1 ≤ t106.2.1))), (262, .int .i64 t106.2.1), (263, .bool (decide (t106.2.1 < 4294967296))), (266, .int .i64 t106.2.2), (267, .bool (decide (1 ≤ t106.2.2))), (270, .int .i64 t106.2.2), (271, .bool (decide (t106.2.2 < 4294967296))), (272, .bool (decide (t106.2.2 < 4294967296)))]) ⟨rfl, rfl, rfl, rfl, rfl, rfl, rfl, rfl, rfl, rfl, rfl, rfl, rfl, rfl, rfl, rfl, rfl, rfl, rfl, rfl, rfl, rfl, rfl, rfl, rfl, rfl, rfl, rfl, rfl, rfl, rfl, rfl, rfl, rfl, rfl, rfl, rfl, rfl, rfl, rfl, rfl, rfl, rfl, rfl, trivial⟩ ?_
                                      rcases ite_some hF with ⟨h510, hF⟩ | ⟨h510, hF⟩
                                      ·
                                        refine WCode.cond_t (kb (b := decide (t106.2.2 < 4294967296)) rfl (decide_eq_true h510)) ?_
                                        refine WCode.seq ?_
                                        refine WCode.region ?_
                                        refine WOps.p (G.assign rfl) rfl ?_
                                        refine WOps.nil ?_
                                        refine WEx.then_ ?_
                                        refine WCode.forget (l' := [(4, .bool false)]) ⟨rfl, trivial⟩ ?_
                                        refine WCode.ret ?_
                                        refine WEx.in_ret ?_
                                        refine WEx.in_ret ?_
                                        refine WEx.then_ret ?_
                                        refine WEx.then_ret ?_
                                        refine WEx.in_ret ?_
                                        refine WEx.then_ret ?_
                                        obtain rfl := some_eq hF
                                        refine WEx.ret1 rfl rfl ?_
                                        exact ⟨rfl, St.keep (As := []) S454⟩
                                      ·
                                        refine WCode.cond_f (kb (b := decide (t106.2.2 < 4294967296)) rfl (decide_eq_false h510)) ?_
                                        refine WCode.skip ?_
                                        refine WEx.in_normal ?_
                                        refine WEx.in_normal ?_
                                        refine WEx.then_ ?_
                                        refine WCode.region ?_
                                        refine WOps.p (G.move rfl) rfl ?_
                                        refine WOps.p (G.add rfl rfl (r := (w64 (x58 + 1))) rfl) rfl ?_
                                        refine WOps.p (G.assign rfl) rfl ?_
                                        refine WOps.nil ?_
                                        refine WEx.again _ _ (by omega) ?_ ⟨A52, c53, l54, G55, t418, w64 (x58 + 1), t329.2.2.config.Clients, t329.2.2.config.Entries, t329.2.2.config.Bytes, t329.2.2.config.Reserve, b340, t329.2.2.clients, G341, t329.2.2.entries, t329.2.2.bytes, rfl, hF, hO56, hO342, S454⟩
                                        exact ⟨rfl, rfl, rfl, rfl, rfl, rfl, trivial⟩
                                    ·
                                      refine WOps.off rfl (kbl (b := decide (1 ≤ t106.2.2)) rfl (decide_eq_false h509)) rfl rfl ?_
                                      refine WOps.off rfl (kbl (b := decide (1 ≤ t106.2.2)) rfl (decide_eq_false h509)) rfl rfl ?_
                                      refine WOps.p (G.pick_f (kb (b := decide (1 ≤ t106.2.2)) rfl (decide_eq_false h509)) rfl) rfl ?_
                                      refine WOps.nil ?_
                                      refine WEx.then_ ?_
                                      refine WCode.forget (l' := [(1, .slice A1 a1.length c1), (6, .pointer (some ⟨b17, 0, none⟩)), (7, .pointer (some ⟨p39, 0, none⟩)), (9, .slice A52 l54.length c53), (10, .int .i64 t418), (11, .int .i64 x58), (155, .pointer (some ⟨p39, 0, none⟩)), (156, .int .i64 x351), (157, .int .i64 x57), (158, .bool b352), (161, .pointer (some ⟨p39, 0, none⟩)), (162, .int .i64 x353), (163, .pointer (some ⟨b17, 0, none⟩)), (164, .int .i64 t12.Clients), (165, .bool b354), (168, .pointer (some ⟨p39, 0, none⟩)), (169, .int .i64 x355), (170, .pointer (some ⟨b17, 2, none⟩)), (171, .int .i64 t12.Bytes), (172, .bool b356), (175, .pointer (some ⟨p39, 0, none⟩)), (176, .int .i64 x357), (177, .pointer (some ⟨p39, 0, none⟩)), (178, .int .i64 x358), (179, .pointer (some ⟨b17, 1, none⟩)), (180, .int .i64 t12.Entries), (181, .int .i64 x359), (182, .bool b360), (185, .int .i64 t329.1), (186, .bool (!(decide (t329.1 = 3)))), (187, .bool (!(decide (t329.1 = 3)))), (190, .bool b361), (253, .int .i64 t106.2.1), (254, .int .i64 t345), (255, .bool (decide (t345 ≤ t106.2.1))), (258, .int .i64 t106.2.1), (259, .bool (decide (1 ≤ t106.2.1))), (262, .int .i64 t106.2.1), (263, .bool (decide (t106.2.1 < 4294967296))), (266, .int .i64 t106.2.2), (267, .bool (decide (1 ≤ t106.2.2))), (270, undef), (271, undef), (272, .bool false)]) ⟨rfl, rfl, rfl, rfl, rfl, rfl, rfl, rfl, rfl, rfl, rfl, rfl, rfl, rfl, rfl, rfl, rfl, rfl, rfl, rfl, rfl, rfl, rfl, rfl, rfl, rfl, rfl, rfl, rfl, rfl, rfl, rfl, rfl, rfl, rfl, rfl, rfl, rfl, rfl, rfl, rfl, rfl, rfl, rfl, trivial⟩ ?_
                                      refine WCode.cond_f rfl ?_
                                      refine WCode.skip ?_
                                      refine WEx.in_normal ?_
                                      refine WEx.in_normal ?_
                                      refine WEx.then_ ?_
                                      refine WCode.region ?_
                                      refine WOps.p (G.move rfl) rfl ?_
                                      refine WOps.p (G.add rfl rfl (r := (w64 (x58 + 1))) rfl) rfl ?_
                                      refine WOps.p (G.assign rfl) rfl ?_
                                      refine WOps.nil ?_
                                      refine WEx.again _ _ (by omega) ?_ ⟨A52, c53, l54, G55, t418, w64 (x58 + 1), t329.2.2.config.Clients, t329.2.2.config.Entries, t329.2.2.config.Bytes, t329.2.2.config.Reserve, b340, t329.2.2.clients, G341, t329.2.2.entries, t329.2.2.bytes, rfl, hF, hO56, hO342, S454⟩
                                      exact ⟨rfl, rfl, rfl, rfl, rfl, rfl, trivial⟩
                                  ·
                                    refine WOps.off rfl (kbl (b := decide (t106.2.1 < 4294967296)) rfl (decide_eq_false h508)) rfl rfl ?_
                                    refine WOps.off rfl (kbl (b := decide (t106.2.1 < 4294967296)) rfl (decide_eq_false h508)) rfl rfl ?_
                                    refine WOps.p (G.pick_f (kb (b := decide (t106.2.1 < 4294967296)) rfl (decide_eq_false h508)) rfl) rfl ?_
                                    refine WOps.p (G.move rfl) rfl ?_
                                    refine WOps.off rfl rfl rfl rfl ?_
                                    refine WOps.off rfl rfl rfl rfl ?_
                                    refine WOps.p (G.pick_f rfl rfl) rfl ?_
                                    refine WOps.nil ?_
                                    refine WEx.then_ ?_
                                    refine WCode.forget (l' := [(1, .slice A1 a1.length c1), (6, .pointer (some ⟨b17, 0, none⟩)), (7, .pointer (some ⟨p39, 0, none⟩)), (9, .slice A52 l54.length c53), (10, .int .i64 t418), (11, .int .i64 x58), (155, .pointer (some ⟨p39, 0, none⟩)), (156, .int .i64 x351), (157, .int .i64 x57), (158, .bool b352), (161, .pointer (some ⟨p39, 0, none⟩)), (162, .int .i64 x353), (163, .pointer (some ⟨b17, 0, none⟩)), (164, .int .i64 t12.Clients), (165, .bool b354), (168, .pointer (some ⟨p39, 0, none⟩)), (169, .int .i64 x355), (170, .pointer (some ⟨b17, 2, none⟩)), (171, .int .i64 t12.Bytes), (172, .bool b356), (175, .pointer (some ⟨p39, 0, none⟩)), (176, .int .i64 x357), (177, .pointer (some ⟨p39, 0, none⟩)), (178, .int .i64 x358), (179, .pointer (some ⟨b17, 1, none⟩)), (180, .int .i64 t12.Entries), (181, .int .i64 x359), (182, .bool b360), (185, .int .i64 t329.1), (186, .bool (!(decide (t329.1 = 3)))), (187, .bool (!(decide (t329.1 = 3)))), (190, .bool b361), (253, .int .i64 t106.2.1), (254, .int .i64 t345), (255, .bool (decide (t345 ≤ t106.2.1))), (258, .int .i64 t106.2.1), (259, .bool (decide (1 ≤ t106.2.1))), (262, .int .i64 t106.2.1), (263, .bool (decide (t106.2.1 < 4294967296))), (266, undef), (267, undef), (270, undef), (271, undef), (272, .bool false)]) ⟨rfl, rfl, rfl, rfl, rfl, rfl, rfl, rfl, rfl, rfl, rfl, rfl, rfl, rfl, rfl, rfl, rfl, rfl, rfl, rfl, rfl, rfl, rfl, rfl, rfl, rfl, rfl, rfl, rfl, rfl, rfl, rfl, rfl, rfl, rfl, rfl, rfl, rfl, rfl, rfl, rfl, rfl, rfl, rfl, trivial⟩ ?_
                                    refine WCode.cond_f rfl ?_
                                    refine WCode.skip ?_
                                    refine WEx.in_normal ?_
                                    refine WEx.in_normal ?_
                                    refine WEx.then_ ?_
                                    refine WCode.region ?_
                                    refine WOps.p (G.move rfl) rfl ?_
                                    refine WOps.p (G.add rfl rfl (r := (w64 (x58 + 1))) rfl) rfl ?_
                                    refine WOps.p (G.assign rfl) rfl ?_
                                    refine WOps.nil ?_
                                    refine WEx.again _ _ (by omega) ?_ ⟨A52, c53, l54, G55, t418, w64 (x58 + 1), t329.2.2.config.Clients, t329.2.2.config.Entries, t329.2.2.config.Bytes, t329.2.2.config.Reserve, b340, t329.2.2.clients, G341, t329.2.2.entries, t329.2.2.bytes, rfl, hF, hO56, hO342, S454⟩
                                    exact ⟨rfl, rfl, rfl, rfl, rfl, rfl, trivial⟩
                                ·
                                  refine WOps.off rfl (kbl (b := decide (1 ≤ t106.2.1)) rfl (decide_eq_false h507)) rfl rfl ?_
                                  refine WOps.off rfl (kbl (b := decide (1 ≤ t106.2.1)) rfl (decide_eq_false h507)) rfl rfl ?_
                                  refine WOps.p (G.pick_f (kb (b := decide (1 ≤ t106.2.1)) rfl (decide_eq_false h507)) rfl) rfl ?_
                                  refine WOps.p (G.move rfl) rfl ?_
                                  refine WOps.off rfl rfl rfl rfl ?_
                                  refine WOps.off rfl rfl rfl rfl ?_
                                  refine WOps.p (G.pick_f rfl rfl) rfl ?_
                                  refine WOps.p (G.move rfl) rfl ?_
                                  refine WOps.off rfl rfl rfl rfl ?_
                                  refine WOps.off rfl rfl rfl rfl ?_
                                  refine WOps.p (G.pick_f rfl rfl) rfl ?_
                                  refine WOps.nil ?_
                                  refine WEx.then_ ?_
                                  refine WCode.forget (l' := [(1, .slice A1 a1.length c1), (6, .pointer (some ⟨b17, 0, none⟩)), (7, .pointer (some ⟨p39, 0, none⟩)), (9, .slice A52 l54.length c53), (10, .int .i64 t418), (11, .int .i64 x58), (155, .pointer (some ⟨p39, 0, none⟩)), (156, .int .i64 x351), (157, .int .i64 x57), (158, .bool b352), (161, .pointer (some ⟨p39, 0, none⟩)), (162, .int .i64 x353), (163, .pointer (some ⟨b17, 0, none⟩)), (164, .int .i64 t12.Clients), (165, .bool b354), (168, .pointer (some ⟨p39, 0, none⟩)), (169, .int .i64 x355), (170, .pointer (some ⟨b17, 2, none⟩)), (171, .int .i64 t12.Bytes), (172, .bool b356), (175, .pointer (some ⟨p39, 0, none⟩)), (176, .int .i64 x357), (177, .pointer (some ⟨p39, 0, none⟩)), (178, .int .i64 x358), (179, .pointer (some ⟨b17, 1, none⟩)), (180, .int .i64 t12.Entries), (181, .int .i64 x359), (182, .bool b360), (185, .int .i64 t329.1), (186, .bool (!(decide (t329.1 = 3)))), (187, .bool (!(decide (t329.1 = 3)))), (190, .bool b361), (253, .int .i64 t106.2.1), (254, .int .i64 t345), (255, .bool (decide (t345 ≤ t106.2.1))), (258, .int .i64 t106.2.1), (259, .bool (decide (1 ≤ t106.2.1))), (262, undef), (263, undef), (266, undef), (267, undef), (270, undef), (271, undef), (272, .bool false)]) ⟨rfl, rfl, rfl, rfl, rfl, rfl, rfl, rfl, rfl, rfl, rfl, rfl, rfl, rfl, rfl, rfl, rfl, rfl, rfl, rfl, rfl, rfl, rfl, rfl, rfl, rfl, rfl, rfl, rfl, rfl, rfl, rfl, rfl, rfl, rfl, rfl, rfl, rfl, rfl, rfl, rfl, rfl, rfl, rfl, trivial⟩ ?_
                                  refine WCode.cond_f rfl ?_
                                  refine WCode.skip ?_
                                  refine WEx.in_normal ?_
                                  refine WEx.in_normal ?_
                                  refine WEx.then_ ?_
                                  refine WCode.region ?_
                                  refine WOps.p (G.move rfl) rfl ?_
                                  refine WOps.p (G.add rfl rfl (r := (w64 (x58 + 1))) rfl) rfl ?_
                                  refine WOps.p (G.assign rfl) rfl ?_
                                  refine WOps.nil ?_
                                  refine WEx.again _ _ (by omega) ?_ ⟨A52, c53, l54, G55, t418, w64 (x58 + 1), t329.2.2.config.Clients, t329.2.2.config.Entries, t329.2.2.config.Bytes, t329.2.2.config.Reserve, b340, t329.2.2.clients, G341, t329.2.2.entries, t329.2.2.bytes, rfl, hF, hO56, hO342, S454⟩
                                  exact ⟨rfl, rfl, rfl, rfl, rfl, rfl, trivial⟩
                              ·
                                refine WOps.off rfl (kbl (b := decide (t345 ≤ t106.2.1)) rfl (decide_eq_false h506)) rfl rfl ?_
                                refine WOps.off rfl (kbl (b := decide (t345 ≤ t106.2.1)) rfl (decide_eq_false h506)) rfl rfl ?_
                                refine WOps.p (G.pick_f (kb (b := decide (t345 ≤ t106.2.1)) rfl (decide_eq_false h506)) rfl) rfl ?_
                                refine WOps.p (G.move rfl) rfl ?_
                                refine WOps.off rfl rfl rfl rfl ?_
                                refine WOps.off rfl rfl rfl rfl ?_
                                refine WOps.p (G.pick_f rfl rfl) rfl ?_
                                refine WOps.p (G.move rfl) rfl ?_
                                refine WOps.off rfl rfl rfl rfl ?_
                                refine WOps.off rfl rfl rfl rfl ?_
                                refine WOps.p (G.pick_f rfl rfl) rfl ?_
                                refine WOps.p (G.move rfl) rfl ?_
                                refine WOps.off rfl rfl rfl rfl ?_
                                refine WOps.off rfl rfl rfl rfl ?_
                                refine WOps.p (G.pick_f rfl rfl) rfl ?_
                                refine WOps.nil ?_
                                refine WEx.then_ ?_
                                refine WCode.forget (l' := [(1, .slice A1 a1.length c1), (6, .pointer (some ⟨b17, 0, none⟩)), (7, .pointer (some ⟨p39, 0, none⟩)), (9, .slice A52 l54.length c53), (10, .int .i64 t418), (11, .int .i64 x58), (155, .pointer (some ⟨p39, 0, none⟩)), (156, .int .i64 x351), (157, .int .i64 x57), (158, .bool b352), (161, .pointer (some ⟨p39, 0, none⟩)), (162, .int .i64 x353), (163, .pointer (some ⟨b17, 0, none⟩)), (164, .int .i64 t12.Clients), (165, .bool b354), (168, .pointer (some ⟨p39, 0, none⟩)), (169, .int .i64 x355), (170, .pointer (some ⟨b17, 2, none⟩)), (171, .int .i64 t12.Bytes), (172, .bool b356), (175, .pointer (some ⟨p39, 0, none⟩)), (176, .int .i64 x357), (177, .pointer (some ⟨p39, 0, none⟩)), (178, .int .i64 x358), (179, .pointer (some ⟨b17, 1, none⟩)), (180, .int .i64 t12.Entries), (181, .int .i64 x359), (182, .bool b360), (185, .int .i64 t329.1), (186, .bool (!(decide (t329.1 = 3)))), (187, .bool (!(decide (t329.1 = 3)))), (190, .bool b361), (253, .int .i64 t106.2.1), (254, .int .i64 t345), (255, .bool (decide (t345 ≤ t106.2.1))), (258, undef), (259, undef), (262, undef), (263, undef), (266, undef), (267, undef), (270, undef), (271, undef), (272, .bool false)]) ⟨rfl, rfl, rfl, rfl, rfl, rfl, rfl, rfl, rfl, rfl, rfl, rfl, rfl, rfl, rfl, rfl, rfl, rfl, rfl, rfl, rfl, rfl, rfl, rfl, rfl, rfl, rfl, rfl, rfl, rfl, rfl, rfl, rfl, rfl, rfl, rfl, rfl, rfl, rfl, rfl, rfl, rfl, rfl, rfl, trivial⟩ ?_
                                refine WCode.cond_f rfl ?_
                                refine WCode.skip ?_
                                refine WEx.in_normal ?_
                                refine WEx.in_normal ?_
                                refine WEx.then_ ?_
                                refine WCode.region ?_
                                refine WOps.p (G.move rfl) rfl ?_
                                refine WOps.p (G.add rfl rfl (r := (w64 (x58 + 1))) rfl) rfl ?_
                                refine WOps.p (G.assign rfl) rfl ?_
                                refine WOps.nil ?_
                                refine WEx.again _ _ (by omega) ?_ ⟨A52, c53, l54, G55, t418, w64 (x58 + 1), t329.2.2.config.Clients, t329.2.2.config.Entries, t329.2.2.config.Bytes, t329.2.2.config.Reserve, b340, t329.2.2.clients, G341, t329.2.2.entries, t329.2.2.bytes, rfl, hF, hO56, hO342, S454⟩
                                exact ⟨rfl, rfl, rfl, rfl, rfl, rfl, trivial⟩
                            ·
                              refine WOps.off rfl (kbl (b := decide (0 < t345)) rfl (decide_eq_false h505)) rfl rfl ?_
                              refine WOps.off rfl (kbl (b := decide (0 < t345)) rfl (decide_eq_false h505)) rfl rfl ?_
                              refine WOps.off rfl (kbl (b := decide (0 < t345)) rfl (decide_eq_false h505)) rfl rfl ?_
                              refine WOps.p (G.pick_f (kb (b := decide (0 < t345)) rfl (decide_eq_false h505)) rfl) rfl ?_
                              refine WOps.p (G.move rfl) rfl ?_
                              refine WOps.off rfl rfl rfl rfl ?_
                              refine WOps.off rfl rfl rfl rfl ?_
                              refine WOps.p (G.pick_f rfl rfl) rfl ?_
                              refine WOps.p (G.move rfl) rfl ?_
                              refine WOps.off rfl rfl rfl rfl ?_
                              refine WOps.off rfl rfl rfl rfl ?_
                              refine WOps.p (G.pick_f rfl rfl) rfl ?_
                              refine WOps.p (G.move rfl) rfl ?_
                              refine WOps.off rfl rfl rfl rfl ?_
                              refine WOps.off rfl rfl rfl rfl ?_
                              refine WOps.p (G.pick_f rfl rfl) rfl ?_
                              refine WOps.p (G.move rfl) rfl ?_
                              refine WOps.off rfl rfl rfl rfl ?_
                              refine WOps.off rfl rfl rfl rfl ?_
                              refine WOps.p (G.pick_f rfl rfl) rfl ?_
                              refine WOps.nil ?_
                              refine WEx.then_ ?_
                              refine WCode.forget (l' := [(1, .slice A1 a1.length c1), (6, .pointer (some ⟨b17, 0, none⟩)), (7, .pointer (some ⟨p39, 0, none⟩)), (9, .slice A52 l54.length c53), (10, .int .i64 t418), (11, .int .i64 x58), (155, .pointer (some ⟨p39, 0, none⟩)), (156, .int .i64 x351), (157, .int .i64 x57), (158, .bool b352), (161, .pointer (some ⟨p39, 0, none⟩)), (162, .int .i64 x353), (163, .pointer (some ⟨b17, 0, none⟩)), (164, .int .i64 t12.Clients), (165, .bool b354), (168, .pointer (some ⟨p39, 0, none⟩)), (169, .int .i64 x355), (170, .pointer (some ⟨b17, 2, none⟩)), (171, .int .i64 t12.Bytes), (172, .bool b356), (175, .pointer (some ⟨p39, 0, none⟩)), (176, .int .i64 x357), (177, .pointer (some ⟨p39, 0, none⟩)), (178, .int .i64 x358), (179, .pointer (some ⟨b17, 1, none⟩)), (180, .int .i64 t12.Entries), (181, .int .i64 x359), (182, .bool b360), (185, .int .i64 t329.1), (186, .bool (!(decide (t329.1 = 3)))), (187, .bool (!(decide (t329.1 = 3)))), (190, .bool b361), (253, undef), (254, undef), (255, undef), (258, undef), (259, undef), (262, undef), (263, undef), (266, undef), (267, undef), (270, undef), (271, undef), (272, .bool false)]) ⟨rfl, rfl, rfl, rfl, rfl, rfl, rfl, rfl, rfl, rfl, rfl, rfl, rfl, rfl, rfl, rfl, rfl, rfl, rfl, rfl, rfl, rfl, rfl, rfl, rfl, rfl, rfl, rfl, rfl, rfl, rfl, rfl, rfl, rfl, rfl, rfl, rfl, rfl, rfl, rfl, rfl, rfl, rfl, rfl, trivial⟩ ?_
                              refine WCode.cond_f rfl ?_
                              refine WCode.skip ?_
                              refine WEx.in_normal ?_
                              refine WEx.in_normal ?_
                              refine WEx.then_ ?_
                              refine WCode.region ?_
                              refine WOps.p (G.move rfl) rfl ?_
                              refine WOps.p (G.add rfl rfl (r := (w64 (x58 + 1))) rfl) rfl ?_
                              refine WOps.p (G.assign rfl) rfl ?_
                              refine WOps.nil ?_
                              refine WEx.again _ _ (by omega) ?_ ⟨A52, c53, l54, G55, t418, w64 (x58 + 1), t329.2.2.config.Clients, t329.2.2.config.Entries, t329.2.2.config.Bytes, t329.2.2.config.Reserve, b340, t329.2.2.clients, G341, t329.2.2.entries, t329.2.2.bytes, rfl, hF, hO56, hO342, S454⟩
                              exact ⟨rfl, rfl, rfl, rfl, rfl, rfl, trivial⟩
                          ·
                            refine WCode.cond_f (kb (b := decide (t329.1 = 4)) rfl (decide_eq_false h504)) ?_
                            refine WCode.seq ?_
                            refine WCode.region ?_
                            refine WOps.p (G.assign rfl) rfl ?_
                            refine WOps.nil ?_
                            refine WEx.then_ ?_
                            refine WCode.forget (l' := [(4, .bool false)]) ⟨rfl, trivial⟩ ?_
                            refine WCode.ret ?_
                            refine WEx.in_ret ?_
                            refine WEx.in_ret ?_
                            refine WEx.then_ret ?_
                            refine WEx.then_ret ?_
                            refine WEx.in_ret ?_
                            refine WEx.then_ret ?_
                            obtain rfl := some_eq hF
                            refine WEx.ret1 rfl rfl ?_
                            exact ⟨rfl, St.keep (As := []) S454⟩
        ·
          refine WCode.cond_f (kb (b := decide (x58 < (a1.length : Int))) rfl (decide_eq_false h81)) ?_
          refine WCode.exit ?_
          refine WEx.then_exit ?_
          refine WEx.then_exit ?_
          refine WEx.in_exit ?_
          refine WEx.then_ ?_
          refine WCode.forget (l' := []) trivial ?_
          refine WCode.seq ?_
          refine WCode.region ?_
          refine WOps.p (G.assign rfl) rfl ?_
          refine WOps.nil ?_
          refine WEx.then_ ?_
          refine WCode.ret ?_
          obtain rfl := some_eq hF
          refine WEx.ret1 rfl rfl ?_
          exact ⟨rfl, St.keep (As := []) S70⟩
      ·
        refine WCode.cond_t (kb (b := !(decide (t26.2 = 0))) rfl (show (!(decide (t26.2 = 0))) = true from by rw [(decide_eq_false h51)]; rfl)) ?_
        refine WCode.seq ?_
        refine WCode.region ?_
        refine WOps.p (G.assign rfl) rfl ?_
        refine WOps.nil ?_
        refine WEx.then_ ?_
        refine WCode.ret ?_
        refine WEx.then_ret ?_
        obtain rfl := some_eq hF
        refine WEx.ret1 rfl rfl ?_
        exact ⟨rfl, St.keep (As := []) S50⟩
    ·
      refine WOps.on rfl (kbl (b := !t7) rfl (show (!t7) = false from by rw [h34]; rfl)) ?_
      have hn512 := Option.not_isSome_iff_eq_none.1 h35
      have ho511 := hO33
      rw [hn512] at ho511
      obtain ⟨hv513, hg514⟩ := ho511
      subst hv513
      have S515 : St _ _ _ [[(b17, .cells #[.int .i64 t12.Clients, .int .i64 t12.Entries, .int .i64 t12.Bytes, .int .i64 t12.Reserve] 26 (0, 0))], [(b1, .cells #[.int .i64 a0.e0, .int .i64 a0.e1, .int .i64 a0.e2, .int .i64 a0.e3] 23 (0, 0))]] := S30.objs (by rw [hg514]; simp)
      refine WOps.p (G.eqp_nil Try.underlying28 rfl rfl rfl) rfl ?_
      refine WOps.p (G.pick_f (kb (b := !t7) rfl (show (!t7) = false from by rw [h34]; rfl)) rfl) rfl ?_
      refine WOps.p (G.move rfl) rfl ?_
      refine WOps.off rfl rfl rfl rfl ?_
      refine WOps.off rfl rfl rfl rfl ?_
      refine WOps.p (G.pick_t rfl rfl) rfl ?_
      refine WOps.nil ?_
      refine WEx.then_ ?_
      refine WCode.forget (l' := [(1, .slice A1 a1.length c1), (6, .pointer (some ⟨b17, 0, none⟩)), (7, .pointer none), (47, .bool true)]) ⟨rfl, rfl, rfl, rfl, trivial⟩ ?_
      refine WCode.cond_t rfl ?_
      refine WCode.seq ?_
      refine WCode.region ?_
      refine WOps.p (G.assign rfl) rfl ?_
      refine WOps.nil ?_
      refine WEx.then_ ?_
      refine WCode.ret ?_
      refine WEx.then_ret ?_
      obtain rfl := some_eq hF
      refine WEx.ret1 rfl rfl ?_
      exact ⟨rfl, St.keep (As := []) S515⟩
  ·
    refine WOps.off rfl (kbl (b := !t7) rfl (show (!t7) = true from by rw [(Bool.eq_false_iff.2 h34)]; rfl)) rfl rfl ?_
    refine WOps.off rfl (kbl (b := !t7) rfl (show (!t7) = true from by rw [(Bool.eq_false_iff.2 h34)]; rfl)) rfl rfl ?_
    refine WOps.p (G.pick_t (kb (b := !t7) rfl (show (!t7) = true from by rw [(Bool.eq_false_iff.2 h34)]; rfl)) rfl) rfl ?_
    refine WOps.p (G.move rfl) rfl ?_
    refine WOps.off rfl rfl rfl rfl ?_
    refine WOps.off rfl rfl rfl rfl ?_
    refine WOps.p (G.pick_t rfl rfl) rfl ?_
    refine WOps.nil ?_
    refine WEx.then_ ?_
    refine WCode.forget (l' := [(1, .slice A1 a1.length c1), (6, .pointer (some ⟨b17, 0, none⟩)), (7, v31), (47, .bool true)]) ⟨rfl, rfl, rfl, rfl, trivial⟩ ?_
    refine WCode.cond_t rfl ?_
    refine WCode.seq ?_
    refine WCode.region ?_
    refine WOps.p (G.assign rfl) rfl ?_
    refine WOps.nil ?_
    refine WEx.then_ ?_
    refine WCode.ret ?_
    refine WEx.then_ret ?_
    obtain rfl := some_eq hF
    refine WEx.ret1 rfl rfl ?_
    exact ⟨rfl, St.keep (As := []) S30⟩

end Go.Proofs.Ytpdpfiaediadgaa
