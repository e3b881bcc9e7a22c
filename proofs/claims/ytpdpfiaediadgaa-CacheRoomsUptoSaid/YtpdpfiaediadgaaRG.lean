/- Functions and their walks (printed by auto.py over the engine). -/
import Derived.Test.YtpdpfiaediadgaaProg
import Derived.Test.YtpdpfiaediadgaaCF
import Derived.Test.YtpdpfiaediadgaaHoles
namespace Go.Proofs.Ytpdpfiaediadgaa
open Go Go.Eng
set_option linter.unusedSimpArgs false
set_option linter.unusedVariables false

theorem T.ar50_8_1 : arEl Try.prog 50 = some (8, 1) := by kernel_rfl
theorem T.ar51_8_1 : arEl Try.prog 51 = some (8, 1) := by kernel_rfl
theorem T.call11 : Callable Try.prog 11 := Callable.mk Try.func11 (by kernel_rfl) (by kernel_rfl)
theorem T.el47 : slEl Try.prog 47 = some 5 := by kernel_rfl
theorem T.el49 : slEl Try.prog 49 = some 1 := by kernel_rfl
theorem T.elt49 : Elt Try.prog 49 3 1 8 := elt_mk (z := .int .i64 0) Try.underlying49 (by kernel_rfl) rfl
theorem T.fld53_0 : fldOff Try.prog 53 0 = some 0 := by kernel_rfl
theorem T.fld53_1 : fldOff Try.prog 53 1 = some 1 := by kernel_rfl
theorem T.fld53_2 : fldOff Try.prog 53 2 = some 2 := by kernel_rfl
theorem T.fld53_3 : fldOff Try.prog 53 3 = some 3 := by kernel_rfl
theorem T.fld53_4 : fldOff Try.prog 53 4 = some 4 := by kernel_rfl
theorem T.one49 : isOneT Try.prog 49 = true := by kernel_rfl
theorem T.size49_1 : sizeT Try.prog 49 = some 1 := by kernel_rfl
theorem T.zero50 : zeroOf Try.prog 50 = some (.agg #[.slice none 0 0, .slice none 0 0, .slice none 0 0, .slice none 0 0, .slice none 0 0, .slice none 0 0, .slice none 0 0, .slice none 0 0]) := by kernel_rfl
theorem T.zero51 : zeroOf Try.prog 51 = some (.agg #[.int .i64 0, .int .i64 0, .int .i64 0, .int .i64 0, .int .i64 0, .int .i64 0, .int .i64 0, .int .i64 0]) := by kernel_rfl
structure Sent where
  Who : Int
  N : Int
  New : Bool
  Answer : Bool
  Ends : Bool
  deriving DecidableEq
def Sent.cs (x : Sent) : List Value := [.int .i64 x.Who, .int .i64 x.N, .bool x.New, .bool x.Answer, .bool x.Ends]
def Sent.rp : Rp Sent := .plain Sent.cs 5 (fun _ => rfl) (fun _ => rfl)


mutual
def law_Rooms.j7 : Nat → List Sent → Int → Int → Int → Int → List (List Int) → List Int → Int → Int × (List UInt8) × Cache → Bool → Option Bool
  | 0, _, _, _, _, _, _, _, _, _, _ => none
  | k653 + 1, a2, t6, t11, x80, t112, l349, l352, x353, t606, b633 => (if b633 = true then (Option.bind (ca_who k653 t112) fun t655 => (Option.bind (ca_Done k653 t606.2.2 t655 x353 ([97, 110, 115, 119, 101, 114] : List UInt8)) fun t663 => (if t663.1 = 0 then (law_Rooms.l1 k653 a2 t6 t11 l349 l352 (w64 (x80 + 1)) t663.2.config.Clients t663.2.config.Entries t663.2.config.Bytes t663.2.config.Reserve t663.2.clients t663.2.entries t663.2.bytes) else (some false)))) else (law_Rooms.l1 k653 a2 t6 t11 l349 l352 (w64 (x80 + 1)) t606.2.2.config.Clients t606.2.2.config.Entries t606.2.2.config.Bytes t606.2.2.config.Reserve t606.2.2.clients t606.2.2.entries t606.2.2.bytes))
def law_Rooms.j6 : Nat → List Sent → Int → Int → Int → Int → List (List Int) → List Int → Int → Int × (List UInt8) × Cache → Option Bool
  | 0, _, _, _, _, _, _, _, _, _ => none
  | k632 + 1, a2, t6, t11, x80, t112, l349, l352, x353, t606 => (Option.bind (idx a2 x80) fun x638 => (if x638.Answer = true then (law_Rooms.j7 k632 a2 t6 t11 x80 t112 l349 l352 x353 t606 (!(decide (t606.1 = 3)))) else (law_Rooms.j7 k632 a2 t6 t11 x80 t112 l349 l352 x353 t606 false)))
def law_Rooms.j4 : Nat → List Sent → Int → Int → Int → Int → Int → Int → Int → List (WhoC × Known) → Int → Int → Int → Int → List (List Int) → List Int → Int → Option Bool
  | 0, _, _, _, _, _, _, _, _, _, _, _, _, _, _, _, _ => none
  | k598 + 1, a2, t6, t11, x80, x81, x82, x83, x84, l86, x89, x90, t112, x180, l349, l352, x353 => (Option.bind (ca_who k598 t112) fun t599 => (Option.bind (ca_Ask k598 (⟨(⟨x81, x82, x83, x84⟩ : CacheConfig), l86, x89, x90⟩ : Cache) t599 x353 x180) fun t606 => (if t606.1 = 1 then (law_Rooms.j6 k598 a2 t6 t11 x80 t112 l349 l352 x353 t606) else (if t606.1 = 2 then (law_Rooms.j6 k598 a2 t6 t11 x80 t112 l349 l352 x353 t606) else (if t606.1 = 3 then (law_Rooms.j6 k598 a2 t6 t11 x80 t112 l349 l352 x353 t606) else (some false))))))
def law_Rooms.j5 : Nat → List Sent → Int → Int → List (List Int) → Int → Int → Int → Int → Int → List (WhoC × Known) → Int → Int → Int → List Int → Int → Bool → Option Bool
  | 0, _, _, _, _, _, _, _, _, _, _, _, _, _, _, _, _ => none
  | k397 + 1, a2, t6, t11, l76, x80, x81, x82, x83, x84, l86, x89, x90, t112, l119, x180, b358 => (if b358 = true then (Option.bind (idx l119 t112) fun x399 => (if (w64 (1 + t11)) ≤ (w64 (x399 - x180)) then (law_Rooms.l1 k397 a2 t6 t11 l76 l119 (w64 (x80 + 1)) x81 x82 x83 x84 l86 x89 x90) else (Option.bind (idx l119 t112) fun x414 => (Option.bind (idx l119 t112) fun x428 => (Option.bind (idx l119 t112) fun x442 => (Option.bind (upd l119 t112 (w64 (x428 + 1))) fun l456 => (Option.bind (idx l76 t112) fun x466 => (Option.bind (catN 17592186044416 x466 ([x414] : List Int)) fun l498 => (Option.bind (upd l76 t112 l498) fun l515 => (law_Rooms.j4 k397 a2 t6 t11 x80 x81 x82 x83 x84 l86 x89 x90 t112 x180 l515 l456 x414)))))))))) else (Option.bind (idx l76 t112) fun x526 => (Option.bind (idx a2 x80) fun x545 => (Option.bind (idx l76 t112) fun x559 => (Option.bind (ca_pick k397 x545.N (x559.length : Int)) fun t578 => (Option.bind (idx x526 t578) fun x583 => (law_Rooms.j4 k397 a2 t6 t11 x80 x81 x82 x83 x84 l86 x89 x90 t112 x180 l76 l119 x583)))))))
def law_Rooms.j3 : Nat → List Sent → Int → Int → List (List Int) → Int → Int → Int → Int → Int → List (WhoC × Known) → Int → Int → Int → List Int → Int → Option Bool
  | 0, _, _, _, _, _, _, _, _, _, _, _, _, _, _, _ => none
  | k346 + 1, a2, t6, t11, l76, x80, x81, x82, x83, x84, l86, x89, x90, t112, l119, x180 => (Option.bind (idx a2 x80) fun x363 => (if x363.New = true then (law_Rooms.j5 k346 a2 t6 t11 l76 x80 x81 x82 x83 x84 l86 x89 x90 t112 l119 x180 true) else (Option.bind (idx l76 t112) fun x378 => (law_Rooms.j5 k346 a2 t6 t11 l76 x80 x81 x82 x83 x84 l86 x89 x90 t112 l119 x180 (decide ((x378.length : Int) = 0))))))
def law_Rooms.j2 : Nat → List Sent → Int → Int → List (List Int) → Int → Int → Int → Int → Int → List (WhoC × Known) → Int → Int → Int → List Int → Int → Option Bool
  | 0, _, _, _, _, _, _, _, _, _, _, _, _, _, _, _ => none
  | k240 + 1, a2, t6, t11, l76, x80, x81, x82, x83, x84, l86, x89, x90, t112, l119, x180 => (Option.bind (idx a2 x80) fun x245 => (if x245.Ends = true then (Option.bind (idx l76 t112) fun x260 => (if 0 < (x260.length : Int) then (Option.bind (idx l76 t112) fun x280 => (Option.bind (cut x280 1 (x280.length : Int)) fun m299 => (Option.bind (idx l76 t112) fun x302 => (Option.bind (upd l76 t112 m299) fun l338 => (law_Rooms.l1 k240 a2 t6 t11 l338 l119 (w64 (x80 + 1)) x81 x82 x83 x84 l86 x89 x90))))) else (law_Rooms.j3 k240 a2 t6 t11 l76 x80 x81 x82 x83 x84 l86 x89 x90 t112 l119 x180))) else (law_Rooms.j3 k240 a2 t6 t11 l76 x80 x81 x82 x83 x84 l86 x89 x90 t112 l119 x180)))
def law_Rooms.j1 : Nat → List Sent → Int → Int → List (List Int) → Int → Int → Int → Int → Int → List (WhoC × Known) → Int → Int → Int → List Int → Option Bool
  | 0, _, _, _, _, _, _, _, _, _, _, _, _, _, _ => none
  | k165 + 1, a2, t6, t11, l76, x80, x81, x82, x83, x84, l86, x89, x90, t112, l119 => (Option.bind (idx l119 t112) fun x166 => (Option.bind (idx l76 t112) fun x185 => (if 0 < (x185.length : Int) then (Option.bind (idx l76 t112) fun x205 => (Option.bind (idx x205 0) fun x224 => (law_Rooms.j2 k165 a2 t6 t11 l76 x80 x81 x82 x83 x84 l86 x89 x90 t112 l119 x224))) else (law_Rooms.j2 k165 a2 t6 t11 l76 x80 x81 x82 x83 x84 l86 x89 x90 t112 l119 x166))))
def law_Rooms.l1 : Nat → List Sent → Int → Int → List (List Int) → List Int → Int → Int → Int → Int → Int → List (WhoC × Known) → Int → Int → Option Bool
  | 0, _, _, _, _, _, _, _, _, _, _, _, _, _ => none
  | k93 + 1, a2, t6, t11, l76, l79, x80, x81, x82, x83, x84, l86, x89, x90 => (if x80 < (a2.length : Int) then (Option.bind (idx a2 x80) fun x98 => (Option.bind (ca_pick k93 x98.Who (w64 (1 + t6))) fun t112 => (Option.bind (idx l79 t112) fun x124 => (if x124 = 0 then (Option.bind (idx l79 t112) fun x139 => (Option.bind (upd l79 t112 1) fun l153 => (law_Rooms.j1 k93 a2 t6 t11 l76 x80 x81 x82 x83 x84 l86 x89 x90 t112 l153))) else (law_Rooms.j1 k93 a2 t6 t11 l76 x80 x81 x82 x83 x84 l86 x89 x90 t112 l79))))) else (some true))
end
def law_Rooms (k : Nat) (a0 : Int) (a1 : Int) (a2 : List Sent) : Option Bool := (Option.bind (ca_known k) fun t1 => (Option.bind (ca_pick k a0 8) fun t6 => (Option.bind (ca_pick k a1 64) fun t11 => (Option.bind (ca_New k (⟨w64 (1 + t6), w64 (1 + t11), w64 ((w64 (64 * (w64 (1 + t6)))) * (w64 (1 + t11))), 64⟩ : CacheConfig)) fun t16 => (if t1 = true then (if (t16.1).isSome = true then (Option.bind (t16.1) fun x26 => (if t16.2 = 0 then (law_Rooms.l1 k a2 t6 t11 ([[], [], [], [], [], [], [], []] : List (List Int)) ([0, 0, 0, 0, 0, 0, 0, 0] : List Int) 0 x26.config.Clients x26.config.Entries x26.config.Bytes x26.config.Reserve x26.clients x26.entries x26.bytes) else (some false))) else (some false)) else (some false))))))
set_option maxRecDepth 100000 in
set_option maxHeartbeats 1000000 in
theorem law_Rooms_calls (k : Nat) (a0 : Int) (a1 : Int) (a2 : List Sent) {A2 : Option Addr} {c2 : Nat} {F2 : Nat → Prop} {w : World} (hR2 : SlR Sent.rp w F2 A2 c2 a2) (hF2 : ∀ b, F2 b → NK w [] b) {r_ : Bool} (h_ : law_Rooms k a0 a1 a2 = some r_) :
    Calls Try.prog 5 [.int .i64 a0, .int .i64 a1, .slice A2 a2.length c2].toArray w fun e w' => e = .returned (.bool r_) ∧ St w (KS []) w' [] := by
 have hF := h_
 clear h_
 unfold law_Rooms at hF
 have S := St.ofFalse (As := []) (St.init0 w)
 refine enter 184 [(0, .int .i64 a0), (1, .int .i64 a1), (2, .slice A2 a2.length c2)] Try.func5 rfl rfl rfl rfl ?_
 refine WCode.seq ?_
 refine WCode.region ?_
 refine WOps.p (G.assign rfl) rfl ?_
 refine WOps.nil ?_
 refine WEx.then_ ?_
 refine WCode.seq ?_
 refine WCode.region ?_
 obtain ⟨t1, hc2, hF⟩ := bind_some hF
 refine WOps.call T.call11 evs_nil rfl ?_
 refine (ca_known_calls k hc2).mono ?_
 rintro _ w3 ⟨rfl, T4⟩
 have S5 := St.callN (As := []) S T4
 change St _ _ _ [] at S5
 refine ⟨_, rfl, ?_⟩
 refine WOps.p (G.assign rfl) rfl ?_
 refine WOps.nil ?_
 refine WEx.then_ ?_
 refine WCode.seq ?_
 refine WCode.region ?_
 refine WOps.p (G.move rfl) rfl ?_
 obtain ⟨t6, hc7, hF⟩ := bind_some hF
 refine WOps.call T.call21 (evs_cons rfl (evs_cons rfl evs_nil)) rfl ?_
 refine (ca_pick_calls k a0 8 hc7).mono ?_
 rintro _ w8 ⟨rfl, T9⟩
 have S10 := St.callN (As := []) S5 T9
 change St _ _ _ [] at S10
 refine ⟨_, rfl, ?_⟩
 refine WOps.p (G.add rfl rfl (r := (w64 (1 + t6))) rfl) rfl ?_
 refine WOps.p (G.assign rfl) rfl ?_
 refine WOps.nil ?_
 refine WEx.then_ ?_
 refine WCode.seq ?_
 refine WCode.region ?_
 refine WOps.p (G.move rfl) rfl ?_
 obtain ⟨t11, hc12, hF⟩ := bind_some hF
 refine WOps.call T.call21 (evs_cons rfl (evs_cons rfl evs_nil)) rfl ?_
 refine (ca_pick_calls k a1 64 hc12).mono ?_
 rintro _ w13 ⟨rfl, T14⟩
 have S15 := St.callN (As := []) S10 T14
 change St _ _ _ [] at S15
 refine ⟨_, rfl, ?_⟩
 refine WOps.p (G.add rfl rfl (r := (w64 (1 + t11))) rfl) rfl ?_
 refine WOps.p (G.assign rfl) rfl ?_
 refine WOps.nil ?_
 refine WEx.then_ ?_
 refine WCode.forget (l' := [(2, .slice A2 a2.length c2), (7, .bool t1), (8, .int .i64 (w64 (1 + t6))), (9, .int .i64 (w64 (1 + t11)))]) ⟨rfl, rfl, rfl, rfl, trivial⟩ ?_
 refine WCode.seq ?_
 refine WCode.region ?_
 refine WOps.p (G.move rfl) rfl ?_
 refine WOps.p (G.move rfl) rfl ?_
 refine WOps.p (G.move rfl) rfl ?_
 refine WOps.p (G.mul rfl rfl (r := (w64 (64 * (w64 (1 + t6))))) rfl) rfl ?_
 refine WOps.p (G.move rfl) rfl ?_
 refine WOps.p (G.mul rfl rfl (r := (w64 ((w64 (64 * (w64 (1 + t6)))) * (w64 (1 + t11))))) rfl) rfl ?_
 refine WOps.p (G.build (cells := #[.int .i64 (w64 (1 + t6)), .int .i64 (w64 (1 + t11)), .int .i64 (w64 ((w64 (64 * (w64 (1 + t6)))) * (w64 (1 + t11)))), .int .i64 64]) (evp_spec (evp_cons rfl (evp_cons rfl (evp_cons rfl (evp_cons rfl evp_nil))))) (by kernel_rfl)) rfl ?_
 obtain ⟨t16, hc17, hF⟩ := bind_some hF
 refine WOps.call T.call13 (evs_cons rfl evs_nil) rfl ?_
 refine (ca_New_calls k (⟨w64 (1 + t6), w64 (1 + t11), w64 ((w64 (64 * (w64 (1 + t6)))) * (w64 (1 + t11))), 64⟩ : CacheConfig) hc17).mono ?_
 rintro _ w18 ⟨v21, G22, rfl, hO23, T19⟩
 have S20 := St.callN (As := []) S15 T19
 change St _ _ _ [G22] at S20
 refine ⟨_, rfl, ?_⟩
 refine WOps.p (G.move rfl) rfl ?_
 refine WOps.p (G.extract rfl rfl) rfl ?_
 refine WOps.p (G.extract rfl rfl) rfl ?_
 refine WOps.p (G.assign rfl) rfl ?_
 refine WOps.p (G.assign rfl) rfl ?_
 refine WOps.nil ?_
 refine WEx.then_ ?_
 refine WCode.forget (l' := [(2, .slice A2 a2.length c2), (7, .bool t1), (8, .int .i64 (w64 (1 + t6))), (9, .int .i64 (w64 (1 + t11))), (10, v21), (11, .int .i64 t16.2)]) ⟨rfl, rfl, rfl, rfl, rfl, rfl, trivial⟩ ?_
 refine WCode.seq ?_
 refine WCode.seq ?_
 refine WCode.region ?_
 refine WOps.p (G.move rfl) rfl ?_
 refine WOps.p (G.not rfl rfl) rfl ?_
 refine WOps.p (G.move rfl) rfl ?_
 rcases ite_some hF with ⟨h24, hF⟩ | ⟨h24, hF⟩
 ·
  refine WOps.on rfl (kbl (b := !t1) rfl (show (!t1) = false from by rw [h24]; rfl)) ?_
  refine WOps.p (G.move rfl) rfl ?_
  rcases ite_some hF with ⟨h25, hF⟩ | ⟨h25, hF⟩
  ·
   refine WOps.on rfl (kbl (b := !t1) rfl (show (!t1) = false from by rw [h24]; rfl)) ?_
   obtain ⟨x26, hc27, hF⟩ := bind_some hF
   have ho28 := hO23
   rw [hc27] at ho28
   obtain ⟨p29, hv30, hO31⟩ := ho28
   subst hv30
   obtain ⟨cs32, G33, ho34, hg35⟩ := hO31
   obtain ⟨b36, G37, rfl, hO38, hq39⟩ := ho34
   have S40 : St _ _ _ [[(p29, .cells #[.int .i64 x26.config.Clients, .int .i64 x26.config.Entries, .int .i64 x26.config.Bytes, .int .i64 x26.config.Reserve, .map (some b36), .int .i64 x26.entries, .int .i64 x26.bytes] 89 (0, 0))], G37] := S20.objs (by rw [hg35, hq39]; simp)
   refine WOps.p (G.eqp_nil Try.underlying28 rfl rfl rfl) rfl ?_
   refine WOps.p (G.pick_f (kb (b := !t1) rfl (show (!t1) = false from by rw [h24]; rfl)) rfl) rfl ?_
   refine WOps.p (G.move rfl) rfl ?_
   refine WOps.on rfl rfl ?_
   refine WOps.p (G.move rfl) rfl ?_
   refine WOps.on rfl rfl ?_
   refine WOps.p (G.neq rfl rfl rfl) rfl ?_
   refine WOps.p (G.pick_f rfl rfl) rfl ?_
   refine WOps.nil ?_
   refine WEx.then_ ?_
   refine WCode.forget (l' := [(2, .slice A2 a2.length c2), (8, .int .i64 (w64 (1 + t6))), (9, .int .i64 (w64 (1 + t11))), (10, .pointer (some ⟨p29, 0, none⟩)), (48, .bool (!(decide (t16.2 = 0))))]) ⟨rfl, rfl, rfl, rfl, rfl, trivial⟩ ?_
   rcases ite_some hF with ⟨h41, hF⟩ | ⟨h41, hF⟩
   ·
    refine WCode.cond_f (kb (b := !(decide (t16.2 = 0))) rfl (show (!(decide (t16.2 = 0))) = false from by rw [(decide_eq_true h41)]; rfl)) ?_
    refine WCode.skip ?_
    refine WEx.then_ ?_
    refine WCode.seq ?_
    refine WCode.region ?_
    obtain ⟨b42, w43, E44, S45, X46, L47⟩ := St.var S40 (z := .agg #[.slice none 0 0, .slice none 0 0, .slice none 0 0, .slice none 0 0, .slice none 0 0, .slice none 0 0, .slice none 0 0, .slice none 0 0]) T.zero50
    change St _ _ _ [[(b42, .cells #[.slice none 0 0, .slice none 0 0, .slice none 0 0, .slice none 0 0, .slice none 0 0, .slice none 0 0, .slice none 0 0, .slice none 0 0] 50 (0, 0))], [(p29, .cells #[.int .i64 x26.config.Clients, .int .i64 x26.config.Entries, .int .i64 x26.config.Bytes, .int .i64 x26.config.Reserve, .map (some b36), .int .i64 x26.entries, .int .i64 x26.bytes] 89 (0, 0))], G37] at S45
    refine WOps.e E44 rfl ?_
    have S49 := S45.emp
    have S51 := S49.emp
    have S53 := S51.emp
    have S55 := S53.emp
    have S57 := S55.emp
    have S59 := S57.emp
    have S61 := S59.emp
    have S63 := S61.emp
    have S65 := (((((((S63.front 1 rfl).front 2 rfl).front 3 rfl).front 4 rfl).front 5 rfl).front 6 rfl).front 7 rfl).front 8 rfl
    change St _ _ _ [[(b42, .cells #[.slice none 0 0, .slice none 0 0, .slice none 0 0, .slice none 0 0, .slice none 0 0, .slice none 0 0, .slice none 0 0, .slice none 0 0] 50 (0, 0))], ([] : Grp), ([] : Grp), ([] : Grp), ([] : Grp), ([] : Grp), ([] : Grp), ([] : Grp), ([] : Grp), [(p29, .cells #[.int .i64 x26.config.Clients, .int .i64 x26.config.Entries, .int .i64 x26.config.Bytes, .int .i64 x26.config.Reserve, .map (some b36), .int .i64 x26.entries, .int .i64 x26.bytes] 89 (0, 0))], G37] at S65
    have hO48 : SlO 50 (Rp.slice 3 (Rp.int .i64)) (.slice (some ⟨b42, 0, none⟩) ([[], [], [], [], [], [], [], []] : List (List Int)).length 8) ([[], [], [], [], [], [], [], []] : List (List Int)) ([(b42, .cells #[.slice none 0 0, .slice none 0 0, .slice none 0 0, .slice none 0 0, .slice none 0 0, .slice none 0 0, .slice none 0 0, .slice none 0 0] 50 (0, 0))] ++ (([] : Grp) ++ (([] : Grp) ++ (([] : Grp) ++ (([] : Grp) ++ (([] : Grp) ++ (([] : Grp) ++ (([] : Grp) ++ (([] : Grp) ++ ([])))))))))) := SlO.lit ⟨[.slice none 0 0], _, ([] : Grp), _, rfl, rfl, ⟨_, rfl, (SlO.nil 3 (Rp.int .i64))⟩, ⟨[.slice none 0 0], _, ([] : Grp), _, rfl, rfl, ⟨_, rfl, (SlO.nil 3 (Rp.int .i64))⟩, ⟨[.slice none 0 0], _, ([] : Grp), _, rfl, rfl, ⟨_, rfl, (SlO.nil 3 (Rp.int .i64))⟩, ⟨[.slice none 0 0], _, ([] : Grp), _, rfl, rfl, ⟨_, rfl, (SlO.nil 3 (Rp.int .i64))⟩, ⟨[.slice none 0 0], _, ([] : Grp), _, rfl, rfl, ⟨_, rfl, (SlO.nil 3 (Rp.int .i64))⟩, ⟨[.slice none 0 0], _, ([] : Grp), _, rfl, rfl, ⟨_, rfl, (SlO.nil 3 (Rp.int .i64))⟩, ⟨[.slice none 0 0], _, ([] : Grp), _, rfl, rfl, ⟨_, rfl, (SlO.nil 3 (Rp.int .i64))⟩, ⟨[.slice none 0 0], _, ([] : Grp), _, rfl, rfl, ⟨_, rfl, (SlO.nil 3 (Rp.int .i64))⟩, ⟨rfl, rfl⟩⟩⟩⟩⟩⟩⟩⟩⟩ rfl (Nat.le_of_ble_eq_true rfl) (Nat.le_of_ble_eq_true rfl)
    have S66 : St _ _ _ [[(b42, .cells #[.slice none 0 0, .slice none 0 0, .slice none 0 0, .slice none 0 0, .slice none 0 0, .slice none 0 0, .slice none 0 0, .slice none 0 0] 50 (0, 0))] ++ (([] : Grp) ++ (([] : Grp) ++ (([] : Grp) ++ (([] : Grp) ++ (([] : Grp) ++ (([] : Grp) ++ (([] : Grp) ++ (([] : Grp) ++ ([]))))))))), [(p29, .cells #[.int .i64 x26.config.Clients, .int .i64 x26.config.Entries, .int .i64 x26.config.Bytes, .int .i64 x26.config.Reserve, .map (some b36), .int .i64 x26.entries, .int .i64 x26.bytes] 89 (0, 0))], G37] := S65.objs (by simp)
    refine WOps.nil ?_
    refine WEx.then_ ?_
    refine WCode.seq ?_
    refine WCode.region ?_
    obtain ⟨b67, w68, E69, S70, X71, L72⟩ := St.var S66 (z := .agg #[.int .i64 0, .int .i64 0, .int .i64 0, .int .i64 0, .int .i64 0, .int .i64 0, .int .i64 0, .int .i64 0]) T.zero51
    change St _ _ _ [[(b67, .cells #[.int .i64 0, .int .i64 0, .int .i64 0, .int .i64 0, .int .i64 0, .int .i64 0, .int .i64 0, .int .i64 0] 51 (0, 0))], [(b42, .cells #[.slice none 0 0, .slice none 0 0, .slice none 0 0, .slice none 0 0, .slice none 0 0, .slice none 0 0, .slice none 0 0, .slice none 0 0] 50 (0, 0))] ++ (([] : Grp) ++ (([] : Grp) ++ (([] : Grp) ++ (([] : Grp) ++ (([] : Grp) ++ (([] : Grp) ++ (([] : Grp) ++ (([] : Grp) ++ ([]))))))))), [(p29, .cells #[.int .i64 x26.config.Clients, .int .i64 x26.config.Entries, .int .i64 x26.config.Bytes, .int .i64 x26.config.Reserve, .map (some b36), .int .i64 x26.entries, .int .i64 x26.bytes] 89 (0, 0))], G37] at S70
    refine WOps.e E69 rfl ?_
    have hO73 : SlO 51 (Rp.int .i64) (.slice (some ⟨b67, 0, none⟩) ([0, 0, 0, 0, 0, 0, 0, 0] : List Int).length 8) ([0, 0, 0, 0, 0, 0, 0, 0] : List Int) ([(b67, .cells #[.int .i64 0, .int .i64 0, .int .i64 0, .int .i64 0, .int .i64 0, .int .i64 0, .int .i64 0, .int .i64 0] 51 (0, 0))] ++ []) := SlO.lit (GM := []) ⟨_, _, [], [], rfl, rfl, ⟨rfl, rfl⟩, ⟨_, _, [], [], rfl, rfl, ⟨rfl, rfl⟩, ⟨_, _, [], [], rfl, rfl, ⟨rfl, rfl⟩, ⟨_, _, [], [], rfl, rfl, ⟨rfl, rfl⟩, ⟨_, _, [], [], rfl, rfl, ⟨rfl, rfl⟩, ⟨_, _, [], [], rfl, rfl, ⟨rfl, rfl⟩, ⟨_, _, [], [], rfl, rfl, ⟨rfl, rfl⟩, ⟨_, _, [], [], rfl, rfl, ⟨rfl, rfl⟩, ⟨rfl, rfl⟩⟩⟩⟩⟩⟩⟩⟩⟩ rfl (Nat.le_of_ble_eq_true rfl) (Nat.le_of_ble_eq_true rfl)
    rw [List.append_nil] at hO73
    refine WOps.nil ?_
    refine WEx.then_ ?_
    refine WCode.seq ?_
    refine WCode.seq ?_
    refine WCode.region ?_
    refine WOps.p (G.assign rfl) rfl ?_
    refine WOps.nil ?_
    refine WEx.then_ ?_
    refine WCode.block ?_
    have S95 := (((S70.front 3 rfl).front 1 rfl).front 2 rfl).front 3 rfl
    change St _ _ _ [[(p29, .cells #[.int .i64 x26.config.Clients, .int .i64 x26.config.Entries, .int .i64 x26.config.Bytes, .int .i64 x26.config.Reserve, .map (some b36), .int .i64 x26.entries, .int .i64 x26.bytes] 89 (0, 0))], [(b42, .cells #[.slice none 0 0, .slice none 0 0, .slice none 0 0, .slice none 0 0, .slice none 0 0, .slice none 0 0, .slice none 0 0, .slice none 0 0] 50 (0, 0))] ++ (([] : Grp) ++ (([] : Grp) ++ (([] : Grp) ++ (([] : Grp) ++ (([] : Grp) ++ (([] : Grp) ++ (([] : Grp) ++ (([] : Grp) ++ ([]))))))))), [(b67, .cells #[.int .i64 0, .int .i64 0, .int .i64 0, .int .i64 0, .int .i64 0, .int .i64 0, .int .i64 0, .int .i64 0] 51 (0, 0))], G37] at S95
    refine WCode.forget (l' := [(2, .slice A2 a2.length c2), (8, .int .i64 (w64 (1 + t6))), (9, .int .i64 (w64 (1 + t11))), (10, .pointer (some ⟨p29, 0, none⟩)), (12, .pointer (some ⟨b42, 0, none⟩)), (13, .pointer (some ⟨b67, 0, none⟩)), (14, .int .i64 0)]) ⟨rfl, rfl, rfl, rfl, rfl, rfl, rfl, trivial⟩ ?_
    refine WCode.loop (fun n_ l_ w_ => ∃ l76 : List (List Int), ∃ G74 : Grp, ∃ l79 : List Int, ∃ G77 : Grp, ∃ x80 : Int, ∃ x81 : Int, ∃ x82 : Int, ∃ x83 : Int, ∃ x84 : Int, ∃ b85 : Nat, ∃ l86 : List (WhoC × Known), ∃ G87 : Grp, ∃ x89 : Int, ∃ x90 : Int, l_ = [(2, .slice A2 a2.length c2), (8, .int .i64 (w64 (1 + t6))), (9, .int .i64 (w64 (1 + t11))), (10, .pointer (some ⟨p29, 0, none⟩)), (12, .pointer (some ⟨b42, 0, none⟩)), (13, .pointer (some ⟨b67, 0, none⟩)), (14, .int .i64 x80)] ∧ law_Rooms.l1 n_ a2 t6 t11 l76 l79 x80 x81 x82 x83 x84 l86 x89 x90 = some r_ ∧ (SlO 50 (Rp.slice 3 (Rp.int .i64)) (.slice (some ⟨b42, 0, none⟩) l76.length 8) l76 G74) ∧ (SlO 51 (Rp.int .i64) (.slice (some ⟨b67, 0, none⟩) l79.length 8) l79 G77) ∧ (CliO M87.k 96 Known.rp b85 l86 G87) ∧ St w (KS []) w_ [[(p29, .cells #[.int .i64 x81, .int .i64 x82, .int .i64 x83, .int .i64 x84, .map (some b85), .int .i64 x89, .int .i64 x90] 89 (0, 0))], G74, G77, G87]) k ⟨([[], [], [], [], [], [], [], []] : List (List Int)), [(b42, .cells #[.slice none 0 0, .slice none 0 0, .slice none 0 0, .slice none 0 0, .slice none 0 0, .slice none 0 0, .slice none 0 0, .slice none 0 0] 50 (0, 0))] ++ (([] : Grp) ++ (([] : Grp) ++ (([] : Grp) ++ (([] : Grp) ++ (([] : Grp) ++ (([] : Grp) ++ (([] : Grp) ++ (([] : Grp) ++ ([]))))))))), ([0, 0, 0, 0, 0, 0, 0, 0] : List Int), [(b67, .cells #[.int .i64 0, .int .i64 0, .int .i64 0, .int .i64 0, .int .i64 0, .int .i64 0, .int .i64 0, .int .i64 0] 51 (0, 0))], 0, x26.config.Clients, x26.config.Entries, x26.config.Bytes, x26.config.Reserve, b36, x26.clients, G37, x26.entries, x26.bytes, rfl, hF, hO48, hO73, hO38, S95⟩ ?_
    rintro n94 _ w91 ⟨l76, G74, l79, G77, x80, x81, x82, x83, x84, b85, l86, G87, x89, x90, rfl, hF, hO75, hO78, hO88, S92⟩
    obtain _ | k93 := n94
    · exact nomatch (show (none : Option Bool) = some r_ from hF)
    rw [law_Rooms.l1] at hF
    refine WCode.seq ?_
    refine WCode.seq ?_
    refine WCode.region ?_
    refine WOps.p (G.move rfl) rfl ?_
    refine WOps.p (G.move rfl) rfl ?_
    refine WOps.p (G.len T.el47 rfl) rfl ?_
    refine WOps.p (G.lss rfl rfl rfl) rfl ?_
    refine WOps.nil ?_
    refine WEx.then_ ?_
    rcases ite_some hF with ⟨h97, hF⟩ | ⟨h97, hF⟩
    ·
     refine WCode.cond_t (kb (b := decide (x80 < (a2.length : Int))) rfl (decide_eq_true h97)) ?_
     refine WCode.skip ?_
     refine WEx.then_ ?_
     refine WCode.seq ?_
     refine WCode.block ?_
     refine WCode.seq ?_
     refine WCode.region ?_
     refine WOps.p (G.move rfl) rfl ?_
     refine WOps.p (G.move rfl) rfl ?_
     obtain ⟨x98, hc99, hF⟩ := bind_some hF
     obtain ⟨j100, ej101, hj102, hl103⟩ := idx_spec hc99
     obtain ⟨b104, o105, cs106, eA107, hf108, hc109, hr110⟩ := SlR.at_ (hR2.ext (S92.keepF hF2)) hj102
     have hq111 : cs106 = [.int .i64 x98.Who, .int .i64 x98.N, .bool x98.New, .bool x98.Answer, .bool x98.Ends] := hr110
     subst hq111
     change cellsAt _ _ (o105 + j100 * 5) [.int .i64 x98.Who, .int .i64 x98.N, .bool x98.New, .bool x98.Answer, .bool x98.Ends] at hc109
     refine WOps.p (G.idx T.el47 rfl eA107 rfl ej101 hl103) rfl ?_
     refine WOps.p (G.field T.fld53_0 rfl (show o105 + j100 * 5 + 0 = o105 + j100 * 5 + 0 from rfl)) rfl ?_
     refine WOps.r (G.load1 T.one3 rfl (cellsAt.at0 hc109)) rfl ?_
     refine WOps.p (G.move rfl) rfl ?_
     obtain ⟨t112, hc113, hF⟩ := bind_some hF
     refine WOps.call T.call21 (evs_cons rfl (evs_cons rfl evs_nil)) rfl ?_
     refine (ca_pick_calls k93 x98.Who (w64 (1 + t6)) hc113).mono ?_
     rintro _ w114 ⟨rfl, T115⟩
     have S116 := St.callN (As := []) S92 T115
     change St _ _ _ [[(p29, .cells #[.int .i64 x81, .int .i64 x82, .int .i64 x83, .int .i64 x84, .map (some b85), .int .i64 x89, .int .i64 x90] 89 (0, 0))], G74, G77, G87] at S116
     refine ⟨_, rfl, ?_⟩
     refine WOps.p (G.assign rfl) rfl ?_
     refine WOps.nil ?_
     refine WEx.then_ ?_
     refine WCode.forget (l' := [(2, .slice A2 a2.length c2), (8, .int .i64 (w64 (1 + t6))), (9, .int .i64 (w64 (1 + t11))), (10, .pointer (some ⟨p29, 0, none⟩)), (12, .pointer (some ⟨b42, 0, none⟩)), (13, .pointer (some ⟨b67, 0, none⟩)), (14, .int .i64 x80), (15, .int .i64 t112)]) ⟨rfl, rfl, rfl, rfl, rfl, rfl, rfl, rfl, trivial⟩ ?_
     refine WCode.cutseq (fun l_ w_ => ∃ q122 : Nat, ∃ l119 : List Int, ∃ G117 : Grp, l_ = [(2, .slice A2 a2.length c2), (8, .int .i64 (w64 (1 + t6))), (9, .int .i64 (w64 (1 + t11))), (10, .pointer (some ⟨p29, 0, none⟩)), (12, .pointer (some ⟨b42, 0, none⟩)), (13, .pointer (some ⟨b67, 0, none⟩)), (14, .int .i64 x80), (15, .int .i64 t112)] ∧ law_Rooms.j1 q122 a2 t6 t11 l76 x80 x81 x82 x83 x84 l86 x89 x90 t112 l119 = some r_ ∧ q122 ≤ k93 ∧ (SlO 51 (Rp.int .i64) (.slice (some ⟨b67, 0, none⟩) l119.length 8) l119 G117) ∧ St w (KS []) w_ [[(p29, .cells #[.int .i64 x81, .int .i64 x82, .int .i64 x83, .int .i64 x84, .map (some b85), .int .i64 x89, .int .i64 x90] 89 (0, 0))], G74, G87, G117]) ?_ ?_
     ·
      refine WCode.seq ?_
      refine WCode.region ?_
      refine WOps.p (G.move rfl) rfl ?_
      obtain ⟨x124, hc125, hF⟩ := bind_some hF
      obtain ⟨j126, ej127, hj128, hl129⟩ := idx_spec hc125
      obtain ⟨b130, o131, cs132, eA133, hf134, hc135, hr136⟩ := SlR.at_ (hO78.rd (fun b o hb => S116.grp 2 rfl hb)) hj128
      have hq137 : cs132 = [.int .i64 x124] := hr136
      subst hq137
      change cellsAt _ _ (o131 + j126 * 1) [.int .i64 x124] at hc135
      refine WOps.p (G.idxav T.ar51_8_1 rfl eA133 rfl ej127 (Nat.lt_of_lt_of_le hl129 ((hO78.rd (fun b o hb => S116.grp 2 rfl hb))).cap)) rfl ?_
      refine WOps.r (G.load1 T.one3 rfl (cellsAt.at0 hc135)) rfl ?_
      refine WOps.p (G.eql rfl rfl rfl) rfl ?_
      refine WOps.nil ?_
      refine WEx.then_ ?_
      rcases ite_some hF with ⟨h138, hF⟩ | ⟨h138, hF⟩
      ·
       refine WCode.cond_t (kb (b := decide (x124 = 0)) rfl (decide_eq_true h138)) ?_
       refine WCode.region ?_
       refine WOps.p (G.move rfl) rfl ?_
       obtain ⟨x139, hc140, hF⟩ := bind_some hF
       obtain ⟨j141, ej142, hj143, hl144⟩ := idx_spec hc140
       obtain ⟨b145, o146, cs147, eA148, hf149, hc150, hr151⟩ := SlR.at_ (hO78.rd (fun b o hb => S116.grp 2 rfl hb)) hj143
       have hq152 : cs147 = [.int .i64 x139] := hr151
       subst hq152
       change cellsAt _ _ (o146 + j141 * 1) [.int .i64 x139] at hc150
       refine WOps.p (G.idxav T.ar51_8_1 rfl eA148 rfl ej142 (Nat.lt_of_lt_of_le hl144 ((hO78.rd (fun b o hb => S116.grp 2 rfl hb))).cap)) rfl ?_
       obtain ⟨l153, hc154, hF⟩ := bind_some hF
       have e155 := upd_spec' hc154 ej142
       have S156 := S116.front 2 rfl
       change St _ _ _ [G77, [(p29, .cells #[.int .i64 x81, .int .i64 x82, .int .i64 x83, .int .i64 x84, .map (some b85), .int .i64 x89, .int .i64 x90] 89 (0, 0))], G74, G87] at S156
       obtain ⟨w157, G158, E159, hO160, S161⟩ := St.storeF (P := Try.prog) (T := 3) S156 hO78 T.size3_1 hj143 eA148 1 (v := .int .i64 1) [] [.int .i64 x139] [] rfl rfl rfl
       rw [← e155] at hO160
       have hl162 : (l79).length = l153.length := by rw [e155, List.length_set]
       try rw [hl162] at S161
       try rw [hl162]
       change St _ _ _ [G158, [(p29, .cells #[.int .i64 x81, .int .i64 x82, .int .i64 x83, .int .i64 x84, .map (some b85), .int .i64 x89, .int .i64 x90] 89 (0, 0))], G74, G87] at S161
       refine WOps.u (E159 rfl rfl) ?_
       refine WOps.nil ?_
       have S163 := ((S161.front 3 rfl).front 3 rfl).front 3 rfl
       change St _ _ _ [[(p29, .cells #[.int .i64 x81, .int .i64 x82, .int .i64 x83, .int .i64 x84, .map (some b85), .int .i64 x89, .int .i64 x90] 89 (0, 0))], G74, G87, G158] at S163
       refine WEx.cutend _ ?_ ⟨k93, l153, G158, rfl, hF, (by omega), hO160, S163⟩
       exact ⟨rfl, rfl, rfl, rfl, rfl, rfl, rfl, rfl, trivial⟩
      ·
       refine WCode.cond_f (kb (b := decide (x124 = 0)) rfl (decide_eq_false h138)) ?_
       refine WCode.skip ?_
       have S164 := (((S116.front 2 rfl).front 3 rfl).front 3 rfl).front 3 rfl
       change St _ _ _ [[(p29, .cells #[.int .i64 x81, .int .i64 x82, .int .i64 x83, .int .i64 x84, .map (some b85), .int .i64 x89, .int .i64 x90] 89 (0, 0))], G74, G87, G77] at S164
       refine WEx.cutend _ ?_ ⟨k93, l79, G77, rfl, hF, (by omega), hO78, S164⟩
       exact ⟨rfl, rfl, rfl, rfl, rfl, rfl, rfl, rfl, trivial⟩
     ·
      rintro _ w120 ⟨q122, l119, G117, rfl, hF, hq123, hO118, S121⟩
      obtain _ | k165 := q122
      · exact nomatch (show (none : Option Bool) = some r_ from hF)
      rw [law_Rooms.j1] at hF
      refine WCode.seq ?_
      refine WCode.region ?_
      refine WOps.p (G.move rfl) rfl ?_
      obtain ⟨x166, hc167, hF⟩ := bind_some hF
      obtain ⟨j168, ej169, hj170, hl171⟩ := idx_spec hc167
      obtain ⟨b172, o173, cs174, eA175, hf176, hc177, hr178⟩ := SlR.at_ (hO118.rd (fun b o hb => S121.grp 3 rfl hb)) hj170
      have hq179 : cs174 = [.int .i64 x166] := hr178
      subst hq179
      change cellsAt _ _ (o173 + j168 * 1) [.int .i64 x166] at hc177
      refine WOps.p (G.idxav T.ar51_8_1 rfl eA175 rfl ej169 (Nat.lt_of_lt_of_le hl171 ((hO118.rd (fun b o hb => S121.grp 3 rfl hb))).cap)) rfl ?_
      refine WOps.r (G.load1 T.one3 rfl (cellsAt.at0 hc177)) rfl ?_
      refine WOps.p (G.assign rfl) rfl ?_
      refine WOps.nil ?_
      refine WEx.then_ ?_
      refine WCode.cutseq (fun l_ w_ => ∃ q183 : Nat, ∃ x180 : Int, l_ = [(2, .slice A2 a2.length c2), (8, .int .i64 (w64 (1 + t6))), (9, .int .i64 (w64 (1 + t11))), (10, .pointer (some ⟨p29, 0, none⟩)), (12, .pointer (some ⟨b42, 0, none⟩)), (13, .pointer (some ⟨b67, 0, none⟩)), (14, .int .i64 x80), (15, .int .i64 t112), (16, .int .i64 x180)] ∧ law_Rooms.j2 q183 a2 t6 t11 l76 x80 x81 x82 x83 x84 l86 x89 x90 t112 l119 x180 = some r_ ∧ q183 ≤ k165 ∧ St w (KS []) w_ [[(p29, .cells #[.int .i64 x81, .int .i64 x82, .int .i64 x83, .int .i64 x84, .map (some b85), .int .i64 x89, .int .i64 x90] 89 (0, 0))], G74, G117, G87]) ?_ ?_
      ·
       refine WCode.seq ?_
       refine WCode.region ?_
       refine WOps.p (G.move rfl) rfl ?_
       obtain ⟨x185, hc186, hF⟩ := bind_some hF
       obtain ⟨j187, ej188, hj189, hl190⟩ := idx_spec hc186
       obtain ⟨A198, c199, hG200, hH203, hS201, hcl202⟩ := SlO.subH hO75 hj189
       obtain ⟨b191, o192, eA194, hf195, hc196⟩ := hcl202 _ (fun b o hb => S121.grp 1 rfl hb)
       refine WOps.p (G.idxav T.ar50_8_1 rfl eA194 rfl ej188 (Nat.lt_of_lt_of_le hl190 ((hO75.rd (fun b o hb => S121.grp 1 rfl hb))).cap)) rfl ?_
       refine WOps.r (G.load1 T.one49 rfl (cellsAt.at0 hc196)) rfl ?_
       refine WOps.p (G.len T.el49 rfl) rfl ?_
       refine WOps.p (G.gtr rfl rfl rfl) rfl ?_
       refine WOps.nil ?_
       refine WEx.then_ ?_
       rcases ite_some hF with ⟨h204, hF⟩ | ⟨h204, hF⟩
       ·
        refine WCode.cond_t (kb (b := decide (0 < (x185.length : Int))) rfl (decide_eq_true h204)) ?_
        refine WCode.region ?_
        refine WOps.p (G.move rfl) rfl ?_
        obtain ⟨x205, hc206, hF⟩ := bind_some hF
        obtain ⟨j207, ej208, hj209, hl210⟩ := idx_spec hc206
        obtain ⟨A218, c219, hG220, hH223, hS221, hcl222⟩ := SlO.subH hO75 hj209
        obtain ⟨b211, o212, eA214, hf215, hc216⟩ := hcl222 _ (fun b o hb => S121.grp 1 rfl hb)
        refine WOps.p (G.idxav T.ar50_8_1 rfl eA214 rfl ej208 (Nat.lt_of_lt_of_le hl210 ((hO75.rd (fun b o hb => S121.grp 1 rfl hb))).cap)) rfl ?_
        refine WOps.r (G.load1 T.one49 rfl (cellsAt.at0 hc216)) rfl ?_
        obtain ⟨x224, hc225, hF⟩ := bind_some hF
        obtain ⟨j226, ej227, hj228, hl229⟩ := idx_spec hc225
        obtain ⟨b230, o231, cs232, eA233, hf234, hc235, hr236⟩ := SlR.at_ ((SlG.toV (u := w) hG220 (S121.nd 1 rfl)).ext (S121.vw 1 rfl)) hj228
        have hq237 : cs232 = [.int .i64 x224] := hr236
        subst hq237
        change cellsAt _ _ (o231 + j226 * 1) [.int .i64 x224] at hc235
        refine WOps.p (G.idx T.el49 rfl eA233 rfl ej227 hl229) rfl ?_
        refine WOps.r (G.load1 T.one3 rfl (cellsAt.at0 hc235)) rfl ?_
        refine WOps.p (G.assign rfl) rfl ?_
        refine WOps.nil ?_
        have S238 := (((S121.front 2 rfl).front 3 rfl).front 3 rfl).front 3 rfl
        change St _ _ _ [[(p29, .cells #[.int .i64 x81, .int .i64 x82, .int .i64 x83, .int .i64 x84, .map (some b85), .int .i64 x89, .int .i64 x90] 89 (0, 0))], G74, G117, G87] at S238
        refine WEx.cutend _ ?_ ⟨k165, x224, rfl, hF, (by omega), S238⟩
        exact ⟨rfl, rfl, rfl, rfl, rfl, rfl, rfl, rfl, rfl, trivial⟩
       ·
        refine WCode.cond_f (kb (b := decide (0 < (x185.length : Int))) rfl (decide_eq_false h204)) ?_
        refine WCode.skip ?_
        have S239 := (((S121.front 2 rfl).front 3 rfl).front 3 rfl).front 3 rfl
        change St _ _ _ [[(p29, .cells #[.int .i64 x81, .int .i64 x82, .int .i64 x83, .int .i64 x84, .map (some b85), .int .i64 x89, .int .i64 x90] 89 (0, 0))], G74, G117, G87] at S239
        refine WEx.cutend _ ?_ ⟨k165, x166, rfl, hF, (by omega), S239⟩
        exact ⟨rfl, rfl, rfl, rfl, rfl, rfl, rfl, rfl, rfl, trivial⟩
      ·
       rintro _ w181 ⟨q183, x180, rfl, hF, hq184, S182⟩
       obtain _ | k240 := q183
       · exact nomatch (show (none : Option Bool) = some r_ from hF)
       rw [law_Rooms.j2] at hF
       refine WCode.cutseq (fun l_ w_ => ∃ q243 : Nat, l_ = [(2, .slice A2 a2.length c2), (8, .int .i64 (w64 (1 + t6))), (9, .int .i64 (w64 (1 + t11))), (10, .pointer (some ⟨p29, 0, none⟩)), (12, .pointer (some ⟨b42, 0, none⟩)), (13, .pointer (some ⟨b67, 0, none⟩)), (14, .int .i64 x80), (15, .int .i64 t112), (16, .int .i64 x180)] ∧ law_Rooms.j3 q243 a2 t6 t11 l76 x80 x81 x82 x83 x84 l86 x89 x90 t112 l119 x180 = some r_ ∧ q243 ≤ k240 ∧ St w (KS []) w_ [[(p29, .cells #[.int .i64 x81, .int .i64 x82, .int .i64 x83, .int .i64 x84, .map (some b85), .int .i64 x89, .int .i64 x90] 89 (0, 0))], G74, G117, G87]) ?_ ?_
       ·
        refine WCode.seq ?_
        refine WCode.region ?_
        refine WOps.p (G.move rfl) rfl ?_
        refine WOps.p (G.move rfl) rfl ?_
        obtain ⟨x245, hc246, hF⟩ := bind_some hF
        obtain ⟨j247, ej248, hj249, hl250⟩ := idx_spec hc246
        obtain ⟨b251, o252, cs253, eA254, hf255, hc256, hr257⟩ := SlR.at_ (hR2.ext (S182.keepF hF2)) hj249
        have hq258 : cs253 = [.int .i64 x245.Who, .int .i64 x245.N, .bool x245.New, .bool x245.Answer, .bool x245.Ends] := hr257
        subst hq258
        change cellsAt _ _ (o252 + j247 * 5) [.int .i64 x245.Who, .int .i64 x245.N, .bool x245.New, .bool x245.Answer, .bool x245.Ends] at hc256
        refine WOps.p (G.idx T.el47 rfl eA254 rfl ej248 hl250) rfl ?_
        refine WOps.p (G.field T.fld53_4 rfl (show o252 + j247 * 5 + 4 = o252 + j247 * 5 + 4 from rfl)) rfl ?_
        refine WOps.r (G.load1 T.one4 rfl (cellsAt.at hc256 4 rfl)) rfl ?_
        refine WOps.p (G.move rfl) rfl ?_
        rcases ite_some hF with ⟨h259, hF⟩ | ⟨h259, hF⟩
        ·
         refine WOps.on rfl (kbl (b := x245.Ends) rfl h259) ?_
         refine WOps.p (G.move rfl) rfl ?_
         refine WOps.on rfl (kbl (b := x245.Ends) rfl h259) ?_
         obtain ⟨x260, hc261, hF⟩ := bind_some hF
         obtain ⟨j262, ej263, hj264, hl265⟩ := idx_spec hc261
         obtain ⟨A273, c274, hG275, hH278, hS276, hcl277⟩ := SlO.subH hO75 hj264
         obtain ⟨b266, o267, eA269, hf270, hc271⟩ := hcl277 _ (fun b o hb => S182.grp 1 rfl hb)
         refine WOps.p (G.idxav T.ar50_8_1 rfl eA269 rfl ej263 (Nat.lt_of_lt_of_le hl265 ((hO75.rd (fun b o hb => S182.grp 1 rfl hb))).cap)) rfl ?_
         refine WOps.on rfl (kbl (b := x245.Ends) rfl h259) ?_
         refine WOps.r (G.load1 T.one49 rfl (cellsAt.at0 hc271)) rfl ?_
         refine WOps.on rfl (kbl (b := x245.Ends) rfl h259) ?_
         refine WOps.p (G.len T.el49 rfl) rfl ?_
         refine WOps.on rfl (kbl (b := x245.Ends) rfl h259) ?_
         refine WOps.p (G.gtr rfl rfl rfl) rfl ?_
         refine WOps.p (G.pick_t (kb (b := x245.Ends) rfl h259) rfl) rfl ?_
         refine WOps.nil ?_
         refine WEx.then_ ?_
         rcases ite_some hF with ⟨h279, hF⟩ | ⟨h279, hF⟩
         ·
          refine WCode.cond_t (kb (b := decide (0 < (x260.length : Int))) rfl (decide_eq_true h279)) ?_
          refine WCode.seq ?_
          refine WCode.region ?_
          refine WOps.p (G.move rfl) rfl ?_
          refine WOps.p (G.move rfl) rfl ?_
          obtain ⟨x280, hc281, hF⟩ := bind_some hF
          obtain ⟨j282, ej283, hj284, hl285⟩ := idx_spec hc281
          obtain ⟨A293, c294, hG295, hH298, hS296, hcl297⟩ := SlO.subH hO75 hj284
          obtain ⟨b286, o287, eA289, hf290, hc291⟩ := hcl297 _ (fun b o hb => S182.grp 1 rfl hb)
          refine WOps.p (G.idxav T.ar50_8_1 rfl eA289 rfl ej283 (Nat.lt_of_lt_of_le hl285 ((hO75.rd (fun b o hb => S182.grp 1 rfl hb))).cap)) rfl ?_
          refine WOps.r (G.load1 T.one49 rfl (cellsAt.at0 hc291)) rfl ?_
          obtain ⟨m299, hc300, hF⟩ := bind_some hF
          have hv301 := (SlG.toV (u := w) hG295 (S182.nd 1 rfl)).cut_lh hc300
          refine WOps.p (G.cut_l T.el49 rfl rfl hc300) rfl ?_
          obtain ⟨x302, hc303, hF⟩ := bind_some hF
          obtain ⟨j304, ej305, hj306, hl307⟩ := idx_spec hc303
          obtain ⟨A315, c316, hG317, hH320, hS318, hcl319⟩ := SlO.subH hO75 hj306
          obtain ⟨b308, o309, eA311, hf312, hc313⟩ := hcl319 _ (fun b o hb => S182.grp 1 rfl hb)
          refine WOps.p (G.idxav T.ar50_8_1 rfl eA311 rfl ej305 (Nat.lt_of_lt_of_le hl307 ((hO75.rd (fun b o hb => S182.grp 1 rfl hb))).cap)) rfl ?_
          have S321 := S182.front 1 rfl
          change St _ _ _ [G74, [(p29, .cells #[.int .i64 x81, .int .i64 x82, .int .i64 x83, .int .i64 x84, .map (some b85), .int .i64 x89, .int .i64 x90] 89 (0, 0))], G117, G87] at S321
          obtain ⟨G322, G323, hO324, hH325, S326⟩ := St.focusS S321 hH298
          obtain ⟨G327, hO328, S329⟩ := St.cutO S326 plain_own hO324 hc300
          change St _ _ _ [G327, G323, [(p29, .cells #[.int .i64 x81, .int .i64 x82, .int .i64 x83, .int .i64 x84, .map (some b85), .int .i64 x89, .int .i64 x90] 89 (0, 0))], G117, G87] at S329
          have hj330 : j282 = j304 := by omega
          rw [hj330] at hH325
          have S331 := S329.front 1 rfl
          change St _ _ _ [G323, G327, [(p29, .cells #[.int .i64 x81, .int .i64 x82, .int .i64 x83, .int .i64 x84, .map (some b85), .int .i64 x89, .int .i64 x90] 89 (0, 0))], G117, G87] at S331
          obtain ⟨w332, G333, E334, hH335, S336⟩ := St.storeH (P := Try.prog) (T := 49) S331 hH325 T.size49_1 eA311 (v := .slice (subA A293 c294 1 1) m299.length (c294 - (1 : Int).toNat)) [] [_] [] rfl rfl rfl rfl
          have S337 := S336.front 1 rfl
          change St _ _ _ [G327, G333, [(p29, .cells #[.int .i64 x81, .int .i64 x82, .int .i64 x83, .int .i64 x84, .map (some b85), .int .i64 x89, .int .i64 x90] 89 (0, 0))], G117, G87] at S337
          obtain ⟨l338, hc339, hF⟩ := bind_some hF
          have e340 := upd_spec' hc339 ej305
          obtain ⟨G341, hO342, S343⟩ := St.shutL S337 hH335 ⟨_, rfl, hO328⟩
          rw [← e340] at hO342
          have hl344 : (l76).length = l338.length := by rw [e340, List.length_set]
          try rw [hl344] at S343
          change St _ _ _ [G341, [(p29, .cells #[.int .i64 x81, .int .i64 x82, .int .i64 x83, .int .i64 x84, .map (some b85), .int .i64 x89, .int .i64 x90] 89 (0, 0))], G117, G87] at S343
          refine WOps.u (E334 rfl rfl) ?_
          try rw [hl344]
          refine WOps.nil ?_
          refine WEx.then_ ?_
          refine WCode.forget (l' := [(2, .slice A2 a2.length c2), (8, .int .i64 (w64 (1 + t6))), (9, .int .i64 (w64 (1 + t11))), (10, .pointer (some ⟨p29, 0, none⟩)), (12, .pointer (some ⟨b42, 0, none⟩)), (13, .pointer (some ⟨b67, 0, none⟩)), (14, .int .i64 x80), (87, .int .i64 t112), (88, .pointer (some ⟨b266, o267 + j262 * 1, none⟩)), (89, .slice A273 x260.length c274), (90, .int .i64 (x260.length : Int)), (91, .bool (decide (0 < (x260.length : Int))))]) ⟨rfl, rfl, rfl, rfl, rfl, rfl, rfl, rfl, rfl, rfl, rfl, rfl, trivial⟩ ?_
          refine WCode.exit ?_
          refine WEx.then_exit ?_
          refine WEx.in_exit ?_
          refine WEx.then_ ?_
          refine WCode.region ?_
          refine WOps.p (G.move rfl) rfl ?_
          refine WOps.p (G.add rfl rfl (r := (w64 (x80 + 1))) rfl) rfl ?_
          refine WOps.p (G.assign rfl) rfl ?_
          refine WOps.nil ?_
          have S345 := (((S343.front 3 rfl).front 3 rfl).front 2 rfl).front 3 rfl
          change St _ _ _ [[(p29, .cells #[.int .i64 x81, .int .i64 x82, .int .i64 x83, .int .i64 x84, .map (some b85), .int .i64 x89, .int .i64 x90] 89 (0, 0))], G341, G117, G87] at S345
          refine WEx.again _ _ (by omega) ?_ ⟨l338, G341, l119, G117, w64 (x80 + 1), x81, x82, x83, x84, b85, l86, G87, x89, x90, rfl, hF, hO342, hO118, hO88, S345⟩
          exact ⟨rfl, rfl, rfl, rfl, rfl, rfl, rfl, trivial⟩
         ·
          refine WCode.cond_f (kb (b := decide (0 < (x260.length : Int))) rfl (decide_eq_false h279)) ?_
          refine WCode.skip ?_
          refine WEx.cutend _ ?_ ⟨k240, rfl, hF, (by omega), S182⟩
          exact ⟨rfl, rfl, rfl, rfl, rfl, rfl, rfl, rfl, rfl, trivial⟩
        ·
         refine WOps.off rfl (kbl (b := x245.Ends) rfl (Bool.eq_false_iff.2 h259)) rfl rfl ?_
         refine WOps.off rfl (kbl (b := x245.Ends) rfl (Bool.eq_false_iff.2 h259)) rfl rfl ?_
         refine WOps.off rfl (kbl (b := x245.Ends) rfl (Bool.eq_false_iff.2 h259)) rfl rfl ?_
         refine WOps.off rfl (kbl (b := x245.Ends) rfl (Bool.eq_false_iff.2 h259)) rfl rfl ?_
         refine WOps.off rfl (kbl (b := x245.Ends) rfl (Bool.eq_false_iff.2 h259)) rfl rfl ?_
         refine WOps.p (G.pick_f (kb (b := x245.Ends) rfl (Bool.eq_false_iff.2 h259)) rfl) rfl ?_
         refine WOps.nil ?_
         refine WEx.then_ ?_
         refine WCode.cond_f rfl ?_
         refine WCode.skip ?_
         refine WEx.cutend _ ?_ ⟨k240, rfl, hF, (by omega), S182⟩
         exact ⟨rfl, rfl, rfl, rfl, rfl, rfl, rfl, rfl, rfl, trivial⟩
       ·
        rintro _ w241 ⟨q243, rfl, hF, hq244, S242⟩
        obtain _ | k346 := q243
        · exact nomatch (show (none : Option Bool) = some r_ from hF)
        rw [law_Rooms.j3] at hF
        refine WCode.seq ?_
        refine WCode.region ?_
        refine WOps.p (G.assign rfl) rfl ?_
        refine WOps.nil ?_
        refine WEx.then_ ?_
        refine WCode.cutseq (fun l_ w_ => ∃ q356 : Nat, ∃ l349 : List (List Int), ∃ G347 : Grp, ∃ l352 : List Int, ∃ G350 : Grp, ∃ x353 : Int, l_ = [(2, .slice A2 a2.length c2), (8, .int .i64 (w64 (1 + t6))), (9, .int .i64 (w64 (1 + t11))), (10, .pointer (some ⟨p29, 0, none⟩)), (12, .pointer (some ⟨b42, 0, none⟩)), (13, .pointer (some ⟨b67, 0, none⟩)), (14, .int .i64 x80), (15, .int .i64 t112), (16, .int .i64 x180), (17, .int .i64 x353)] ∧ law_Rooms.j4 q356 a2 t6 t11 x80 x81 x82 x83 x84 l86 x89 x90 t112 x180 l349 l352 x353 = some r_ ∧ q356 ≤ k346 ∧ (SlO 50 (Rp.slice 3 (Rp.int .i64)) (.slice (some ⟨b42, 0, none⟩) l349.length 8) l349 G347) ∧ (SlO 51 (Rp.int .i64) (.slice (some ⟨b67, 0, none⟩) l352.length 8) l352 G350) ∧ St w (KS []) w_ [[(p29, .cells #[.int .i64 x81, .int .i64 x82, .int .i64 x83, .int .i64 x84, .map (some b85), .int .i64 x89, .int .i64 x90] 89 (0, 0))], G87, G347, G350]) ?_ ?_
        ·
         refine WCode.cutseq (fun l_ w_ => ∃ q361 : Nat, ∃ b358 : Bool, l_ = [(2, .slice A2 a2.length c2), (8, .int .i64 (w64 (1 + t6))), (9, .int .i64 (w64 (1 + t11))), (10, .pointer (some ⟨p29, 0, none⟩)), (12, .pointer (some ⟨b42, 0, none⟩)), (13, .pointer (some ⟨b67, 0, none⟩)), (14, .int .i64 x80), (15, .int .i64 t112), (16, .int .i64 x180), (110, .bool b358)] ∧ law_Rooms.j5 q361 a2 t6 t11 l76 x80 x81 x82 x83 x84 l86 x89 x90 t112 l119 x180 b358 = some r_ ∧ q361 ≤ k346 ∧ St w (KS []) w_ [[(p29, .cells #[.int .i64 x81, .int .i64 x82, .int .i64 x83, .int .i64 x84, .map (some b85), .int .i64 x89, .int .i64 x90] 89 (0, 0))], G74, G117, G87]) ?_ ?_
         ·
          refine WCode.region ?_
          refine WOps.p (G.move rfl) rfl ?_
          refine WOps.p (G.move rfl) rfl ?_
          obtain ⟨x363, hc364, hF⟩ := bind_some hF
          obtain ⟨j365, ej366, hj367, hl368⟩ := idx_spec hc364
          obtain ⟨b369, o370, cs371, eA372, hf373, hc374, hr375⟩ := SlR.at_ (hR2.ext (S242.keepF hF2)) hj367
          have hq376 : cs371 = [.int .i64 x363.Who, .int .i64 x363.N, .bool x363.New, .bool x363.Answer, .bool x363.Ends] := hr375
          subst hq376
          change cellsAt _ _ (o370 + j365 * 5) [.int .i64 x363.Who, .int .i64 x363.N, .bool x363.New, .bool x363.Answer, .bool x363.Ends] at hc374
          refine WOps.p (G.idx T.el47 rfl eA372 rfl ej366 hl368) rfl ?_
          refine WOps.p (G.field T.fld53_2 rfl (show o370 + j365 * 5 + 2 = o370 + j365 * 5 + 2 from rfl)) rfl ?_
          refine WOps.r (G.load1 T.one4 rfl (cellsAt.at hc374 2 rfl)) rfl ?_
          refine WOps.p (G.move rfl) rfl ?_
          rcases ite_some hF with ⟨h377, hF⟩ | ⟨h377, hF⟩
          ·
           refine WOps.off rfl (kbl (b := x363.New) rfl h377) rfl rfl ?_
           refine WOps.off rfl (kbl (b := x363.New) rfl h377) rfl rfl ?_
           refine WOps.off rfl (kbl (b := x363.New) rfl h377) rfl rfl ?_
           refine WOps.off rfl (kbl (b := x363.New) rfl h377) rfl rfl ?_
           refine WOps.off rfl (kbl (b := x363.New) rfl h377) rfl rfl ?_
           refine WOps.p (G.pick_t (kb (b := x363.New) rfl h377) rfl) rfl ?_
           refine WOps.nil ?_
           refine WEx.cutend _ ?_ ⟨k346, true, rfl, hF, (by omega), S242⟩
           exact ⟨rfl, rfl, rfl, rfl, rfl, rfl, rfl, rfl, rfl, rfl, trivial⟩
          ·
           refine WOps.on rfl (kbl (b := x363.New) rfl (Bool.eq_false_iff.2 h377)) ?_
           refine WOps.p (G.move rfl) rfl ?_
           refine WOps.on rfl (kbl (b := x363.New) rfl (Bool.eq_false_iff.2 h377)) ?_
           obtain ⟨x378, hc379, hF⟩ := bind_some hF
           obtain ⟨j380, ej381, hj382, hl383⟩ := idx_spec hc379
           obtain ⟨A391, c392, hG393, hH396, hS394, hcl395⟩ := SlO.subH hO75 hj382
           obtain ⟨b384, o385, eA387, hf388, hc389⟩ := hcl395 _ (fun b o hb => S242.grp 1 rfl hb)
           refine WOps.p (G.idxav T.ar50_8_1 rfl eA387 rfl ej381 (Nat.lt_of_lt_of_le hl383 ((hO75.rd (fun b o hb => S242.grp 1 rfl hb))).cap)) rfl ?_
           refine WOps.on rfl (kbl (b := x363.New) rfl (Bool.eq_false_iff.2 h377)) ?_
           refine WOps.r (G.load1 T.one49 rfl (cellsAt.at0 hc389)) rfl ?_
           refine WOps.on rfl (kbl (b := x363.New) rfl (Bool.eq_false_iff.2 h377)) ?_
           refine WOps.p (G.len T.el49 rfl) rfl ?_
           refine WOps.on rfl (kbl (b := x363.New) rfl (Bool.eq_false_iff.2 h377)) ?_
           refine WOps.p (G.eql rfl rfl rfl) rfl ?_
           refine WOps.p (G.pick_f (kb (b := x363.New) rfl (Bool.eq_false_iff.2 h377)) rfl) rfl ?_
           refine WOps.nil ?_
           refine WEx.cutend _ ?_ ⟨k346, decide ((x378.length : Int) = 0), rfl, hF, (by omega), S242⟩
           exact ⟨rfl, rfl, rfl, rfl, rfl, rfl, rfl, rfl, rfl, rfl, trivial⟩
         ·
          rintro _ w359 ⟨q361, b358, rfl, hF, hq362, S360⟩
          obtain _ | k397 := q361
          · exact nomatch (show (none : Option Bool) = some r_ from hF)
          rw [law_Rooms.j5] at hF
          rcases ite_some hF with ⟨h398, hF⟩ | ⟨h398, hF⟩
          ·
           refine WCode.cond_t (kb (b := b358) rfl h398) ?_
           refine WCode.seq ?_
           refine WCode.seq ?_
           refine WCode.region ?_
           refine WOps.p (G.move rfl) rfl ?_
           obtain ⟨x399, hc400, hF⟩ := bind_some hF
           obtain ⟨j401, ej402, hj403, hl404⟩ := idx_spec hc400
           obtain ⟨b405, o406, cs407, eA408, hf409, hc410, hr411⟩ := SlR.at_ (hO118.rd (fun b o hb => S360.grp 2 rfl hb)) hj403
           have hq412 : cs407 = [.int .i64 x399] := hr411
           subst hq412
           change cellsAt _ _ (o406 + j401 * 1) [.int .i64 x399] at hc410
           refine WOps.p (G.idxav T.ar51_8_1 rfl eA408 rfl ej402 (Nat.lt_of_lt_of_le hl404 ((hO118.rd (fun b o hb => S360.grp 2 rfl hb))).cap)) rfl ?_
           refine WOps.r (G.load1 T.one3 rfl (cellsAt.at0 hc410)) rfl ?_
           refine WOps.p (G.move rfl) rfl ?_
           refine WOps.p (G.sub rfl rfl (r := (w64 (x399 - x180))) rfl) rfl ?_
           refine WOps.p (G.move rfl) rfl ?_
           refine WOps.p (G.geq rfl rfl rfl) rfl ?_
           refine WOps.nil ?_
           refine WEx.then_ ?_
           rcases ite_some hF with ⟨h413, hF⟩ | ⟨h413, hF⟩
           ·
            refine WCode.cond_t (kb (b := decide ((w64 (1 + t11)) ≤ (w64 (x399 - x180)))) rfl (decide_eq_true h413)) ?_
            refine WCode.exit ?_
            refine WEx.then_exit ?_
            refine WEx.then_exit ?_
            refine WEx.in_exit ?_
            refine WEx.then_ ?_
            refine WCode.forget (l' := [(2, .slice A2 a2.length c2), (8, .int .i64 (w64 (1 + t6))), (9, .int .i64 (w64 (1 + t11))), (10, .pointer (some ⟨p29, 0, none⟩)), (12, .pointer (some ⟨b42, 0, none⟩)), (13, .pointer (some ⟨b67, 0, none⟩)), (14, .int .i64 x80)]) ⟨rfl, rfl, rfl, rfl, rfl, rfl, rfl, trivial⟩ ?_
            refine WCode.region ?_
            refine WOps.p (G.move rfl) rfl ?_
            refine WOps.p (G.add rfl rfl (r := (w64 (x80 + 1))) rfl) rfl ?_
            refine WOps.p (G.assign rfl) rfl ?_
            refine WOps.nil ?_
            refine WEx.again _ _ (by omega) ?_ ⟨l76, G74, l119, G117, w64 (x80 + 1), x81, x82, x83, x84, b85, l86, G87, x89, x90, rfl, hF, hO75, hO118, hO88, S360⟩
            exact ⟨rfl, rfl, rfl, rfl, rfl, rfl, rfl, trivial⟩
           ·
            refine WCode.cond_f (kb (b := decide ((w64 (1 + t11)) ≤ (w64 (x399 - x180)))) rfl (decide_eq_false h413)) ?_
            refine WCode.skip ?_
            refine WEx.then_ ?_
            refine WCode.seq ?_
            refine WCode.region ?_
            refine WOps.p (G.move rfl) rfl ?_
            obtain ⟨x414, hc415, hF⟩ := bind_some hF
            obtain ⟨j416, ej417, hj418, hl419⟩ := idx_spec hc415
            obtain ⟨b420, o421, cs422, eA423, hf424, hc425, hr426⟩ := SlR.at_ (hO118.rd (fun b o hb => S360.grp 2 rfl hb)) hj418
            have hq427 : cs422 = [.int .i64 x414] := hr426
            subst hq427
            change cellsAt _ _ (o421 + j416 * 1) [.int .i64 x414] at hc425
            refine WOps.p (G.idxav T.ar51_8_1 rfl eA423 rfl ej417 (Nat.lt_of_lt_of_le hl419 ((hO118.rd (fun b o hb => S360.grp 2 rfl hb))).cap)) rfl ?_
            refine WOps.r (G.load1 T.one3 rfl (cellsAt.at0 hc425)) rfl ?_
            refine WOps.p (G.assign rfl) rfl ?_
            refine WOps.nil ?_
            refine WEx.then_ ?_
            refine WCode.forget (l' := [(2, .slice A2 a2.length c2), (8, .int .i64 (w64 (1 + t6))), (9, .int .i64 (w64 (1 + t11))), (10, .pointer (some ⟨p29, 0, none⟩)), (12, .pointer (some ⟨b42, 0, none⟩)), (13, .pointer (some ⟨b67, 0, none⟩)), (14, .int .i64 x80), (15, .int .i64 t112), (16, .int .i64 x180), (17, .int .i64 x414)]) ⟨rfl, rfl, rfl, rfl, rfl, rfl, rfl, rfl, rfl, rfl, trivial⟩ ?_
            refine WCode.seq ?_
            refine WCode.region ?_
            refine WOps.p (G.move rfl) rfl ?_
            obtain ⟨x428, hc429, hF⟩ := bind_some hF
            obtain ⟨j430, ej431, hj432, hl433⟩ := idx_spec hc429
            obtain ⟨b434, o435, cs436, eA437, hf438, hc439, hr440⟩ := SlR.at_ (hO118.rd (fun b o hb => S360.grp 2 rfl hb)) hj432
            have hq441 : cs436 = [.int .i64 x428] := hr440
            subst hq441
            change cellsAt _ _ (o435 + j430 * 1) [.int .i64 x428] at hc439
            refine WOps.p (G.idxav T.ar51_8_1 rfl eA437 rfl ej431 (Nat.lt_of_lt_of_le hl433 ((hO118.rd (fun b o hb => S360.grp 2 rfl hb))).cap)) rfl ?_
            refine WOps.r (G.load1 T.one3 rfl (cellsAt.at0 hc439)) rfl ?_
            refine WOps.p (G.add rfl rfl (r := (w64 (x428 + 1))) rfl) rfl ?_
            obtain ⟨x442, hc443, hF⟩ := bind_some hF
            obtain ⟨j444, ej445, hj446, hl447⟩ := idx_spec hc443
            obtain ⟨b448, o449, cs450, eA451, hf452, hc453, hr454⟩ := SlR.at_ (hO118.rd (fun b o hb => S360.grp 2 rfl hb)) hj446
            have hq455 : cs450 = [.int .i64 x442] := hr454
            subst hq455
            change cellsAt _ _ (o449 + j444 * 1) [.int .i64 x442] at hc453
            refine WOps.p (G.idxav T.ar51_8_1 rfl eA451 rfl ej445 (Nat.lt_of_lt_of_le hl447 ((hO118.rd (fun b o hb => S360.grp 2 rfl hb))).cap)) rfl ?_
            obtain ⟨l456, hc457, hF⟩ := bind_some hF
            have e458 := upd_spec' hc457 ej445
            have S459 := S360.front 2 rfl
            change St _ _ _ [G117, [(p29, .cells #[.int .i64 x81, .int .i64 x82, .int .i64 x83, .int .i64 x84, .map (some b85), .int .i64 x89, .int .i64 x90] 89 (0, 0))], G74, G87] at S459
            obtain ⟨w460, G461, E462, hO463, S464⟩ := St.storeF (P := Try.prog) (T := 3) S459 hO118 T.size3_1 hj446 eA451 (w64 (x428 + 1)) (v := .int .i64 (w64 (x428 + 1))) [] [.int .i64 x442] [] rfl rfl rfl
            rw [← e458] at hO463
            have hl465 : (l119).length = l456.length := by rw [e458, List.length_set]
            try rw [hl465] at S464
            try rw [hl465]
            change St _ _ _ [G461, [(p29, .cells #[.int .i64 x81, .int .i64 x82, .int .i64 x83, .int .i64 x84, .map (some b85), .int .i64 x89, .int .i64 x90] 89 (0, 0))], G74, G87] at S464
            refine WOps.u (E462 rfl rfl) ?_
            refine WOps.nil ?_
            refine WEx.then_ ?_
            refine WCode.region ?_
            refine WOps.p (G.move rfl) rfl ?_
            refine WOps.p (G.move rfl) rfl ?_
            obtain ⟨x466, hc467, hF⟩ := bind_some hF
            obtain ⟨j468, ej469, hj470, hl471⟩ := idx_spec hc467
            obtain ⟨A479, c480, hG481, hH484, hS482, hcl483⟩ := SlO.subH hO75 hj470
            obtain ⟨b472, o473, eA475, hf476, hc477⟩ := hcl483 _ (fun b o hb => S464.grp 2 rfl hb)
            refine WOps.p (G.idxav T.ar50_8_1 rfl eA475 rfl ej469 (Nat.lt_of_lt_of_le hl471 ((hO75.rd (fun b o hb => S464.grp 2 rfl hb))).cap)) rfl ?_
            refine WOps.r (G.load1 T.one49 rfl (cellsAt.at0 hc477)) rfl ?_
            refine WOps.p (G.move rfl) rfl ?_
            obtain ⟨b485, w486, E487, S488, X489, L490⟩ := St.lit S464 (P := Try.prog) (t := 49) (e := 3) (n := 1) (vs := [(0, .int .i64 x414)]) (cs := #[.int .i64 x414]) (by kernel_rfl)
            have c491 := hc477.ext X489
            change St _ _ _ [[(b485, .cells #[.int .i64 x414] 3 (0, 0))], G461, [(p29, .cells #[.int .i64 x81, .int .i64 x82, .int .i64 x83, .int .i64 x84, .map (some b85), .int .i64 x89, .int .i64 x90] 89 (0, 0))], G74, G87] at S488
            refine WOps.e (E487 (evp_cons rfl evp_nil)) rfl ?_
            have S492 := S488.front 3 rfl
            change St _ _ _ [G74, [(b485, .cells #[.int .i64 x414] 3 (0, 0))], G461, [(p29, .cells #[.int .i64 x81, .int .i64 x82, .int .i64 x83, .int .i64 x84, .map (some b85), .int .i64 x89, .int .i64 x90] 89 (0, 0))], G87] at S492
            obtain ⟨G493, G494, hO495, hH496, S497⟩ := St.focusS S492 hH484
            obtain ⟨l498, hc499, hF⟩ := bind_some hF
            obtain ⟨A500, c501, G502, w503, E504, hO505, S506, hk507⟩ := St.appP (P := Try.prog) (r := (Rp.int .i64)) (M := ([x414] : List Int)) S497 T.elt49 rfl hO495 (Rd.of_blk (S497.blk 2 rfl) (n := 1) (sz := 1) rfl) ⟨_, _, [], [], rfl, rfl, ⟨rfl, rfl⟩, ⟨rfl, rfl⟩⟩ rfl hc499
            change St _ _ _ [G502, G494, [(b485, .cells #[.int .i64 x414] 3 (0, 0))], G461, [(p29, .cells #[.int .i64 x81, .int .i64 x82, .int .i64 x83, .int .i64 x84, .map (some b85), .int .i64 x89, .int .i64 x90] 89 (0, 0))], G87] at S506
            refine WOps.e (E504 rfl rfl) rfl ?_
            refine WOps.p (G.idxav T.ar50_8_1 rfl eA475 rfl ej469 (Nat.lt_of_lt_of_le hl471 (SlH.cap hH496))) rfl ?_
            have S508 := S506.front 1 rfl
            change St _ _ _ [G494, G502, [(b485, .cells #[.int .i64 x414] 3 (0, 0))], G461, [(p29, .cells #[.int .i64 x81, .int .i64 x82, .int .i64 x83, .int .i64 x84, .map (some b85), .int .i64 x89, .int .i64 x90] 89 (0, 0))], G87] at S508
            obtain ⟨w509, G510, E511, hH512, S513⟩ := St.storeH (P := Try.prog) (T := 49) S508 hH496 T.size49_1 eA475 (v := .slice A500 l498.length c501) [] [_] [] rfl rfl rfl rfl
            have S514 := S513.front 1 rfl
            change St _ _ _ [G502, G510, [(b485, .cells #[.int .i64 x414] 3 (0, 0))], G461, [(p29, .cells #[.int .i64 x81, .int .i64 x82, .int .i64 x83, .int .i64 x84, .map (some b85), .int .i64 x89, .int .i64 x90] 89 (0, 0))], G87] at S514
            obtain ⟨l515, hc516, hF⟩ := bind_some hF
            have e517 := upd_spec' hc516 ej469
            obtain ⟨G518, hO519, S520⟩ := St.shutL S514 hH512 ⟨_, rfl, hO505⟩
            rw [← e517] at hO519
            have hl521 : (l76).length = l515.length := by rw [e517, List.length_set]
            try rw [hl521] at S520
            change St _ _ _ [G518, [(b485, .cells #[.int .i64 x414] 3 (0, 0))], G461, [(p29, .cells #[.int .i64 x81, .int .i64 x82, .int .i64 x83, .int .i64 x84, .map (some b85), .int .i64 x89, .int .i64 x90] 89 (0, 0))], G87] at S520
            refine WOps.u (E511 rfl rfl) ?_
            try rw [hl521]
            refine WOps.nil ?_
            have S522 := (((S520.front 2 rfl).front 1 rfl).front 4 rfl).front 4 rfl
            change St _ _ _ [[(p29, .cells #[.int .i64 x81, .int .i64 x82, .int .i64 x83, .int .i64 x84, .map (some b85), .int .i64 x89, .int .i64 x90] 89 (0, 0))], G87, G518, G461, [(b485, .cells #[.int .i64 x414] 3 (0, 0))]] at S522
            have S523 := St.keep (As := [[(p29, .cells #[.int .i64 x81, .int .i64 x82, .int .i64 x83, .int .i64 x84, .map (some b85), .int .i64 x89, .int .i64 x90] 89 (0, 0))], G87, G518, G461]) S522
            refine WEx.cutend _ ?_ ⟨k397, l515, G518, l456, G461, x414, rfl, hF, (by omega), hO519, hO463, S523⟩
            exact ⟨rfl, rfl, rfl, rfl, rfl, rfl, rfl, rfl, rfl, rfl, trivial⟩
          ·
           refine WCode.cond_f (kb (b := b358) rfl (Bool.eq_false_iff.2 h398)) ?_
           refine WCode.drawH (.one 0 0 (.one 1 0 (.one 3 0 (.one 4 0 (.one 5 0 (.one 6 0 (.one 8 0 (.one 9 0 (.one 2 1 (.one 7 1 (.one 10 1 (.one 11 0 (.one 12 2 (.one 13 0 (.one 14 1 (.one 15 0 .nil)))))))))))))))) (fun W_ => (∀ b_, b_ ∈ keys G74 → W_.heap[b_]? = (wOf w G74).heap[b_]?) ∧ SlR Sent.rp W_ F2 A2 c2 a2 ∧ True) T.mixed (by kernel_rfl) (by intro _ _ d _ _ h; cases d <;> exact h) rfl rfl (by kernel_rfl) ?_ ?_
           all_goals have S524 := S360.drew
           all_goals generalize w359.drew = w525 at *
           · exact ⟨(S524.vw 1 rfl), (hR2.ext (S524.keepF hF2)), trivial⟩
           refine WH.p rfl wants (G.move rfl) rfl ?_
           obtain ⟨x526, hc527, hF⟩ := bind_some hF
           obtain ⟨j528, ej529, hj530, hl531⟩ := idx_spec hc527
           obtain ⟨A539, c540, hG541, hH542, hS543, hcl544⟩ := SlO.subH hO75 hj530
           obtain ⟨b532, o533, eA535, hf536, hc537⟩ := hcl544 (wOf w G74) (wOf_at (S524.nd 1 rfl))
           refine WH.p rfl wants (G.idxav T.ar50_8_1 rfl eA535 rfl ej529 (Nat.lt_of_lt_of_le hl531 ((SlO.toV (u := w) hO75 (S524.nd 1 rfl))).cap)) rfl ?_
           refine WH.p rfl wants (G.move rfl) rfl ?_
           refine WH.p rfl wants (G.move rfl) rfl ?_
           obtain ⟨x545, hc546, hF⟩ := bind_some hF
           obtain ⟨j547, ej548, hj549, hl550⟩ := idx_spec hc546
           obtain ⟨b551, o552, cs553, eA554, hf555, hc556, hr557⟩ := SlR.at_ (hR2.ext (S524.keepF hF2)) hj549
           have hq558 : cs553 = [.int .i64 x545.Who, .int .i64 x545.N, .bool x545.New, .bool x545.Answer, .bool x545.Ends] := hr557
           subst hq558
           change cellsAt _ _ (o552 + j547 * 5) [.int .i64 x545.Who, .int .i64 x545.N, .bool x545.New, .bool x545.Answer, .bool x545.Ends] at hc556
           refine WH.p rfl wants (G.idx T.el47 rfl eA554 rfl ej548 hl550) rfl ?_
           refine WH.p rfl wants (G.field T.fld53_1 rfl (show o552 + j547 * 5 + 1 = o552 + j547 * 5 + 1 from rfl)) rfl ?_
           refine WH.p rfl wants (G.move rfl) rfl ?_
           obtain ⟨x559, hc560, hF⟩ := bind_some hF
           obtain ⟨j561, ej562, hj563, hl564⟩ := idx_spec hc560
           obtain ⟨A572, c573, hG574, hH575, hS576, hcl577⟩ := SlO.subH hO75 hj563
           obtain ⟨b565, o566, eA568, hf569, hc570⟩ := hcl577 (wOf w G74) (wOf_at (S524.nd 1 rfl))
           refine WH.p rfl wants (G.idxav T.ar50_8_1 rfl eA568 rfl ej562 (Nat.lt_of_lt_of_le hl564 ((SlO.toV (u := w) hO75 (S524.nd 1 rfl))).cap)) rfl ?_
           refine WH.r rfl wants (fun _ h_ => G.load1 T.one49 rfl (cellsAt.at0 (cellsAt.move hc537 (h_.1 _ hf536)))) rfl ?_
           refine WH.r rfl wants (fun _ h_ => G.load1 T.one3 rfl (cellsAt.at (SlR.cellsP h_.2.1 hj549 eA554) 1 rfl)) rfl ?_
           refine WH.r rfl wants (fun _ h_ => G.load1 T.one49 rfl (cellsAt.at0 (cellsAt.move hc570 (h_.1 _ hf569)))) rfl ?_
           refine WH.p rfl wants (G.len T.el49 rfl) rfl ?_
           obtain ⟨t578, hc579, hF⟩ := bind_some hF
           refine WH.call rfl wants T.call21 (evs_cons rfl (evs_cons rfl evs_nil)) rfl ?_
           refine (ca_pick_calls k397 x545.N (x559.length : Int) hc579).mono ?_
           rintro _ w580 ⟨rfl, T581⟩
           have S582 := St.callN (As := []) S524 T581
           change St _ _ _ [[(p29, .cells #[.int .i64 x81, .int .i64 x82, .int .i64 x83, .int .i64 x84, .map (some b85), .int .i64 x89, .int .i64 x90] 89 (0, 0))], G74, G117, G87] at S582
           refine ⟨_, rfl, ?_⟩
           refine ⟨⟨(S582.vw 1 rfl), (hR2.ext (S582.keepF hF2)), trivial⟩, ?_⟩
           obtain ⟨x583, hc584, hF⟩ := bind_some hF
           obtain ⟨j585, ej586, hj587, hl588⟩ := idx_spec hc584
           obtain ⟨b589, o590, cs591, eA592, hf593, hc594, hr595⟩ := SlR.at_ (SlG.toV (u := w) hG541 (S524.nd 1 rfl)) hj587
           have hq596 : cs591 = [.int .i64 x583] := hr595
           subst hq596
           change cellsAt _ _ (o590 + j585 * 1) [.int .i64 x583] at hc594
           refine WH.p rfl wants (G.idx T.el49 rfl eA592 rfl ej586 hl588) rfl ?_
           refine WH.r rfl wants (fun _ h_ => G.load1 T.one3 rfl (cellsAt.at0 (cellsAt.move hc594 (h_.1 _ hf593)))) rfl ?_
           refine WH.p rfl wants (G.assign rfl) rfl ?_
           refine WH.nil ?_
           have S597 := (((S582.front 2 rfl).front 2 rfl).front 3 rfl).front 3 rfl
           change St _ _ _ [[(p29, .cells #[.int .i64 x81, .int .i64 x82, .int .i64 x83, .int .i64 x84, .map (some b85), .int .i64 x89, .int .i64 x90] 89 (0, 0))], G87, G74, G117] at S597
           refine WEx.cutend _ ?_ ⟨k397, l76, G74, l119, G117, x583, rfl, hF, (by omega), hO75, hO118, S597⟩
           exact ⟨rfl, rfl, rfl, rfl, rfl, rfl, rfl, rfl, rfl, rfl, trivial⟩
        ·
         rintro _ w354 ⟨q356, l349, G347, l352, G350, x353, rfl, hF, hq357, hO348, hO351, S355⟩
         obtain _ | k598 := q356
         · exact nomatch (show (none : Option Bool) = some r_ from hF)
         rw [law_Rooms.j4] at hF
         refine WCode.seq ?_
         refine WCode.region ?_
         refine WOps.p (G.move rfl) rfl ?_
         refine WOps.p (G.move rfl) rfl ?_
         obtain ⟨t599, hc600, hF⟩ := bind_some hF
         refine WOps.call T.call22 (evs_cons rfl evs_nil) rfl ?_
         refine (ca_who_calls k598 t112 hc600).mono ?_
         rintro _ w601 ⟨rfl, T602⟩
         have S603 := St.callN (As := []) S355 T602
         change St _ _ _ [[(p29, .cells #[.int .i64 x81, .int .i64 x82, .int .i64 x83, .int .i64 x84, .map (some b85), .int .i64 x89, .int .i64 x90] 89 (0, 0))], G87, G347, G350] at S603
         refine ⟨_, rfl, ?_⟩
         refine WOps.p (G.move rfl) rfl ?_
         refine WOps.p (G.move rfl) rfl ?_
         have hO604 : ObjO 89 Cache.rp p29 (⟨(⟨x81, x82, x83, x84⟩ : CacheConfig), l86, x89, x90⟩ : Cache) ([(p29, .cells #[.int .i64 x81, .int .i64 x82, .int .i64 x83, .int .i64 x84, .map (some b85), .int .i64 x89, .int .i64 x90] 89 (0, 0))] ++ (G87)) := ⟨_, _, ⟨b85, G87, rfl, hO88, rfl⟩, rfl⟩
         have S605 : St _ _ _ [[(p29, .cells #[.int .i64 x81, .int .i64 x82, .int .i64 x83, .int .i64 x84, .map (some b85), .int .i64 x89, .int .i64 x90] 89 (0, 0))] ++ (G87), G347, G350] := S603.objs (by simp)
         obtain ⟨t606, hc607, hF⟩ := bind_some hF
         refine WOps.call T.call17 (evs_cons rfl (evs_cons rfl (evs_cons rfl (evs_cons rfl evs_nil)))) rfl ?_
         refine (ca_Ask_calls k598 (⟨(⟨x81, x82, x83, x84⟩ : CacheConfig), l86, x89, x90⟩ : Cache) t599 x353 x180 hO604 hc607 (St.hpN (As := [[(p29, .cells #[.int .i64 x81, .int .i64 x82, .int .i64 x83, .int .i64 x84, .map (some b85), .int .i64 x89, .int .i64 x90] 89 (0, 0))] ++ (G87)]) S605)).mono ?_
         rintro _ w608 ⟨G611, rfl, hO612, T609⟩
         have S610 := St.callN (As := [[(p29, .cells #[.int .i64 x81, .int .i64 x82, .int .i64 x83, .int .i64 x84, .map (some b85), .int .i64 x89, .int .i64 x90] 89 (0, 0))] ++ (G87)]) S605 T609
         change St _ _ _ [G611, G347, G350] at S610
         refine ⟨_, rfl, ?_⟩
         obtain ⟨cs613, G614, ho615, hg616⟩ := hO612
         obtain ⟨b617, G618, rfl, hO619, hq620⟩ := ho615
         have S621 : St _ _ _ [[(p29, .cells #[.int .i64 t606.2.2.config.Clients, .int .i64 t606.2.2.config.Entries, .int .i64 t606.2.2.config.Bytes, .int .i64 t606.2.2.config.Reserve, .map (some b617), .int .i64 t606.2.2.entries, .int .i64 t606.2.2.bytes] 89 (0, 0))], G618, G347, G350] := S610.objs (by rw [hg616, hq620]; simp)
         refine WOps.p (G.move rfl) rfl ?_
         refine WOps.p (G.extract rfl rfl) rfl ?_
         refine WOps.p (G.extract rfl rfl) rfl ?_
         refine WOps.p (G.assign rfl) rfl ?_
         refine WOps.p (G.assign rfl) rfl ?_
         refine WOps.nil ?_
         refine WEx.then_ ?_
         refine WCode.forget (l' := [(2, .slice A2 a2.length c2), (8, .int .i64 (w64 (1 + t6))), (9, .int .i64 (w64 (1 + t11))), (10, .pointer (some ⟨p29, 0, none⟩)), (12, .pointer (some ⟨b42, 0, none⟩)), (13, .pointer (some ⟨b67, 0, none⟩)), (14, .int .i64 x80), (15, .int .i64 t112), (17, .int .i64 x353), (18, .int .i64 t606.1)]) ⟨rfl, rfl, rfl, rfl, rfl, rfl, rfl, rfl, rfl, rfl, trivial⟩ ?_
         refine WCode.cutseq (fun l_ w_ => ∃ q624 : Nat, l_ = [(2, .slice A2 a2.length c2), (8, .int .i64 (w64 (1 + t6))), (9, .int .i64 (w64 (1 + t11))), (10, .pointer (some ⟨p29, 0, none⟩)), (12, .pointer (some ⟨b42, 0, none⟩)), (13, .pointer (some ⟨b67, 0, none⟩)), (14, .int .i64 x80), (15, .int .i64 t112), (17, .int .i64 x353), (18, .int .i64 t606.1)] ∧ law_Rooms.j6 q624 a2 t6 t11 x80 t112 l349 l352 x353 t606 = some r_ ∧ q624 ≤ k598 ∧ St w (KS []) w_ [[(p29, .cells #[.int .i64 t606.2.2.config.Clients, .int .i64 t606.2.2.config.Entries, .int .i64 t606.2.2.config.Bytes, .int .i64 t606.2.2.config.Reserve, .map (some b617), .int .i64 t606.2.2.entries, .int .i64 t606.2.2.bytes] 89 (0, 0))], G347, G350, G618]) ?_ ?_
         ·
          refine WCode.seq ?_
          refine WCode.region ?_
          refine WOps.p (G.move rfl) rfl ?_
          refine WOps.p (G.neq rfl rfl rfl) rfl ?_
          refine WOps.p (G.move rfl) rfl ?_
          rcases ite_some hF with ⟨h626, hF⟩ | ⟨h626, hF⟩
          ·
           refine WOps.off rfl (kbl (b := !(decide (t606.1 = 1))) rfl (show (!(decide (t606.1 = 1))) = false from by rw [(decide_eq_true h626)]; rfl)) rfl rfl ?_
           refine WOps.off rfl (kbl (b := !(decide (t606.1 = 1))) rfl (show (!(decide (t606.1 = 1))) = false from by rw [(decide_eq_true h626)]; rfl)) rfl rfl ?_
           refine WOps.p (G.pick_f (kb (b := !(decide (t606.1 = 1))) rfl (show (!(decide (t606.1 = 1))) = false from by rw [(decide_eq_true h626)]; rfl)) rfl) rfl ?_
           refine WOps.p (G.move rfl) rfl ?_
           refine WOps.off rfl rfl rfl rfl ?_
           refine WOps.off rfl rfl rfl rfl ?_
           refine WOps.p (G.pick_f rfl rfl) rfl ?_
           refine WOps.nil ?_
           refine WEx.then_ ?_
           refine WCode.cond_f rfl ?_
           refine WCode.skip ?_
           have S627 := (((S621.front 1 rfl).front 3 rfl).front 3 rfl).front 3 rfl
           change St _ _ _ [[(p29, .cells #[.int .i64 t606.2.2.config.Clients, .int .i64 t606.2.2.config.Entries, .int .i64 t606.2.2.config.Bytes, .int .i64 t606.2.2.config.Reserve, .map (some b617), .int .i64 t606.2.2.entries, .int .i64 t606.2.2.bytes] 89 (0, 0))], G347, G350, G618] at S627
           refine WEx.cutend _ ?_ ⟨k598, rfl, hF, (by omega), S627⟩
           exact ⟨rfl, rfl, rfl, rfl, rfl, rfl, rfl, rfl, rfl, rfl, trivial⟩
          ·
           refine WOps.on rfl (kbl (b := !(decide (t606.1 = 1))) rfl (show (!(decide (t606.1 = 1))) = true from by rw [(decide_eq_false h626)]; rfl)) ?_
           refine WOps.p (G.move rfl) rfl ?_
           refine WOps.on rfl (kbl (b := !(decide (t606.1 = 1))) rfl (show (!(decide (t606.1 = 1))) = true from by rw [(decide_eq_false h626)]; rfl)) ?_
           refine WOps.p (G.neq rfl rfl rfl) rfl ?_
           refine WOps.p (G.pick_t (kb (b := !(decide (t606.1 = 1))) rfl (show (!(decide (t606.1 = 1))) = true from by rw [(decide_eq_false h626)]; rfl)) rfl) rfl ?_
           refine WOps.p (G.move rfl) rfl ?_
           rcases ite_some hF with ⟨h628, hF⟩ | ⟨h628, hF⟩
           ·
            refine WOps.off rfl (kbl (b := !(decide (t606.1 = 2))) rfl (show (!(decide (t606.1 = 2))) = false from by rw [(decide_eq_true h628)]; rfl)) rfl rfl ?_
            refine WOps.off rfl (kbl (b := !(decide (t606.1 = 2))) rfl (show (!(decide (t606.1 = 2))) = false from by rw [(decide_eq_true h628)]; rfl)) rfl rfl ?_
            refine WOps.p (G.pick_f (kb (b := !(decide (t606.1 = 2))) rfl (show (!(decide (t606.1 = 2))) = false from by rw [(decide_eq_true h628)]; rfl)) rfl) rfl ?_
            refine WOps.nil ?_
            refine WEx.then_ ?_
            refine WCode.cond_f rfl ?_
            refine WCode.skip ?_
            have S629 := (((S621.front 1 rfl).front 3 rfl).front 3 rfl).front 3 rfl
            change St _ _ _ [[(p29, .cells #[.int .i64 t606.2.2.config.Clients, .int .i64 t606.2.2.config.Entries, .int .i64 t606.2.2.config.Bytes, .int .i64 t606.2.2.config.Reserve, .map (some b617), .int .i64 t606.2.2.entries, .int .i64 t606.2.2.bytes] 89 (0, 0))], G347, G350, G618] at S629
            refine WEx.cutend _ ?_ ⟨k598, rfl, hF, (by omega), S629⟩
            exact ⟨rfl, rfl, rfl, rfl, rfl, rfl, rfl, rfl, rfl, rfl, trivial⟩
           ·
            refine WOps.on rfl (kbl (b := !(decide (t606.1 = 2))) rfl (show (!(decide (t606.1 = 2))) = true from by rw [(decide_eq_false h628)]; rfl)) ?_
            refine WOps.p (G.move rfl) rfl ?_
            refine WOps.on rfl (kbl (b := !(decide (t606.1 = 2))) rfl (show (!(decide (t606.1 = 2))) = true from by rw [(decide_eq_false h628)]; rfl)) ?_
            refine WOps.p (G.neq rfl rfl rfl) rfl ?_
            refine WOps.p (G.pick_t (kb (b := !(decide (t606.1 = 2))) rfl (show (!(decide (t606.1 = 2))) = true from by rw [(decide_eq_false h628)]; rfl)) rfl) rfl ?_
            refine WOps.nil ?_
            refine WEx.then_ ?_
            rcases ite_some hF with ⟨h630, hF⟩ | ⟨h630, hF⟩
            ·
             refine WCode.cond_f (kb (b := !(decide (t606.1 = 3))) rfl (show (!(decide (t606.1 = 3))) = false from by rw [(decide_eq_true h630)]; rfl)) ?_
             refine WCode.skip ?_
             have S631 := (((S621.front 1 rfl).front 3 rfl).front 3 rfl).front 3 rfl
             change St _ _ _ [[(p29, .cells #[.int .i64 t606.2.2.config.Clients, .int .i64 t606.2.2.config.Entries, .int .i64 t606.2.2.config.Bytes, .int .i64 t606.2.2.config.Reserve, .map (some b617), .int .i64 t606.2.2.entries, .int .i64 t606.2.2.bytes] 89 (0, 0))], G347, G350, G618] at S631
             refine WEx.cutend _ ?_ ⟨k598, rfl, hF, (by omega), S631⟩
             exact ⟨rfl, rfl, rfl, rfl, rfl, rfl, rfl, rfl, rfl, rfl, trivial⟩
            ·
             refine WCode.cond_t (kb (b := !(decide (t606.1 = 3))) rfl (show (!(decide (t606.1 = 3))) = true from by rw [(decide_eq_false h630)]; rfl)) ?_
             refine WCode.seq ?_
             refine WCode.region ?_
             refine WOps.p (G.assign rfl) rfl ?_
             refine WOps.nil ?_
             refine WEx.then_ ?_
             refine WCode.forget (l' := [(6, .bool false)]) ⟨rfl, trivial⟩ ?_
             refine WCode.ret ?_
             refine WEx.then_ret ?_
             refine WEx.in_ret ?_
             refine WEx.then_ret ?_
             refine WEx.then_ret ?_
             refine WEx.in_ret ?_
             refine WEx.then_ret ?_
             obtain rfl := some_eq hF
             refine WEx.ret1 rfl rfl ?_
             exact ⟨rfl, St.keep (As := []) S621⟩
         ·
          rintro _ w622 ⟨q624, rfl, hF, hq625, S623⟩
          obtain _ | k632 := q624
          · exact nomatch (show (none : Option Bool) = some r_ from hF)
          rw [law_Rooms.j6] at hF
          refine WCode.cutseq (fun l_ w_ => ∃ q636 : Nat, ∃ b633 : Bool, l_ = [(2, .slice A2 a2.length c2), (8, .int .i64 (w64 (1 + t6))), (9, .int .i64 (w64 (1 + t11))), (10, .pointer (some ⟨p29, 0, none⟩)), (12, .pointer (some ⟨b42, 0, none⟩)), (13, .pointer (some ⟨b67, 0, none⟩)), (14, .int .i64 x80), (15, .int .i64 t112), (17, .int .i64 x353), (176, .bool b633)] ∧ law_Rooms.j7 q636 a2 t6 t11 x80 t112 l349 l352 x353 t606 b633 = some r_ ∧ q636 ≤ k632 ∧ St w (KS []) w_ [[(p29, .cells #[.int .i64 t606.2.2.config.Clients, .int .i64 t606.2.2.config.Entries, .int .i64 t606.2.2.config.Bytes, .int .i64 t606.2.2.config.Reserve, .map (some b617), .int .i64 t606.2.2.entries, .int .i64 t606.2.2.bytes] 89 (0, 0))], G347, G350, G618]) ?_ ?_
          ·
           refine WCode.region ?_
           refine WOps.p (G.move rfl) rfl ?_
           refine WOps.p (G.move rfl) rfl ?_
           obtain ⟨x638, hc639, hF⟩ := bind_some hF
           obtain ⟨j640, ej641, hj642, hl643⟩ := idx_spec hc639
           obtain ⟨b644, o645, cs646, eA647, hf648, hc649, hr650⟩ := SlR.at_ (hR2.ext (S623.keepF hF2)) hj642
           have hq651 : cs646 = [.int .i64 x638.Who, .int .i64 x638.N, .bool x638.New, .bool x638.Answer, .bool x638.Ends] := hr650
           subst hq651
           change cellsAt _ _ (o645 + j640 * 5) [.int .i64 x638.Who, .int .i64 x638.N, .bool x638.New, .bool x638.Answer, .bool x638.Ends] at hc649
           refine WOps.p (G.idx T.el47 rfl eA647 rfl ej641 hl643) rfl ?_
           refine WOps.p (G.field T.fld53_3 rfl (show o645 + j640 * 5 + 3 = o645 + j640 * 5 + 3 from rfl)) rfl ?_
           refine WOps.r (G.load1 T.one4 rfl (cellsAt.at hc649 3 rfl)) rfl ?_
           refine WOps.p (G.move rfl) rfl ?_
           rcases ite_some hF with ⟨h652, hF⟩ | ⟨h652, hF⟩
           ·
            refine WOps.on rfl (kbl (b := x638.Answer) rfl h652) ?_
            refine WOps.p (G.move rfl) rfl ?_
            refine WOps.on rfl (kbl (b := x638.Answer) rfl h652) ?_
            refine WOps.p (G.neq rfl rfl rfl) rfl ?_
            refine WOps.p (G.pick_t (kb (b := x638.Answer) rfl h652) rfl) rfl ?_
            refine WOps.nil ?_
            refine WEx.cutend _ ?_ ⟨k632, !(decide (t606.1 = 3)), rfl, hF, (by omega), S623⟩
            exact ⟨rfl, rfl, rfl, rfl, rfl, rfl, rfl, rfl, rfl, rfl, trivial⟩
           ·
            refine WOps.off rfl (kbl (b := x638.Answer) rfl (Bool.eq_false_iff.2 h652)) rfl rfl ?_
            refine WOps.off rfl (kbl (b := x638.Answer) rfl (Bool.eq_false_iff.2 h652)) rfl rfl ?_
            refine WOps.p (G.pick_f (kb (b := x638.Answer) rfl (Bool.eq_false_iff.2 h652)) rfl) rfl ?_
            refine WOps.nil ?_
            refine WEx.cutend _ ?_ ⟨k632, false, rfl, hF, (by omega), S623⟩
            exact ⟨rfl, rfl, rfl, rfl, rfl, rfl, rfl, rfl, rfl, rfl, trivial⟩
          ·
           rintro _ w634 ⟨q636, b633, rfl, hF, hq637, S635⟩
           obtain _ | k653 := q636
           · exact nomatch (show (none : Option Bool) = some r_ from hF)
           rw [law_Rooms.j7] at hF
           rcases ite_some hF with ⟨h654, hF⟩ | ⟨h654, hF⟩
           ·
            refine WCode.cond_t (kb (b := b633) rfl h654) ?_
            refine WCode.seq ?_
            refine WCode.region ?_
            refine WOps.p (G.move rfl) rfl ?_
            refine WOps.p (G.move rfl) rfl ?_
            obtain ⟨t655, hc656, hF⟩ := bind_some hF
            refine WOps.call T.call22 (evs_cons rfl evs_nil) rfl ?_
            refine (ca_who_calls k653 t112 hc656).mono ?_
            rintro _ w657 ⟨rfl, T658⟩
            have S659 := St.callN (As := []) S635 T658
            change St _ _ _ [[(p29, .cells #[.int .i64 t606.2.2.config.Clients, .int .i64 t606.2.2.config.Entries, .int .i64 t606.2.2.config.Bytes, .int .i64 t606.2.2.config.Reserve, .map (some b617), .int .i64 t606.2.2.entries, .int .i64 t606.2.2.bytes] 89 (0, 0))], G347, G350, G618] at S659
            refine ⟨_, rfl, ?_⟩
            refine WOps.p (G.move rfl) rfl ?_
            have S660 := (S659.front 3 rfl).front 1 rfl
            change St _ _ _ [[(p29, .cells #[.int .i64 t606.2.2.config.Clients, .int .i64 t606.2.2.config.Entries, .int .i64 t606.2.2.config.Bytes, .int .i64 t606.2.2.config.Reserve, .map (some b617), .int .i64 t606.2.2.entries, .int .i64 t606.2.2.bytes] 89 (0, 0))], G618, G347, G350] at S660
            have hO661 : ObjO 89 Cache.rp p29 t606.2.2 ([(p29, .cells #[.int .i64 t606.2.2.config.Clients, .int .i64 t606.2.2.config.Entries, .int .i64 t606.2.2.config.Bytes, .int .i64 t606.2.2.config.Reserve, .map (some b617), .int .i64 t606.2.2.entries, .int .i64 t606.2.2.bytes] 89 (0, 0))] ++ (G618)) := ⟨_, _, ⟨b617, G618, rfl, hO619, rfl⟩, rfl⟩
            have S662 : St _ _ _ [[(p29, .cells #[.int .i64 t606.2.2.config.Clients, .int .i64 t606.2.2.config.Entries, .int .i64 t606.2.2.config.Bytes, .int .i64 t606.2.2.config.Reserve, .map (some b617), .int .i64 t606.2.2.entries, .int .i64 t606.2.2.bytes] 89 (0, 0))] ++ (G618), G347, G350] := S660.objs (by simp)
            obtain ⟨t663, hc664, hF⟩ := bind_some hF
            refine WOps.call T.call15 (evs_cons rfl (evs_cons rfl (evs_cons rfl (evs_cons rfl evs_nil)))) rfl ?_
            refine (ca_Done_calls k653 t606.2.2 t655 x353 ([97, 110, 115, 119, 101, 114] : List UInt8) hO661 hc664 (St.hpN (As := [[(p29, .cells #[.int .i64 t606.2.2.config.Clients, .int .i64 t606.2.2.config.Entries, .int .i64 t606.2.2.config.Bytes, .int .i64 t606.2.2.config.Reserve, .map (some b617), .int .i64 t606.2.2.entries, .int .i64 t606.2.2.bytes] 89 (0, 0))] ++ (G618)]) S662)).mono ?_
            rintro _ w665 ⟨G668, rfl, hO669, T666⟩
            have S667 := St.callN (As := [[(p29, .cells #[.int .i64 t606.2.2.config.Clients, .int .i64 t606.2.2.config.Entries, .int .i64 t606.2.2.config.Bytes, .int .i64 t606.2.2.config.Reserve, .map (some b617), .int .i64 t606.2.2.entries, .int .i64 t606.2.2.bytes] 89 (0, 0))] ++ (G618)]) S662 T666
            change St _ _ _ [G668, G347, G350] at S667
            refine ⟨_, rfl, ?_⟩
            obtain ⟨cs670, G671, ho672, hg673⟩ := hO669
            obtain ⟨b674, G675, rfl, hO676, hq677⟩ := ho672
            have S678 : St _ _ _ [[(p29, .cells #[.int .i64 t663.2.config.Clients, .int .i64 t663.2.config.Entries, .int .i64 t663.2.config.Bytes, .int .i64 t663.2.config.Reserve, .map (some b674), .int .i64 t663.2.entries, .int .i64 t663.2.bytes] 89 (0, 0))], G675, G347, G350] := S667.objs (by rw [hg673, hq677]; simp)
            refine WOps.p (G.assign rfl) rfl ?_
            refine WOps.nil ?_
            refine WEx.then_ ?_
            refine WCode.seq ?_
            refine WCode.region ?_
            refine WOps.p (G.move rfl) rfl ?_
            refine WOps.p (G.neq rfl rfl rfl) rfl ?_
            refine WOps.nil ?_
            refine WEx.then_ ?_
            refine WCode.forget (l' := [(2, .slice A2 a2.length c2), (8, .int .i64 (w64 (1 + t6))), (9, .int .i64 (w64 (1 + t11))), (10, .pointer (some ⟨p29, 0, none⟩)), (12, .pointer (some ⟨b42, 0, none⟩)), (13, .pointer (some ⟨b67, 0, none⟩)), (14, .int .i64 x80), (183, .bool (!(decide (t663.1 = 0))))]) ⟨rfl, rfl, rfl, rfl, rfl, rfl, rfl, rfl, trivial⟩ ?_
            rcases ite_some hF with ⟨h679, hF⟩ | ⟨h679, hF⟩
            ·
             refine WCode.cond_f (kb (b := !(decide (t663.1 = 0))) rfl (show (!(decide (t663.1 = 0))) = false from by rw [(decide_eq_true h679)]; rfl)) ?_
             refine WCode.skip ?_
             refine WEx.in_normal ?_
             refine WEx.then_ ?_
             refine WCode.region ?_
             refine WOps.p (G.move rfl) rfl ?_
             refine WOps.p (G.add rfl rfl (r := (w64 (x80 + 1))) rfl) rfl ?_
             refine WOps.p (G.assign rfl) rfl ?_
             refine WOps.nil ?_
             have S680 := (((S678.front 1 rfl).front 3 rfl).front 3 rfl).front 3 rfl
             change St _ _ _ [[(p29, .cells #[.int .i64 t663.2.config.Clients, .int .i64 t663.2.config.Entries, .int .i64 t663.2.config.Bytes, .int .i64 t663.2.config.Reserve, .map (some b674), .int .i64 t663.2.entries, .int .i64 t663.2.bytes] 89 (0, 0))], G347, G350, G675] at S680
             refine WEx.again _ _ (by omega) ?_ ⟨l349, G347, l352, G350, w64 (x80 + 1), t663.2.config.Clients, t663.2.config.Entries, t663.2.config.Bytes, t663.2.config.Reserve, b674, t663.2.clients, G675, t663.2.entries, t663.2.bytes, rfl, hF, hO348, hO351, hO676, S680⟩
             exact ⟨rfl, rfl, rfl, rfl, rfl, rfl, rfl, trivial⟩
            ·
             refine WCode.cond_t (kb (b := !(decide (t663.1 = 0))) rfl (show (!(decide (t663.1 = 0))) = true from by rw [(decide_eq_false h679)]; rfl)) ?_
             refine WCode.seq ?_
             refine WCode.region ?_
             refine WOps.p (G.assign rfl) rfl ?_
             refine WOps.nil ?_
             refine WEx.then_ ?_
             refine WCode.ret ?_
             refine WEx.in_ret ?_
             refine WEx.then_ret ?_
             refine WEx.then_ret ?_
             refine WEx.in_ret ?_
             refine WEx.then_ret ?_
             obtain rfl := some_eq hF
             refine WEx.ret1 rfl rfl ?_
             exact ⟨rfl, St.keep (As := []) S678⟩
           ·
            refine WCode.cond_f (kb (b := b633) rfl (Bool.eq_false_iff.2 h654)) ?_
            refine WCode.skip ?_
            refine WEx.in_normal ?_
            refine WEx.then_ ?_
            refine WCode.region ?_
            refine WOps.p (G.move rfl) rfl ?_
            refine WOps.p (G.add rfl rfl (r := (w64 (x80 + 1))) rfl) rfl ?_
            refine WOps.p (G.assign rfl) rfl ?_
            refine WOps.nil ?_
            refine WEx.again _ _ (by omega) ?_ ⟨l349, G347, l352, G350, w64 (x80 + 1), t606.2.2.config.Clients, t606.2.2.config.Entries, t606.2.2.config.Bytes, t606.2.2.config.Reserve, b617, t606.2.2.clients, G618, t606.2.2.entries, t606.2.2.bytes, rfl, hF, hO348, hO351, hO619, S635⟩
            exact ⟨rfl, rfl, rfl, rfl, rfl, rfl, rfl, trivial⟩
    ·
     refine WCode.cond_f (kb (b := decide (x80 < (a2.length : Int))) rfl (decide_eq_false h97)) ?_
     refine WCode.exit ?_
     refine WEx.then_exit ?_
     refine WEx.then_exit ?_
     refine WEx.in_exit ?_
     refine WEx.then_ ?_
     refine WCode.forget (l' := []) trivial ?_
     refine WCode.seq ?_
     refine WCode.region ?_
     refine WOps.p (G.assign rfl) rfl ?_
     refine WOps.nil ?_
     refine WEx.then_ ?_
     refine WCode.ret ?_
     obtain rfl := some_eq hF
     refine WEx.ret1 rfl rfl ?_
     exact ⟨rfl, St.keep (As := []) S92⟩
   ·
    refine WCode.cond_t (kb (b := !(decide (t16.2 = 0))) rfl (show (!(decide (t16.2 = 0))) = true from by rw [(decide_eq_false h41)]; rfl)) ?_
    refine WCode.seq ?_
    refine WCode.region ?_
    refine WOps.p (G.assign rfl) rfl ?_
    refine WOps.nil ?_
    refine WEx.then_ ?_
    refine WCode.ret ?_
    refine WEx.then_ret ?_
    obtain rfl := some_eq hF
    refine WEx.ret1 rfl rfl ?_
    exact ⟨rfl, St.keep (As := []) S40⟩
  ·
   refine WOps.on rfl (kbl (b := !t1) rfl (show (!t1) = false from by rw [h24]; rfl)) ?_
   have hn682 := Option.not_isSome_iff_eq_none.1 h25
   have ho681 := hO23
   rw [hn682] at ho681
   obtain ⟨hv683, hg684⟩ := ho681
   subst hv683
   have S685 : St _ _ _ [] := S20.objs (by rw [hg684]; simp)
   refine WOps.p (G.eqp_nil Try.underlying28 rfl rfl rfl) rfl ?_
   refine WOps.p (G.pick_f (kb (b := !t1) rfl (show (!t1) = false from by rw [h24]; rfl)) rfl) rfl ?_
   refine WOps.p (G.move rfl) rfl ?_
   refine WOps.off rfl rfl rfl rfl ?_
   refine WOps.off rfl rfl rfl rfl ?_
   refine WOps.p (G.pick_t rfl rfl) rfl ?_
   refine WOps.nil ?_
   refine WEx.then_ ?_
   refine WCode.forget (l' := [(2, .slice A2 a2.length c2), (8, .int .i64 (w64 (1 + t6))), (9, .int .i64 (w64 (1 + t11))), (10, .pointer none), (48, .bool true)]) ⟨rfl, rfl, rfl, rfl, rfl, trivial⟩ ?_
   refine WCode.cond_t rfl ?_
   refine WCode.seq ?_
   refine WCode.region ?_
   refine WOps.p (G.assign rfl) rfl ?_
   refine WOps.nil ?_
   refine WEx.then_ ?_
   refine WCode.ret ?_
   refine WEx.then_ret ?_
   obtain rfl := some_eq hF
   refine WEx.ret1 rfl rfl ?_
   exact ⟨rfl, St.keep (As := []) S685⟩
 ·
  refine WOps.off rfl (kbl (b := !t1) rfl (show (!t1) = true from by rw [(Bool.eq_false_iff.2 h24)]; rfl)) rfl rfl ?_
  refine WOps.off rfl (kbl (b := !t1) rfl (show (!t1) = true from by rw [(Bool.eq_false_iff.2 h24)]; rfl)) rfl rfl ?_
  refine WOps.p (G.pick_t (kb (b := !t1) rfl (show (!t1) = true from by rw [(Bool.eq_false_iff.2 h24)]; rfl)) rfl) rfl ?_
  refine WOps.p (G.move rfl) rfl ?_
  refine WOps.off rfl rfl rfl rfl ?_
  refine WOps.off rfl rfl rfl rfl ?_
  refine WOps.p (G.pick_t rfl rfl) rfl ?_
  refine WOps.nil ?_
  refine WEx.then_ ?_
  refine WCode.forget (l' := [(2, .slice A2 a2.length c2), (8, .int .i64 (w64 (1 + t6))), (9, .int .i64 (w64 (1 + t11))), (10, v21), (48, .bool true)]) ⟨rfl, rfl, rfl, rfl, rfl, trivial⟩ ?_
  refine WCode.cond_t rfl ?_
  refine WCode.seq ?_
  refine WCode.region ?_
  refine WOps.p (G.assign rfl) rfl ?_
  refine WOps.nil ?_
  refine WEx.then_ ?_
  refine WCode.ret ?_
  refine WEx.then_ret ?_
  obtain rfl := some_eq hF
  refine WEx.ret1 rfl rfl ?_
  exact ⟨rfl, St.keep (As := []) S20⟩

end Go.Proofs.Ytpdpfiaediadgaa
