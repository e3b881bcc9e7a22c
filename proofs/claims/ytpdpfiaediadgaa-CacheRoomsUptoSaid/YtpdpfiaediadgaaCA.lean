/- Functions and their walks (printed by auto.py over the engine). -/
import Derived.Test.YtpdpfiaediadgaaProg
import Derived.Test.YtpdpfiaediadgaaStores
namespace Go.Proofs.Ytpdpfiaediadgaa
open Go Go.Eng
set_option linter.unusedSimpArgs false
set_option linter.unusedVariables false
theorem T.mixed : Try.prog.follows .mixedOrders = true := by kernel_rfl
theorem T.agg26_4 : isAggT Try.prog 26 4 = true := by kernel_rfl
theorem T.agg34_2 : isAggT Try.prog 34 2 = true := by kernel_rfl
theorem T.call21 : Callable Try.prog 21 := Callable.mk Try.func21 (by kernel_rfl) (by kernel_rfl)
theorem T.call22 : Callable Try.prog 22 := Callable.mk Try.func22 (by kernel_rfl) (by kernel_rfl)
theorem T.fld26_0 : fldOff Try.prog 26 0 = some 0 := by kernel_rfl
theorem T.fld26_1 : fldOff Try.prog 26 1 = some 1 := by kernel_rfl
theorem T.fld26_2 : fldOff Try.prog 26 2 = some 2 := by kernel_rfl
theorem T.fld26_3 : fldOff Try.prog 26 3 = some 3 := by kernel_rfl
theorem T.fld36_1 : fldOff Try.prog 36 1 = some 1 := by kernel_rfl
theorem T.fld36_3 : fldOff Try.prog 36 3 = some 3 := by kernel_rfl
theorem T.fld36_4 : fldOff Try.prog 36 4 = some 4 := by kernel_rfl
theorem T.fld36_5 : fldOff Try.prog 36 5 = some 5 := by kernel_rfl
theorem T.fld36_6 : fldOff Try.prog 36 6 = some 6 := by kernel_rfl
theorem T.fld89_0 : fldOff Try.prog 89 0 = some 0 := by kernel_rfl
theorem T.fld89_1 : fldOff Try.prog 89 1 = some 4 := by kernel_rfl
theorem T.fld89_2 : fldOff Try.prog 89 2 = some 5 := by kernel_rfl
theorem T.fld89_3 : fldOff Try.prog 89 3 = some 6 := by kernel_rfl
theorem T.fld93_0 : fldOff Try.prog 93 0 = some 0 := by kernel_rfl
theorem T.fld93_1 : fldOff Try.prog 93 1 = some 1 := by kernel_rfl
theorem T.fld96_0 : fldOff Try.prog 96 0 = some 0 := by kernel_rfl
theorem T.one3 : isOneT Try.prog 3 = true := by kernel_rfl
theorem T.one4 : isOneT Try.prog 4 = true := by kernel_rfl
theorem T.one87 : isOneT Try.prog 87 = true := by kernel_rfl
theorem T.one9 : isOneT Try.prog 9 = true := by kernel_rfl
theorem T.size26_4 : sizeT Try.prog 26 = some 4 := by kernel_rfl
theorem T.size34_2 : sizeT Try.prog 34 = some 2 := by kernel_rfl
theorem T.str9 : isStr Try.prog 9 = true := by kernel_rfl
theorem T.zero26 : zeroOf Try.prog 26 = some (.agg #[.int .i64 0, .int .i64 0, .int .i64 0, .int .i64 0]) := by kernel_rfl
theorem T.zero34 : zeroOf Try.prog 34 = some (.agg #[.int .i64 0, .int .i64 0]) := by kernel_rfl
theorem T.zero90 : zeroOf Try.prog 90 = some (.pointer none) := by kernel_rfl
structure WhoC where
  Address : Int
  Instance : Int
  deriving DecidableEq
def WhoC.cs (x : WhoC) : List Value := [.int .i64 x.Address, .int .i64 x.Instance]
def WhoC.rp : Rp WhoC := .plain WhoC.cs 2 (fun _ => rfl) (fun _ => rfl)
structure OpC where
  Other : Bool
  Raw : Bool
  What : Int
  Who : Int
  Sequence : Int
  Water : Int
  Whose : WhoC
  Reply : List UInt8
  deriving DecidableEq
def OpC.cs (x : OpC) : List Value := [.bool x.Other, .bool x.Raw, .int .i64 x.What, .int .i64 x.Who, .int .i64 x.Sequence, .int .i64 x.Water, .int .i64 x.Whose.Address, .int .i64 x.Whose.Instance, .string (bs x.Reply)]
def OpC.rp : Rp OpC := .plain OpC.cs 9 (fun _ => rfl) (fun _ => rfl)
structure CacheConfig where
  Clients : Int
  Entries : Int
  Bytes : Int
  Reserve : Int
  deriving DecidableEq
def CacheConfig.cs (x : CacheConfig) : List Value := [.int .i64 x.Clients, .int .i64 x.Entries, .int .i64 x.Bytes, .int .i64 x.Reserve]
def CacheConfig.rp : Rp CacheConfig := .plain CacheConfig.cs 4 (fun _ => rfl) (fun _ => rfl)
structure Entry where
  done : Bool
  reply : List UInt8
  deriving DecidableEq
def Entry.cs (x : Entry) : List Value := [.bool x.done, .string (bs x.reply)]
def Entry.rp : Rp Entry := .plain Entry.cs 2 (fun _ => rfl) (fun _ => rfl)
def M94.k : Int → Value := fun x => .int .i64 x
def M94.v : Entry → Value := fun x => .agg #[.bool x.done, .string (bs x.reply)]
structure Known where
  water : Int
  calls : List (Int × Entry)
  deriving DecidableEq
def Known.rp : Rp Known where
  sz := 2
  rd := fun w F x cs => ∃ b1 : Nat, cs = [.int .i64 x.water, .map (some b1)] ∧ MpR M94.k M94.v w F b1 x.calls
  own := fun x cs G => ∃ b1 : Nat, ∃ G1 : Grp, cs = [.int .i64 x.water, .map (some b1)] ∧ MapO M94.k M94.v b1 x.calls G1 ∧ G = G1
  len := by rintro _ _ _ _ ⟨_, rfl, _⟩; rfl
  one := by rintro _ _ _ _ ⟨_, rfl, _⟩; exact one_of_all rfl
  lenO := by rintro _ _ _ ⟨_, _, rfl, _⟩; rfl
  oneO := by rintro _ _ _ ⟨_, _, rfl, _⟩; exact one_of_all rfl
  ext := by rintro _ _ _ _ _ ⟨b1, rfl, h1⟩ hE; exact ⟨b1, rfl, h1.ext hE⟩
  mono := by rintro _ _ _ _ _ ⟨b1, rfl, h1⟩ hF; exact ⟨b1, rfl, h1.mono hF⟩
  low := by
    rintro w x cs G ⟨b1, G1, rfl, h1, hGe⟩ hG
    exact ⟨b1, rfl, (h1.rdF (fun b o hb => hG b o (by rw [hGe]; simp [hb]))).mono (fun b (hb : b ∈ keys G1) => show b ∈ keys G by rw [hGe]; simp [keys_append, hb])⟩
def M87.k : WhoC → Value := fun x => .agg #[.int .i64 x.Address, .int .i64 x.Instance]
structure Cache where
  config : CacheConfig
  clients : List (WhoC × Known)
  entries : Int
  bytes : Int
  deriving DecidableEq
def Cache.rp : Rp Cache where
  sz := 7
  rd := fun w F x cs => ∃ b1 : Nat, cs = [.int .i64 x.config.Clients, .int .i64 x.config.Entries, .int .i64 x.config.Bytes, .int .i64 x.config.Reserve, .map (some b1), .int .i64 x.entries, .int .i64 x.bytes] ∧ CliR M87.k 96 Known.rp w F b1 x.clients
  own := fun x cs G => ∃ b1 : Nat, ∃ G1 : Grp, cs = [.int .i64 x.config.Clients, .int .i64 x.config.Entries, .int .i64 x.config.Bytes, .int .i64 x.config.Reserve, .map (some b1), .int .i64 x.entries, .int .i64 x.bytes] ∧ CliO M87.k 96 Known.rp b1 x.clients G1 ∧ G = G1
  len := by rintro _ _ _ _ ⟨_, rfl, _⟩; rfl
  one := by rintro _ _ _ _ ⟨_, rfl, _⟩; exact one_of_all rfl
  lenO := by rintro _ _ _ ⟨_, _, rfl, _⟩; rfl
  oneO := by rintro _ _ _ ⟨_, _, rfl, _⟩; exact one_of_all rfl
  ext := by rintro _ _ _ _ _ ⟨b1, rfl, h1⟩ hE; exact ⟨b1, rfl, h1.ext hE⟩
  mono := by rintro _ _ _ _ _ ⟨b1, rfl, h1⟩ hF; exact ⟨b1, rfl, h1.mono hF⟩
  low := by
    rintro w x cs G ⟨b1, G1, rfl, h1, hGe⟩ hG
    exact ⟨b1, rfl, (h1.rd (fun b o hb => hG b o (by rw [hGe]; simp [hb]))).mono (fun b (hb : b ∈ keys G1) => show b ∈ keys G by rw [hGe]; simp [keys_append, hb])⟩
theorem WhoC.eq_iff34 (x y : WhoC) : x = y ↔ x.Address = y.Address ∧ x.Instance = y.Instance := by
  cases x; cases y; simp
theorem WhoC.eqIn34 (x y : WhoC) (w : World) : (Op.equalIn 10000 34 (.agg #[.int .i64 x.Address, .int .i64 x.Instance]) (.agg #[.int .i64 y.Address, .int .i64 y.Instance])).run Try.prog w = .ok (decide (x = y)) w := by
  rw [run_equalIn_struct w 9999 34 _ _ (by kernel_rfl) (by kernel_rfl), show (Try.prog.fieldsOf 34) = _ from by unfold Program.fieldsOf; rw [Try.underlying34]]
  simp only [Op.eqFields]
  simp only [WhoC.eq_iff34]
  by_cases h0 : x.Address = y.Address <;> by_cases h1 : x.Instance = y.Instance <;> simp [go_sem, toList_iff, bs_inj, h0, h1]
theorem T.key87 : KeyOk Try.prog 34 M87.k := KeyOk.struct Try.underlying34 (fun _ => ⟨_, rfl⟩) (fun w e k => by unfold M87.k Instr.checkKey; simp [run_underlying Try.underlying34, part, sizeOf, checkKey_int Try.underlying3]) (fun w a b => WhoC.eqIn34 a b w) (fun k => by simp [M87.k, Instr.sameBits])
def ca_pick (k : Nat) (a0 : Int) (a1 : Int) : Option Int := (if a0 < 0 then (if a1 = 0 then none else (some (Int.tmod (w64 (-(w64 (a0 + 1)))) a1))) else (if a1 = 0 then none else (some (Int.tmod a0 a1))))
set_option maxRecDepth 100000 in
set_option maxHeartbeats 1000000 in
theorem ca_pick_calls (k : Nat) (a0 : Int) (a1 : Int) {w : World} {r_ : Int} (h_ : ca_pick k a0 a1 = some r_) :
    Calls Try.prog 21 [.int .i64 a0, .int .i64 a1].toArray w fun e w' => e = .returned (.int .i64 r_) ∧ St w (KS []) w' [] := by
 have hF := h_
 clear h_
 unfold ca_pick at hF
 have S := St.ofFalse (As := []) (St.init0 w)
 refine enter 13 [(0, .int .i64 a0), (1, .int .i64 a1)] Try.func21 rfl rfl rfl rfl ?_
 refine WCode.seq ?_
 refine WCode.region ?_
 refine WOps.p (G.assign rfl) rfl ?_
 refine WOps.nil ?_
 refine WEx.then_ ?_
 refine WCode.seq ?_
 refine WCode.seq ?_
 refine WCode.region ?_
 refine WOps.p (G.move rfl) rfl ?_
 refine WOps.p (G.lss rfl rfl rfl) rfl ?_
 refine WOps.nil ?_
 refine WEx.then_ ?_
 rcases ite_some hF with ⟨h1, hF⟩ | ⟨h1, hF⟩
 ·
  refine WCode.cond_t (kb (b := decide (a0 < 0)) rfl (decide_eq_true h1)) ?_
  refine WCode.region ?_
  refine WOps.p (G.move rfl) rfl ?_
  refine WOps.p (G.add rfl rfl (r := (w64 (a0 + 1))) rfl) rfl ?_
  refine WOps.p (G.neg rfl (r := (w64 (-(w64 (a0 + 1))))) rfl) rfl ?_
  refine WOps.p (G.assign rfl) rfl ?_
  refine WOps.nil ?_
  refine WEx.then_ ?_
  refine WCode.seq ?_
  refine WCode.region ?_
  refine WOps.p (G.move rfl) rfl ?_
  refine WOps.p (G.move rfl) rfl ?_
  obtain ⟨h2, hF⟩ := nguard_some hF
  refine WOps.p (G.remk rfl rfl h2) rfl ?_
  refine WOps.p (G.assign rfl) rfl ?_
  refine WOps.nil ?_
  refine WEx.then_ ?_
  refine WCode.forget (l' := [(4, .int .i64 (Int.tmod (w64 (-(w64 (a0 + 1)))) a1))]) ⟨rfl, trivial⟩ ?_
  refine WCode.ret ?_
  obtain rfl := some_eq hF
  refine WEx.ret1 rfl rfl ?_
  exact ⟨rfl, St.keep (As := []) S⟩
 ·
  refine WCode.cond_f (kb (b := decide (a0 < 0)) rfl (decide_eq_false h1)) ?_
  refine WCode.skip ?_
  refine WEx.then_ ?_
  refine WCode.seq ?_
  refine WCode.region ?_
  refine WOps.p (G.move rfl) rfl ?_
  refine WOps.p (G.move rfl) rfl ?_
  obtain ⟨h3, hF⟩ := nguard_some hF
  refine WOps.p (G.remk rfl rfl h3) rfl ?_
  refine WOps.p (G.assign rfl) rfl ?_
  refine WOps.nil ?_
  refine WEx.then_ ?_
  refine WCode.ret ?_
  obtain rfl := some_eq hF
  refine WEx.ret1 rfl rfl ?_
  exact ⟨rfl, St.keep (As := []) S⟩

def ca_who (k : Nat) (a0 : Int) : Option WhoC := (Option.bind (ca_pick k a0 8) fun t7 => (some (⟨w64 (65536 + (w64 (Int.tdiv t7 2))), w64 (1 + (Int.tmod t7 2))⟩ : WhoC)))
set_option maxRecDepth 100000 in
set_option maxHeartbeats 1000000 in
theorem ca_who_calls (k : Nat) (a0 : Int) {w : World} {r_ : WhoC} (h_ : ca_who k a0 = some r_) :
    Calls Try.prog 22 [.int .i64 a0].toArray w fun e w' => e = .returned (.agg #[.int .i64 r_.Address, .int .i64 r_.Instance]) ∧ St w (KS []) w' [] := by
 have hF := h_
 clear h_
 unfold ca_who at hF
 have S := St.ofFalse (As := []) (St.init0 w)
 refine enter 13 [(0, .int .i64 a0)] Try.func22 rfl rfl rfl rfl ?_
 refine WCode.seq ?_
 refine WCode.region ?_
 obtain ⟨b1, w2, E3, S4, X5, L6⟩ := St.var S (z := .agg #[.int .i64 0, .int .i64 0]) T.zero34
 change St _ _ _ [[(b1, .cells #[.int .i64 0, .int .i64 0] 34 (0, 0))]] at S4
 refine WOps.e E3 rfl ?_
 refine WOps.nil ?_
 refine WEx.then_ ?_
 refine WCode.seq ?_
 refine WCode.region ?_
 refine WOps.p (G.move rfl) rfl ?_
 obtain ⟨t7, hc8, hF⟩ := bind_some hF
 refine WOps.call T.call21 (evs_cons rfl (evs_cons rfl evs_nil)) rfl ?_
 refine (ca_pick_calls k a0 8 hc8).mono ?_
 rintro _ w9 ⟨rfl, T10⟩
 have S11 := St.callN (As := []) S4 T10
 change St _ _ _ [[(b1, .cells #[.int .i64 0, .int .i64 0] 34 (0, 0))]] at S11
 refine ⟨_, rfl, ?_⟩
 refine WOps.p (G.assign rfl) rfl ?_
 refine WOps.nil ?_
 refine WEx.then_ ?_
 refine WCode.seq ?_
 refine WCode.region ?_
 refine WOps.p (G.move rfl) rfl ?_
 refine WOps.p (G.quok rfl rfl (by decide)) rfl ?_
 refine WOps.p (G.add rfl rfl (r := (w64 (65536 + (w64 (Int.tdiv t7 2))))) rfl) rfl ?_
 refine WOps.p (G.move rfl) rfl ?_
 refine WOps.p (G.remk rfl rfl (by decide)) rfl ?_
 refine WOps.p (G.add rfl rfl (r := (w64 (1 + (Int.tmod t7 2)))) rfl) rfl ?_
 refine WOps.p (G.build (cells := #[.int .i64 (w64 (65536 + (w64 (Int.tdiv t7 2)))), .int .i64 (w64 (1 + (Int.tmod t7 2)))]) (evp_spec (evp_cons rfl (evp_cons rfl evp_nil))) (by kernel_rfl)) rfl ?_
 obtain ⟨w12, E13, S14⟩ := St.store (P := Try.prog) S11 0 34 (.agg #[.int .i64 (w64 (65536 + (w64 (Int.tdiv t7 2)))), .int .i64 (w64 (1 + (Int.tmod t7 2)))]) (off := 0) (cur' := #[.int .i64 (w64 (65536 + (w64 (Int.tdiv t7 2)))), .int .i64 (w64 (1 + (Int.tmod t7 2)))]) rfl T.size34_2 rfl rfl rfl
 change St _ _ _ [[(b1, .cells #[.int .i64 (w64 (65536 + (w64 (Int.tdiv t7 2)))), .int .i64 (w64 (1 + (Int.tmod t7 2)))] 34 (0, 0))]] at S14
 refine WOps.u (E13 rfl rfl) ?_
 refine WOps.nil ?_
 refine WEx.then_ ?_
 refine WCode.forget (l' := [(2, .pointer (some ⟨b1, 0, none⟩))]) ⟨rfl, trivial⟩ ?_
 refine WCode.ret ?_
 obtain rfl := some_eq hF
 refine WEx.retc rfl rfl (cs := [.int .i64 (w64 (65536 + (w64 (Int.tdiv t7 2)))), .int .i64 (w64 (1 + (Int.tmod t7 2)))]) T.agg34_2 (cellsAt.of_blk (S14.blk 0 rfl) rfl) ?_
 exact ⟨rfl, St.keep (As := []) S14⟩

def ca_names (k : Nat) (a0 : OpC) : Option (WhoC × Int × Int) := (if a0.Raw = true then (some (a0.Whose, a0.Sequence, a0.Water)) else (Option.bind (ca_who k a0.Who) fun t21 => (Option.bind (ca_pick k a0.Sequence 100) fun t26 => (Option.bind (ca_pick k a0.Water 100) fun t31 => (some (t21, w64 (1 + t26), w64 (1 + t31)))))))
set_option maxRecDepth 100000 in
set_option maxHeartbeats 1000000 in
theorem ca_names_calls (k : Nat) (a0 : OpC) {w : World} {r_ : WhoC × Int × Int} (h_ : ca_names k a0 = some r_) :
    Calls Try.prog 14 [.agg #[.bool a0.Other, .bool a0.Raw, .int .i64 a0.What, .int .i64 a0.Who, .int .i64 a0.Sequence, .int .i64 a0.Water, .int .i64 a0.Whose.Address, .int .i64 a0.Whose.Instance, .string (bs a0.Reply)]].toArray w fun e w' => e = .returned (.tuple #[.agg #[.int .i64 r_.1.Address, .int .i64 r_.1.Instance], .int .i64 r_.2.1, .int .i64 r_.2.2]) ∧ St w (KS []) w' [] := by
 have hF := h_
 clear h_
 unfold ca_names at hF
 have S := St.ofFalse (As := []) (St.init0 w)
 refine enter 24 [(0, .agg #[.bool a0.Other, .bool a0.Raw, .int .i64 a0.What, .int .i64 a0.Who, .int .i64 a0.Sequence, .int .i64 a0.Water, .int .i64 a0.Whose.Address, .int .i64 a0.Whose.Instance, .string (bs a0.Reply)])] Try.func14 rfl rfl rfl rfl ?_
 refine WCode.seq ?_
 refine WCode.region ?_
 obtain ⟨b1, w2, E3, S4, X5, L6⟩ := St.box S Try.prog 36 (.agg #[.bool a0.Other, .bool a0.Raw, .int .i64 a0.What, .int .i64 a0.Who, .int .i64 a0.Sequence, .int .i64 a0.Water, .int .i64 a0.Whose.Address, .int .i64 a0.Whose.Instance, .string (bs a0.Reply)])
 change St _ _ _ [[(b1, .cells #[.bool a0.Other, .bool a0.Raw, .int .i64 a0.What, .int .i64 a0.Who, .int .i64 a0.Sequence, .int .i64 a0.Water, .int .i64 a0.Whose.Address, .int .i64 a0.Whose.Instance, .string (bs a0.Reply)] 36 (0, 0))]] at S4
 refine WOps.e (E3 rfl) rfl ?_
 obtain ⟨b7, w8, E9, S10, X11, L12⟩ := St.var S4 (z := .agg #[.int .i64 0, .int .i64 0]) T.zero34
 change St _ _ _ [[(b7, .cells #[.int .i64 0, .int .i64 0] 34 (0, 0))], [(b1, .cells #[.bool a0.Other, .bool a0.Raw, .int .i64 a0.What, .int .i64 a0.Who, .int .i64 a0.Sequence, .int .i64 a0.Water, .int .i64 a0.Whose.Address, .int .i64 a0.Whose.Instance, .string (bs a0.Reply)] 36 (0, 0))]] at S10
 refine WOps.e E9 rfl ?_
 refine WOps.p (G.assign rfl) rfl ?_
 refine WOps.p (G.assign rfl) rfl ?_
 refine WOps.nil ?_
 refine WEx.then_ ?_
 refine WCode.seq ?_
 refine WCode.seq ?_
 refine WCode.region ?_
 refine WOps.p (G.field T.fld36_1 rfl (show 0 + 1 = 1 from rfl)) rfl ?_
 refine WOps.r (G.load1 T.one4 rfl (cell_blk (S10.blk 1 rfl) rfl)) rfl ?_
 refine WOps.nil ?_
 refine WEx.then_ ?_
 rcases ite_some hF with ⟨h13, hF⟩ | ⟨h13, hF⟩
 ·
  refine WCode.cond_t (kb (b := a0.Raw) rfl h13) ?_
  refine WCode.seq ?_
  refine WCode.drawH (.one 0 0 (.one 2 0 (.one 4 0 (.one 1 1 (.one 3 1 (.one 5 1 (.one 6 2 (.one 7 0 (.one 8 0 .nil))))))))) (fun W_ => cellsAt W_ b1 0 [.bool a0.Other, .bool a0.Raw, .int .i64 a0.What, .int .i64 a0.Who, .int .i64 a0.Sequence, .int .i64 a0.Water, .int .i64 a0.Whose.Address, .int .i64 a0.Whose.Instance, .string (bs a0.Reply)] ∧ True) T.mixed (by kernel_rfl) (by intro _ _ d _ _ h; cases d <;> exact h) rfl rfl (by kernel_rfl) ?_ ?_
  all_goals have S14 := S10.drew
  all_goals generalize w8.drew = w15 at *
  · exact ⟨cellsAt.of_blk (S14.blk 1 rfl) rfl, trivial⟩
  refine WH.p rfl wants (G.field T.fld36_6 rfl (show 0 + 6 = 6 from rfl)) rfl ?_
  refine WH.p rfl wants (G.field T.fld36_4 rfl (show 0 + 4 = 4 from rfl)) rfl ?_
  refine WH.p rfl wants (G.field T.fld36_5 rfl (show 0 + 5 = 5 from rfl)) rfl ?_
  refine WH.r rfl wants (fun _ h_ => G.loada T.agg34_2 rfl (cs := [.int .i64 a0.Whose.Address, .int .i64 a0.Whose.Instance]) (cellsAt.part h_.1 6 rfl)) rfl ?_
  refine WH.r rfl wants (fun _ h_ => G.load1 T.one3 rfl (cellsAt.at h_.1 4 rfl)) rfl ?_
  refine WH.r rfl wants (fun _ h_ => G.load1 T.one3 rfl (cellsAt.at h_.1 5 rfl)) rfl ?_
  obtain ⟨w16, E17, S18⟩ := St.store (P := Try.prog) S14 0 34 (.agg #[.int .i64 a0.Whose.Address, .int .i64 a0.Whose.Instance]) (off := 0) (cur' := #[.int .i64 a0.Whose.Address, .int .i64 a0.Whose.Instance]) rfl T.size34_2 rfl rfl rfl
  change St _ _ _ [[(b7, .cells #[.int .i64 a0.Whose.Address, .int .i64 a0.Whose.Instance] 34 (0, 0))], [(b1, .cells #[.bool a0.Other, .bool a0.Raw, .int .i64 a0.What, .int .i64 a0.Who, .int .i64 a0.Sequence, .int .i64 a0.Water, .int .i64 a0.Whose.Address, .int .i64 a0.Whose.Instance, .string (bs a0.Reply)] 36 (0, 0))]] at S18
  refine WH.u rfl wants (E17 rfl rfl) ⟨cellsAt.of_blk (S18.blk 1 rfl) rfl, trivial⟩ ?_
  refine WH.p rfl wants (G.assign rfl) rfl ?_
  refine WH.p rfl wants (G.assign rfl) rfl ?_
  refine WH.nil ?_
  refine WEx.then_ ?_
  refine WCode.forget (l' := [(2, .pointer (some ⟨b7, 0, none⟩)), (3, .int .i64 a0.Sequence), (4, .int .i64 a0.Water)]) ⟨rfl, rfl, rfl, trivial⟩ ?_
  refine WCode.ret ?_
  refine WEx.then_ret ?_
  obtain rfl := some_eq hF
  refine WEx.retc2 rfl rfl (cs := [.int .i64 a0.Whose.Address, .int .i64 a0.Whose.Instance]) T.agg34_2 (cellsAt.of_blk (S18.blk 0 rfl) rfl) rfl rfl ?_
  exact ⟨rfl, St.keep (As := []) S18⟩
 ·
  refine WCode.cond_f (kb (b := a0.Raw) rfl (Bool.eq_false_iff.2 h13)) ?_
  refine WCode.skip ?_
  refine WEx.then_ ?_
  refine WCode.seq ?_
  refine WCode.drawH (.one 0 0 (.one 3 0 (.one 7 0 (.one 1 1 (.one 4 1 (.one 8 1 (.one 2 2 (.one 5 2 (.one 6 0 (.one 9 2 (.one 10 0 (.one 11 2 (.one 12 0 (.one 13 0 .nil)))))))))))))) (fun W_ => cellsAt W_ b1 0 [.bool a0.Other, .bool a0.Raw, .int .i64 a0.What, .int .i64 a0.Who, .int .i64 a0.Sequence, .int .i64 a0.Water, .int .i64 a0.Whose.Address, .int .i64 a0.Whose.Instance, .string (bs a0.Reply)] ∧ True) T.mixed (by kernel_rfl) (by intro _ _ d _ _ h; cases d <;> exact h) rfl rfl (by kernel_rfl) ?_ ?_
  all_goals have S19 := S10.drew
  all_goals generalize w8.drew = w20 at *
  · exact ⟨cellsAt.of_blk (S19.blk 1 rfl) rfl, trivial⟩
  refine WH.p rfl wants (G.field T.fld36_3 rfl (show 0 + 3 = 3 from rfl)) rfl ?_
  refine WH.p rfl wants (G.field T.fld36_4 rfl (show 0 + 4 = 4 from rfl)) rfl ?_
  refine WH.p rfl wants (G.field T.fld36_5 rfl (show 0 + 5 = 5 from rfl)) rfl ?_
  refine WH.r rfl wants (fun _ h_ => G.load1 T.one3 rfl (cellsAt.at h_.1 3 rfl)) rfl ?_
  refine WH.r rfl wants (fun _ h_ => G.load1 T.one3 rfl (cellsAt.at h_.1 4 rfl)) rfl ?_
  refine WH.r rfl wants (fun _ h_ => G.load1 T.one3 rfl (cellsAt.at h_.1 5 rfl)) rfl ?_
  obtain ⟨t21, hc22, hF⟩ := bind_some hF
  refine WH.call rfl wants T.call22 (evs_cons rfl evs_nil) rfl ?_
  refine (ca_who_calls k a0.Who hc22).mono ?_
  rintro _ w23 ⟨rfl, T24⟩
  have S25 := St.callN (As := []) S19 T24
  change St _ _ _ [[(b7, .cells #[.int .i64 0, .int .i64 0] 34 (0, 0))], [(b1, .cells #[.bool a0.Other, .bool a0.Raw, .int .i64 a0.What, .int .i64 a0.Who, .int .i64 a0.Sequence, .int .i64 a0.Water, .int .i64 a0.Whose.Address, .int .i64 a0.Whose.Instance, .string (bs a0.Reply)] 36 (0, 0))]] at S25
  refine ⟨_, rfl, ?_⟩
  refine ⟨⟨cellsAt.of_blk (S25.blk 1 rfl) rfl, trivial⟩, ?_⟩
  obtain ⟨t26, hc27, hF⟩ := bind_some hF
  refine WH.call rfl wants T.call21 (evs_cons rfl (evs_cons rfl evs_nil)) rfl ?_
  refine (ca_pick_calls k a0.Sequence 100 hc27).mono ?_
  rintro _ w28 ⟨rfl, T29⟩
  have S30 := St.callN (As := []) S25 T29
  change St _ _ _ [[(b7, .cells #[.int .i64 0, .int .i64 0] 34 (0, 0))], [(b1, .cells #[.bool a0.Other, .bool a0.Raw, .int .i64 a0.What, .int .i64 a0.Who, .int .i64 a0.Sequence, .int .i64 a0.Water, .int .i64 a0.Whose.Address, .int .i64 a0.Whose.Instance, .string (bs a0.Reply)] 36 (0, 0))]] at S30
  refine ⟨_, rfl, ?_⟩
  refine ⟨⟨cellsAt.of_blk (S30.blk 1 rfl) rfl, trivial⟩, ?_⟩
  refine WH.p rfl wants (G.add rfl rfl (r := (w64 (1 + t26))) rfl) rfl ?_
  obtain ⟨t31, hc32, hF⟩ := bind_some hF
  refine WH.call rfl wants T.call21 (evs_cons rfl (evs_cons rfl evs_nil)) rfl ?_
  refine (ca_pick_calls k a0.Water 100 hc32).mono ?_
  rintro _ w33 ⟨rfl, T34⟩
  have S35 := St.callN (As := []) S30 T34
  change St _ _ _ [[(b7, .cells #[.int .i64 0, .int .i64 0] 34 (0, 0))], [(b1, .cells #[.bool a0.Other, .bool a0.Raw, .int .i64 a0.What, .int .i64 a0.Who, .int .i64 a0.Sequence, .int .i64 a0.Water, .int .i64 a0.Whose.Address, .int .i64 a0.Whose.Instance, .string (bs a0.Reply)] 36 (0, 0))]] at S35
  refine ⟨_, rfl, ?_⟩
  refine ⟨⟨cellsAt.of_blk (S35.blk 1 rfl) rfl, trivial⟩, ?_⟩
  refine WH.p rfl wants (G.add rfl rfl (r := (w64 (1 + t31))) rfl) rfl ?_
  obtain ⟨w36, E37, S38⟩ := St.store (P := Try.prog) S35 0 34 (.agg #[.int .i64 t21.Address, .int .i64 t21.Instance]) (off := 0) (cur' := #[.int .i64 t21.Address, .int .i64 t21.Instance]) rfl T.size34_2 rfl rfl rfl
  change St _ _ _ [[(b7, .cells #[.int .i64 t21.Address, .int .i64 t21.Instance] 34 (0, 0))], [(b1, .cells #[.bool a0.Other, .bool a0.Raw, .int .i64 a0.What, .int .i64 a0.Who, .int .i64 a0.Sequence, .int .i64 a0.Water, .int .i64 a0.Whose.Address, .int .i64 a0.Whose.Instance, .string (bs a0.Reply)] 36 (0, 0))]] at S38
  refine WH.u rfl wants (E37 rfl rfl) ⟨cellsAt.of_blk (S38.blk 1 rfl) rfl, trivial⟩ ?_
  refine WH.p rfl wants (G.assign rfl) rfl ?_
  refine WH.p rfl wants (G.assign rfl) rfl ?_
  refine WH.nil ?_
  refine WEx.then_ ?_
  refine WCode.forget (l' := [(2, .pointer (some ⟨b7, 0, none⟩)), (3, .int .i64 (w64 (1 + t26))), (4, .int .i64 (w64 (1 + t31)))]) ⟨rfl, rfl, rfl, trivial⟩ ?_
  refine WCode.ret ?_
  obtain rfl := some_eq hF
  refine WEx.retc2 rfl rfl (cs := [.int .i64 t21.Address, .int .i64 t21.Instance]) T.agg34_2 (cellsAt.of_blk (S38.blk 0 rfl) rfl) rfl rfl ?_
  exact ⟨rfl, St.keep (As := []) S38⟩

def ca_config (k : Nat) (a0 : Int) (a1 : Int) (a2 : Int) (a3 : Int) : Option CacheConfig := (Option.bind (ca_pick k a3 1037) fun t7 => (Option.bind (ca_pick k a0 64) fun t12 => (Option.bind (ca_pick k a1 64) fun t17 => (Option.bind (ca_pick k a2 (w64 ((w64 (1048576 - (w64 (64 + t7)))) + 1))) fun t22 => (some (⟨w64 (1 + t12), w64 (1 + t17), w64 ((w64 (64 + t7)) + t22), w64 (64 + t7)⟩ : CacheConfig))))))
set_option maxRecDepth 100000 in
set_option maxHeartbeats 1000000 in
theorem ca_config_calls (k : Nat) (a0 : Int) (a1 : Int) (a2 : Int) (a3 : Int) {w : World} {r_ : CacheConfig} (h_ : ca_config k a0 a1 a2 a3 = some r_) :
    Calls Try.prog 12 [.int .i64 a0, .int .i64 a1, .int .i64 a2, .int .i64 a3].toArray w fun e w' => e = .returned (.agg #[.int .i64 r_.Clients, .int .i64 r_.Entries, .int .i64 r_.Bytes, .int .i64 r_.Reserve]) ∧ St w (KS []) w' [] := by
 have hF := h_
 clear h_
 unfold ca_config at hF
 have S := St.ofFalse (As := []) (St.init0 w)
 refine enter 28 [(0, .int .i64 a0), (1, .int .i64 a1), (2, .int .i64 a2), (3, .int .i64 a3)] Try.func12 rfl rfl rfl rfl ?_
 refine WCode.seq ?_
 refine WCode.region ?_
 obtain ⟨b1, w2, E3, S4, X5, L6⟩ := St.var S (z := .agg #[.int .i64 0, .int .i64 0, .int .i64 0, .int .i64 0]) T.zero26
 change St _ _ _ [[(b1, .cells #[.int .i64 0, .int .i64 0, .int .i64 0, .int .i64 0] 26 (0, 0))]] at S4
 refine WOps.e E3 rfl ?_
 refine WOps.nil ?_
 refine WEx.then_ ?_
 refine WCode.seq ?_
 refine WCode.region ?_
 refine WOps.p (G.move rfl) rfl ?_
 obtain ⟨t7, hc8, hF⟩ := bind_some hF
 refine WOps.call T.call21 (evs_cons rfl (evs_cons rfl evs_nil)) rfl ?_
 refine (ca_pick_calls k a3 1037 hc8).mono ?_
 rintro _ w9 ⟨rfl, T10⟩
 have S11 := St.callN (As := []) S4 T10
 change St _ _ _ [[(b1, .cells #[.int .i64 0, .int .i64 0, .int .i64 0, .int .i64 0] 26 (0, 0))]] at S11
 refine ⟨_, rfl, ?_⟩
 refine WOps.p (G.add rfl rfl (r := (w64 (64 + t7))) rfl) rfl ?_
 refine WOps.p (G.assign rfl) rfl ?_
 refine WOps.nil ?_
 refine WEx.then_ ?_
 refine WCode.seq ?_
 refine WCode.region ?_
 refine WOps.p (G.move rfl) rfl ?_
 obtain ⟨t12, hc13, hF⟩ := bind_some hF
 refine WOps.call T.call21 (evs_cons rfl (evs_cons rfl evs_nil)) rfl ?_
 refine (ca_pick_calls k a0 64 hc13).mono ?_
 rintro _ w14 ⟨rfl, T15⟩
 have S16 := St.callN (As := []) S11 T15
 change St _ _ _ [[(b1, .cells #[.int .i64 0, .int .i64 0, .int .i64 0, .int .i64 0] 26 (0, 0))]] at S16
 refine ⟨_, rfl, ?_⟩
 refine WOps.p (G.add rfl rfl (r := (w64 (1 + t12))) rfl) rfl ?_
 refine WOps.p (G.move rfl) rfl ?_
 obtain ⟨t17, hc18, hF⟩ := bind_some hF
 refine WOps.call T.call21 (evs_cons rfl (evs_cons rfl evs_nil)) rfl ?_
 refine (ca_pick_calls k a1 64 hc18).mono ?_
 rintro _ w19 ⟨rfl, T20⟩
 have S21 := St.callN (As := []) S16 T20
 change St _ _ _ [[(b1, .cells #[.int .i64 0, .int .i64 0, .int .i64 0, .int .i64 0] 26 (0, 0))]] at S21
 refine ⟨_, rfl, ?_⟩
 refine WOps.p (G.add rfl rfl (r := (w64 (1 + t17))) rfl) rfl ?_
 refine WOps.p (G.move rfl) rfl ?_
 refine WOps.p (G.move rfl) rfl ?_
 refine WOps.p (G.move rfl) rfl ?_
 refine WOps.p (G.move rfl) rfl ?_
 refine WOps.p (G.sub rfl rfl (r := (w64 (1048576 - (w64 (64 + t7))))) rfl) rfl ?_
 refine WOps.p (G.add rfl rfl (r := (w64 ((w64 (1048576 - (w64 (64 + t7)))) + 1))) rfl) rfl ?_
 obtain ⟨t22, hc23, hF⟩ := bind_some hF
 refine WOps.call T.call21 (evs_cons rfl (evs_cons rfl evs_nil)) rfl ?_
 refine (ca_pick_calls k a2 (w64 ((w64 (1048576 - (w64 (64 + t7)))) + 1)) hc23).mono ?_
 rintro _ w24 ⟨rfl, T25⟩
 have S26 := St.callN (As := []) S21 T25
 change St _ _ _ [[(b1, .cells #[.int .i64 0, .int .i64 0, .int .i64 0, .int .i64 0] 26 (0, 0))]] at S26
 refine ⟨_, rfl, ?_⟩
 refine WOps.p (G.add rfl rfl (r := (w64 ((w64 (64 + t7)) + t22))) rfl) rfl ?_
 refine WOps.p (G.build (cells := #[.int .i64 (w64 (1 + t12)), .int .i64 (w64 (1 + t17)), .int .i64 (w64 ((w64 (64 + t7)) + t22)), .int .i64 (w64 (64 + t7))]) (evp_spec (evp_cons rfl (evp_cons rfl (evp_cons rfl (evp_cons rfl evp_nil))))) (by kernel_rfl)) rfl ?_
 obtain ⟨w27, E28, S29⟩ := St.store (P := Try.prog) S26 0 26 (.agg #[.int .i64 (w64 (1 + t12)), .int .i64 (w64 (1 + t17)), .int .i64 (w64 ((w64 (64 + t7)) + t22)), .int .i64 (w64 (64 + t7))]) (off := 0) (cur' := #[.int .i64 (w64 (1 + t12)), .int .i64 (w64 (1 + t17)), .int .i64 (w64 ((w64 (64 + t7)) + t22)), .int .i64 (w64 (64 + t7))]) rfl T.size26_4 rfl rfl rfl
 change St _ _ _ [[(b1, .cells #[.int .i64 (w64 (1 + t12)), .int .i64 (w64 (1 + t17)), .int .i64 (w64 ((w64 (64 + t7)) + t22)), .int .i64 (w64 (64 + t7))] 26 (0, 0))]] at S29
 refine WOps.u (E28 rfl rfl) ?_
 refine WOps.nil ?_
 refine WEx.then_ ?_
 refine WCode.forget (l' := [(8, .pointer (some ⟨b1, 0, none⟩))]) ⟨rfl, trivial⟩ ?_
 refine WCode.ret ?_
 obtain rfl := some_eq hF
 refine WEx.retc rfl rfl (cs := [.int .i64 (w64 (1 + t12)), .int .i64 (w64 (1 + t17)), .int .i64 (w64 ((w64 (64 + t7)) + t22)), .int .i64 (w64 (64 + t7))]) T.agg26_4 (cellsAt.of_blk (S29.blk 0 rfl) rfl) ?_
 exact ⟨rfl, St.keep (As := []) S29⟩

def ca_word (k : Nat) (a0 : Int) : Option Bool := (if 1 ≤ a0 then (some (decide (a0 ≤ 4294967295))) else (some false))
set_option maxRecDepth 100000 in
set_option maxHeartbeats 1000000 in
theorem ca_word_calls (k : Nat) (a0 : Int) {w : World} {r_ : Bool} (h_ : ca_word k a0 = some r_) :
    Calls Try.prog 37 [.int .i64 a0].toArray w fun e w' => e = .returned (.bool r_) ∧ St w (KS []) w' [] := by
 have hF := h_
 clear h_
 unfold ca_word at hF
 have S := St.ofFalse (As := []) (St.init0 w)
 refine enter 9 [(0, .int .i64 a0)] Try.func37 rfl rfl rfl rfl ?_
 refine WCode.seq ?_
 refine WCode.region ?_
 refine WOps.p (G.assign rfl) rfl ?_
 refine WOps.nil ?_
 refine WEx.then_ ?_
 refine WCode.seq ?_
 refine WCode.region ?_
 refine WOps.p (G.move rfl) rfl ?_
 refine WOps.p (G.geq rfl rfl rfl) rfl ?_
 refine WOps.p (G.move rfl) rfl ?_
 rcases ite_some hF with ⟨h1, hF⟩ | ⟨h1, hF⟩
 ·
  refine WOps.on rfl (kbl (b := decide (1 ≤ a0)) rfl (decide_eq_true h1)) ?_
  refine WOps.p (G.move rfl) rfl ?_
  refine WOps.on rfl (kbl (b := decide (1 ≤ a0)) rfl (decide_eq_true h1)) ?_
  refine WOps.p (G.leq rfl rfl rfl) rfl ?_
  refine WOps.p (G.pick_t (kb (b := decide (1 ≤ a0)) rfl (decide_eq_true h1)) rfl) rfl ?_
  refine WOps.p (G.assign rfl) rfl ?_
  refine WOps.nil ?_
  refine WEx.then_ ?_
  refine WCode.ret ?_
  obtain rfl := some_eq hF
  refine WEx.ret1 rfl rfl ?_
  exact ⟨rfl, St.keep (As := []) S⟩
 ·
  refine WOps.off rfl (kbl (b := decide (1 ≤ a0)) rfl (decide_eq_false h1)) rfl rfl ?_
  refine WOps.off rfl (kbl (b := decide (1 ≤ a0)) rfl (decide_eq_false h1)) rfl rfl ?_
  refine WOps.p (G.pick_f (kb (b := decide (1 ≤ a0)) rfl (decide_eq_false h1)) rfl) rfl ?_
  refine WOps.p (G.assign rfl) rfl ?_
  refine WOps.nil ?_
  refine WEx.then_ ?_
  refine WCode.ret ?_
  obtain rfl := some_eq hF
  refine WEx.ret1 rfl rfl ?_
  exact ⟨rfl, St.keep (As := []) S⟩

def ca_size (k : Nat) (a0 : Cache) (a1 : Entry) : Option Int := (if a1.done = true then (some (a1.reply.length : Int)) else (some a0.config.Reserve))
set_option maxRecDepth 100000 in
set_option maxHeartbeats 1000000 in
theorem ca_size_calls (k : Nat) (a0 : Cache) {p0 : Nat} {F0 : Nat → Prop} (a1 : Entry) {w : World} (hP0 : PtR 89 Cache.rp w F0 p0 a0) (hF0 : ∀ b, F0 b → NK w [] b) {r_ : Int} (h_ : ca_size k a0 a1 = some r_) :
    Calls Try.prog 57 [.pointer (some ⟨p0, 0, none⟩), .agg #[.bool a1.done, .string (bs a1.reply)]].toArray w fun e w' => e = .returned (.int .i64 r_) ∧ St w (KS []) w' [] := by
 have hF := h_
 clear h_
 unfold ca_size at hF
 have S := St.ofFalse (As := []) (St.init0 w)
 have hPq5 := hP0
 obtain ⟨cs1, hB2, hf3, b6, hq4, hR7⟩ := hPq5
 subst hq4
 change _ = some (Obj.cells #[.int .i64 a0.config.Clients, .int .i64 a0.config.Entries, .int .i64 a0.config.Bytes, .int .i64 a0.config.Reserve, .map (some b6), .int .i64 a0.entries, .int .i64 a0.bytes] 89 (0, 0)) at hB2
 refine enter 15 [(0, .pointer (some ⟨p0, 0, none⟩)), (1, .agg #[.bool a1.done, .string (bs a1.reply)])] Try.func57 rfl rfl rfl rfl ?_
 refine WCode.seq ?_
 refine WCode.region ?_
 obtain ⟨b8, w9, E10, S11, X12, L13⟩ := St.box S Try.prog 93 (.agg #[.bool a1.done, .string (bs a1.reply)])
 change St _ _ _ [[(b8, .cells #[.bool a1.done, .string (bs a1.reply)] 93 (0, 0))]] at S11
 refine WOps.e (E10 rfl) rfl ?_
 refine WOps.p (G.assign rfl) rfl ?_
 refine WOps.nil ?_
 refine WEx.then_ ?_
 refine WCode.seq ?_
 refine WCode.seq ?_
 refine WCode.region ?_
 refine WOps.p (G.field T.fld93_0 rfl (show 0 + 0 = 0 from rfl)) rfl ?_
 refine WOps.r (G.load1 T.one4 rfl (cell_blk (S11.blk 0 rfl) rfl)) rfl ?_
 refine WOps.nil ?_
 refine WEx.then_ ?_
 rcases ite_some hF with ⟨h14, hF⟩ | ⟨h14, hF⟩
 ·
  refine WCode.cond_t (kb (b := a1.done) rfl h14) ?_
  refine WCode.seq ?_
  refine WCode.region ?_
  refine WOps.p (G.field T.fld93_1 rfl (show 0 + 1 = 1 from rfl)) rfl ?_
  refine WOps.r (G.load1 T.one9 rfl (cell_blk (S11.blk 0 rfl) rfl)) rfl ?_
  refine WOps.p (G.lenb T.str9 rfl) rfl ?_
  refine WOps.p (G.assign rfl) rfl ?_
  refine WOps.nil ?_
  refine WEx.then_ ?_
  refine WCode.ret ?_
  refine WEx.then_ret ?_
  obtain rfl := some_eq hF
  refine WEx.ret1 rfl rfl ?_
  exact ⟨rfl, St.keep (As := []) S11⟩
 ·
  refine WCode.cond_f (kb (b := a1.done) rfl (Bool.eq_false_iff.2 h14)) ?_
  refine WCode.skip ?_
  refine WEx.then_ ?_
  refine WCode.seq ?_
  refine WCode.region ?_
  refine WOps.p (G.move rfl) rfl ?_
  refine WOps.p (G.nilp rfl) rfl ?_
  refine WOps.p (G.field T.fld89_0 rfl (show 0 + 0 = 0 from rfl)) rfl ?_
  refine WOps.p (G.field T.fld26_3 rfl (show 0 + 3 = 3 from rfl)) rfl ?_
  refine WOps.r (G.load1 T.one3 rfl (cell_blk ((S11.fr p0 (lt_of_blk hB2) (hF0 p0 hf3).1).trans hB2) rfl)) rfl ?_
  refine WOps.p (G.assign rfl) rfl ?_
  refine WOps.nil ?_
  refine WEx.then_ ?_
  refine WCode.forget (l' := [(4, .int .i64 a0.config.Reserve)]) ⟨rfl, trivial⟩ ?_
  refine WCode.ret ?_
  obtain rfl := some_eq hF
  refine WEx.ret1 rfl rfl ?_
  exact ⟨rfl, St.keep (As := []) S11⟩

def ca_New.j1 (q10 : Nat) (a0 : CacheConfig) (b7 : Bool) : Option ((Option Cache) × Int) := (if b7 = true then (some (none, 150)) else (if a0.Reserve < 64 then (some (none, 150)) else (if 1100 < a0.Reserve then (some (none, 150)) else (if a0.Bytes < a0.Reserve then (some (none, 150)) else (if 1048576 < a0.Bytes then (some (none, 150)) else (some (some (⟨a0, ([] : List (WhoC × Known)), 0, 0⟩ : Cache), 0)))))))
def ca_New (k : Nat) (a0 : CacheConfig) : Option ((Option Cache) × Int) := (if a0.Clients < 1 then (ca_New.j1 k a0 (decide (a0.Clients < 1))) else (if 64 < a0.Clients then (ca_New.j1 k a0 (decide (64 < a0.Clients))) else (if a0.Entries < 1 then (ca_New.j1 k a0 (decide (a0.Entries < 1))) else (ca_New.j1 k a0 (decide (64 < a0.Entries))))))
set_option maxRecDepth 100000 in
set_option maxHeartbeats 1000000 in
theorem ca_New_calls (k : Nat) (a0 : CacheConfig) {w : World} {r_ : (Option Cache) × Int} (h_ : ca_New k a0 = some r_) :
    Calls Try.prog 13 [.agg #[.int .i64 a0.Clients, .int .i64 a0.Entries, .int .i64 a0.Bytes, .int .i64 a0.Reserve]].toArray w fun e w' => ∃ v0' : Value, ∃ G0' : Grp, e = .returned (.tuple #[v0', .int .i64 r_.2]) ∧ OptO 89 Cache.rp v0' (r_.1) G0' ∧ St w (KS []) w' [G0'] := by
 have hF := h_
 clear h_
 unfold ca_New at hF
 have S := St.ofFalse (As := []) (St.init0 w)
 refine enter 36 [(0, .agg #[.int .i64 a0.Clients, .int .i64 a0.Entries, .int .i64 a0.Bytes, .int .i64 a0.Reserve])] Try.func13 rfl rfl rfl rfl ?_
 refine WCode.seq ?_
 refine WCode.region ?_
 obtain ⟨b1, w2, E3, S4, X5, L6⟩ := St.box S Try.prog 26 (.agg #[.int .i64 a0.Clients, .int .i64 a0.Entries, .int .i64 a0.Bytes, .int .i64 a0.Reserve])
 change St _ _ _ [[(b1, .cells #[.int .i64 a0.Clients, .int .i64 a0.Entries, .int .i64 a0.Bytes, .int .i64 a0.Reserve] 26 (0, 0))]] at S4
 refine WOps.e (E3 rfl) rfl ?_
 refine WOps.p (G.assign rfl) rfl ?_
 refine WOps.p (G.assign rfl) rfl ?_
 refine WOps.nil ?_
 refine WEx.then_ ?_
 refine WCode.seq ?_
 refine WCode.block ?_
 refine WCode.cutseq (fun l_ w_ => ∃ q10 : Nat, ∃ b7 : Bool, l_ = [(1, .pointer (some ⟨b1, 0, none⟩)), (4, .bool b7)] ∧ ca_New.j1 q10 a0 b7 = some r_ ∧ St w (KS []) w_ [[(b1, .cells #[.int .i64 a0.Clients, .int .i64 a0.Entries, .int .i64 a0.Bytes, .int .i64 a0.Reserve] 26 (0, 0))]]) ?_ ?_
 ·
  refine WCode.seq ?_
  refine WCode.region ?_
  refine WOps.p (G.field T.fld26_0 rfl (show 0 + 0 = 0 from rfl)) rfl ?_
  refine WOps.r (G.load1 T.one3 rfl (cell_blk (S4.blk 0 rfl) rfl)) rfl ?_
  refine WOps.p (G.lss rfl rfl rfl) rfl ?_
  refine WOps.p (G.assign rfl) rfl ?_
  refine WOps.nil ?_
  refine WEx.then_ ?_
  rcases ite_some hF with ⟨h12, hF⟩ | ⟨h12, hF⟩
  ·
   refine WCode.cond_t (kb (b := decide (a0.Clients < 1)) rfl (decide_eq_true h12)) ?_
   refine WCode.skip ?_
   refine WEx.cutend _ ?_ ⟨k, decide (a0.Clients < 1), rfl, hF, S4⟩
   exact ⟨rfl, rfl, trivial⟩
  ·
   refine WCode.cond_f (kb (b := decide (a0.Clients < 1)) rfl (decide_eq_false h12)) ?_
   refine WCode.seq ?_
   refine WCode.region ?_
   refine WOps.p (G.field T.fld26_0 rfl (show 0 + 0 = 0 from rfl)) rfl ?_
   refine WOps.r (G.load1 T.one3 rfl (cell_blk (S4.blk 0 rfl) rfl)) rfl ?_
   refine WOps.p (G.gtr rfl rfl rfl) rfl ?_
   refine WOps.p (G.assign rfl) rfl ?_
   refine WOps.nil ?_
   refine WEx.then_ ?_
   rcases ite_some hF with ⟨h13, hF⟩ | ⟨h13, hF⟩
   ·
    refine WCode.cond_t (kb (b := decide (64 < a0.Clients)) rfl (decide_eq_true h13)) ?_
    refine WCode.skip ?_
    refine WEx.cutend _ ?_ ⟨k, decide (64 < a0.Clients), rfl, hF, S4⟩
    exact ⟨rfl, rfl, trivial⟩
   ·
    refine WCode.cond_f (kb (b := decide (64 < a0.Clients)) rfl (decide_eq_false h13)) ?_
    refine WCode.seq ?_
    refine WCode.region ?_
    refine WOps.p (G.field T.fld26_1 rfl (show 0 + 1 = 1 from rfl)) rfl ?_
    refine WOps.r (G.load1 T.one3 rfl (cell_blk (S4.blk 0 rfl) rfl)) rfl ?_
    refine WOps.p (G.lss rfl rfl rfl) rfl ?_
    refine WOps.p (G.assign rfl) rfl ?_
    refine WOps.nil ?_
    refine WEx.then_ ?_
    refine WCode.forget (l' := [(1, .pointer (some ⟨b1, 0, none⟩)), (4, .bool (decide (a0.Entries < 1)))]) ⟨rfl, rfl, trivial⟩ ?_
    rcases ite_some hF with ⟨h14, hF⟩ | ⟨h14, hF⟩
    ·
     refine WCode.cond_t (kb (b := decide (a0.Entries < 1)) rfl (decide_eq_true h14)) ?_
     refine WCode.skip ?_
     refine WEx.cutend _ ?_ ⟨k, decide (a0.Entries < 1), rfl, hF, S4⟩
     exact ⟨rfl, rfl, trivial⟩
    ·
     refine WCode.cond_f (kb (b := decide (a0.Entries < 1)) rfl (decide_eq_false h14)) ?_
     refine WCode.region ?_
     refine WOps.p (G.field T.fld26_1 rfl (show 0 + 1 = 1 from rfl)) rfl ?_
     refine WOps.r (G.load1 T.one3 rfl (cell_blk (S4.blk 0 rfl) rfl)) rfl ?_
     refine WOps.p (G.gtr rfl rfl rfl) rfl ?_
     refine WOps.p (G.assign rfl) rfl ?_
     refine WOps.nil ?_
     refine WEx.cutend _ ?_ ⟨k, decide (64 < a0.Entries), rfl, hF, S4⟩
     exact ⟨rfl, rfl, trivial⟩
 ·
  rintro _ w8 ⟨q10, b7, rfl, hF, S9⟩
  unfold ca_New.j1 at hF
  rcases ite_some hF with ⟨h15, hF⟩ | ⟨h15, hF⟩
  ·
   refine WCode.cond_t (kb (b := b7) rfl h15) ?_
   refine WCode.seq ?_
   refine WCode.region ?_
   refine WOps.p (G.assign rfl) rfl ?_
   refine WOps.p (G.assign rfl) rfl ?_
   refine WOps.nil ?_
   refine WEx.then_ ?_
   refine WCode.ret ?_
   refine WEx.in_ret ?_
   refine WEx.then_ret ?_
   obtain rfl := some_eq hF
   refine WEx.ret2 rfl rfl rfl ?_
   have S16 := S9.emp
   exact ⟨.pointer none, ([] : Grp), rfl, ⟨rfl, rfl⟩, St.keep (As := [([] : Grp)]) S16⟩
  ·
   refine WCode.cond_f (kb (b := b7) rfl (Bool.eq_false_iff.2 h15)) ?_
   refine WCode.seq ?_
   refine WCode.seq ?_
   refine WCode.region ?_
   refine WOps.p (G.field T.fld26_3 rfl (show 0 + 3 = 3 from rfl)) rfl ?_
   refine WOps.r (G.load1 T.one3 rfl (cell_blk (S9.blk 0 rfl) rfl)) rfl ?_
   refine WOps.p (G.lss rfl rfl rfl) rfl ?_
   refine WOps.p (G.assign rfl) rfl ?_
   refine WOps.nil ?_
   refine WEx.then_ ?_
   rcases ite_some hF with ⟨h17, hF⟩ | ⟨h17, hF⟩
   ·
    refine WCode.cond_t (kb (b := decide (a0.Reserve < 64)) rfl (decide_eq_true h17)) ?_
    refine WCode.skip ?_
    refine WEx.then_ ?_
    refine WCode.cond_t (kb (b := decide (a0.Reserve < 64)) rfl (decide_eq_true h17)) ?_
    refine WCode.seq ?_
    refine WCode.region ?_
    refine WOps.p (G.assign rfl) rfl ?_
    refine WOps.p (G.assign rfl) rfl ?_
    refine WOps.nil ?_
    refine WEx.then_ ?_
    refine WCode.ret ?_
    refine WEx.in_ret ?_
    refine WEx.then_ret ?_
    obtain rfl := some_eq hF
    refine WEx.ret2 rfl rfl rfl ?_
    have S18 := S9.emp
    exact ⟨.pointer none, ([] : Grp), rfl, ⟨rfl, rfl⟩, St.keep (As := [([] : Grp)]) S18⟩
   ·
    refine WCode.cond_f (kb (b := decide (a0.Reserve < 64)) rfl (decide_eq_false h17)) ?_
    refine WCode.seq ?_
    refine WCode.region ?_
    refine WOps.p (G.field T.fld26_3 rfl (show 0 + 3 = 3 from rfl)) rfl ?_
    refine WOps.r (G.load1 T.one3 rfl (cell_blk (S9.blk 0 rfl) rfl)) rfl ?_
    refine WOps.p (G.gtr rfl rfl rfl) rfl ?_
    refine WOps.p (G.assign rfl) rfl ?_
    refine WOps.nil ?_
    refine WEx.then_ ?_
    rcases ite_some hF with ⟨h19, hF⟩ | ⟨h19, hF⟩
    ·
     refine WCode.cond_t (kb (b := decide (1100 < a0.Reserve)) rfl (decide_eq_true h19)) ?_
     refine WCode.skip ?_
     refine WEx.then_ ?_
     refine WCode.cond_t (kb (b := decide (1100 < a0.Reserve)) rfl (decide_eq_true h19)) ?_
     refine WCode.seq ?_
     refine WCode.region ?_
     refine WOps.p (G.assign rfl) rfl ?_
     refine WOps.p (G.assign rfl) rfl ?_
     refine WOps.nil ?_
     refine WEx.then_ ?_
     refine WCode.ret ?_
     refine WEx.in_ret ?_
     refine WEx.then_ret ?_
     obtain rfl := some_eq hF
     refine WEx.ret2 rfl rfl rfl ?_
     have S20 := S9.emp
     exact ⟨.pointer none, ([] : Grp), rfl, ⟨rfl, rfl⟩, St.keep (As := [([] : Grp)]) S20⟩
    ·
     refine WCode.cond_f (kb (b := decide (1100 < a0.Reserve)) rfl (decide_eq_false h19)) ?_
     refine WCode.seq ?_
     refine WCode.region ?_
     refine WOps.p (G.field T.fld26_2 rfl (show 0 + 2 = 2 from rfl)) rfl ?_
     refine WOps.r (G.load1 T.one3 rfl (cell_blk (S9.blk 0 rfl) rfl)) rfl ?_
     refine WOps.p (G.field T.fld26_3 rfl (show 0 + 3 = 3 from rfl)) rfl ?_
     refine WOps.r (G.load1 T.one3 rfl (cell_blk (S9.blk 0 rfl) rfl)) rfl ?_
     refine WOps.p (G.lss rfl rfl rfl) rfl ?_
     refine WOps.p (G.assign rfl) rfl ?_
     refine WOps.nil ?_
     refine WEx.then_ ?_
     refine WCode.forget (l' := [(1, .pointer (some ⟨b1, 0, none⟩)), (17, .bool (decide (a0.Bytes < a0.Reserve)))]) ⟨rfl, rfl, trivial⟩ ?_
     rcases ite_some hF with ⟨h21, hF⟩ | ⟨h21, hF⟩
     ·
      refine WCode.cond_t (kb (b := decide (a0.Bytes < a0.Reserve)) rfl (decide_eq_true h21)) ?_
      refine WCode.skip ?_
      refine WEx.then_ ?_
      refine WCode.cond_t (kb (b := decide (a0.Bytes < a0.Reserve)) rfl (decide_eq_true h21)) ?_
      refine WCode.seq ?_
      refine WCode.region ?_
      refine WOps.p (G.assign rfl) rfl ?_
      refine WOps.p (G.assign rfl) rfl ?_
      refine WOps.nil ?_
      refine WEx.then_ ?_
      refine WCode.ret ?_
      refine WEx.in_ret ?_
      refine WEx.then_ret ?_
      obtain rfl := some_eq hF
      refine WEx.ret2 rfl rfl rfl ?_
      have S22 := S9.emp
      exact ⟨.pointer none, ([] : Grp), rfl, ⟨rfl, rfl⟩, St.keep (As := [([] : Grp)]) S22⟩
     ·
      refine WCode.cond_f (kb (b := decide (a0.Bytes < a0.Reserve)) rfl (decide_eq_false h21)) ?_
      refine WCode.region ?_
      refine WOps.p (G.field T.fld26_2 rfl (show 0 + 2 = 2 from rfl)) rfl ?_
      refine WOps.r (G.load1 T.one3 rfl (cell_blk (S9.blk 0 rfl) rfl)) rfl ?_
      refine WOps.p (G.gtr rfl rfl rfl) rfl ?_
      refine WOps.p (G.assign rfl) rfl ?_
      refine WOps.nil ?_
      refine WEx.then_ ?_
      rcases ite_some hF with ⟨h23, hF⟩ | ⟨h23, hF⟩
      ·
       refine WCode.cond_t (kb (b := decide (1048576 < a0.Bytes)) rfl (decide_eq_true h23)) ?_
       refine WCode.seq ?_
       refine WCode.region ?_
       refine WOps.p (G.assign rfl) rfl ?_
       refine WOps.p (G.assign rfl) rfl ?_
       refine WOps.nil ?_
       refine WEx.then_ ?_
       refine WCode.ret ?_
       refine WEx.in_ret ?_
       refine WEx.then_ret ?_
       obtain rfl := some_eq hF
       refine WEx.ret2 rfl rfl rfl ?_
       have S24 := S9.emp
       exact ⟨.pointer none, ([] : Grp), rfl, ⟨rfl, rfl⟩, St.keep (As := [([] : Grp)]) S24⟩
      ·
       refine WCode.cond_f (kb (b := decide (1048576 < a0.Bytes)) rfl (decide_eq_false h23)) ?_
       refine WCode.skip ?_
       refine WEx.in_normal ?_
       refine WEx.then_ ?_
       refine WCode.seq ?_
       refine WCode.region ?_
       refine WOps.r (G.loada T.agg26_4 rfl (cs := [.int .i64 a0.Clients, .int .i64 a0.Entries, .int .i64 a0.Bytes, .int .i64 a0.Reserve]) (cellsAt.of_blk (S9.blk 0 rfl) rfl)) rfl ?_
       obtain ⟨b25, G26, w27, E28, hM29, S30, X31⟩ := St.mapNew (P := Try.prog) (t := 87) S9 M87.k ptv Try.underlying87
       have hC32 : CliO M87.k 96 Known.rp b25 [] G26 := CliO.nil hM29
       change St _ _ _ [G26, [(b1, .cells #[.int .i64 a0.Clients, .int .i64 a0.Entries, .int .i64 a0.Bytes, .int .i64 a0.Reserve] 26 (0, 0))]] at S30
       refine WOps.e E28 rfl ?_
       refine WOps.p (G.build (cells := #[.int .i64 a0.Clients, .int .i64 a0.Entries, .int .i64 a0.Bytes, .int .i64 a0.Reserve, .map (some b25), .int .i64 0, .int .i64 0]) (evp_spec (evp_cons rfl (evp_cons rfl evp_nil))) (by kernel_rfl)) rfl ?_
       obtain ⟨b33, w34, E35, S36, X37, L38⟩ := St.box S30 Try.prog 89 (.agg #[.int .i64 a0.Clients, .int .i64 a0.Entries, .int .i64 a0.Bytes, .int .i64 a0.Reserve, .map (some b25), .int .i64 0, .int .i64 0])
       change St _ _ _ [[(b33, .cells #[.int .i64 a0.Clients, .int .i64 a0.Entries, .int .i64 a0.Bytes, .int .i64 a0.Reserve, .map (some b25), .int .i64 0, .int .i64 0] 89 (0, 0))], G26, [(b1, .cells #[.int .i64 a0.Clients, .int .i64 a0.Entries, .int .i64 a0.Bytes, .int .i64 a0.Reserve] 26 (0, 0))]] at S36
       refine WOps.e (E35 rfl) rfl ?_
       refine WOps.p (G.assign rfl) rfl ?_
       refine WOps.p (G.assign rfl) rfl ?_
       refine WOps.nil ?_
       refine WEx.then_ ?_
       refine WCode.ret ?_
       obtain rfl := some_eq hF
       refine WEx.ret2 rfl rfl rfl ?_
       have hO39 : ObjO 89 Cache.rp b33 (⟨a0, ([] : List (WhoC × Known)), 0, 0⟩ : Cache) ([(b33, .cells #[.int .i64 a0.Clients, .int .i64 a0.Entries, .int .i64 a0.Bytes, .int .i64 a0.Reserve, .map (some b25), .int .i64 0, .int .i64 0] 89 (0, 0))] ++ (G26)) := ⟨_, _, ⟨b25, G26, rfl, hC32, rfl⟩, rfl⟩
       have S40 : St _ _ _ [[(b33, .cells #[.int .i64 a0.Clients, .int .i64 a0.Entries, .int .i64 a0.Bytes, .int .i64 a0.Reserve, .map (some b25), .int .i64 0, .int .i64 0] 89 (0, 0))] ++ (G26), [(b1, .cells #[.int .i64 a0.Clients, .int .i64 a0.Entries, .int .i64 a0.Bytes, .int .i64 a0.Reserve] 26 (0, 0))]] := S36.objs (by simp)
       exact ⟨(.pointer (some ⟨b33, 0, none⟩)), [(b33, .cells #[.int .i64 a0.Clients, .int .i64 a0.Entries, .int .i64 a0.Bytes, .int .i64 a0.Reserve, .map (some b25), .int .i64 0, .int .i64 0] 89 (0, 0))] ++ (G26), rfl, ⟨_, rfl, hO39⟩, St.keep (As := [[(b33, .cells #[.int .i64 a0.Clients, .int .i64 a0.Entries, .int .i64 a0.Bytes, .int .i64 a0.Reserve, .map (some b25), .int .i64 0, .int .i64 0] 89 (0, 0))] ++ (G26)]) S40⟩

def ca_Clients (k : Nat) (a0 : Cache) : Option Int := (some (a0.clients.length : Int))
set_option maxRecDepth 100000 in
set_option maxHeartbeats 1000000 in
theorem ca_Clients_calls (k : Nat) (a0 : Cache) {p0 : Nat} {F0 : Nat → Prop} {w : World} (hP0 : PtR 89 Cache.rp w F0 p0 a0) (hF0 : ∀ b, F0 b → NK w [] b) {r_ : Int} (h_ : ca_Clients k a0 = some r_) :
    Calls Try.prog 18 [.pointer (some ⟨p0, 0, none⟩)].toArray w fun e w' => e = .returned (.int .i64 r_) ∧ St w (KS []) w' [] := by
 have hF := h_
 clear h_
 unfold ca_Clients at hF
 have S := St.ofFalse (As := []) (St.init0 w)
 have hPq5 := hP0
 obtain ⟨cs1, hB2, hf3, b6, hq4, hR7⟩ := hPq5
 subst hq4
 change _ = some (Obj.cells #[.int .i64 a0.config.Clients, .int .i64 a0.config.Entries, .int .i64 a0.config.Bytes, .int .i64 a0.config.Reserve, .map (some b6), .int .i64 a0.entries, .int .i64 a0.bytes] 89 (0, 0)) at hB2
 refine enter 8 [(0, .pointer (some ⟨p0, 0, none⟩))] Try.func18 rfl rfl rfl rfl ?_
 refine WCode.seq ?_
 refine WCode.region ?_
 refine WOps.p (G.assign rfl) rfl ?_
 refine WOps.nil ?_
 refine WEx.then_ ?_
 refine WCode.seq ?_
 refine WCode.region ?_
 refine WOps.p (G.move rfl) rfl ?_
 refine WOps.p (G.nilp rfl) rfl ?_
 refine WOps.p (G.field T.fld89_1 rfl (show 0 + 4 = 4 from rfl)) rfl ?_
 refine WOps.r (G.load1 T.one87 rfl (cell_blk ((S.fr p0 (lt_of_blk hB2) (hF0 p0 hf3).1).trans hB2) rfl)) rfl ?_
 obtain ⟨Y8, hM9, hl10⟩ := CliR.len (hR7.ext (S.keepF hF0))
 refine WOps.r (G.maplenN Try.underlying87 hM9 hl10 rfl) rfl ?_
 refine WOps.p (G.assign rfl) rfl ?_
 refine WOps.nil ?_
 refine WEx.then_ ?_
 refine WCode.ret ?_
 obtain rfl := some_eq hF
 refine WEx.ret1 rfl rfl ?_
 exact ⟨rfl, St.keep (As := []) S⟩

def ca_Bytes (k : Nat) (a0 : Cache) : Option Int := (some a0.bytes)
set_option maxRecDepth 100000 in
set_option maxHeartbeats 1000000 in
theorem ca_Bytes_calls (k : Nat) (a0 : Cache) {p0 : Nat} {F0 : Nat → Prop} {w : World} (hP0 : PtR 89 Cache.rp w F0 p0 a0) (hF0 : ∀ b, F0 b → NK w [] b) {r_ : Int} (h_ : ca_Bytes k a0 = some r_) :
    Calls Try.prog 19 [.pointer (some ⟨p0, 0, none⟩)].toArray w fun e w' => e = .returned (.int .i64 r_) ∧ St w (KS []) w' [] := by
 have hF := h_
 clear h_
 unfold ca_Bytes at hF
 have S := St.ofFalse (As := []) (St.init0 w)
 have hPq5 := hP0
 obtain ⟨cs1, hB2, hf3, b6, hq4, hR7⟩ := hPq5
 subst hq4
 change _ = some (Obj.cells #[.int .i64 a0.config.Clients, .int .i64 a0.config.Entries, .int .i64 a0.config.Bytes, .int .i64 a0.config.Reserve, .map (some b6), .int .i64 a0.entries, .int .i64 a0.bytes] 89 (0, 0)) at hB2
 refine enter 7 [(0, .pointer (some ⟨p0, 0, none⟩))] Try.func19 rfl rfl rfl rfl ?_
 refine WCode.seq ?_
 refine WCode.region ?_
 refine WOps.p (G.assign rfl) rfl ?_
 refine WOps.nil ?_
 refine WEx.then_ ?_
 refine WCode.seq ?_
 refine WCode.region ?_
 refine WOps.p (G.move rfl) rfl ?_
 refine WOps.p (G.nilp rfl) rfl ?_
 refine WOps.p (G.field T.fld89_3 rfl (show 0 + 6 = 6 from rfl)) rfl ?_
 refine WOps.r (G.load1 T.one3 rfl (cell_blk ((S.fr p0 (lt_of_blk hB2) (hF0 p0 hf3).1).trans hB2) rfl)) rfl ?_
 refine WOps.p (G.assign rfl) rfl ?_
 refine WOps.nil ?_
 refine WEx.then_ ?_
 refine WCode.ret ?_
 obtain rfl := some_eq hF
 refine WEx.ret1 rfl rfl ?_
 exact ⟨rfl, St.keep (As := []) S⟩

def ca_Entries (k : Nat) (a0 : Cache) : Option Int := (some a0.entries)
set_option maxRecDepth 100000 in
set_option maxHeartbeats 1000000 in
theorem ca_Entries_calls (k : Nat) (a0 : Cache) {p0 : Nat} {F0 : Nat → Prop} {w : World} (hP0 : PtR 89 Cache.rp w F0 p0 a0) (hF0 : ∀ b, F0 b → NK w [] b) {r_ : Int} (h_ : ca_Entries k a0 = some r_) :
    Calls Try.prog 20 [.pointer (some ⟨p0, 0, none⟩)].toArray w fun e w' => e = .returned (.int .i64 r_) ∧ St w (KS []) w' [] := by
 have hF := h_
 clear h_
 unfold ca_Entries at hF
 have S := St.ofFalse (As := []) (St.init0 w)
 have hPq5 := hP0
 obtain ⟨cs1, hB2, hf3, b6, hq4, hR7⟩ := hPq5
 subst hq4
 change _ = some (Obj.cells #[.int .i64 a0.config.Clients, .int .i64 a0.config.Entries, .int .i64 a0.config.Bytes, .int .i64 a0.config.Reserve, .map (some b6), .int .i64 a0.entries, .int .i64 a0.bytes] 89 (0, 0)) at hB2
 refine enter 7 [(0, .pointer (some ⟨p0, 0, none⟩))] Try.func20 rfl rfl rfl rfl ?_
 refine WCode.seq ?_
 refine WCode.region ?_
 refine WOps.p (G.assign rfl) rfl ?_
 refine WOps.nil ?_
 refine WEx.then_ ?_
 refine WCode.seq ?_
 refine WCode.region ?_
 refine WOps.p (G.move rfl) rfl ?_
 refine WOps.p (G.nilp rfl) rfl ?_
 refine WOps.p (G.field T.fld89_2 rfl (show 0 + 5 = 5 from rfl)) rfl ?_
 refine WOps.r (G.load1 T.one3 rfl (cell_blk ((S.fr p0 (lt_of_blk hB2) (hF0 p0 hf3).1).trans hB2) rfl)) rfl ?_
 refine WOps.p (G.assign rfl) rfl ?_
 refine WOps.nil ?_
 refine WEx.then_ ?_
 refine WCode.ret ?_
 obtain rfl := some_eq hF
 refine WEx.ret1 rfl rfl ?_
 exact ⟨rfl, St.keep (As := []) S⟩

def ca_Water (k : Nat) (a0 : Cache) (a1 : WhoC) : Option Int := (if (mget a0.clients a1).isSome = true then (Option.bind (mget a0.clients a1) fun x17 => (some x17.water)) else (some 0))
set_option maxRecDepth 100000 in
set_option maxHeartbeats 1000000 in
theorem ca_Water_calls (k : Nat) (a0 : Cache) {p0 : Nat} {F0 : Nat → Prop} (a1 : WhoC) {w : World} (hP0 : PtR 89 Cache.rp w F0 p0 a0) (hF0 : ∀ b, F0 b → NK w [] b) {r_ : Int} (h_ : ca_Water k a0 a1 = some r_) :
    Calls Try.prog 16 [.pointer (some ⟨p0, 0, none⟩), .agg #[.int .i64 a1.Address, .int .i64 a1.Instance]].toArray w fun e w' => e = .returned (.int .i64 r_) ∧ St w (KS []) w' [] := by
 have hF := h_
 clear h_
 unfold ca_Water at hF
 have S := St.ofFalse (As := []) (St.init0 w)
 have hPq5 := hP0
 obtain ⟨cs1, hB2, hf3, b6, hq4, hR7⟩ := hPq5
 subst hq4
 change _ = some (Obj.cells #[.int .i64 a0.config.Clients, .int .i64 a0.config.Entries, .int .i64 a0.config.Bytes, .int .i64 a0.config.Reserve, .map (some b6), .int .i64 a0.entries, .int .i64 a0.bytes] 89 (0, 0)) at hB2
 refine enter 18 [(0, .pointer (some ⟨p0, 0, none⟩)), (1, .agg #[.int .i64 a1.Address, .int .i64 a1.Instance])] Try.func16 rfl rfl rfl rfl ?_
 refine WCode.seq ?_
 refine WCode.region ?_
 obtain ⟨b8, w9, E10, S11, X12, L13⟩ := St.box S Try.prog 34 (.agg #[.int .i64 a1.Address, .int .i64 a1.Instance])
 change St _ _ _ [[(b8, .cells #[.int .i64 a1.Address, .int .i64 a1.Instance] 34 (0, 0))]] at S11
 refine WOps.e (E10 rfl) rfl ?_
 refine WOps.p (G.assign rfl) rfl ?_
 refine WOps.nil ?_
 refine WEx.then_ ?_
 refine WCode.seq ?_
 refine WCode.seq ?_
 refine WCode.draw [⟨0, 0, []⟩, ⟨1, 0, []⟩, ⟨2, 0, []⟩, ⟨3, 1, [5, 6]⟩, ⟨4, 1, [5, 6]⟩, ⟨5, 2, []⟩, ⟨6, 0, []⟩] T.mixed (by kernel_rfl) (by intro _ _ d _ _ h; cases d <;> exact h) rfl (by kernel_rfl) ?_
 have S14 := S11.drew
 generalize w9.drew = w15 at *
 refine WD.p rfl (G.move rfl) rfl ?_
 refine WD.p rfl (G.nilp rfl) rfl ?_
 refine WD.p rfl (G.field T.fld89_1 rfl (show 0 + 4 = 4 from rfl)) rfl ?_
 refine WD.r rfl (G.load1 T.one87 rfl (cell_blk ((S14.fr p0 (lt_of_blk hB2) (hF0 p0 hf3).1).trans hB2) rfl)) rfl ?_
 refine WD.r rfl (G.loada T.agg34_2 rfl (cs := [.int .i64 a1.Address, .int .i64 a1.Instance]) (cellsAt.of_blk (S14.blk 0 rfl) rfl)) rfl ?_
 rcases ite_some hF with ⟨h16, hF⟩ | ⟨h16, hF⟩
 ·
  obtain ⟨x17, hc18, hF⟩ := bind_some hF
  obtain ⟨Y19, p20, hM21, hY22, hP23⟩ := CliR.hit hR7 hc18
  have hPq28 := hP23
  obtain ⟨cs24, hB25, hf26, b29, hq27, hR30⟩ := hPq28
  subst hq27
  change _ = some (Obj.cells #[.int .i64 x17.water, .map (some b29)] 96 (0, 0)) at hB25
  refine WD.e rfl (GR.e (G.mapgot1 T.key87 Try.underlying87 (hM21.move (S14.keepF hF0 _ hR7.1)) rfl rfl hY22)) rfl ?_
  refine WD.p rfl (G.assign rfl) rfl ?_
  refine WD.nil ?_
  refine WEx.then_ ?_
  refine WCode.forget (l' := [(5, .pointer (some ⟨p20, 0, none⟩))]) ⟨rfl, trivial⟩ ?_
  refine WCode.seq ?_
  refine WCode.region ?_
  refine WOps.p (G.move rfl) rfl ?_
  refine WOps.p (G.neqp_nil Try.underlying90 rfl rfl rfl) rfl ?_
  refine WOps.nil ?_
  refine WEx.then_ ?_
  refine WCode.cond_t rfl ?_
  refine WCode.seq ?_
  refine WCode.region ?_
  refine WOps.p (G.move rfl) rfl ?_
  refine WOps.p (G.nilp rfl) rfl ?_
  refine WOps.p (G.field T.fld96_0 rfl (show 0 + 0 = 0 from rfl)) rfl ?_
  refine WOps.r (G.load1 T.one3 rfl (cell_blk ((S14.fr p20 (lt_of_blk hB25) (hF0 p20 hf26).1).trans hB25) rfl)) rfl ?_
  refine WOps.p (G.assign rfl) rfl ?_
  refine WOps.nil ?_
  refine WEx.then_ ?_
  refine WCode.ret ?_
  refine WEx.then_ret ?_
  obtain rfl := some_eq hF
  refine WEx.ret1 rfl rfl ?_
  exact ⟨rfl, St.keep (As := []) S14⟩
 ·
  have hn31 := Option.not_isSome_iff_eq_none.1 h16
  obtain ⟨Y32, hM33, hY34⟩ := CliR.miss (hR7.ext (S14.keepF hF0)) hn31
  refine WD.e rfl (GR.e (G.mapgot0 T.key87 Try.underlying87 T.zero90 hM33 rfl rfl hY34)) rfl ?_
  refine WD.p rfl (G.assign rfl) rfl ?_
  refine WD.nil ?_
  refine WEx.then_ ?_
  refine WCode.forget (l' := [(5, .pointer none)]) ⟨rfl, trivial⟩ ?_
  refine WCode.seq ?_
  refine WCode.region ?_
  refine WOps.p (G.move rfl) rfl ?_
  refine WOps.p (G.neqp_nil Try.underlying90 rfl rfl rfl) rfl ?_
  refine WOps.nil ?_
  refine WEx.then_ ?_
  refine WCode.cond_f rfl ?_
  refine WCode.skip ?_
  refine WEx.then_ ?_
  refine WCode.seq ?_
  refine WCode.region ?_
  refine WOps.p (G.assign rfl) rfl ?_
  refine WOps.nil ?_
  refine WEx.then_ ?_
  refine WCode.ret ?_
  obtain rfl := some_eq hF
  refine WEx.ret1 rfl rfl ?_
  exact ⟨rfl, St.keep (As := []) S14⟩

end Go.Proofs.Ytpdpfiaediadgaa
