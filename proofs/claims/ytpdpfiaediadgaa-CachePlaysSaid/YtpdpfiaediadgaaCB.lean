/- Functions and their walks (printed by auto.py over the engine). -/
import Derived.Test.YtpdpfiaediadgaaProg
import Derived.Test.YtpdpfiaediadgaaCF
namespace Go.Proofs.Ytpdpfiaediadgaa
open Go Go.Eng
set_option linter.unusedSimpArgs false
set_option linter.unusedVariables false

theorem T.agg127_5 : isAggT Try.prog 127 5 = true := by kernel_rfl
theorem T.agg36_9 : isAggT Try.prog 36 9 = true := by kernel_rfl
theorem T.ar23_4_1 : arEl Try.prog 23 = some (4, 1) := by kernel_rfl
theorem T.call11 : Callable Try.prog 11 := Callable.mk Try.func11 (by kernel_rfl) (by kernel_rfl)
theorem T.call12 : Callable Try.prog 12 := Callable.mk Try.func12 (by kernel_rfl) (by kernel_rfl)
theorem T.call14 : Callable Try.prog 14 := Callable.mk Try.func14 (by kernel_rfl) (by kernel_rfl)
theorem T.call46 : Callable Try.prog 46 := Callable.mk Try.func46 (by kernel_rfl) (by kernel_rfl)
theorem T.call58 : Callable Try.prog 58 := Callable.mk Try.func58 (by kernel_rfl) (by kernel_rfl)
theorem T.call59 : Callable Try.prog 59 := Callable.mk Try.func59 (by kernel_rfl) (by kernel_rfl)
theorem T.call60 : Callable Try.prog 60 := Callable.mk Try.func60 (by kernel_rfl) (by kernel_rfl)
theorem T.call61 : Callable Try.prog 61 := Callable.mk Try.func61 (by kernel_rfl) (by kernel_rfl)
theorem T.el101 : slEl Try.prog 101 = some 3 := by kernel_rfl
theorem T.el102 : slEl Try.prog 102 = some 5 := by kernel_rfl
theorem T.el24 : slEl Try.prog 24 = some 9 := by kernel_rfl
theorem T.el32 : slEl Try.prog 32 = some 5 := by kernel_rfl
theorem T.elt101 : Elt Try.prog 101 123 3 24 := elt_mk (z := .agg #[.int .i64 0, .int .i64 0, .int .i64 0]) Try.underlying101 (by kernel_rfl) rfl
theorem T.elt102 : Elt Try.prog 102 127 5 48 := elt_mk (z := .agg #[.int .i64 0, .int .i64 0, .int .i64 0, .bool false, .string ⟨#[]⟩]) Try.underlying102 (by kernel_rfl) rfl
theorem T.elt32 : Elt Try.prog 32 40 5 48 := elt_mk (z := .agg #[.int .i64 0, .int .i64 0, .int .i64 0, .bool false, .string ⟨#[]⟩]) Try.underlying32 (by kernel_rfl) rfl
theorem T.fld104_0 : fldOff Try.prog 104 0 = some 0 := by kernel_rfl
theorem T.fld104_1 : fldOff Try.prog 104 1 = some 4 := by kernel_rfl
theorem T.fld104_2 : fldOff Try.prog 104 2 = some 5 := by kernel_rfl
theorem T.fld123_0 : fldOff Try.prog 123 0 = some 0 := by kernel_rfl
theorem T.fld123_1 : fldOff Try.prog 123 1 = some 2 := by kernel_rfl
theorem T.fld127_0 : fldOff Try.prog 127 0 = some 0 := by kernel_rfl
theorem T.fld127_1 : fldOff Try.prog 127 1 = some 2 := by kernel_rfl
theorem T.fld127_2 : fldOff Try.prog 127 2 = some 3 := by kernel_rfl
theorem T.fld127_3 : fldOff Try.prog 127 3 = some 4 := by kernel_rfl
theorem T.fld36_2 : fldOff Try.prog 36 2 = some 2 := by kernel_rfl
theorem T.fld36_7 : fldOff Try.prog 36 7 = some 8 := by kernel_rfl
theorem T.fld40_0 : fldOff Try.prog 40 0 = some 0 := by kernel_rfl
theorem T.fld40_1 : fldOff Try.prog 40 1 = some 2 := by kernel_rfl
theorem T.fld40_2 : fldOff Try.prog 40 2 = some 3 := by kernel_rfl
theorem T.fld40_3 : fldOff Try.prog 40 3 = some 4 := by kernel_rfl
theorem T.one101 : isOneT Try.prog 101 = true := by kernel_rfl
theorem T.one102 : isOneT Try.prog 102 = true := by kernel_rfl
theorem T.size101_1 : sizeT Try.prog 101 = some 1 := by kernel_rfl
theorem T.size102_1 : sizeT Try.prog 102 = some 1 := by kernel_rfl
theorem T.size36_9 : sizeT Try.prog 36 = some 9 := by kernel_rfl
theorem T.size4_1 : sizeT Try.prog 4 = some 1 := by kernel_rfl
theorem T.size9_1 : sizeT Try.prog 9 = some 1 := by kernel_rfl
theorem T.zero36 : zeroOf Try.prog 36 = some (.agg #[.bool false, .bool false, .int .i64 0, .int .i64 0, .int .i64 0, .int .i64 0, .int .i64 0, .int .i64 0, .string (bs ([] : List UInt8))]) := by kernel_rfl
structure Known123 where
  Who : WhoC
  Water : Int
  deriving DecidableEq
def Known123.cs (x : Known123) : List Value := [.int .i64 x.Who.Address, .int .i64 x.Who.Instance, .int .i64 x.Water]
def Known123.rp : Rp Known123 := .plain Known123.cs 3 (fun _ => rfl) (fun _ => rfl)
structure Item where
  Who : WhoC
  Sequence : Int
  Answered : Bool
  Reply : List UInt8
  deriving DecidableEq
def Item.cs (x : Item) : List Value := [.int .i64 x.Who.Address, .int .i64 x.Who.Instance, .int .i64 x.Sequence, .bool x.Answered, .string (bs x.Reply)]
def Item.rp : Rp Item := .plain Item.cs 5 (fun _ => rfl) (fun _ => rfl)
structure Cache104 where
  C : CacheConfig
  L : List Known123
  I : List Item
  deriving DecidableEq
def Cache104.rp : Rp Cache104 where
  sz := 6
  rd := fun w F x cs => ∃ A1 : Option Addr, ∃ c1 : Nat, ∃ A2 : Option Addr, ∃ c2 : Nat, cs = [.int .i64 x.C.Clients, .int .i64 x.C.Entries, .int .i64 x.C.Bytes, .int .i64 x.C.Reserve, .slice A1 (x.L).length c1, .slice A2 (x.I).length c2] ∧ SlR Known123.rp w F A1 c1 (x.L) ∧ SlR Item.rp w F A2 c2 (x.I)
  own := fun x cs G => ∃ A1 : Option Addr, ∃ c1 : Nat, ∃ G1 : Grp, ∃ A2 : Option Addr, ∃ c2 : Nat, ∃ G2 : Grp, cs = [.int .i64 x.C.Clients, .int .i64 x.C.Entries, .int .i64 x.C.Bytes, .int .i64 x.C.Reserve, .slice A1 (x.L).length c1, .slice A2 (x.I).length c2] ∧ SlO 123 Known123.rp (.slice A1 (x.L).length c1) (x.L) G1 ∧ SlO 127 Item.rp (.slice A2 (x.I).length c2) (x.I) G2 ∧ G = G1 ++ (G2)
  len := by rintro _ _ _ _ ⟨_, _, _, _, rfl, _⟩; rfl
  one := by rintro _ _ _ _ ⟨_, _, _, _, rfl, _⟩; exact one_of_all rfl
  lenO := by rintro _ _ _ ⟨_, _, _, _, _, _, rfl, _⟩; rfl
  oneO := by rintro _ _ _ ⟨_, _, _, _, _, _, rfl, _⟩; exact one_of_all rfl
  ext := by rintro _ _ _ _ _ ⟨A1, c1, A2, c2, rfl, h1, h2⟩ hE; exact ⟨A1, c1, A2, c2, rfl, h1.ext hE, h2.ext hE⟩
  mono := by rintro _ _ _ _ _ ⟨A1, c1, A2, c2, rfl, h1, h2⟩ hF; exact ⟨A1, c1, A2, c2, rfl, h1.mono hF, h2.mono hF⟩
  low := by
    rintro w x cs G ⟨A1, c1, G1, A2, c2, G2, rfl, h1, h2, hGe⟩ hG
    exact ⟨A1, c1, A2, c2, rfl, (h1.rd (fun b o hb => hG b o (by rw [hGe]; simp [hb]))).mono (fun b (hb : b ∈ keys G1) => show b ∈ keys G by rw [hGe]; simp [keys_append, hb]), (h2.rd (fun b o hb => hG b o (by rw [hGe]; simp [hb]))).mono (fun b (hb : b ∈ keys G2) => show b ∈ keys G by rw [hGe]; simp [keys_append, hb])⟩


def rc_client.l1 : Nat → Cache104 → WhoC → Int → Option Int
  | 0, _, _, _ => none
  | k21 + 1, a0, a1, x18 => (if x18 < (a0.L.length : Int) then (Option.bind (idx a0.L x18) fun x27 => (if x27.Who = a1 then (some x18) else (rc_client.l1 k21 a0 a1 (w64 (x18 + 1))))) else (some (-1)))
def rc_client (k : Nat) (a0 : Cache104) (a1 : WhoC) : Option Int := (rc_client.l1 k a0 a1 0)
set_option maxRecDepth 100000 in
set_option maxHeartbeats 1000000 in
theorem rc_client_calls (k : Nat) (a0 : Cache104) {p0 : Nat} {F0 : Nat → Prop} (a1 : WhoC) {w : World} (hP0 : PtR 104 Cache104.rp w F0 p0 a0) (hF0 : ∀ b, F0 b → NK w [] b) {r_ : Int} (h_ : rc_client k a0 a1 = some r_) :
    Calls Try.prog 58 [.pointer (some ⟨p0, 0, none⟩), .agg #[.int .i64 a1.Address, .int .i64 a1.Instance]].toArray w fun e w' => e = .returned (.int .i64 r_) ∧ St w (KS []) w' [] := by
 have hF := h_
 clear h_
 unfold rc_client at hF
 have S := St.ofFalse (As := []) (St.init0 w)
 have hPq5 := hP0
 obtain ⟨cs1, hB2, hf3, A6, c7, A9, c10, hq4, hR8, hR11⟩ := hPq5
 subst hq4
 change _ = some (Obj.cells #[.int .i64 a0.C.Clients, .int .i64 a0.C.Entries, .int .i64 a0.C.Bytes, .int .i64 a0.C.Reserve, .slice A6 a0.L.length c7, .slice A9 a0.I.length c10] 104 (0, 0)) at hB2
 refine enter 26 [(0, .pointer (some ⟨p0, 0, none⟩)), (1, .agg #[.int .i64 a1.Address, .int .i64 a1.Instance])] Try.func58 rfl rfl rfl rfl ?_
 refine WCode.seq ?_
 refine WCode.region ?_
 obtain ⟨b12, w13, E14, S15, X16, L17⟩ := St.box S Try.prog 34 (.agg #[.int .i64 a1.Address, .int .i64 a1.Instance])
 change St _ _ _ [[(b12, .cells #[.int .i64 a1.Address, .int .i64 a1.Instance] 34 (0, 0))]] at S15
 refine WOps.e (E14 rfl) rfl ?_
 refine WOps.p (G.assign rfl) rfl ?_
 refine WOps.nil ?_
 refine WEx.then_ ?_
 refine WCode.seq ?_
 refine WCode.seq ?_
 refine WCode.region ?_
 refine WOps.p (G.assign rfl) rfl ?_
 refine WOps.nil ?_
 refine WEx.then_ ?_
 refine WCode.block ?_
 refine WCode.forget (l' := [(0, .pointer (some ⟨p0, 0, none⟩)), (3, .pointer (some ⟨b12, 0, none⟩)), (5, .int .i64 0)]) ⟨rfl, rfl, rfl, trivial⟩ ?_
 refine WCode.loop (fun n_ l_ w_ => ∃ x18 : Int, l_ = [(0, .pointer (some ⟨p0, 0, none⟩)), (3, .pointer (some ⟨b12, 0, none⟩)), (5, .int .i64 x18)] ∧ rc_client.l1 n_ a0 a1 x18 = some r_ ∧ St w (KS []) w_ [[(b12, .cells #[.int .i64 a1.Address, .int .i64 a1.Instance] 34 (0, 0))]]) k ⟨0, rfl, hF, S15⟩ ?_
 rintro n22 _ w19 ⟨x18, rfl, hF, S20⟩
 obtain _ | k21 := n22
 · exact nomatch (show (none : Option Int) = some r_ from hF)
 rw [rc_client.l1] at hF
 refine WCode.seq ?_
 refine WCode.seq ?_
 refine WCode.region ?_
 refine WOps.p (G.move rfl) rfl ?_
 refine WOps.p (G.move rfl) rfl ?_
 refine WOps.p (G.nilp rfl) rfl ?_
 refine WOps.p (G.field T.fld104_1 rfl (show 0 + 4 = 4 from rfl)) rfl ?_
 refine WOps.r (G.load1 T.one101 rfl (cell_blk ((S20.fr p0 (lt_of_blk hB2) (hF0 p0 hf3).1).trans hB2) rfl)) rfl ?_
 refine WOps.p (G.len T.el101 rfl) rfl ?_
 refine WOps.p (G.lss rfl rfl rfl) rfl ?_
 refine WOps.nil ?_
 refine WEx.then_ ?_
 rcases ite_some hF with ⟨h24, hF⟩ | ⟨h24, hF⟩
 ·
  refine WCode.cond_t (kb (b := decide (x18 < (a0.L.length : Int))) rfl (decide_eq_true h24)) ?_
  refine WCode.skip ?_
  refine WEx.then_ ?_
  refine WCode.seq ?_
  refine WCode.block ?_
  refine WCode.seq ?_
  refine WCode.draw [⟨0, 0, []⟩, ⟨1, 0, []⟩, ⟨2, 0, []⟩, ⟨4, 0, []⟩, ⟨3, 1, [5, 6, 7, 9]⟩, ⟨5, 0, []⟩, ⟨6, 0, []⟩, ⟨7, 1, [9]⟩, ⟨8, 1, [9]⟩, ⟨9, 0, []⟩] T.mixed (by kernel_rfl) (by intro _ _ d _ _ h; cases d <;> exact h) rfl (by kernel_rfl) ?_
  have S25 := S20.drew
  generalize w19.drew = w26 at *
  refine WD.p rfl (G.move rfl) rfl ?_
  refine WD.p rfl (G.nilp rfl) rfl ?_
  refine WD.p rfl (G.field T.fld104_1 rfl (show 0 + 4 = 4 from rfl)) rfl ?_
  refine WD.p rfl (G.move rfl) rfl ?_
  refine WD.r rfl (G.load1 T.one101 rfl (cell_blk ((S25.fr p0 (lt_of_blk hB2) (hF0 p0 hf3).1).trans hB2) rfl)) rfl ?_
  obtain ⟨x27, hc28, hF⟩ := bind_some hF
  obtain ⟨j29, ej30, hj31, hl32⟩ := idx_spec hc28
  obtain ⟨b33, o34, cs35, eA36, hf37, hc38, hr39⟩ := SlR.at_ (hR8.ext (S25.keepF hF0)) hj31
  have hq40 : cs35 = [.int .i64 x27.Who.Address, .int .i64 x27.Who.Instance, .int .i64 x27.Water] := hr39
  subst hq40
  change cellsAt _ _ (o34 + j29 * 3) [.int .i64 x27.Who.Address, .int .i64 x27.Who.Instance, .int .i64 x27.Water] at hc38
  refine WD.p rfl (G.idx T.el101 rfl eA36 rfl ej30 hl32) rfl ?_
  refine WD.p rfl (G.field T.fld123_0 rfl (show o34 + j29 * 3 + 0 = o34 + j29 * 3 + 0 from rfl)) rfl ?_
  refine WD.r rfl (G.loada T.agg34_2 rfl (cs := [.int .i64 x27.Who.Address, .int .i64 x27.Who.Instance]) (cellsAt.part hc38 0 rfl)) rfl ?_
  refine WD.r rfl (G.loada T.agg34_2 rfl (cs := [.int .i64 a1.Address, .int .i64 a1.Instance]) (cellsAt.of_blk (S25.blk 0 rfl) rfl)) rfl ?_
  refine WD.p rfl (G.eqa rfl rfl (by kernel_rfl) (WhoC.eqIn34 x27.Who a1) rfl) rfl ?_
  refine WD.nil ?_
  refine WEx.then_ ?_
  refine WCode.forget (l' := [(0, .pointer (some ⟨p0, 0, none⟩)), (3, .pointer (some ⟨b12, 0, none⟩)), (5, .int .i64 x18), (24, .bool (decide (x27.Who = a1)))]) ⟨rfl, rfl, rfl, rfl, trivial⟩ ?_
  rcases ite_some hF with ⟨h41, hF⟩ | ⟨h41, hF⟩
  ·
   refine WCode.cond_t (kb (b := decide (x27.Who = a1)) rfl (decide_eq_true h41)) ?_
   refine WCode.seq ?_
   refine WCode.region ?_
   refine WOps.p (G.move rfl) rfl ?_
   refine WOps.p (G.assign rfl) rfl ?_
   refine WOps.nil ?_
   refine WEx.then_ ?_
   refine WCode.ret ?_
   refine WEx.in_ret ?_
   refine WEx.then_ret ?_
   refine WEx.then_ret ?_
   refine WEx.in_ret ?_
   refine WEx.then_ret ?_
   obtain rfl := some_eq hF
   refine WEx.ret1 rfl rfl ?_
   exact ⟨rfl, St.keep (As := []) S25⟩
  ·
   refine WCode.cond_f (kb (b := decide (x27.Who = a1)) rfl (decide_eq_false h41)) ?_
   refine WCode.skip ?_
   refine WEx.in_normal ?_
   refine WEx.then_ ?_
   refine WCode.region ?_
   refine WOps.p (G.move rfl) rfl ?_
   refine WOps.p (G.add rfl rfl (r := (w64 (x18 + 1))) rfl) rfl ?_
   refine WOps.p (G.assign rfl) rfl ?_
   refine WOps.nil ?_
   refine WEx.again _ _ (by omega) ?_ ⟨w64 (x18 + 1), rfl, hF, S25⟩
   exact ⟨rfl, rfl, rfl, trivial⟩
 ·
  refine WCode.cond_f (kb (b := decide (x18 < (a0.L.length : Int))) rfl (decide_eq_false h24)) ?_
  refine WCode.exit ?_
  refine WEx.then_exit ?_
  refine WEx.then_exit ?_
  refine WEx.in_exit ?_
  refine WEx.then_ ?_
  refine WCode.forget (l' := []) trivial ?_
  refine WCode.seq ?_
  refine WCode.region ?_
  refine WOps.p (G.assign rfl) rfl ?_
  refine WOps.nil ?_
  refine WEx.then_ ?_
  refine WCode.ret ?_
  obtain rfl := some_eq hF
  refine WEx.ret1 rfl rfl ?_
  exact ⟨rfl, St.keep (As := []) S20⟩

def rc_item.l1 : Nat → Cache104 → WhoC → Int → Int → Option Int
  | 0, _, _, _, _ => none
  | k21 + 1, a0, a1, a2, x18 => (if x18 < (a0.I.length : Int) then (Option.bind (idx a0.I x18) fun x27 => (if x27.Who = a1 then (Option.bind (idx a0.I x18) fun x42 => (if x42.Sequence = a2 then (some x18) else (rc_item.l1 k21 a0 a1 a2 (w64 (x18 + 1))))) else (rc_item.l1 k21 a0 a1 a2 (w64 (x18 + 1))))) else (some (-1)))
def rc_item (k : Nat) (a0 : Cache104) (a1 : WhoC) (a2 : Int) : Option Int := (rc_item.l1 k a0 a1 a2 0)
set_option maxRecDepth 100000 in
set_option maxHeartbeats 1000000 in
theorem rc_item_calls (k : Nat) (a0 : Cache104) {p0 : Nat} {F0 : Nat → Prop} (a1 : WhoC) (a2 : Int) {w : World} (hP0 : PtR 104 Cache104.rp w F0 p0 a0) (hF0 : ∀ b, F0 b → NK w [] b) {r_ : Int} (h_ : rc_item k a0 a1 a2 = some r_) :
    Calls Try.prog 60 [.pointer (some ⟨p0, 0, none⟩), .agg #[.int .i64 a1.Address, .int .i64 a1.Instance], .int .i64 a2].toArray w fun e w' => e = .returned (.int .i64 r_) ∧ St w (KS []) w' [] := by
 have hF := h_
 clear h_
 unfold rc_item at hF
 have S := St.ofFalse (As := []) (St.init0 w)
 have hPq5 := hP0
 obtain ⟨cs1, hB2, hf3, A6, c7, A9, c10, hq4, hR8, hR11⟩ := hPq5
 subst hq4
 change _ = some (Obj.cells #[.int .i64 a0.C.Clients, .int .i64 a0.C.Entries, .int .i64 a0.C.Bytes, .int .i64 a0.C.Reserve, .slice A6 a0.L.length c7, .slice A9 a0.I.length c10] 104 (0, 0)) at hB2
 refine enter 40 [(0, .pointer (some ⟨p0, 0, none⟩)), (1, .agg #[.int .i64 a1.Address, .int .i64 a1.Instance]), (2, .int .i64 a2)] Try.func60 rfl rfl rfl rfl ?_
 refine WCode.seq ?_
 refine WCode.region ?_
 obtain ⟨b12, w13, E14, S15, X16, L17⟩ := St.box S Try.prog 34 (.agg #[.int .i64 a1.Address, .int .i64 a1.Instance])
 change St _ _ _ [[(b12, .cells #[.int .i64 a1.Address, .int .i64 a1.Instance] 34 (0, 0))]] at S15
 refine WOps.e (E14 rfl) rfl ?_
 refine WOps.p (G.assign rfl) rfl ?_
 refine WOps.nil ?_
 refine WEx.then_ ?_
 refine WCode.seq ?_
 refine WCode.seq ?_
 refine WCode.region ?_
 refine WOps.p (G.assign rfl) rfl ?_
 refine WOps.nil ?_
 refine WEx.then_ ?_
 refine WCode.block ?_
 refine WCode.forget (l' := [(0, .pointer (some ⟨p0, 0, none⟩)), (2, .int .i64 a2), (4, .pointer (some ⟨b12, 0, none⟩)), (7, .int .i64 0)]) ⟨rfl, rfl, rfl, rfl, trivial⟩ ?_
 refine WCode.loop (fun n_ l_ w_ => ∃ x18 : Int, l_ = [(0, .pointer (some ⟨p0, 0, none⟩)), (2, .int .i64 a2), (4, .pointer (some ⟨b12, 0, none⟩)), (7, .int .i64 x18)] ∧ rc_item.l1 n_ a0 a1 a2 x18 = some r_ ∧ St w (KS []) w_ [[(b12, .cells #[.int .i64 a1.Address, .int .i64 a1.Instance] 34 (0, 0))]]) k ⟨0, rfl, hF, S15⟩ ?_
 rintro n22 _ w19 ⟨x18, rfl, hF, S20⟩
 obtain _ | k21 := n22
 · exact nomatch (show (none : Option Int) = some r_ from hF)
 rw [rc_item.l1] at hF
 refine WCode.seq ?_
 refine WCode.seq ?_
 refine WCode.region ?_
 refine WOps.p (G.move rfl) rfl ?_
 refine WOps.p (G.move rfl) rfl ?_
 refine WOps.p (G.nilp rfl) rfl ?_
 refine WOps.p (G.field T.fld104_2 rfl (show 0 + 5 = 5 from rfl)) rfl ?_
 refine WOps.r (G.load1 T.one102 rfl (cell_blk ((S20.fr p0 (lt_of_blk hB2) (hF0 p0 hf3).1).trans hB2) rfl)) rfl ?_
 refine WOps.p (G.len T.el102 rfl) rfl ?_
 refine WOps.p (G.lss rfl rfl rfl) rfl ?_
 refine WOps.nil ?_
 refine WEx.then_ ?_
 rcases ite_some hF with ⟨h24, hF⟩ | ⟨h24, hF⟩
 ·
  refine WCode.cond_t (kb (b := decide (x18 < (a0.I.length : Int))) rfl (decide_eq_true h24)) ?_
  refine WCode.skip ?_
  refine WEx.then_ ?_
  refine WCode.seq ?_
  refine WCode.block ?_
  refine WCode.seq ?_
  refine WCode.drawH (.one 0 0 (.one 1 0 (.one 2 0 (.one 4 0 (.one 3 1 (.one 5 0 (.one 6 0 (.one 7 1 (.one 8 1 (.one 9 0 (.one 10 0 (.one 11 0 (.one 12 0 (.one 13 0 (.one 15 0 (.one 19 0 (.one 14 1 (.one 16 0 (.one 17 0 (.one 18 1 (.one 20 0 (.one 21 0 .nil)))))))))))))))))))))) (fun W_ => cellsAt W_ p0 0 [.int .i64 a0.C.Clients, .int .i64 a0.C.Entries, .int .i64 a0.C.Bytes, .int .i64 a0.C.Reserve, .slice A6 a0.L.length c7, .slice A9 a0.I.length c10] ∧ SlR Item.rp W_ F0 A9 c10 a0.I ∧ cellsAt W_ b12 0 [.int .i64 a1.Address, .int .i64 a1.Instance] ∧ True) T.mixed (by kernel_rfl) (by intro _ _ d _ _ h; cases d <;> exact h) rfl rfl (by kernel_rfl) ?_ ?_
  all_goals have S25 := S20.drew
  all_goals generalize w19.drew = w26 at *
  · exact ⟨cellsAt.of_blk ((S25.fr p0 (lt_of_blk hB2) (hF0 p0 hf3).1).trans hB2) rfl, (hR11.ext (S25.keepF hF0)), cellsAt.of_blk (S25.blk 0 rfl) rfl, trivial⟩
  refine WH.p rfl wants (G.move rfl) rfl ?_
  refine WH.p rfl wants (G.nilp rfl) rfl ?_
  refine WH.p rfl wants (G.field T.fld104_2 rfl (show 0 + 5 = 5 from rfl)) rfl ?_
  refine WH.p rfl wants (G.move rfl) rfl ?_
  refine WH.r rfl wants (fun _ h_ => G.load1 T.one102 rfl (cellsAt.at h_.1 5 rfl)) rfl ?_
  obtain ⟨x27, hc28, hF⟩ := bind_some hF
  obtain ⟨j29, ej30, hj31, hl32⟩ := idx_spec hc28
  obtain ⟨b33, o34, cs35, eA36, hf37, hc38, hr39⟩ := SlR.at_ (hR11.ext (S25.keepF hF0)) hj31
  have hq40 : cs35 = [.int .i64 x27.Who.Address, .int .i64 x27.Who.Instance, .int .i64 x27.Sequence, .bool x27.Answered, .string (bs x27.Reply)] := hr39
  subst hq40
  change cellsAt _ _ (o34 + j29 * 5) [.int .i64 x27.Who.Address, .int .i64 x27.Who.Instance, .int .i64 x27.Sequence, .bool x27.Answered, .string (bs x27.Reply)] at hc38
  refine WH.p rfl wants (G.idx T.el102 rfl eA36 rfl ej30 hl32) rfl ?_
  refine WH.p rfl wants (G.field T.fld127_0 rfl (show o34 + j29 * 5 + 0 = o34 + j29 * 5 + 0 from rfl)) rfl ?_
  refine WH.r rfl wants (fun _ h_ => G.loada T.agg34_2 rfl (cs := [.int .i64 x27.Who.Address, .int .i64 x27.Who.Instance]) (cellsAt.part (SlR.cellsP h_.2.1 hj31 eA36) 0 rfl)) rfl ?_
  refine WH.r rfl wants (fun _ h_ => G.loada T.agg34_2 rfl (cs := [.int .i64 a1.Address, .int .i64 a1.Instance]) (cellsAt.part h_.2.2.1 0 rfl)) rfl ?_
  refine WH.p rfl wants (G.eqa rfl rfl (by kernel_rfl) (WhoC.eqIn34 x27.Who a1) rfl) rfl ?_
  refine WH.p rfl wants (G.move rfl) rfl ?_
  rcases ite_some hF with ⟨h41, hF⟩ | ⟨h41, hF⟩
  ·
   refine WH.p rfl (wants_on rfl (kbl (b := decide (x27.Who = a1)) rfl (decide_eq_true h41))) (G.move rfl) rfl ?_
   refine WH.p rfl (wants_on rfl (kbl (b := decide (x27.Who = a1)) rfl (decide_eq_true h41))) (G.nilp rfl) rfl ?_
   refine WH.p rfl (wants_on rfl (kbl (b := decide (x27.Who = a1)) rfl (decide_eq_true h41))) (G.field T.fld104_2 rfl (show 0 + 5 = 5 from rfl)) rfl ?_
   refine WH.p rfl (wants_on rfl (kbl (b := decide (x27.Who = a1)) rfl (decide_eq_true h41))) (G.move rfl) rfl ?_
   refine WH.p rfl (wants_on rfl (kbl (b := decide (x27.Who = a1)) rfl (decide_eq_true h41))) (G.move rfl) rfl ?_
   refine WH.r rfl (wants_on rfl (kbl (b := decide (x27.Who = a1)) rfl (decide_eq_true h41))) (fun _ h_ => G.load1 T.one102 rfl (cellsAt.at h_.1 5 rfl)) rfl ?_
   obtain ⟨x42, hc43, hF⟩ := bind_some hF
   obtain ⟨j44, ej45, hj46, hl47⟩ := idx_spec hc43
   obtain ⟨b48, o49, cs50, eA51, hf52, hc53, hr54⟩ := SlR.at_ (hR11.ext (S25.keepF hF0)) hj46
   have hq55 : cs50 = [.int .i64 x42.Who.Address, .int .i64 x42.Who.Instance, .int .i64 x42.Sequence, .bool x42.Answered, .string (bs x42.Reply)] := hr54
   subst hq55
   change cellsAt _ _ (o49 + j44 * 5) [.int .i64 x42.Who.Address, .int .i64 x42.Who.Instance, .int .i64 x42.Sequence, .bool x42.Answered, .string (bs x42.Reply)] at hc53
   refine WH.p rfl (wants_on rfl (kbl (b := decide (x27.Who = a1)) rfl (decide_eq_true h41))) (G.idx T.el102 rfl eA51 rfl ej45 hl47) rfl ?_
   refine WH.p rfl (wants_on rfl (kbl (b := decide (x27.Who = a1)) rfl (decide_eq_true h41))) (G.field T.fld127_1 rfl (show o49 + j44 * 5 + 2 = o49 + j44 * 5 + 2 from rfl)) rfl ?_
   refine WH.r rfl (wants_on rfl (kbl (b := decide (x27.Who = a1)) rfl (decide_eq_true h41))) (fun _ h_ => G.load1 T.one3 rfl (cellsAt.at (SlR.cellsP h_.2.1 hj46 eA51) 2 rfl)) rfl ?_
   refine WH.p rfl (wants_on rfl (kbl (b := decide (x27.Who = a1)) rfl (decide_eq_true h41))) (G.eql rfl rfl rfl) rfl ?_
   refine WH.p rfl wants (G.pick_t (kb (b := decide (x27.Who = a1)) rfl (decide_eq_true h41)) rfl) rfl ?_
   refine WH.nil ?_
   refine WEx.then_ ?_
   refine WCode.forget (l' := [(0, .pointer (some ⟨p0, 0, none⟩)), (2, .int .i64 a2), (4, .pointer (some ⟨b12, 0, none⟩)), (7, .int .i64 x18), (28, .pointer (some ⟨p0, 0, none⟩)), (29, .pointer (some ⟨p0, 0, none⟩)), (30, .pointer (some ⟨p0, 5, none⟩)), (31, .slice A9 a0.I.length c10), (32, .int .i64 x18), (33, .pointer (some ⟨b48, o49 + j44 * 5, none⟩)), (34, .pointer (some ⟨b48, o49 + j44 * 5 + 2, none⟩)), (35, .int .i64 x42.Sequence), (36, .int .i64 a2), (37, .bool (decide (x42.Sequence = a2))), (38, .bool (decide (x42.Sequence = a2)))]) ⟨rfl, rfl, rfl, rfl, rfl, rfl, rfl, rfl, rfl, rfl, rfl, rfl, rfl, rfl, rfl, trivial⟩ ?_
   rcases ite_some hF with ⟨h56, hF⟩ | ⟨h56, hF⟩
   ·
    refine WCode.cond_t (kb (b := decide (x42.Sequence = a2)) rfl (decide_eq_true h56)) ?_
    refine WCode.seq ?_
    refine WCode.region ?_
    refine WOps.p (G.move rfl) rfl ?_
    refine WOps.p (G.assign rfl) rfl ?_
    refine WOps.nil ?_
    refine WEx.then_ ?_
    refine WCode.forget (l' := [(6, .int .i64 x18)]) ⟨rfl, trivial⟩ ?_
    refine WCode.ret ?_
    refine WEx.in_ret ?_
    refine WEx.then_ret ?_
    refine WEx.then_ret ?_
    refine WEx.in_ret ?_
    refine WEx.then_ret ?_
    obtain rfl := some_eq hF
    refine WEx.ret1 rfl rfl ?_
    exact ⟨rfl, St.keep (As := []) S25⟩
   ·
    refine WCode.cond_f (kb (b := decide (x42.Sequence = a2)) rfl (decide_eq_false h56)) ?_
    refine WCode.skip ?_
    refine WEx.in_normal ?_
    refine WEx.then_ ?_
    refine WCode.region ?_
    refine WOps.p (G.move rfl) rfl ?_
    refine WOps.p (G.add rfl rfl (r := (w64 (x18 + 1))) rfl) rfl ?_
    refine WOps.p (G.assign rfl) rfl ?_
    refine WOps.nil ?_
    refine WEx.again _ _ (by omega) ?_ ⟨w64 (x18 + 1), rfl, hF, S25⟩
    exact ⟨rfl, rfl, rfl, rfl, trivial⟩
  ·
   refine WH.off rfl rfl (kbl (b := decide (x27.Who = a1)) rfl (decide_eq_false h41)) rfl rfl rfl ?_
   refine WH.off rfl rfl (kbl (b := decide (x27.Who = a1)) rfl (decide_eq_false h41)) rfl rfl rfl ?_
   refine WH.off rfl rfl (kbl (b := decide (x27.Who = a1)) rfl (decide_eq_false h41)) rfl rfl rfl ?_
   refine WH.off rfl rfl (kbl (b := decide (x27.Who = a1)) rfl (decide_eq_false h41)) rfl rfl rfl ?_
   refine WH.off rfl rfl (kbl (b := decide (x27.Who = a1)) rfl (decide_eq_false h41)) rfl rfl rfl ?_
   refine WH.off rfl rfl (kbl (b := decide (x27.Who = a1)) rfl (decide_eq_false h41)) rfl rfl rfl ?_
   refine WH.off rfl rfl (kbl (b := decide (x27.Who = a1)) rfl (decide_eq_false h41)) rfl rfl rfl ?_
   refine WH.off rfl rfl (kbl (b := decide (x27.Who = a1)) rfl (decide_eq_false h41)) rfl rfl rfl ?_
   refine WH.off rfl rfl (kbl (b := decide (x27.Who = a1)) rfl (decide_eq_false h41)) rfl rfl rfl ?_
   refine WH.off rfl rfl (kbl (b := decide (x27.Who = a1)) rfl (decide_eq_false h41)) rfl rfl rfl ?_
   refine WH.p rfl wants (G.pick_f (kb (b := decide (x27.Who = a1)) rfl (decide_eq_false h41)) rfl) rfl ?_
   refine WH.nil ?_
   refine WEx.then_ ?_
   refine WCode.forget (l' := [(0, .pointer (some ⟨p0, 0, none⟩)), (2, .int .i64 a2), (4, .pointer (some ⟨b12, 0, none⟩)), (7, .int .i64 x18), (28, undef), (29, undef), (30, undef), (31, undef), (32, undef), (33, undef), (34, undef), (35, undef), (36, undef), (37, undef), (38, .bool false)]) ⟨rfl, rfl, rfl, rfl, rfl, rfl, rfl, rfl, rfl, rfl, rfl, rfl, rfl, rfl, rfl, trivial⟩ ?_
   refine WCode.cond_f rfl ?_
   refine WCode.skip ?_
   refine WEx.in_normal ?_
   refine WEx.then_ ?_
   refine WCode.region ?_
   refine WOps.p (G.move rfl) rfl ?_
   refine WOps.p (G.add rfl rfl (r := (w64 (x18 + 1))) rfl) rfl ?_
   refine WOps.p (G.assign rfl) rfl ?_
   refine WOps.nil ?_
   refine WEx.again _ _ (by omega) ?_ ⟨w64 (x18 + 1), rfl, hF, S25⟩
   exact ⟨rfl, rfl, rfl, rfl, trivial⟩
 ·
  refine WCode.cond_f (kb (b := decide (x18 < (a0.I.length : Int))) rfl (decide_eq_false h24)) ?_
  refine WCode.exit ?_
  refine WEx.then_exit ?_
  refine WEx.then_exit ?_
  refine WEx.in_exit ?_
  refine WEx.then_ ?_
  refine WCode.forget (l' := []) trivial ?_
  refine WCode.seq ?_
  refine WCode.region ?_
  refine WOps.p (G.assign rfl) rfl ?_
  refine WOps.nil ?_
  refine WEx.then_ ?_
  refine WCode.ret ?_
  obtain rfl := some_eq hF
  refine WEx.ret1 rfl rfl ?_
  exact ⟨rfl, St.keep (As := []) S20⟩

def rc_of.l1 : Nat → Cache104 → WhoC → Int → Int → Option Int
  | 0, _, _, _, _ => none
  | k22 + 1, a0, a1, x18, x19 => (if x19 < (a0.I.length : Int) then (Option.bind (idx a0.I x19) fun x28 => (if x28.Who = a1 then (rc_of.l1 k22 a0 a1 (w64 (x18 + 1)) (w64 (x19 + 1))) else (rc_of.l1 k22 a0 a1 x18 (w64 (x19 + 1))))) else (some x18))
def rc_of (k : Nat) (a0 : Cache104) (a1 : WhoC) : Option Int := (rc_of.l1 k a0 a1 0 0)
set_option maxRecDepth 100000 in
set_option maxHeartbeats 1000000 in
theorem rc_of_calls (k : Nat) (a0 : Cache104) {p0 : Nat} {F0 : Nat → Prop} (a1 : WhoC) {w : World} (hP0 : PtR 104 Cache104.rp w F0 p0 a0) (hF0 : ∀ b, F0 b → NK w [] b) {r_ : Int} (h_ : rc_of k a0 a1 = some r_) :
    Calls Try.prog 61 [.pointer (some ⟨p0, 0, none⟩), .agg #[.int .i64 a1.Address, .int .i64 a1.Instance]].toArray w fun e w' => e = .returned (.int .i64 r_) ∧ St w (KS []) w' [] := by
 have hF := h_
 clear h_
 unfold rc_of at hF
 have S := St.ofFalse (As := []) (St.init0 w)
 have hPq5 := hP0
 obtain ⟨cs1, hB2, hf3, A6, c7, A9, c10, hq4, hR8, hR11⟩ := hPq5
 subst hq4
 change _ = some (Obj.cells #[.int .i64 a0.C.Clients, .int .i64 a0.C.Entries, .int .i64 a0.C.Bytes, .int .i64 a0.C.Reserve, .slice A6 a0.L.length c7, .slice A9 a0.I.length c10] 104 (0, 0)) at hB2
 refine enter 29 [(0, .pointer (some ⟨p0, 0, none⟩)), (1, .agg #[.int .i64 a1.Address, .int .i64 a1.Instance])] Try.func61 rfl rfl rfl rfl ?_
 refine WCode.seq ?_
 refine WCode.region ?_
 obtain ⟨b12, w13, E14, S15, X16, L17⟩ := St.box S Try.prog 34 (.agg #[.int .i64 a1.Address, .int .i64 a1.Instance])
 change St _ _ _ [[(b12, .cells #[.int .i64 a1.Address, .int .i64 a1.Instance] 34 (0, 0))]] at S15
 refine WOps.e (E14 rfl) rfl ?_
 refine WOps.p (G.assign rfl) rfl ?_
 refine WOps.nil ?_
 refine WEx.then_ ?_
 refine WCode.seq ?_
 refine WCode.region ?_
 refine WOps.p (G.assign rfl) rfl ?_
 refine WOps.nil ?_
 refine WEx.then_ ?_
 refine WCode.seq ?_
 refine WCode.seq ?_
 refine WCode.region ?_
 refine WOps.p (G.assign rfl) rfl ?_
 refine WOps.nil ?_
 refine WEx.then_ ?_
 refine WCode.block ?_
 refine WCode.forget (l' := [(0, .pointer (some ⟨p0, 0, none⟩)), (3, .pointer (some ⟨b12, 0, none⟩)), (5, .int .i64 0), (6, .int .i64 0)]) ⟨rfl, rfl, rfl, rfl, trivial⟩ ?_
 refine WCode.loop (fun n_ l_ w_ => ∃ x18 : Int, ∃ x19 : Int, l_ = [(0, .pointer (some ⟨p0, 0, none⟩)), (3, .pointer (some ⟨b12, 0, none⟩)), (5, .int .i64 x18), (6, .int .i64 x19)] ∧ rc_of.l1 n_ a0 a1 x18 x19 = some r_ ∧ St w (KS []) w_ [[(b12, .cells #[.int .i64 a1.Address, .int .i64 a1.Instance] 34 (0, 0))]]) k ⟨0, 0, rfl, hF, S15⟩ ?_
 rintro n23 _ w20 ⟨x18, x19, rfl, hF, S21⟩
 obtain _ | k22 := n23
 · exact nomatch (show (none : Option Int) = some r_ from hF)
 rw [rc_of.l1] at hF
 refine WCode.seq ?_
 refine WCode.seq ?_
 refine WCode.region ?_
 refine WOps.p (G.move rfl) rfl ?_
 refine WOps.p (G.move rfl) rfl ?_
 refine WOps.p (G.nilp rfl) rfl ?_
 refine WOps.p (G.field T.fld104_2 rfl (show 0 + 5 = 5 from rfl)) rfl ?_
 refine WOps.r (G.load1 T.one102 rfl (cell_blk ((S21.fr p0 (lt_of_blk hB2) (hF0 p0 hf3).1).trans hB2) rfl)) rfl ?_
 refine WOps.p (G.len T.el102 rfl) rfl ?_
 refine WOps.p (G.lss rfl rfl rfl) rfl ?_
 refine WOps.nil ?_
 refine WEx.then_ ?_
 rcases ite_some hF with ⟨h25, hF⟩ | ⟨h25, hF⟩
 ·
  refine WCode.cond_t (kb (b := decide (x19 < (a0.I.length : Int))) rfl (decide_eq_true h25)) ?_
  refine WCode.skip ?_
  refine WEx.then_ ?_
  refine WCode.seq ?_
  refine WCode.block ?_
  refine WCode.seq ?_
  refine WCode.draw [⟨0, 0, []⟩, ⟨1, 0, []⟩, ⟨2, 0, []⟩, ⟨4, 0, []⟩, ⟨3, 1, [5, 6, 7, 9]⟩, ⟨5, 0, []⟩, ⟨6, 0, []⟩, ⟨7, 1, [9]⟩, ⟨8, 1, [9]⟩, ⟨9, 0, []⟩] T.mixed (by kernel_rfl) (by intro _ _ d _ _ h; cases d <;> exact h) rfl (by kernel_rfl) ?_
  have S26 := S21.drew
  generalize w20.drew = w27 at *
  refine WD.p rfl (G.move rfl) rfl ?_
  refine WD.p rfl (G.nilp rfl) rfl ?_
  refine WD.p rfl (G.field T.fld104_2 rfl (show 0 + 5 = 5 from rfl)) rfl ?_
  refine WD.p rfl (G.move rfl) rfl ?_
  refine WD.r rfl (G.load1 T.one102 rfl (cell_blk ((S26.fr p0 (lt_of_blk hB2) (hF0 p0 hf3).1).trans hB2) rfl)) rfl ?_
  obtain ⟨x28, hc29, hF⟩ := bind_some hF
  obtain ⟨j30, ej31, hj32, hl33⟩ := idx_spec hc29
  obtain ⟨b34, o35, cs36, eA37, hf38, hc39, hr40⟩ := SlR.at_ (hR11.ext (S26.keepF hF0)) hj32
  have hq41 : cs36 = [.int .i64 x28.Who.Address, .int .i64 x28.Who.Instance, .int .i64 x28.Sequence, .bool x28.Answered, .string (bs x28.Reply)] := hr40
  subst hq41
  change cellsAt _ _ (o35 + j30 * 5) [.int .i64 x28.Who.Address, .int .i64 x28.Who.Instance, .int .i64 x28.Sequence, .bool x28.Answered, .string (bs x28.Reply)] at hc39
  refine WD.p rfl (G.idx T.el102 rfl eA37 rfl ej31 hl33) rfl ?_
  refine WD.p rfl (G.field T.fld127_0 rfl (show o35 + j30 * 5 + 0 = o35 + j30 * 5 + 0 from rfl)) rfl ?_
  refine WD.r rfl (G.loada T.agg34_2 rfl (cs := [.int .i64 x28.Who.Address, .int .i64 x28.Who.Instance]) (cellsAt.part hc39 0 rfl)) rfl ?_
  refine WD.r rfl (G.loada T.agg34_2 rfl (cs := [.int .i64 a1.Address, .int .i64 a1.Instance]) (cellsAt.of_blk (S26.blk 0 rfl) rfl)) rfl ?_
  refine WD.p rfl (G.eqa rfl rfl (by kernel_rfl) (WhoC.eqIn34 x28.Who a1) rfl) rfl ?_
  refine WD.nil ?_
  refine WEx.then_ ?_
  refine WCode.forget (l' := [(0, .pointer (some ⟨p0, 0, none⟩)), (3, .pointer (some ⟨b12, 0, none⟩)), (5, .int .i64 x18), (6, .int .i64 x19), (25, .bool (decide (x28.Who = a1)))]) ⟨rfl, rfl, rfl, rfl, rfl, trivial⟩ ?_
  rcases ite_some hF with ⟨h42, hF⟩ | ⟨h42, hF⟩
  ·
   refine WCode.cond_t (kb (b := decide (x28.Who = a1)) rfl (decide_eq_true h42)) ?_
   refine WCode.region ?_
   refine WOps.p (G.move rfl) rfl ?_
   refine WOps.p (G.add rfl rfl (r := (w64 (x18 + 1))) rfl) rfl ?_
   refine WOps.p (G.assign rfl) rfl ?_
   refine WOps.nil ?_
   refine WEx.in_normal ?_
   refine WEx.then_ ?_
   refine WCode.region ?_
   refine WOps.p (G.move rfl) rfl ?_
   refine WOps.p (G.add rfl rfl (r := (w64 (x19 + 1))) rfl) rfl ?_
   refine WOps.p (G.assign rfl) rfl ?_
   refine WOps.nil ?_
   refine WEx.again _ _ (by omega) ?_ ⟨w64 (x18 + 1), w64 (x19 + 1), rfl, hF, S26⟩
   exact ⟨rfl, rfl, rfl, rfl, trivial⟩
  ·
   refine WCode.cond_f (kb (b := decide (x28.Who = a1)) rfl (decide_eq_false h42)) ?_
   refine WCode.skip ?_
   refine WEx.in_normal ?_
   refine WEx.then_ ?_
   refine WCode.region ?_
   refine WOps.p (G.move rfl) rfl ?_
   refine WOps.p (G.add rfl rfl (r := (w64 (x19 + 1))) rfl) rfl ?_
   refine WOps.p (G.assign rfl) rfl ?_
   refine WOps.nil ?_
   refine WEx.again _ _ (by omega) ?_ ⟨x18, w64 (x19 + 1), rfl, hF, S26⟩
   exact ⟨rfl, rfl, rfl, rfl, trivial⟩
 ·
  refine WCode.cond_f (kb (b := decide (x19 < (a0.I.length : Int))) rfl (decide_eq_false h25)) ?_
  refine WCode.exit ?_
  refine WEx.then_exit ?_
  refine WEx.then_exit ?_
  refine WEx.in_exit ?_
  refine WEx.then_ ?_
  refine WCode.forget (l' := [(5, .int .i64 x18)]) ⟨rfl, trivial⟩ ?_
  refine WCode.seq ?_
  refine WCode.region ?_
  refine WOps.p (G.move rfl) rfl ?_
  refine WOps.p (G.assign rfl) rfl ?_
  refine WOps.nil ?_
  refine WEx.then_ ?_
  refine WCode.ret ?_
  obtain rfl := some_eq hF
  refine WEx.ret1 rfl rfl ?_
  exact ⟨rfl, St.keep (As := []) S21⟩

mutual
def rc_rises.j1 : Nat → Cache104 → Int → Int → List Known123 → List Item → Int → Bool → Option Cache104
  | 0, _, _, _, _, _, _, _ => none
  | k106 + 1, a0, a1, a2, l29, l41, x44, b54 => (if b54 = true then (Option.bind (idx a0.I x44) fun x108 => (Option.bind (catN 2932031007402 l41 ([x108] : List Item)) fun l129 => (rc_rises.l1 k106 a0 a1 a2 l29 l129 (w64 (x44 + 1))))) else (rc_rises.l1 k106 a0 a1 a2 l29 l41 (w64 (x44 + 1))))
def rc_rises.l1 : Nat → Cache104 → Int → Int → List Known123 → List Item → Int → Option Cache104
  | 0, _, _, _, _, _, _ => none
  | k47 + 1, a0, a1, a2, l29, l41, x44 => (if x44 < (a0.I.length : Int) then (Option.bind (idx a0.I x44) fun x61 => (Option.bind (idx l29 a1) fun x75 => (if x61.Who = x75.Who then (Option.bind (idx a0.I x44) fun x90 => (rc_rises.j1 k47 a0 a1 a2 l29 l41 x44 (decide (a2 ≤ x90.Sequence)))) else (rc_rises.j1 k47 a0 a1 a2 l29 l41 x44 true)))) else (some (⟨a0.C, l29, l41⟩ : Cache104)))
end
def rc_rises (k : Nat) (a0 : Cache104) (a1 : Int) (a2 : Int) : Option Cache104 := (Option.bind (idx a0.L a1) fun x15 => (Option.bind (upd a0.L a1 (⟨x15.Who, a2⟩ : Known123)) fun l29 => (rc_rises.l1 k a0 a1 a2 l29 [] 0)))
set_option maxRecDepth 100000 in
set_option maxHeartbeats 1000000 in
theorem rc_rises_calls (k : Nat) (a0 : Cache104) {p0 : Nat} {G0 : Grp} (a1 : Int) (a2 : Int) {w : World} (hO0 : ObjO 104 Cache104.rp p0 a0 G0) {r_ : Cache104} (h_ : rc_rises k a0 a1 a2 = some r_) (hp_ : Hp w ([G0]).flatten) :
    Calls Try.prog 59 [.pointer (some ⟨p0, 0, none⟩), .int .i64 a1, .int .i64 a2].toArray w fun e w' => ∃ Go0' : Grp, e = .returned (.tuple #[]) ∧ ObjO 104 Cache104.rp p0 (r_) Go0' ∧ St w (KS [G0]) w' [Go0'] := by
 have hF := h_
 clear h_
 unfold rc_rises at hF
 have S := St.initK [G0] hp_
 obtain ⟨cs1, G2, ho3, hg4⟩ := hO0
 obtain ⟨A5, c6, G7, A9, c10, G11, rfl, hO8, hO12, hq13⟩ := ho3
 have S14 : St _ _ _ [[(p0, .cells #[.int .i64 a0.C.Clients, .int .i64 a0.C.Entries, .int .i64 a0.C.Bytes, .int .i64 a0.C.Reserve, .slice A5 a0.L.length c6, .slice A9 a0.I.length c10] 104 (0, 0))], G7, G11] := S.objs (by rw [hg4, hq13]; simp)
 refine enter 68 [(0, .pointer (some ⟨p0, 0, none⟩)), (1, .int .i64 a1), (2, .int .i64 a2)] Try.func59 rfl rfl rfl rfl ?_
 refine WCode.seq ?_
 refine WCode.region ?_
 refine WOps.p (G.move rfl) rfl ?_
 refine WOps.p (G.nilp rfl) rfl ?_
 refine WOps.p (G.field T.fld104_1 rfl (show 0 + 4 = 4 from rfl)) rfl ?_
 refine WOps.r (G.load1 T.one101 rfl (cell_blk (S14.blk 0 rfl) rfl)) rfl ?_
 refine WOps.p (G.move rfl) rfl ?_
 refine WOps.p (G.move rfl) rfl ?_
 obtain ⟨x15, hc16, hF⟩ := bind_some hF
 obtain ⟨j17, ej18, hj19, hl20⟩ := idx_spec hc16
 obtain ⟨b21, o22, cs23, eA24, hf25, hc26, hr27⟩ := SlR.at_ (hO8.rd (fun b o hb => S14.grp 1 rfl hb)) hj19
 have hq28 : cs23 = [.int .i64 x15.Who.Address, .int .i64 x15.Who.Instance, .int .i64 x15.Water] := hr27
 subst hq28
 change cellsAt _ _ (o22 + j17 * 3) [.int .i64 x15.Who.Address, .int .i64 x15.Who.Instance, .int .i64 x15.Water] at hc26
 refine WOps.p (G.idx T.el101 rfl eA24 rfl ej18 hl20) rfl ?_
 refine WOps.p (G.field T.fld123_1 rfl (show o22 + j17 * 3 + 2 = o22 + j17 * 3 + 2 from rfl)) rfl ?_
 obtain ⟨l29, hc30, hF⟩ := bind_some hF
 have e31 := upd_spec' hc30 ej18
 have S32 := S14.front 1 rfl
 change St _ _ _ [G7, [(p0, .cells #[.int .i64 a0.C.Clients, .int .i64 a0.C.Entries, .int .i64 a0.C.Bytes, .int .i64 a0.C.Reserve, .slice A5 a0.L.length c6, .slice A9 a0.I.length c10] 104 (0, 0))], G11] at S32
 obtain ⟨w33, G34, E35, hO36, S37⟩ := St.storeF (P := Try.prog) (T := 3) S32 hO8 T.size3_1 hj19 eA24 (⟨x15.Who, a2⟩ : Known123) (v := .int .i64 a2) [.int .i64 x15.Who.Address, .int .i64 x15.Who.Instance] [.int .i64 x15.Water] [] rfl rfl rfl
 rw [← e31] at hO36
 have hl38 : (a0.L).length = l29.length := by rw [e31, List.length_set]
 try rw [hl38] at S37
 try rw [hl38]
 change St _ _ _ [G34, [(p0, .cells #[.int .i64 a0.C.Clients, .int .i64 a0.C.Entries, .int .i64 a0.C.Bytes, .int .i64 a0.C.Reserve, .slice A5 l29.length c6, .slice A9 a0.I.length c10] 104 (0, 0))], G11] at S37
 refine WOps.u (E35 rfl rfl) ?_
 refine WOps.nil ?_
 refine WEx.then_ ?_
 refine WCode.seq ?_
 refine WCode.region ?_
 refine WOps.p (G.assign rfl) rfl ?_
 refine WOps.nil ?_
 refine WEx.then_ ?_
 refine WCode.seq ?_
 refine WCode.seq ?_
 refine WCode.region ?_
 refine WOps.p (G.assign rfl) rfl ?_
 refine WOps.nil ?_
 refine WEx.then_ ?_
 refine WCode.block ?_
 have S49 := S37.emp
 have S51 := ((S49.front 3 rfl).front 2 rfl).front 3 rfl
 change St _ _ _ [[(p0, .cells #[.int .i64 a0.C.Clients, .int .i64 a0.C.Entries, .int .i64 a0.C.Bytes, .int .i64 a0.C.Reserve, .slice A5 l29.length c6, .slice A9 a0.I.length c10] 104 (0, 0))], G34, G11, ([] : Grp)] at S51
 refine WCode.forget (l' := [(0, .pointer (some ⟨p0, 0, none⟩)), (1, .int .i64 a1), (2, .int .i64 a2), (6, .slice none 0 0), (7, .int .i64 0)]) ⟨rfl, rfl, rfl, rfl, rfl, trivial⟩ ?_
 refine WCode.loop (fun n_ l_ w_ => ∃ A39 : Option Addr, ∃ c40 : Nat, ∃ l41 : List Item, ∃ G42 : Grp, ∃ x44 : Int, l_ = [(0, .pointer (some ⟨p0, 0, none⟩)), (1, .int .i64 a1), (2, .int .i64 a2), (6, .slice A39 l41.length c40), (7, .int .i64 x44)] ∧ rc_rises.l1 n_ a0 a1 a2 l29 l41 x44 = some r_ ∧ (SlO 127 Item.rp (.slice A39 l41.length c40) l41 G42) ∧ St w (KS [G0]) w_ [[(p0, .cells #[.int .i64 a0.C.Clients, .int .i64 a0.C.Entries, .int .i64 a0.C.Bytes, .int .i64 a0.C.Reserve, .slice A5 l29.length c6, .slice A9 a0.I.length c10] 104 (0, 0))], G34, G11, G42]) k ⟨none, 0, [], ([] : Grp), 0, rfl, hF, (SlO.nil 127 Item.rp), S51⟩ ?_
 rintro n48 _ w45 ⟨A39, c40, l41, G42, x44, rfl, hF, hO43, S46⟩
 obtain _ | k47 := n48
 · exact nomatch (show (none : Option Cache104) = some r_ from hF)
 rw [rc_rises.l1] at hF
 refine WCode.seq ?_
 refine WCode.seq ?_
 refine WCode.region ?_
 refine WOps.p (G.move rfl) rfl ?_
 refine WOps.p (G.move rfl) rfl ?_
 refine WOps.p (G.nilp rfl) rfl ?_
 refine WOps.p (G.field T.fld104_2 rfl (show 0 + 5 = 5 from rfl)) rfl ?_
 refine WOps.r (G.load1 T.one102 rfl (cell_blk (S46.blk 0 rfl) rfl)) rfl ?_
 refine WOps.p (G.len T.el102 rfl) rfl ?_
 refine WOps.p (G.lss rfl rfl rfl) rfl ?_
 refine WOps.nil ?_
 refine WEx.then_ ?_
 rcases ite_some hF with ⟨h53, hF⟩ | ⟨h53, hF⟩
 ·
  refine WCode.cond_t (kb (b := decide (x44 < (a0.I.length : Int))) rfl (decide_eq_true h53)) ?_
  refine WCode.skip ?_
  refine WEx.then_ ?_
  refine WCode.seq ?_
  refine WCode.block ?_
  refine WCode.cutseq (fun l_ w_ => ∃ q57 : Nat, ∃ b54 : Bool, l_ = [(0, .pointer (some ⟨p0, 0, none⟩)), (1, .int .i64 a1), (2, .int .i64 a2), (6, .slice A39 l41.length c40), (7, .int .i64 x44), (53, .bool b54)] ∧ rc_rises.j1 q57 a0 a1 a2 l29 l41 x44 b54 = some r_ ∧ q57 ≤ k47 ∧ St w (KS [G0]) w_ [[(p0, .cells #[.int .i64 a0.C.Clients, .int .i64 a0.C.Entries, .int .i64 a0.C.Bytes, .int .i64 a0.C.Reserve, .slice A5 l29.length c6, .slice A9 a0.I.length c10] 104 (0, 0))], G42, G34, G11]) ?_ ?_
  ·
   refine WCode.drawH (.one 0 0 (.one 1 0 (.one 2 0 (.one 4 0 (.one 8 0 (.one 9 0 (.one 10 0 (.one 12 0 (.one 3 1 (.one 5 0 (.one 6 0 (.one 7 1 (.one 11 1 (.one 13 0 (.one 14 0 (.one 15 1 (.one 16 0 (.one 17 0 (.one 18 0 (.one 19 0 (.one 20 0 (.one 22 0 (.one 26 0 (.one 21 1 (.one 23 0 (.one 24 0 (.one 25 1 (.one 27 0 (.one 28 0 .nil))))))))))))))))))))))))))))) (fun W_ => cellsAt W_ p0 0 [.int .i64 a0.C.Clients, .int .i64 a0.C.Entries, .int .i64 a0.C.Bytes, .int .i64 a0.C.Reserve, .slice A5 l29.length c6, .slice A9 a0.I.length c10] ∧ SlR Item.rp W_ (· ∈ keys G11) A9 c10 a0.I ∧ SlR Known123.rp W_ (· ∈ keys G34) A5 c6 l29 ∧ True) T.mixed (by kernel_rfl) (by intro _ _ d _ _ h; cases d <;> exact h) rfl rfl (by kernel_rfl) ?_ ?_
   all_goals have S59 := S46.drew
   all_goals generalize w45.drew = w60 at *
   · exact ⟨cellsAt.of_blk (S59.blk 0 rfl) rfl, (hO12.rd (fun b o hb => S59.grp 2 rfl hb)), (hO36.rd (fun b o hb => S59.grp 1 rfl hb)), trivial⟩
   refine WH.p rfl wants (G.move rfl) rfl ?_
   refine WH.p rfl wants (G.nilp rfl) rfl ?_
   refine WH.p rfl wants (G.field T.fld104_2 rfl (show 0 + 5 = 5 from rfl)) rfl ?_
   refine WH.p rfl wants (G.move rfl) rfl ?_
   refine WH.p rfl wants (G.move rfl) rfl ?_
   refine WH.p rfl wants (G.nilp rfl) rfl ?_
   refine WH.p rfl wants (G.field T.fld104_1 rfl (show 0 + 4 = 4 from rfl)) rfl ?_
   refine WH.p rfl wants (G.move rfl) rfl ?_
   refine WH.r rfl wants (fun _ h_ => G.load1 T.one102 rfl (cellsAt.at h_.1 5 rfl)) rfl ?_
   obtain ⟨x61, hc62, hF⟩ := bind_some hF
   obtain ⟨j63, ej64, hj65, hl66⟩ := idx_spec hc62
   obtain ⟨b67, o68, cs69, eA70, hf71, hc72, hr73⟩ := SlR.at_ (hO12.rd (fun b o hb => S59.grp 2 rfl hb)) hj65
   have hq74 : cs69 = [.int .i64 x61.Who.Address, .int .i64 x61.Who.Instance, .int .i64 x61.Sequence, .bool x61.Answered, .string (bs x61.Reply)] := hr73
   subst hq74
   change cellsAt _ _ (o68 + j63 * 5) [.int .i64 x61.Who.Address, .int .i64 x61.Who.Instance, .int .i64 x61.Sequence, .bool x61.Answered, .string (bs x61.Reply)] at hc72
   refine WH.p rfl wants (G.idx T.el102 rfl eA70 rfl ej64 hl66) rfl ?_
   refine WH.p rfl wants (G.field T.fld127_0 rfl (show o68 + j63 * 5 + 0 = o68 + j63 * 5 + 0 from rfl)) rfl ?_
   refine WH.r rfl wants (fun _ h_ => G.loada T.agg34_2 rfl (cs := [.int .i64 x61.Who.Address, .int .i64 x61.Who.Instance]) (cellsAt.part (SlR.cellsP h_.2.1 hj65 eA70) 0 rfl)) rfl ?_
   refine WH.r rfl wants (fun _ h_ => G.load1 T.one101 rfl (cellsAt.at h_.1 4 rfl)) rfl ?_
   obtain ⟨x75, hc76, hF⟩ := bind_some hF
   obtain ⟨j77, ej78, hj79, hl80⟩ := idx_spec hc76
   obtain ⟨b81, o82, cs83, eA84, hf85, hc86, hr87⟩ := SlR.at_ (hO36.rd (fun b o hb => S59.grp 1 rfl hb)) hj79
   have hq88 : cs83 = [.int .i64 x75.Who.Address, .int .i64 x75.Who.Instance, .int .i64 x75.Water] := hr87
   subst hq88
   change cellsAt _ _ (o82 + j77 * 3) [.int .i64 x75.Who.Address, .int .i64 x75.Who.Instance, .int .i64 x75.Water] at hc86
   refine WH.p rfl wants (G.idx T.el101 rfl eA84 rfl ej78 hl80) rfl ?_
   refine WH.p rfl wants (G.field T.fld123_0 rfl (show o82 + j77 * 3 + 0 = o82 + j77 * 3 + 0 from rfl)) rfl ?_
   refine WH.r rfl wants (fun _ h_ => G.loada T.agg34_2 rfl (cs := [.int .i64 x75.Who.Address, .int .i64 x75.Who.Instance]) (cellsAt.part (SlR.cellsP h_.2.2.1 hj79 eA84) 0 rfl)) rfl ?_
   refine WH.p rfl wants (G.neqa rfl rfl (by kernel_rfl) (WhoC.eqIn34 x61.Who x75.Who) rfl) rfl ?_
   refine WH.p rfl wants (G.move rfl) rfl ?_
   rcases ite_some hF with ⟨h89, hF⟩ | ⟨h89, hF⟩
   ·
    refine WH.p rfl (wants_on rfl (kbl (b := !(decide (x61.Who = x75.Who))) rfl (show (!(decide (x61.Who = x75.Who))) = false from by rw [(decide_eq_true h89)]; rfl))) (G.move rfl) rfl ?_
    refine WH.p rfl (wants_on rfl (kbl (b := !(decide (x61.Who = x75.Who))) rfl (show (!(decide (x61.Who = x75.Who))) = false from by rw [(decide_eq_true h89)]; rfl))) (G.nilp rfl) rfl ?_
    refine WH.p rfl (wants_on rfl (kbl (b := !(decide (x61.Who = x75.Who))) rfl (show (!(decide (x61.Who = x75.Who))) = false from by rw [(decide_eq_true h89)]; rfl))) (G.field T.fld104_2 rfl (show 0 + 5 = 5 from rfl)) rfl ?_
    refine WH.p rfl (wants_on rfl (kbl (b := !(decide (x61.Who = x75.Who))) rfl (show (!(decide (x61.Who = x75.Who))) = false from by rw [(decide_eq_true h89)]; rfl))) (G.move rfl) rfl ?_
    refine WH.p rfl (wants_on rfl (kbl (b := !(decide (x61.Who = x75.Who))) rfl (show (!(decide (x61.Who = x75.Who))) = false from by rw [(decide_eq_true h89)]; rfl))) (G.move rfl) rfl ?_
    refine WH.r rfl (wants_on rfl (kbl (b := !(decide (x61.Who = x75.Who))) rfl (show (!(decide (x61.Who = x75.Who))) = false from by rw [(decide_eq_true h89)]; rfl))) (fun _ h_ => G.load1 T.one102 rfl (cellsAt.at h_.1 5 rfl)) rfl ?_
    obtain ⟨x90, hc91, hF⟩ := bind_some hF
    obtain ⟨j92, ej93, hj94, hl95⟩ := idx_spec hc91
    obtain ⟨b96, o97, cs98, eA99, hf100, hc101, hr102⟩ := SlR.at_ (hO12.rd (fun b o hb => S59.grp 2 rfl hb)) hj94
    have hq103 : cs98 = [.int .i64 x90.Who.Address, .int .i64 x90.Who.Instance, .int .i64 x90.Sequence, .bool x90.Answered, .string (bs x90.Reply)] := hr102
    subst hq103
    change cellsAt _ _ (o97 + j92 * 5) [.int .i64 x90.Who.Address, .int .i64 x90.Who.Instance, .int .i64 x90.Sequence, .bool x90.Answered, .string (bs x90.Reply)] at hc101
    refine WH.p rfl (wants_on rfl (kbl (b := !(decide (x61.Who = x75.Who))) rfl (show (!(decide (x61.Who = x75.Who))) = false from by rw [(decide_eq_true h89)]; rfl))) (G.idx T.el102 rfl eA99 rfl ej93 hl95) rfl ?_
    refine WH.p rfl (wants_on rfl (kbl (b := !(decide (x61.Who = x75.Who))) rfl (show (!(decide (x61.Who = x75.Who))) = false from by rw [(decide_eq_true h89)]; rfl))) (G.field T.fld127_1 rfl (show o97 + j92 * 5 + 2 = o97 + j92 * 5 + 2 from rfl)) rfl ?_
    refine WH.r rfl (wants_on rfl (kbl (b := !(decide (x61.Who = x75.Who))) rfl (show (!(decide (x61.Who = x75.Who))) = false from by rw [(decide_eq_true h89)]; rfl))) (fun _ h_ => G.load1 T.one3 rfl (cellsAt.at (SlR.cellsP h_.2.1 hj94 eA99) 2 rfl)) rfl ?_
    refine WH.p rfl (wants_on rfl (kbl (b := !(decide (x61.Who = x75.Who))) rfl (show (!(decide (x61.Who = x75.Who))) = false from by rw [(decide_eq_true h89)]; rfl))) (G.geq rfl rfl rfl) rfl ?_
    refine WH.p rfl wants (G.pick_f (kb (b := !(decide (x61.Who = x75.Who))) rfl (show (!(decide (x61.Who = x75.Who))) = false from by rw [(decide_eq_true h89)]; rfl)) rfl) rfl ?_
    refine WH.nil ?_
    have S104 := (((S59.front 2 rfl).front 2 rfl).front 3 rfl).front 3 rfl
    change St _ _ _ [[(p0, .cells #[.int .i64 a0.C.Clients, .int .i64 a0.C.Entries, .int .i64 a0.C.Bytes, .int .i64 a0.C.Reserve, .slice A5 l29.length c6, .slice A9 a0.I.length c10] 104 (0, 0))], G42, G34, G11] at S104
    refine WEx.cutend _ ?_ ⟨k47, decide (a2 ≤ x90.Sequence), rfl, hF, (by omega), S104⟩
    exact ⟨rfl, rfl, rfl, rfl, rfl, rfl, trivial⟩
   ·
    refine WH.off rfl rfl (kbl (b := !(decide (x61.Who = x75.Who))) rfl (show (!(decide (x61.Who = x75.Who))) = true from by rw [(decide_eq_false h89)]; rfl)) rfl rfl rfl ?_
    refine WH.off rfl rfl (kbl (b := !(decide (x61.Who = x75.Who))) rfl (show (!(decide (x61.Who = x75.Who))) = true from by rw [(decide_eq_false h89)]; rfl)) rfl rfl rfl ?_
    refine WH.off rfl rfl (kbl (b := !(decide (x61.Who = x75.Who))) rfl (show (!(decide (x61.Who = x75.Who))) = true from by rw [(decide_eq_false h89)]; rfl)) rfl rfl rfl ?_
    refine WH.off rfl rfl (kbl (b := !(decide (x61.Who = x75.Who))) rfl (show (!(decide (x61.Who = x75.Who))) = true from by rw [(decide_eq_false h89)]; rfl)) rfl rfl rfl ?_
    refine WH.off rfl rfl (kbl (b := !(decide (x61.Who = x75.Who))) rfl (show (!(decide (x61.Who = x75.Who))) = true from by rw [(decide_eq_false h89)]; rfl)) rfl rfl rfl ?_
    refine WH.off rfl rfl (kbl (b := !(decide (x61.Who = x75.Who))) rfl (show (!(decide (x61.Who = x75.Who))) = true from by rw [(decide_eq_false h89)]; rfl)) rfl rfl rfl ?_
    refine WH.off rfl rfl (kbl (b := !(decide (x61.Who = x75.Who))) rfl (show (!(decide (x61.Who = x75.Who))) = true from by rw [(decide_eq_false h89)]; rfl)) rfl rfl rfl ?_
    refine WH.off rfl rfl (kbl (b := !(decide (x61.Who = x75.Who))) rfl (show (!(decide (x61.Who = x75.Who))) = true from by rw [(decide_eq_false h89)]; rfl)) rfl rfl rfl ?_
    refine WH.off rfl rfl (kbl (b := !(decide (x61.Who = x75.Who))) rfl (show (!(decide (x61.Who = x75.Who))) = true from by rw [(decide_eq_false h89)]; rfl)) rfl rfl rfl ?_
    refine WH.off rfl rfl (kbl (b := !(decide (x61.Who = x75.Who))) rfl (show (!(decide (x61.Who = x75.Who))) = true from by rw [(decide_eq_false h89)]; rfl)) rfl rfl rfl ?_
    refine WH.p rfl wants (G.pick_t (kb (b := !(decide (x61.Who = x75.Who))) rfl (show (!(decide (x61.Who = x75.Who))) = true from by rw [(decide_eq_false h89)]; rfl)) rfl) rfl ?_
    refine WH.nil ?_
    have S105 := (((S59.front 2 rfl).front 2 rfl).front 3 rfl).front 3 rfl
    change St _ _ _ [[(p0, .cells #[.int .i64 a0.C.Clients, .int .i64 a0.C.Entries, .int .i64 a0.C.Bytes, .int .i64 a0.C.Reserve, .slice A5 l29.length c6, .slice A9 a0.I.length c10] 104 (0, 0))], G42, G34, G11] at S105
    refine WEx.cutend _ ?_ ⟨k47, true, rfl, hF, (by omega), S105⟩
    exact ⟨rfl, rfl, rfl, rfl, rfl, rfl, trivial⟩
  ·
   rintro _ w55 ⟨q57, b54, rfl, hF, hq58, S56⟩
   obtain _ | k106 := q57
   · exact nomatch (show (none : Option Cache104) = some r_ from hF)
   rw [rc_rises.j1] at hF
   rcases ite_some hF with ⟨h107, hF⟩ | ⟨h107, hF⟩
   ·
    refine WCode.cond_t (kb (b := b54) rfl h107) ?_
    refine WCode.region ?_
    refine WOps.p (G.move rfl) rfl ?_
    refine WOps.p (G.move rfl) rfl ?_
    refine WOps.p (G.nilp rfl) rfl ?_
    refine WOps.p (G.field T.fld104_2 rfl (show 0 + 5 = 5 from rfl)) rfl ?_
    refine WOps.r (G.load1 T.one102 rfl (cell_blk (S56.blk 0 rfl) rfl)) rfl ?_
    refine WOps.p (G.move rfl) rfl ?_
    obtain ⟨x108, hc109, hF⟩ := bind_some hF
    obtain ⟨j110, ej111, hj112, hl113⟩ := idx_spec hc109
    obtain ⟨b114, o115, cs116, eA117, hf118, hc119, hr120⟩ := SlR.at_ (hO12.rd (fun b o hb => S56.grp 3 rfl hb)) hj112
    have hq121 : cs116 = [.int .i64 x108.Who.Address, .int .i64 x108.Who.Instance, .int .i64 x108.Sequence, .bool x108.Answered, .string (bs x108.Reply)] := hr120
    subst hq121
    change cellsAt _ _ (o115 + j110 * 5) [.int .i64 x108.Who.Address, .int .i64 x108.Who.Instance, .int .i64 x108.Sequence, .bool x108.Answered, .string (bs x108.Reply)] at hc119
    refine WOps.p (G.idx T.el102 rfl eA117 rfl ej111 hl113) rfl ?_
    refine WOps.r (G.loada T.agg127_5 rfl (cs := [.int .i64 x108.Who.Address, .int .i64 x108.Who.Instance, .int .i64 x108.Sequence, .bool x108.Answered, .string (bs x108.Reply)]) hc119) rfl ?_
    obtain ⟨b122, w123, E124, S125, X126, L127⟩ := St.lit S56 (P := Try.prog) (t := 102) (e := 127) (n := 1) (vs := [(0, .agg #[.int .i64 x108.Who.Address, .int .i64 x108.Who.Instance, .int .i64 x108.Sequence, .bool x108.Answered, .string (bs x108.Reply)])]) (cs := #[.int .i64 x108.Who.Address, .int .i64 x108.Who.Instance, .int .i64 x108.Sequence, .bool x108.Answered, .string (bs x108.Reply)]) (by kernel_rfl)
    have c128 := hc119.ext X126
    change St _ _ _ [[(b122, .cells #[.int .i64 x108.Who.Address, .int .i64 x108.Who.Instance, .int .i64 x108.Sequence, .bool x108.Answered, .string (bs x108.Reply)] 127 (0, 0))], [(p0, .cells #[.int .i64 a0.C.Clients, .int .i64 a0.C.Entries, .int .i64 a0.C.Bytes, .int .i64 a0.C.Reserve, .slice A5 l29.length c6, .slice A9 a0.I.length c10] 104 (0, 0))], G42, G34, G11] at S125
    refine WOps.e (E124 (evp_cons rfl evp_nil)) rfl ?_
    obtain ⟨l129, hc130, hF⟩ := bind_some hF
    have S131 := S125.front 2 rfl
    change St _ _ _ [G42, [(b122, .cells #[.int .i64 x108.Who.Address, .int .i64 x108.Who.Instance, .int .i64 x108.Sequence, .bool x108.Answered, .string (bs x108.Reply)] 127 (0, 0))], [(p0, .cells #[.int .i64 a0.C.Clients, .int .i64 a0.C.Entries, .int .i64 a0.C.Bytes, .int .i64 a0.C.Reserve, .slice A5 l29.length c6, .slice A9 a0.I.length c10] 104 (0, 0))], G34, G11] at S131
    obtain ⟨A132, c133, G134, w135, E136, hO137, S138, hk139⟩ := St.appP (P := Try.prog) (r := Item.rp) (M := ([x108] : List Item)) S131 T.elt102 rfl hO43 (Rd.of_blk (S131.blk 1 rfl) (n := 1) (sz := 5) rfl) ⟨_, _, [], [], rfl, rfl, ⟨rfl, rfl⟩, ⟨rfl, rfl⟩⟩ rfl hc130
    change St _ _ _ [G134, [(b122, .cells #[.int .i64 x108.Who.Address, .int .i64 x108.Who.Instance, .int .i64 x108.Sequence, .bool x108.Answered, .string (bs x108.Reply)] 127 (0, 0))], [(p0, .cells #[.int .i64 a0.C.Clients, .int .i64 a0.C.Entries, .int .i64 a0.C.Bytes, .int .i64 a0.C.Reserve, .slice A5 l29.length c6, .slice A9 a0.I.length c10] 104 (0, 0))], G34, G11] at S138
    refine WOps.e (E136 rfl rfl) rfl ?_
    refine WOps.p (G.assign rfl) rfl ?_
    refine WOps.nil ?_
    refine WEx.in_normal ?_
    refine WEx.then_ ?_
    refine WCode.forget (l' := [(0, .pointer (some ⟨p0, 0, none⟩)), (1, .int .i64 a1), (2, .int .i64 a2), (6, .slice A132 l129.length c133), (7, .int .i64 x44)]) ⟨rfl, rfl, rfl, rfl, rfl, trivial⟩ ?_
    refine WCode.region ?_
    refine WOps.p (G.move rfl) rfl ?_
    refine WOps.p (G.add rfl rfl (r := (w64 (x44 + 1))) rfl) rfl ?_
    refine WOps.p (G.assign rfl) rfl ?_
    refine WOps.nil ?_
    have S140 := ((S138.front 4 rfl).front 4 rfl).front 4 rfl
    change St _ _ _ [[(p0, .cells #[.int .i64 a0.C.Clients, .int .i64 a0.C.Entries, .int .i64 a0.C.Bytes, .int .i64 a0.C.Reserve, .slice A5 l29.length c6, .slice A9 a0.I.length c10] 104 (0, 0))], G34, G11, G134, [(b122, .cells #[.int .i64 x108.Who.Address, .int .i64 x108.Who.Instance, .int .i64 x108.Sequence, .bool x108.Answered, .string (bs x108.Reply)] 127 (0, 0))]] at S140
    have S141 := St.keep (As := [[(p0, .cells #[.int .i64 a0.C.Clients, .int .i64 a0.C.Entries, .int .i64 a0.C.Bytes, .int .i64 a0.C.Reserve, .slice A5 l29.length c6, .slice A9 a0.I.length c10] 104 (0, 0))], G34, G11, G134]) S140
    refine WEx.again _ _ (by omega) ?_ ⟨A132, c133, l129, G134, w64 (x44 + 1), rfl, hF, hO137, S141⟩
    exact ⟨rfl, rfl, rfl, rfl, rfl, trivial⟩
   ·
    refine WCode.cond_f (kb (b := b54) rfl (Bool.eq_false_iff.2 h107)) ?_
    refine WCode.skip ?_
    refine WEx.in_normal ?_
    refine WEx.then_ ?_
    refine WCode.region ?_
    refine WOps.p (G.move rfl) rfl ?_
    refine WOps.p (G.add rfl rfl (r := (w64 (x44 + 1))) rfl) rfl ?_
    refine WOps.p (G.assign rfl) rfl ?_
    refine WOps.nil ?_
    have S142 := (((S56.front 1 rfl).front 3 rfl).front 3 rfl).front 3 rfl
    change St _ _ _ [[(p0, .cells #[.int .i64 a0.C.Clients, .int .i64 a0.C.Entries, .int .i64 a0.C.Bytes, .int .i64 a0.C.Reserve, .slice A5 l29.length c6, .slice A9 a0.I.length c10] 104 (0, 0))], G34, G11, G42] at S142
    refine WEx.again _ _ (by omega) ?_ ⟨A39, c40, l41, G42, w64 (x44 + 1), rfl, hF, hO43, S142⟩
    exact ⟨rfl, rfl, rfl, rfl, rfl, trivial⟩
 ·
  refine WCode.cond_f (kb (b := decide (x44 < (a0.I.length : Int))) rfl (decide_eq_false h53)) ?_
  refine WCode.exit ?_
  refine WEx.then_exit ?_
  refine WEx.then_exit ?_
  refine WEx.in_exit ?_
  refine WEx.then_ ?_
  refine WCode.forget (l' := [(0, .pointer (some ⟨p0, 0, none⟩)), (6, .slice A39 l41.length c40)]) ⟨rfl, rfl, trivial⟩ ?_
  refine WCode.region ?_
  refine WOps.p (G.move rfl) rfl ?_
  refine WOps.p (G.move rfl) rfl ?_
  refine WOps.p (G.nilp rfl) rfl ?_
  refine WOps.p (G.field T.fld104_2 rfl (show 0 + 5 = 5 from rfl)) rfl ?_
  obtain ⟨w143, E144, S145⟩ := St.store (P := Try.prog) S46 0 102 (.slice A39 l41.length c40) (off := 5) (cur' := #[.int .i64 a0.C.Clients, .int .i64 a0.C.Entries, .int .i64 a0.C.Bytes, .int .i64 a0.C.Reserve, .slice A5 l29.length c6, .slice A39 l41.length c40]) rfl T.size102_1 rfl rfl rfl
  change St _ _ _ [[(p0, .cells #[.int .i64 a0.C.Clients, .int .i64 a0.C.Entries, .int .i64 a0.C.Bytes, .int .i64 a0.C.Reserve, .slice A5 l29.length c6, .slice A39 l41.length c40] 104 (0, 0))], G34, G11, G42] at S145
  refine WOps.u (E144 rfl rfl) ?_
  refine WOps.nil ?_
  obtain rfl := some_eq hF
  refine WEx.end0 rfl ?_
  have S146 := ((S145.front 3 rfl).front 2 rfl).front 2 rfl
  change St _ _ _ [[(p0, .cells #[.int .i64 a0.C.Clients, .int .i64 a0.C.Entries, .int .i64 a0.C.Bytes, .int .i64 a0.C.Reserve, .slice A5 l29.length c6, .slice A39 l41.length c40] 104 (0, 0))], G34, G42, G11] at S146
  have hO147 : ObjO 104 Cache104.rp p0 (⟨a0.C, l29, l41⟩ : Cache104) ([(p0, .cells #[.int .i64 a0.C.Clients, .int .i64 a0.C.Entries, .int .i64 a0.C.Bytes, .int .i64 a0.C.Reserve, .slice A5 l29.length c6, .slice A39 l41.length c40] 104 (0, 0))] ++ (G34 ++ (G42))) := ⟨_, _, ⟨A5, c6, G34, A39, c40, G42, rfl, hO36, hO43, rfl⟩, rfl⟩
  have S148 : St _ _ _ [[(p0, .cells #[.int .i64 a0.C.Clients, .int .i64 a0.C.Entries, .int .i64 a0.C.Bytes, .int .i64 a0.C.Reserve, .slice A5 l29.length c6, .slice A39 l41.length c40] 104 (0, 0))] ++ (G34 ++ (G42)), G11] := S146.objs (by simp)
  exact ⟨[(p0, .cells #[.int .i64 a0.C.Clients, .int .i64 a0.C.Entries, .int .i64 a0.C.Bytes, .int .i64 a0.C.Reserve, .slice A5 l29.length c6, .slice A39 l41.length c40] 104 (0, 0))] ++ (G34 ++ (G42)), rfl, hO147, St.keep (As := [[(p0, .cells #[.int .i64 a0.C.Clients, .int .i64 a0.C.Entries, .int .i64 a0.C.Bytes, .int .i64 a0.C.Reserve, .slice A5 l29.length c6, .slice A39 l41.length c40] 104 (0, 0))] ++ (G34 ++ (G42))]) S148⟩

def rc_New (k : Nat) (a0 : CacheConfig) : Option ((Option Cache104) × Int) := (if a0.Clients < 1 then (some (none, 150)) else (if 64 < a0.Clients then (some (none, 150)) else (if a0.Entries < 1 then (some (none, 150)) else (if 64 < a0.Entries then (some (none, 150)) else (if a0.Reserve < 64 then (some (none, 150)) else (if 1100 < a0.Reserve then (some (none, 150)) else (if a0.Bytes < a0.Reserve then (some (none, 150)) else (if 1048576 < a0.Bytes then (some (none, 150)) else (some (some (⟨a0, [], []⟩ : Cache104), 0))))))))))
set_option maxRecDepth 100000 in
set_option maxHeartbeats 1000000 in
theorem rc_New_calls (k : Nat) (a0 : CacheConfig) {w : World} {r_ : (Option Cache104) × Int} (h_ : rc_New k a0 = some r_) :
    Calls Try.prog 23 [.agg #[.int .i64 a0.Clients, .int .i64 a0.Entries, .int .i64 a0.Bytes, .int .i64 a0.Reserve]].toArray w fun e w' => ∃ v0' : Value, ∃ G0' : Grp, e = .returned (.tuple #[v0', .int .i64 r_.2]) ∧ OptO 104 Cache104.rp v0' (r_.1) G0' ∧ St w (KS []) w' [G0'] := by
 have hF := h_
 clear h_
 unfold rc_New at hF
 have S := St.ofFalse (As := []) (St.init0 w)
 refine enter 47 [(0, .agg #[.int .i64 a0.Clients, .int .i64 a0.Entries, .int .i64 a0.Bytes, .int .i64 a0.Reserve])] Try.func23 rfl rfl rfl rfl ?_
 refine WCode.seq ?_
 refine WCode.region ?_
 obtain ⟨b1, w2, E3, S4, X5, L6⟩ := St.box S Try.prog 26 (.agg #[.int .i64 a0.Clients, .int .i64 a0.Entries, .int .i64 a0.Bytes, .int .i64 a0.Reserve])
 change St _ _ _ [[(b1, .cells #[.int .i64 a0.Clients, .int .i64 a0.Entries, .int .i64 a0.Bytes, .int .i64 a0.Reserve] 26 (0, 0))]] at S4
 refine WOps.e (E3 rfl) rfl ?_
 refine WOps.p (G.assign rfl) rfl ?_
 refine WOps.p (G.assign rfl) rfl ?_
 refine WOps.nil ?_
 refine WEx.then_ ?_
 refine WCode.seq ?_
 refine WCode.seq ?_
 refine WCode.region ?_
 refine WOps.p (G.field T.fld26_0 rfl (show 0 + 0 = 0 from rfl)) rfl ?_
 refine WOps.r (G.load1 T.one3 rfl (cell_blk (S4.blk 0 rfl) rfl)) rfl ?_
 refine WOps.p (G.lss rfl rfl rfl) rfl ?_
 refine WOps.p (G.move rfl) rfl ?_
 rcases ite_some hF with ⟨h7, hF⟩ | ⟨h7, hF⟩
 ·
  refine WOps.off rfl (kbl (b := decide (a0.Clients < 1)) rfl (decide_eq_true h7)) rfl rfl ?_
  refine WOps.off rfl (kbl (b := decide (a0.Clients < 1)) rfl (decide_eq_true h7)) rfl rfl ?_
  refine WOps.off rfl (kbl (b := decide (a0.Clients < 1)) rfl (decide_eq_true h7)) rfl rfl ?_
  refine WOps.p (G.pick_t (kb (b := decide (a0.Clients < 1)) rfl (decide_eq_true h7)) rfl) rfl ?_
  refine WOps.p (G.move rfl) rfl ?_
  refine WOps.off rfl rfl rfl rfl ?_
  refine WOps.off rfl rfl rfl rfl ?_
  refine WOps.off rfl rfl rfl rfl ?_
  refine WOps.p (G.pick_t rfl rfl) rfl ?_
  refine WOps.p (G.move rfl) rfl ?_
  refine WOps.off rfl rfl rfl rfl ?_
  refine WOps.off rfl rfl rfl rfl ?_
  refine WOps.off rfl rfl rfl rfl ?_
  refine WOps.p (G.pick_t rfl rfl) rfl ?_
  refine WOps.p (G.move rfl) rfl ?_
  refine WOps.off rfl rfl rfl rfl ?_
  refine WOps.off rfl rfl rfl rfl ?_
  refine WOps.off rfl rfl rfl rfl ?_
  refine WOps.p (G.pick_t rfl rfl) rfl ?_
  refine WOps.p (G.move rfl) rfl ?_
  refine WOps.off rfl rfl rfl rfl ?_
  refine WOps.off rfl rfl rfl rfl ?_
  refine WOps.off rfl rfl rfl rfl ?_
  refine WOps.p (G.pick_t rfl rfl) rfl ?_
  refine WOps.p (G.move rfl) rfl ?_
  refine WOps.off rfl rfl rfl rfl ?_
  refine WOps.off rfl rfl rfl rfl ?_
  refine WOps.off rfl rfl rfl rfl ?_
  refine WOps.off rfl rfl rfl rfl ?_
  refine WOps.off rfl rfl rfl rfl ?_
  refine WOps.p (G.pick_t rfl rfl) rfl ?_
  refine WOps.p (G.move rfl) rfl ?_
  refine WOps.off rfl rfl rfl rfl ?_
  refine WOps.off rfl rfl rfl rfl ?_
  refine WOps.off rfl rfl rfl rfl ?_
  refine WOps.p (G.pick_t rfl rfl) rfl ?_
  refine WOps.nil ?_
  refine WEx.then_ ?_
  refine WCode.forget (l' := [(1, .pointer (some ⟨b1, 0, none⟩)), (43, .bool true)]) ⟨rfl, rfl, trivial⟩ ?_
  refine WCode.cond_t rfl ?_
  refine WCode.seq ?_
  refine WCode.region ?_
  refine WOps.p (G.assign rfl) rfl ?_
  refine WOps.p (G.assign rfl) rfl ?_
  refine WOps.nil ?_
  refine WEx.then_ ?_
  refine WCode.ret ?_
  refine WEx.then_ret ?_
  obtain rfl := some_eq hF
  refine WEx.ret2 rfl rfl rfl ?_
  have S8 := S4.emp
  exact ⟨.pointer none, ([] : Grp), rfl, ⟨rfl, rfl⟩, St.keep (As := [([] : Grp)]) S8⟩
 ·
  refine WOps.on rfl (kbl (b := decide (a0.Clients < 1)) rfl (decide_eq_false h7)) ?_
  refine WOps.p (G.field T.fld26_0 rfl (show 0 + 0 = 0 from rfl)) rfl ?_
  refine WOps.on rfl (kbl (b := decide (a0.Clients < 1)) rfl (decide_eq_false h7)) ?_
  refine WOps.r (G.load1 T.one3 rfl (cell_blk (S4.blk 0 rfl) rfl)) rfl ?_
  refine WOps.on rfl (kbl (b := decide (a0.Clients < 1)) rfl (decide_eq_false h7)) ?_
  refine WOps.p (G.gtr rfl rfl rfl) rfl ?_
  refine WOps.p (G.pick_f (kb (b := decide (a0.Clients < 1)) rfl (decide_eq_false h7)) rfl) rfl ?_
  refine WOps.p (G.move rfl) rfl ?_
  rcases ite_some hF with ⟨h9, hF⟩ | ⟨h9, hF⟩
  ·
   refine WOps.off rfl (kbl (b := decide (64 < a0.Clients)) rfl (decide_eq_true h9)) rfl rfl ?_
   refine WOps.off rfl (kbl (b := decide (64 < a0.Clients)) rfl (decide_eq_true h9)) rfl rfl ?_
   refine WOps.off rfl (kbl (b := decide (64 < a0.Clients)) rfl (decide_eq_true h9)) rfl rfl ?_
   refine WOps.p (G.pick_t (kb (b := decide (64 < a0.Clients)) rfl (decide_eq_true h9)) rfl) rfl ?_
   refine WOps.p (G.move rfl) rfl ?_
   refine WOps.off rfl rfl rfl rfl ?_
   refine WOps.off rfl rfl rfl rfl ?_
   refine WOps.off rfl rfl rfl rfl ?_
   refine WOps.p (G.pick_t rfl rfl) rfl ?_
   refine WOps.p (G.move rfl) rfl ?_
   refine WOps.off rfl rfl rfl rfl ?_
   refine WOps.off rfl rfl rfl rfl ?_
   refine WOps.off rfl rfl rfl rfl ?_
   refine WOps.p (G.pick_t rfl rfl) rfl ?_
   refine WOps.p (G.move rfl) rfl ?_
   refine WOps.off rfl rfl rfl rfl ?_
   refine WOps.off rfl rfl rfl rfl ?_
   refine WOps.off rfl rfl rfl rfl ?_
   refine WOps.p (G.pick_t rfl rfl) rfl ?_
   refine WOps.p (G.move rfl) rfl ?_
   refine WOps.off rfl rfl rfl rfl ?_
   refine WOps.off rfl rfl rfl rfl ?_
   refine WOps.off rfl rfl rfl rfl ?_
   refine WOps.off rfl rfl rfl rfl ?_
   refine WOps.off rfl rfl rfl rfl ?_
   refine WOps.p (G.pick_t rfl rfl) rfl ?_
   refine WOps.p (G.move rfl) rfl ?_
   refine WOps.off rfl rfl rfl rfl ?_
   refine WOps.off rfl rfl rfl rfl ?_
   refine WOps.off rfl rfl rfl rfl ?_
   refine WOps.p (G.pick_t rfl rfl) rfl ?_
   refine WOps.nil ?_
   refine WEx.then_ ?_
   refine WCode.forget (l' := [(1, .pointer (some ⟨b1, 0, none⟩)), (43, .bool true)]) ⟨rfl, rfl, trivial⟩ ?_
   refine WCode.cond_t rfl ?_
   refine WCode.seq ?_
   refine WCode.region ?_
   refine WOps.p (G.assign rfl) rfl ?_
   refine WOps.p (G.assign rfl) rfl ?_
   refine WOps.nil ?_
   refine WEx.then_ ?_
   refine WCode.ret ?_
   refine WEx.then_ret ?_
   obtain rfl := some_eq hF
   refine WEx.ret2 rfl rfl rfl ?_
   have S10 := S4.emp
   exact ⟨.pointer none, ([] : Grp), rfl, ⟨rfl, rfl⟩, St.keep (As := [([] : Grp)]) S10⟩
  ·
   refine WOps.on rfl (kbl (b := decide (64 < a0.Clients)) rfl (decide_eq_false h9)) ?_
   refine WOps.p (G.field T.fld26_1 rfl (show 0 + 1 = 1 from rfl)) rfl ?_
   refine WOps.on rfl (kbl (b := decide (64 < a0.Clients)) rfl (decide_eq_false h9)) ?_
   refine WOps.r (G.load1 T.one3 rfl (cell_blk (S4.blk 0 rfl) rfl)) rfl ?_
   refine WOps.on rfl (kbl (b := decide (64 < a0.Clients)) rfl (decide_eq_false h9)) ?_
   refine WOps.p (G.lss rfl rfl rfl) rfl ?_
   refine WOps.p (G.pick_f (kb (b := decide (64 < a0.Clients)) rfl (decide_eq_false h9)) rfl) rfl ?_
   refine WOps.p (G.move rfl) rfl ?_
   rcases ite_some hF with ⟨h11, hF⟩ | ⟨h11, hF⟩
   ·
    refine WOps.off rfl (kbl (b := decide (a0.Entries < 1)) rfl (decide_eq_true h11)) rfl rfl ?_
    refine WOps.off rfl (kbl (b := decide (a0.Entries < 1)) rfl (decide_eq_true h11)) rfl rfl ?_
    refine WOps.off rfl (kbl (b := decide (a0.Entries < 1)) rfl (decide_eq_true h11)) rfl rfl ?_
    refine WOps.p (G.pick_t (kb (b := decide (a0.Entries < 1)) rfl (decide_eq_true h11)) rfl) rfl ?_
    refine WOps.p (G.move rfl) rfl ?_
    refine WOps.off rfl rfl rfl rfl ?_
    refine WOps.off rfl rfl rfl rfl ?_
    refine WOps.off rfl rfl rfl rfl ?_
    refine WOps.p (G.pick_t rfl rfl) rfl ?_
    refine WOps.p (G.move rfl) rfl ?_
    refine WOps.off rfl rfl rfl rfl ?_
    refine WOps.off rfl rfl rfl rfl ?_
    refine WOps.off rfl rfl rfl rfl ?_
    refine WOps.p (G.pick_t rfl rfl) rfl ?_
    refine WOps.p (G.move rfl) rfl ?_
    refine WOps.off rfl rfl rfl rfl ?_
    refine WOps.off rfl rfl rfl rfl ?_
    refine WOps.off rfl rfl rfl rfl ?_
    refine WOps.off rfl rfl rfl rfl ?_
    refine WOps.off rfl rfl rfl rfl ?_
    refine WOps.p (G.pick_t rfl rfl) rfl ?_
    refine WOps.p (G.move rfl) rfl ?_
    refine WOps.off rfl rfl rfl rfl ?_
    refine WOps.off rfl rfl rfl rfl ?_
    refine WOps.off rfl rfl rfl rfl ?_
    refine WOps.p (G.pick_t rfl rfl) rfl ?_
    refine WOps.nil ?_
    refine WEx.then_ ?_
    refine WCode.forget (l' := [(1, .pointer (some ⟨b1, 0, none⟩)), (43, .bool true)]) ⟨rfl, rfl, trivial⟩ ?_
    refine WCode.cond_t rfl ?_
    refine WCode.seq ?_
    refine WCode.region ?_
    refine WOps.p (G.assign rfl) rfl ?_
    refine WOps.p (G.assign rfl) rfl ?_
    refine WOps.nil ?_
    refine WEx.then_ ?_
    refine WCode.ret ?_
    refine WEx.then_ret ?_
    obtain rfl := some_eq hF
    refine WEx.ret2 rfl rfl rfl ?_
    have S12 := S4.emp
    exact ⟨.pointer none, ([] : Grp), rfl, ⟨rfl, rfl⟩, St.keep (As := [([] : Grp)]) S12⟩
   ·
    refine WOps.on rfl (kbl (b := decide (a0.Entries < 1)) rfl (decide_eq_false h11)) ?_
    refine WOps.p (G.field T.fld26_1 rfl (show 0 + 1 = 1 from rfl)) rfl ?_
    refine WOps.on rfl (kbl (b := decide (a0.Entries < 1)) rfl (decide_eq_false h11)) ?_
    refine WOps.r (G.load1 T.one3 rfl (cell_blk (S4.blk 0 rfl) rfl)) rfl ?_
    refine WOps.on rfl (kbl (b := decide (a0.Entries < 1)) rfl (decide_eq_false h11)) ?_
    refine WOps.p (G.gtr rfl rfl rfl) rfl ?_
    refine WOps.p (G.pick_f (kb (b := decide (a0.Entries < 1)) rfl (decide_eq_false h11)) rfl) rfl ?_
    refine WOps.p (G.move rfl) rfl ?_
    rcases ite_some hF with ⟨h13, hF⟩ | ⟨h13, hF⟩
    ·
     refine WOps.off rfl (kbl (b := decide (64 < a0.Entries)) rfl (decide_eq_true h13)) rfl rfl ?_
     refine WOps.off rfl (kbl (b := decide (64 < a0.Entries)) rfl (decide_eq_true h13)) rfl rfl ?_
     refine WOps.off rfl (kbl (b := decide (64 < a0.Entries)) rfl (decide_eq_true h13)) rfl rfl ?_
     refine WOps.p (G.pick_t (kb (b := decide (64 < a0.Entries)) rfl (decide_eq_true h13)) rfl) rfl ?_
     refine WOps.p (G.move rfl) rfl ?_
     refine WOps.off rfl rfl rfl rfl ?_
     refine WOps.off rfl rfl rfl rfl ?_
     refine WOps.off rfl rfl rfl rfl ?_
     refine WOps.p (G.pick_t rfl rfl) rfl ?_
     refine WOps.p (G.move rfl) rfl ?_
     refine WOps.off rfl rfl rfl rfl ?_
     refine WOps.off rfl rfl rfl rfl ?_
     refine WOps.off rfl rfl rfl rfl ?_
     refine WOps.off rfl rfl rfl rfl ?_
     refine WOps.off rfl rfl rfl rfl ?_
     refine WOps.p (G.pick_t rfl rfl) rfl ?_
     refine WOps.p (G.move rfl) rfl ?_
     refine WOps.off rfl rfl rfl rfl ?_
     refine WOps.off rfl rfl rfl rfl ?_
     refine WOps.off rfl rfl rfl rfl ?_
     refine WOps.p (G.pick_t rfl rfl) rfl ?_
     refine WOps.nil ?_
     refine WEx.then_ ?_
     refine WCode.forget (l' := [(1, .pointer (some ⟨b1, 0, none⟩)), (43, .bool true)]) ⟨rfl, rfl, trivial⟩ ?_
     refine WCode.cond_t rfl ?_
     refine WCode.seq ?_
     refine WCode.region ?_
     refine WOps.p (G.assign rfl) rfl ?_
     refine WOps.p (G.assign rfl) rfl ?_
     refine WOps.nil ?_
     refine WEx.then_ ?_
     refine WCode.ret ?_
     refine WEx.then_ret ?_
     obtain rfl := some_eq hF
     refine WEx.ret2 rfl rfl rfl ?_
     have S14 := S4.emp
     exact ⟨.pointer none, ([] : Grp), rfl, ⟨rfl, rfl⟩, St.keep (As := [([] : Grp)]) S14⟩
    ·
     refine WOps.on rfl (kbl (b := decide (64 < a0.Entries)) rfl (decide_eq_false h13)) ?_
     refine WOps.p (G.field T.fld26_3 rfl (show 0 + 3 = 3 from rfl)) rfl ?_
     refine WOps.on rfl (kbl (b := decide (64 < a0.Entries)) rfl (decide_eq_false h13)) ?_
     refine WOps.r (G.load1 T.one3 rfl (cell_blk (S4.blk 0 rfl) rfl)) rfl ?_
     refine WOps.on rfl (kbl (b := decide (64 < a0.Entries)) rfl (decide_eq_false h13)) ?_
     refine WOps.p (G.lss rfl rfl rfl) rfl ?_
     refine WOps.p (G.pick_f (kb (b := decide (64 < a0.Entries)) rfl (decide_eq_false h13)) rfl) rfl ?_
     refine WOps.p (G.move rfl) rfl ?_
     rcases ite_some hF with ⟨h15, hF⟩ | ⟨h15, hF⟩
     ·
      refine WOps.off rfl (kbl (b := decide (a0.Reserve < 64)) rfl (decide_eq_true h15)) rfl rfl ?_
      refine WOps.off rfl (kbl (b := decide (a0.Reserve < 64)) rfl (decide_eq_true h15)) rfl rfl ?_
      refine WOps.off rfl (kbl (b := decide (a0.Reserve < 64)) rfl (decide_eq_true h15)) rfl rfl ?_
      refine WOps.p (G.pick_t (kb (b := decide (a0.Reserve < 64)) rfl (decide_eq_true h15)) rfl) rfl ?_
      refine WOps.p (G.move rfl) rfl ?_
      refine WOps.off rfl rfl rfl rfl ?_
      refine WOps.off rfl rfl rfl rfl ?_
      refine WOps.off rfl rfl rfl rfl ?_
      refine WOps.off rfl rfl rfl rfl ?_
      refine WOps.off rfl rfl rfl rfl ?_
      refine WOps.p (G.pick_t rfl rfl) rfl ?_
      refine WOps.p (G.move rfl) rfl ?_
      refine WOps.off rfl rfl rfl rfl ?_
      refine WOps.off rfl rfl rfl rfl ?_
      refine WOps.off rfl rfl rfl rfl ?_
      refine WOps.p (G.pick_t rfl rfl) rfl ?_
      refine WOps.nil ?_
      refine WEx.then_ ?_
      refine WCode.forget (l' := [(1, .pointer (some ⟨b1, 0, none⟩)), (43, .bool true)]) ⟨rfl, rfl, trivial⟩ ?_
      refine WCode.cond_t rfl ?_
      refine WCode.seq ?_
      refine WCode.region ?_
      refine WOps.p (G.assign rfl) rfl ?_
      refine WOps.p (G.assign rfl) rfl ?_
      refine WOps.nil ?_
      refine WEx.then_ ?_
      refine WCode.ret ?_
      refine WEx.then_ret ?_
      obtain rfl := some_eq hF
      refine WEx.ret2 rfl rfl rfl ?_
      have S16 := S4.emp
      exact ⟨.pointer none, ([] : Grp), rfl, ⟨rfl, rfl⟩, St.keep (As := [([] : Grp)]) S16⟩
     ·
      refine WOps.on rfl (kbl (b := decide (a0.Reserve < 64)) rfl (decide_eq_false h15)) ?_
      refine WOps.p (G.field T.fld26_3 rfl (show 0 + 3 = 3 from rfl)) rfl ?_
      refine WOps.on rfl (kbl (b := decide (a0.Reserve < 64)) rfl (decide_eq_false h15)) ?_
      refine WOps.r (G.load1 T.one3 rfl (cell_blk (S4.blk 0 rfl) rfl)) rfl ?_
      refine WOps.on rfl (kbl (b := decide (a0.Reserve < 64)) rfl (decide_eq_false h15)) ?_
      refine WOps.p (G.gtr rfl rfl rfl) rfl ?_
      refine WOps.p (G.pick_f (kb (b := decide (a0.Reserve < 64)) rfl (decide_eq_false h15)) rfl) rfl ?_
      refine WOps.p (G.move rfl) rfl ?_
      rcases ite_some hF with ⟨h17, hF⟩ | ⟨h17, hF⟩
      ·
       refine WOps.off rfl (kbl (b := decide (1100 < a0.Reserve)) rfl (decide_eq_true h17)) rfl rfl ?_
       refine WOps.off rfl (kbl (b := decide (1100 < a0.Reserve)) rfl (decide_eq_true h17)) rfl rfl ?_
       refine WOps.off rfl (kbl (b := decide (1100 < a0.Reserve)) rfl (decide_eq_true h17)) rfl rfl ?_
       refine WOps.off rfl (kbl (b := decide (1100 < a0.Reserve)) rfl (decide_eq_true h17)) rfl rfl ?_
       refine WOps.off rfl (kbl (b := decide (1100 < a0.Reserve)) rfl (decide_eq_true h17)) rfl rfl ?_
       refine WOps.p (G.pick_t (kb (b := decide (1100 < a0.Reserve)) rfl (decide_eq_true h17)) rfl) rfl ?_
       refine WOps.p (G.move rfl) rfl ?_
       refine WOps.off rfl rfl rfl rfl ?_
       refine WOps.off rfl rfl rfl rfl ?_
       refine WOps.off rfl rfl rfl rfl ?_
       refine WOps.p (G.pick_t rfl rfl) rfl ?_
       refine WOps.nil ?_
       refine WEx.then_ ?_
       refine WCode.forget (l' := [(1, .pointer (some ⟨b1, 0, none⟩)), (43, .bool true)]) ⟨rfl, rfl, trivial⟩ ?_
       refine WCode.cond_t rfl ?_
       refine WCode.seq ?_
       refine WCode.region ?_
       refine WOps.p (G.assign rfl) rfl ?_
       refine WOps.p (G.assign rfl) rfl ?_
       refine WOps.nil ?_
       refine WEx.then_ ?_
       refine WCode.ret ?_
       refine WEx.then_ret ?_
       obtain rfl := some_eq hF
       refine WEx.ret2 rfl rfl rfl ?_
       have S18 := S4.emp
       exact ⟨.pointer none, ([] : Grp), rfl, ⟨rfl, rfl⟩, St.keep (As := [([] : Grp)]) S18⟩
      ·
       refine WOps.on rfl (kbl (b := decide (1100 < a0.Reserve)) rfl (decide_eq_false h17)) ?_
       refine WOps.p (G.field T.fld26_2 rfl (show 0 + 2 = 2 from rfl)) rfl ?_
       refine WOps.on rfl (kbl (b := decide (1100 < a0.Reserve)) rfl (decide_eq_false h17)) ?_
       refine WOps.r (G.load1 T.one3 rfl (cell_blk (S4.blk 0 rfl) rfl)) rfl ?_
       refine WOps.on rfl (kbl (b := decide (1100 < a0.Reserve)) rfl (decide_eq_false h17)) ?_
       refine WOps.p (G.field T.fld26_3 rfl (show 0 + 3 = 3 from rfl)) rfl ?_
       refine WOps.on rfl (kbl (b := decide (1100 < a0.Reserve)) rfl (decide_eq_false h17)) ?_
       refine WOps.r (G.load1 T.one3 rfl (cell_blk (S4.blk 0 rfl) rfl)) rfl ?_
       refine WOps.on rfl (kbl (b := decide (1100 < a0.Reserve)) rfl (decide_eq_false h17)) ?_
       refine WOps.p (G.lss rfl rfl rfl) rfl ?_
       refine WOps.p (G.pick_f (kb (b := decide (1100 < a0.Reserve)) rfl (decide_eq_false h17)) rfl) rfl ?_
       refine WOps.p (G.move rfl) rfl ?_
       rcases ite_some hF with ⟨h19, hF⟩ | ⟨h19, hF⟩
       ·
        refine WOps.off rfl (kbl (b := decide (a0.Bytes < a0.Reserve)) rfl (decide_eq_true h19)) rfl rfl ?_
        refine WOps.off rfl (kbl (b := decide (a0.Bytes < a0.Reserve)) rfl (decide_eq_true h19)) rfl rfl ?_
        refine WOps.off rfl (kbl (b := decide (a0.Bytes < a0.Reserve)) rfl (decide_eq_true h19)) rfl rfl ?_
        refine WOps.p (G.pick_t (kb (b := decide (a0.Bytes < a0.Reserve)) rfl (decide_eq_true h19)) rfl) rfl ?_
        refine WOps.nil ?_
        refine WEx.then_ ?_
        refine WCode.forget (l' := [(1, .pointer (some ⟨b1, 0, none⟩)), (43, .bool true)]) ⟨rfl, rfl, trivial⟩ ?_
        refine WCode.cond_t rfl ?_
        refine WCode.seq ?_
        refine WCode.region ?_
        refine WOps.p (G.assign rfl) rfl ?_
        refine WOps.p (G.assign rfl) rfl ?_
        refine WOps.nil ?_
        refine WEx.then_ ?_
        refine WCode.ret ?_
        refine WEx.then_ret ?_
        obtain rfl := some_eq hF
        refine WEx.ret2 rfl rfl rfl ?_
        have S20 := S4.emp
        exact ⟨.pointer none, ([] : Grp), rfl, ⟨rfl, rfl⟩, St.keep (As := [([] : Grp)]) S20⟩
       ·
        refine WOps.on rfl (kbl (b := decide (a0.Bytes < a0.Reserve)) rfl (decide_eq_false h19)) ?_
        refine WOps.p (G.field T.fld26_2 rfl (show 0 + 2 = 2 from rfl)) rfl ?_
        refine WOps.on rfl (kbl (b := decide (a0.Bytes < a0.Reserve)) rfl (decide_eq_false h19)) ?_
        refine WOps.r (G.load1 T.one3 rfl (cell_blk (S4.blk 0 rfl) rfl)) rfl ?_
        refine WOps.on rfl (kbl (b := decide (a0.Bytes < a0.Reserve)) rfl (decide_eq_false h19)) ?_
        refine WOps.p (G.gtr rfl rfl rfl) rfl ?_
        refine WOps.p (G.pick_f (kb (b := decide (a0.Bytes < a0.Reserve)) rfl (decide_eq_false h19)) rfl) rfl ?_
        refine WOps.nil ?_
        refine WEx.then_ ?_
        refine WCode.forget (l' := [(1, .pointer (some ⟨b1, 0, none⟩)), (43, .bool (decide (1048576 < a0.Bytes)))]) ⟨rfl, rfl, trivial⟩ ?_
        rcases ite_some hF with ⟨h21, hF⟩ | ⟨h21, hF⟩
        ·
         refine WCode.cond_t (kb (b := decide (1048576 < a0.Bytes)) rfl (decide_eq_true h21)) ?_
         refine WCode.seq ?_
         refine WCode.region ?_
         refine WOps.p (G.assign rfl) rfl ?_
         refine WOps.p (G.assign rfl) rfl ?_
         refine WOps.nil ?_
         refine WEx.then_ ?_
         refine WCode.ret ?_
         refine WEx.then_ret ?_
         obtain rfl := some_eq hF
         refine WEx.ret2 rfl rfl rfl ?_
         have S22 := S4.emp
         exact ⟨.pointer none, ([] : Grp), rfl, ⟨rfl, rfl⟩, St.keep (As := [([] : Grp)]) S22⟩
        ·
         refine WCode.cond_f (kb (b := decide (1048576 < a0.Bytes)) rfl (decide_eq_false h21)) ?_
         refine WCode.skip ?_
         refine WEx.then_ ?_
         refine WCode.seq ?_
         refine WCode.region ?_
         refine WOps.r (G.loada T.agg26_4 rfl (cs := [.int .i64 a0.Clients, .int .i64 a0.Entries, .int .i64 a0.Bytes, .int .i64 a0.Reserve]) (cellsAt.of_blk (S4.blk 0 rfl) rfl)) rfl ?_
         refine WOps.p (G.build (cells := #[.int .i64 a0.Clients, .int .i64 a0.Entries, .int .i64 a0.Bytes, .int .i64 a0.Reserve, .slice none 0 0, .slice none 0 0]) (evp_spec (evp_cons rfl evp_nil)) (by kernel_rfl)) rfl ?_
         obtain ⟨b23, w24, E25, S26, X27, L28⟩ := St.box S4 Try.prog 104 (.agg #[.int .i64 a0.Clients, .int .i64 a0.Entries, .int .i64 a0.Bytes, .int .i64 a0.Reserve, .slice none 0 0, .slice none 0 0])
         change St _ _ _ [[(b23, .cells #[.int .i64 a0.Clients, .int .i64 a0.Entries, .int .i64 a0.Bytes, .int .i64 a0.Reserve, .slice none 0 0, .slice none 0 0] 104 (0, 0))], [(b1, .cells #[.int .i64 a0.Clients, .int .i64 a0.Entries, .int .i64 a0.Bytes, .int .i64 a0.Reserve] 26 (0, 0))]] at S26
         refine WOps.e (E25 rfl) rfl ?_
         refine WOps.p (G.assign rfl) rfl ?_
         refine WOps.p (G.assign rfl) rfl ?_
         refine WOps.nil ?_
         refine WEx.then_ ?_
         refine WCode.ret ?_
         obtain rfl := some_eq hF
         refine WEx.ret2 rfl rfl rfl ?_
         have S29 := S26.emp
         have S31 := S29.emp
         have S33 := (S31.front 1 rfl).front 2 rfl
         change St _ _ _ [[(b23, .cells #[.int .i64 a0.Clients, .int .i64 a0.Entries, .int .i64 a0.Bytes, .int .i64 a0.Reserve, .slice none 0 0, .slice none 0 0] 104 (0, 0))], ([] : Grp), ([] : Grp), [(b1, .cells #[.int .i64 a0.Clients, .int .i64 a0.Entries, .int .i64 a0.Bytes, .int .i64 a0.Reserve] 26 (0, 0))]] at S33
         have hO34 : ObjO 104 Cache104.rp b23 (⟨a0, [], []⟩ : Cache104) ([(b23, .cells #[.int .i64 a0.Clients, .int .i64 a0.Entries, .int .i64 a0.Bytes, .int .i64 a0.Reserve, .slice none 0 0, .slice none 0 0] 104 (0, 0))] ++ (([] : Grp) ++ (([] : Grp)))) := ⟨_, _, ⟨none, 0, ([] : Grp), none, 0, ([] : Grp), rfl, (SlO.nil 123 Known123.rp), (SlO.nil 127 Item.rp), rfl⟩, rfl⟩
         have S35 : St _ _ _ [[(b23, .cells #[.int .i64 a0.Clients, .int .i64 a0.Entries, .int .i64 a0.Bytes, .int .i64 a0.Reserve, .slice none 0 0, .slice none 0 0] 104 (0, 0))] ++ (([] : Grp) ++ (([] : Grp))), [(b1, .cells #[.int .i64 a0.Clients, .int .i64 a0.Entries, .int .i64 a0.Bytes, .int .i64 a0.Reserve] 26 (0, 0))]] := S33.objs (by simp)
         exact ⟨(.pointer (some ⟨b23, 0, none⟩)), [(b23, .cells #[.int .i64 a0.Clients, .int .i64 a0.Entries, .int .i64 a0.Bytes, .int .i64 a0.Reserve, .slice none 0 0, .slice none 0 0] 104 (0, 0))] ++ (([] : Grp) ++ (([] : Grp))), rfl, ⟨_, rfl, hO34⟩, St.keep (As := [[(b23, .cells #[.int .i64 a0.Clients, .int .i64 a0.Entries, .int .i64 a0.Bytes, .int .i64 a0.Reserve, .slice none 0 0, .slice none 0 0] 104 (0, 0))] ++ (([] : Grp) ++ (([] : Grp)))]) S35⟩

def rc_Bytes.l1 : Nat → Cache104 → Int → Int → Option Int
  | 0, _, _, _ => none
  | k16 + 1, a0, x12, x13 => (if x13 < (a0.I.length : Int) then (Option.bind (idx a0.I x13) fun x20 => (if x20.Answered = true then (Option.bind (idx a0.I x13) fun x35 => (rc_Bytes.l1 k16 a0 (w64 (x12 + (x35.Reply.length : Int))) (w64 (x13 + 1)))) else (rc_Bytes.l1 k16 a0 (w64 (x12 + a0.C.Reserve)) (w64 (x13 + 1))))) else (some x12))
def rc_Bytes (k : Nat) (a0 : Cache104) : Option Int := (rc_Bytes.l1 k a0 0 0)
set_option maxRecDepth 100000 in
set_option maxHeartbeats 1000000 in
theorem rc_Bytes_calls (k : Nat) (a0 : Cache104) {p0 : Nat} {F0 : Nat → Prop} {w : World} (hP0 : PtR 104 Cache104.rp w F0 p0 a0) (hF0 : ∀ b, F0 b → NK w [] b) {r_ : Int} (h_ : rc_Bytes k a0 = some r_) :
    Calls Try.prog 46 [.pointer (some ⟨p0, 0, none⟩)].toArray w fun e w' => e = .returned (.int .i64 r_) ∧ St w (KS []) w' [] := by
 have hF := h_
 clear h_
 unfold rc_Bytes at hF
 have S := St.ofFalse (As := []) (St.init0 w)
 have hPq5 := hP0
 obtain ⟨cs1, hB2, hf3, A6, c7, A9, c10, hq4, hR8, hR11⟩ := hPq5
 subst hq4
 change _ = some (Obj.cells #[.int .i64 a0.C.Clients, .int .i64 a0.C.Entries, .int .i64 a0.C.Bytes, .int .i64 a0.C.Reserve, .slice A6 a0.L.length c7, .slice A9 a0.I.length c10] 104 (0, 0)) at hB2
 refine enter 41 [(0, .pointer (some ⟨p0, 0, none⟩))] Try.func46 rfl rfl rfl rfl ?_
 refine WCode.seq ?_
 refine WCode.region ?_
 refine WOps.p (G.assign rfl) rfl ?_
 refine WOps.nil ?_
 refine WEx.then_ ?_
 refine WCode.seq ?_
 refine WCode.region ?_
 refine WOps.p (G.assign rfl) rfl ?_
 refine WOps.nil ?_
 refine WEx.then_ ?_
 refine WCode.seq ?_
 refine WCode.seq ?_
 refine WCode.region ?_
 refine WOps.p (G.assign rfl) rfl ?_
 refine WOps.nil ?_
 refine WEx.then_ ?_
 refine WCode.block ?_
 refine WCode.forget (l' := [(0, .pointer (some ⟨p0, 0, none⟩)), (3, .int .i64 0), (4, .int .i64 0)]) ⟨rfl, rfl, rfl, trivial⟩ ?_
 refine WCode.loop (fun n_ l_ w_ => ∃ x12 : Int, ∃ x13 : Int, l_ = [(0, .pointer (some ⟨p0, 0, none⟩)), (3, .int .i64 x12), (4, .int .i64 x13)] ∧ rc_Bytes.l1 n_ a0 x12 x13 = some r_ ∧ St w (KS []) w_ []) k ⟨0, 0, rfl, hF, S⟩ ?_
 rintro n17 _ w14 ⟨x12, x13, rfl, hF, S15⟩
 obtain _ | k16 := n17
 · exact nomatch (show (none : Option Int) = some r_ from hF)
 rw [rc_Bytes.l1] at hF
 refine WCode.seq ?_
 refine WCode.seq ?_
 refine WCode.region ?_
 refine WOps.p (G.move rfl) rfl ?_
 refine WOps.p (G.move rfl) rfl ?_
 refine WOps.p (G.nilp rfl) rfl ?_
 refine WOps.p (G.field T.fld104_2 rfl (show 0 + 5 = 5 from rfl)) rfl ?_
 refine WOps.r (G.load1 T.one102 rfl (cell_blk ((S15.fr p0 (lt_of_blk hB2) (hF0 p0 hf3).1).trans hB2) rfl)) rfl ?_
 refine WOps.p (G.len T.el102 rfl) rfl ?_
 refine WOps.p (G.lss rfl rfl rfl) rfl ?_
 refine WOps.nil ?_
 refine WEx.then_ ?_
 rcases ite_some hF with ⟨h19, hF⟩ | ⟨h19, hF⟩
 ·
  refine WCode.cond_t (kb (b := decide (x13 < (a0.I.length : Int))) rfl (decide_eq_true h19)) ?_
  refine WCode.skip ?_
  refine WEx.then_ ?_
  refine WCode.seq ?_
  refine WCode.block ?_
  refine WCode.seq ?_
  refine WCode.region ?_
  refine WOps.p (G.move rfl) rfl ?_
  refine WOps.p (G.nilp rfl) rfl ?_
  refine WOps.p (G.field T.fld104_2 rfl (show 0 + 5 = 5 from rfl)) rfl ?_
  refine WOps.r (G.load1 T.one102 rfl (cell_blk ((S15.fr p0 (lt_of_blk hB2) (hF0 p0 hf3).1).trans hB2) rfl)) rfl ?_
  refine WOps.p (G.move rfl) rfl ?_
  obtain ⟨x20, hc21, hF⟩ := bind_some hF
  obtain ⟨j22, ej23, hj24, hl25⟩ := idx_spec hc21
  obtain ⟨b26, o27, cs28, eA29, hf30, hc31, hr32⟩ := SlR.at_ (hR11.ext (S15.keepF hF0)) hj24
  have hq33 : cs28 = [.int .i64 x20.Who.Address, .int .i64 x20.Who.Instance, .int .i64 x20.Sequence, .bool x20.Answered, .string (bs x20.Reply)] := hr32
  subst hq33
  change cellsAt _ _ (o27 + j22 * 5) [.int .i64 x20.Who.Address, .int .i64 x20.Who.Instance, .int .i64 x20.Sequence, .bool x20.Answered, .string (bs x20.Reply)] at hc31
  refine WOps.p (G.idx T.el102 rfl eA29 rfl ej23 hl25) rfl ?_
  refine WOps.p (G.field T.fld127_2 rfl (show o27 + j22 * 5 + 3 = o27 + j22 * 5 + 3 from rfl)) rfl ?_
  refine WOps.r (G.load1 T.one4 rfl (cellsAt.at hc31 3 rfl)) rfl ?_
  refine WOps.nil ?_
  refine WEx.then_ ?_
  refine WCode.forget (l' := [(0, .pointer (some ⟨p0, 0, none⟩)), (3, .int .i64 x12), (4, .int .i64 x13), (21, .bool x20.Answered)]) ⟨rfl, rfl, rfl, rfl, trivial⟩ ?_
  rcases ite_some hF with ⟨h34, hF⟩ | ⟨h34, hF⟩
  ·
   refine WCode.cond_t (kb (b := x20.Answered) rfl h34) ?_
   refine WCode.region ?_
   refine WOps.p (G.move rfl) rfl ?_
   refine WOps.p (G.move rfl) rfl ?_
   refine WOps.p (G.nilp rfl) rfl ?_
   refine WOps.p (G.field T.fld104_2 rfl (show 0 + 5 = 5 from rfl)) rfl ?_
   refine WOps.r (G.load1 T.one102 rfl (cell_blk ((S15.fr p0 (lt_of_blk hB2) (hF0 p0 hf3).1).trans hB2) rfl)) rfl ?_
   refine WOps.p (G.move rfl) rfl ?_
   obtain ⟨x35, hc36, hF⟩ := bind_some hF
   obtain ⟨j37, ej38, hj39, hl40⟩ := idx_spec hc36
   obtain ⟨b41, o42, cs43, eA44, hf45, hc46, hr47⟩ := SlR.at_ (hR11.ext (S15.keepF hF0)) hj39
   have hq48 : cs43 = [.int .i64 x35.Who.Address, .int .i64 x35.Who.Instance, .int .i64 x35.Sequence, .bool x35.Answered, .string (bs x35.Reply)] := hr47
   subst hq48
   change cellsAt _ _ (o42 + j37 * 5) [.int .i64 x35.Who.Address, .int .i64 x35.Who.Instance, .int .i64 x35.Sequence, .bool x35.Answered, .string (bs x35.Reply)] at hc46
   refine WOps.p (G.idx T.el102 rfl eA44 rfl ej38 hl40) rfl ?_
   refine WOps.p (G.field T.fld127_3 rfl (show o42 + j37 * 5 + 4 = o42 + j37 * 5 + 4 from rfl)) rfl ?_
   refine WOps.r (G.load1 T.one9 rfl (cellsAt.at hc46 4 rfl)) rfl ?_
   refine WOps.p (G.lenb T.str9 rfl) rfl ?_
   refine WOps.p (G.add rfl rfl (r := (w64 (x12 + (x35.Reply.length : Int)))) rfl) rfl ?_
   refine WOps.p (G.assign rfl) rfl ?_
   refine WOps.nil ?_
   refine WEx.in_normal ?_
   refine WEx.then_ ?_
   refine WCode.forget (l' := [(0, .pointer (some ⟨p0, 0, none⟩)), (3, .int .i64 (w64 (x12 + (x35.Reply.length : Int)))), (4, .int .i64 x13)]) ⟨rfl, rfl, rfl, trivial⟩ ?_
   refine WCode.region ?_
   refine WOps.p (G.move rfl) rfl ?_
   refine WOps.p (G.add rfl rfl (r := (w64 (x13 + 1))) rfl) rfl ?_
   refine WOps.p (G.assign rfl) rfl ?_
   refine WOps.nil ?_
   refine WEx.again _ _ (by omega) ?_ ⟨w64 (x12 + (x35.Reply.length : Int)), w64 (x13 + 1), rfl, hF, S15⟩
   exact ⟨rfl, rfl, rfl, trivial⟩
  ·
   refine WCode.cond_f (kb (b := x20.Answered) rfl (Bool.eq_false_iff.2 h34)) ?_
   refine WCode.region ?_
   refine WOps.p (G.move rfl) rfl ?_
   refine WOps.p (G.move rfl) rfl ?_
   refine WOps.p (G.nilp rfl) rfl ?_
   refine WOps.p (G.field T.fld104_0 rfl (show 0 + 0 = 0 from rfl)) rfl ?_
   refine WOps.p (G.field T.fld26_3 rfl (show 0 + 3 = 3 from rfl)) rfl ?_
   refine WOps.r (G.load1 T.one3 rfl (cell_blk ((S15.fr p0 (lt_of_blk hB2) (hF0 p0 hf3).1).trans hB2) rfl)) rfl ?_
   refine WOps.p (G.add rfl rfl (r := (w64 (x12 + a0.C.Reserve))) rfl) rfl ?_
   refine WOps.p (G.assign rfl) rfl ?_
   refine WOps.nil ?_
   refine WEx.in_normal ?_
   refine WEx.then_ ?_
   refine WCode.region ?_
   refine WOps.p (G.move rfl) rfl ?_
   refine WOps.p (G.add rfl rfl (r := (w64 (x13 + 1))) rfl) rfl ?_
   refine WOps.p (G.assign rfl) rfl ?_
   refine WOps.nil ?_
   refine WEx.again _ _ (by omega) ?_ ⟨w64 (x12 + a0.C.Reserve), w64 (x13 + 1), rfl, hF, S15⟩
   exact ⟨rfl, rfl, rfl, trivial⟩
 ·
  refine WCode.cond_f (kb (b := decide (x13 < (a0.I.length : Int))) rfl (decide_eq_false h19)) ?_
  refine WCode.exit ?_
  refine WEx.then_exit ?_
  refine WEx.then_exit ?_
  refine WEx.in_exit ?_
  refine WEx.then_ ?_
  refine WCode.seq ?_
  refine WCode.region ?_
  refine WOps.p (G.move rfl) rfl ?_
  refine WOps.p (G.assign rfl) rfl ?_
  refine WOps.nil ?_
  refine WEx.then_ ?_
  refine WCode.forget (l' := [(2, .int .i64 x12)]) ⟨rfl, trivial⟩ ?_
  refine WCode.ret ?_
  obtain rfl := some_eq hF
  refine WEx.ret1 rfl rfl ?_
  exact ⟨rfl, St.keep (As := []) S15⟩

def rc_Entries (k : Nat) (a0 : Cache104) : Option Int := (some (a0.I.length : Int))
set_option maxRecDepth 100000 in
set_option maxHeartbeats 1000000 in
theorem rc_Entries_calls (k : Nat) (a0 : Cache104) {p0 : Nat} {F0 : Nat → Prop} {w : World} (hP0 : PtR 104 Cache104.rp w F0 p0 a0) (hF0 : ∀ b, F0 b → NK w [] b) {r_ : Int} (h_ : rc_Entries k a0 = some r_) :
    Calls Try.prog 45 [.pointer (some ⟨p0, 0, none⟩)].toArray w fun e w' => e = .returned (.int .i64 r_) ∧ St w (KS []) w' [] := by
 have hF := h_
 clear h_
 unfold rc_Entries at hF
 have S := St.ofFalse (As := []) (St.init0 w)
 have hPq5 := hP0
 obtain ⟨cs1, hB2, hf3, A6, c7, A9, c10, hq4, hR8, hR11⟩ := hPq5
 subst hq4
 change _ = some (Obj.cells #[.int .i64 a0.C.Clients, .int .i64 a0.C.Entries, .int .i64 a0.C.Bytes, .int .i64 a0.C.Reserve, .slice A6 a0.L.length c7, .slice A9 a0.I.length c10] 104 (0, 0)) at hB2
 refine enter 8 [(0, .pointer (some ⟨p0, 0, none⟩))] Try.func45 rfl rfl rfl rfl ?_
 refine WCode.seq ?_
 refine WCode.region ?_
 refine WOps.p (G.assign rfl) rfl ?_
 refine WOps.nil ?_
 refine WEx.then_ ?_
 refine WCode.seq ?_
 refine WCode.region ?_
 refine WOps.p (G.move rfl) rfl ?_
 refine WOps.p (G.nilp rfl) rfl ?_
 refine WOps.p (G.field T.fld104_2 rfl (show 0 + 5 = 5 from rfl)) rfl ?_
 refine WOps.r (G.load1 T.one102 rfl (cell_blk ((S.fr p0 (lt_of_blk hB2) (hF0 p0 hf3).1).trans hB2) rfl)) rfl ?_
 refine WOps.p (G.len T.el102 rfl) rfl ?_
 refine WOps.p (G.assign rfl) rfl ?_
 refine WOps.nil ?_
 refine WEx.then_ ?_
 refine WCode.ret ?_
 obtain rfl := some_eq hF
 refine WEx.ret1 rfl rfl ?_
 exact ⟨rfl, St.keep (As := []) S⟩

def rc_Clients (k : Nat) (a0 : Cache104) : Option Int := (some (a0.L.length : Int))
set_option maxRecDepth 100000 in
set_option maxHeartbeats 1000000 in
theorem rc_Clients_calls (k : Nat) (a0 : Cache104) {p0 : Nat} {F0 : Nat → Prop} {w : World} (hP0 : PtR 104 Cache104.rp w F0 p0 a0) (hF0 : ∀ b, F0 b → NK w [] b) {r_ : Int} (h_ : rc_Clients k a0 = some r_) :
    Calls Try.prog 44 [.pointer (some ⟨p0, 0, none⟩)].toArray w fun e w' => e = .returned (.int .i64 r_) ∧ St w (KS []) w' [] := by
 have hF := h_
 clear h_
 unfold rc_Clients at hF
 have S := St.ofFalse (As := []) (St.init0 w)
 have hPq5 := hP0
 obtain ⟨cs1, hB2, hf3, A6, c7, A9, c10, hq4, hR8, hR11⟩ := hPq5
 subst hq4
 change _ = some (Obj.cells #[.int .i64 a0.C.Clients, .int .i64 a0.C.Entries, .int .i64 a0.C.Bytes, .int .i64 a0.C.Reserve, .slice A6 a0.L.length c7, .slice A9 a0.I.length c10] 104 (0, 0)) at hB2
 refine enter 8 [(0, .pointer (some ⟨p0, 0, none⟩))] Try.func44 rfl rfl rfl rfl ?_
 refine WCode.seq ?_
 refine WCode.region ?_
 refine WOps.p (G.assign rfl) rfl ?_
 refine WOps.nil ?_
 refine WEx.then_ ?_
 refine WCode.seq ?_
 refine WCode.region ?_
 refine WOps.p (G.move rfl) rfl ?_
 refine WOps.p (G.nilp rfl) rfl ?_
 refine WOps.p (G.field T.fld104_1 rfl (show 0 + 4 = 4 from rfl)) rfl ?_
 refine WOps.r (G.load1 T.one101 rfl (cell_blk ((S.fr p0 (lt_of_blk hB2) (hF0 p0 hf3).1).trans hB2) rfl)) rfl ?_
 refine WOps.p (G.len T.el101 rfl) rfl ?_
 refine WOps.p (G.assign rfl) rfl ?_
 refine WOps.nil ?_
 refine WEx.then_ ?_
 refine WCode.ret ?_
 obtain rfl := some_eq hF
 refine WEx.ret1 rfl rfl ?_
 exact ⟨rfl, St.keep (As := []) S⟩

def rc_Water (k : Nat) (a0 : Cache104) (a1 : WhoC) : Option Int := (Option.bind (rc_client k a0 a1) fun t18 => (if t18 < 0 then (some 0) else (Option.bind (idx a0.L t18) fun x24 => (some x24.Water))))
set_option maxRecDepth 100000 in
set_option maxHeartbeats 1000000 in
theorem rc_Water_calls (k : Nat) (a0 : Cache104) {p0 : Nat} {F0 : Nat → Prop} (a1 : WhoC) {w : World} (hP0 : PtR 104 Cache104.rp w F0 p0 a0) (hF0 : ∀ b, F0 b → NK w [] b) {r_ : Int} (h_ : rc_Water k a0 a1 = some r_) :
    Calls Try.prog 43 [.pointer (some ⟨p0, 0, none⟩), .agg #[.int .i64 a1.Address, .int .i64 a1.Instance]].toArray w fun e w' => e = .returned (.int .i64 r_) ∧ St w (KS []) w' [] := by
 have hF := h_
 clear h_
 unfold rc_Water at hF
 have S := St.ofFalse (As := []) (St.init0 w)
 have hPq5 := hP0
 obtain ⟨cs1, hB2, hf3, A6, c7, A9, c10, hq4, hR8, hR11⟩ := hPq5
 subst hq4
 change _ = some (Obj.cells #[.int .i64 a0.C.Clients, .int .i64 a0.C.Entries, .int .i64 a0.C.Bytes, .int .i64 a0.C.Reserve, .slice A6 a0.L.length c7, .slice A9 a0.I.length c10] 104 (0, 0)) at hB2
 refine enter 19 [(0, .pointer (some ⟨p0, 0, none⟩)), (1, .agg #[.int .i64 a1.Address, .int .i64 a1.Instance])] Try.func43 rfl rfl rfl rfl ?_
 refine WCode.seq ?_
 refine WCode.region ?_
 obtain ⟨b12, w13, E14, S15, X16, L17⟩ := St.box S Try.prog 34 (.agg #[.int .i64 a1.Address, .int .i64 a1.Instance])
 change St _ _ _ [[(b12, .cells #[.int .i64 a1.Address, .int .i64 a1.Instance] 34 (0, 0))]] at S15
 refine WOps.e (E14 rfl) rfl ?_
 refine WOps.p (G.assign rfl) rfl ?_
 refine WOps.nil ?_
 refine WEx.then_ ?_
 refine WCode.seq ?_
 refine WCode.region ?_
 refine WOps.p (G.move rfl) rfl ?_
 refine WOps.r (G.loada T.agg34_2 rfl (cs := [.int .i64 a1.Address, .int .i64 a1.Instance]) (cellsAt.of_blk (S15.blk 0 rfl) rfl)) rfl ?_
 obtain ⟨t18, hc19, hF⟩ := bind_some hF
 refine WOps.call T.call58 (evs_cons rfl (evs_cons rfl evs_nil)) rfl ?_
 refine (rc_client_calls k a0 a1 (hP0.ext (S15.keepF hF0)) (St.outF (Bs := []) S15 hF0) hc19).mono ?_
 rintro _ w20 ⟨rfl, T21⟩
 have S22 := St.callN (As := []) S15 T21
 change St _ _ _ [[(b12, .cells #[.int .i64 a1.Address, .int .i64 a1.Instance] 34 (0, 0))]] at S22
 refine ⟨_, rfl, ?_⟩
 refine WOps.p (G.assign rfl) rfl ?_
 refine WOps.nil ?_
 refine WEx.then_ ?_
 refine WCode.seq ?_
 refine WCode.seq ?_
 refine WCode.region ?_
 refine WOps.p (G.move rfl) rfl ?_
 refine WOps.p (G.lss rfl rfl rfl) rfl ?_
 refine WOps.nil ?_
 refine WEx.then_ ?_
 rcases ite_some hF with ⟨h23, hF⟩ | ⟨h23, hF⟩
 ·
  refine WCode.cond_t (kb (b := decide (t18 < 0)) rfl (decide_eq_true h23)) ?_
  refine WCode.seq ?_
  refine WCode.region ?_
  refine WOps.p (G.assign rfl) rfl ?_
  refine WOps.nil ?_
  refine WEx.then_ ?_
  refine WCode.ret ?_
  refine WEx.then_ret ?_
  obtain rfl := some_eq hF
  refine WEx.ret1 rfl rfl ?_
  exact ⟨rfl, St.keep (As := []) S22⟩
 ·
  refine WCode.cond_f (kb (b := decide (t18 < 0)) rfl (decide_eq_false h23)) ?_
  refine WCode.skip ?_
  refine WEx.then_ ?_
  refine WCode.seq ?_
  refine WCode.region ?_
  refine WOps.p (G.move rfl) rfl ?_
  refine WOps.p (G.nilp rfl) rfl ?_
  refine WOps.p (G.field T.fld104_1 rfl (show 0 + 4 = 4 from rfl)) rfl ?_
  refine WOps.r (G.load1 T.one101 rfl (cell_blk ((S22.fr p0 (lt_of_blk hB2) (hF0 p0 hf3).1).trans hB2) rfl)) rfl ?_
  refine WOps.p (G.move rfl) rfl ?_
  obtain ⟨x24, hc25, hF⟩ := bind_some hF
  obtain ⟨j26, ej27, hj28, hl29⟩ := idx_spec hc25
  obtain ⟨b30, o31, cs32, eA33, hf34, hc35, hr36⟩ := SlR.at_ (hR8.ext (S22.keepF hF0)) hj28
  have hq37 : cs32 = [.int .i64 x24.Who.Address, .int .i64 x24.Who.Instance, .int .i64 x24.Water] := hr36
  subst hq37
  change cellsAt _ _ (o31 + j26 * 3) [.int .i64 x24.Who.Address, .int .i64 x24.Who.Instance, .int .i64 x24.Water] at hc35
  refine WOps.p (G.idx T.el101 rfl eA33 rfl ej27 hl29) rfl ?_
  refine WOps.p (G.field T.fld123_1 rfl (show o31 + j26 * 3 + 2 = o31 + j26 * 3 + 2 from rfl)) rfl ?_
  refine WOps.r (G.load1 T.one3 rfl (cellsAt.at hc35 2 rfl)) rfl ?_
  refine WOps.p (G.assign rfl) rfl ?_
  refine WOps.nil ?_
  refine WEx.then_ ?_
  refine WCode.forget (l' := [(4, .int .i64 x24.Water)]) ⟨rfl, trivial⟩ ?_
  refine WCode.ret ?_
  obtain rfl := some_eq hF
  refine WEx.ret1 rfl rfl ?_
  exact ⟨rfl, St.keep (As := []) S22⟩

def rc_Busy (k : Nat) (a0 : Cache104) (a1 : WhoC) (a2 : Int) : Option Bool := (Option.bind (rc_item k a0 a1 a2) fun t18 => (if 0 ≤ t18 then (Option.bind (idx a0.I t18) fun x24 => (some (!x24.Answered))) else (some false)))
set_option maxRecDepth 100000 in
set_option maxHeartbeats 1000000 in
theorem rc_Busy_calls (k : Nat) (a0 : Cache104) {p0 : Nat} {F0 : Nat → Prop} (a1 : WhoC) (a2 : Int) {w : World} (hP0 : PtR 104 Cache104.rp w F0 p0 a0) (hF0 : ∀ b, F0 b → NK w [] b) {r_ : Bool} (h_ : rc_Busy k a0 a1 a2 = some r_) :
    Calls Try.prog 42 [.pointer (some ⟨p0, 0, none⟩), .agg #[.int .i64 a1.Address, .int .i64 a1.Instance], .int .i64 a2].toArray w fun e w' => e = .returned (.bool r_) ∧ St w (KS []) w' [] := by
 have hF := h_
 clear h_
 unfold rc_Busy at hF
 have S := St.ofFalse (As := []) (St.init0 w)
 have hPq5 := hP0
 obtain ⟨cs1, hB2, hf3, A6, c7, A9, c10, hq4, hR8, hR11⟩ := hPq5
 subst hq4
 change _ = some (Obj.cells #[.int .i64 a0.C.Clients, .int .i64 a0.C.Entries, .int .i64 a0.C.Bytes, .int .i64 a0.C.Reserve, .slice A6 a0.L.length c7, .slice A9 a0.I.length c10] 104 (0, 0)) at hB2
 refine enter 25 [(0, .pointer (some ⟨p0, 0, none⟩)), (1, .agg #[.int .i64 a1.Address, .int .i64 a1.Instance]), (2, .int .i64 a2)] Try.func42 rfl rfl rfl rfl ?_
 refine WCode.seq ?_
 refine WCode.region ?_
 obtain ⟨b12, w13, E14, S15, X16, L17⟩ := St.box S Try.prog 34 (.agg #[.int .i64 a1.Address, .int .i64 a1.Instance])
 change St _ _ _ [[(b12, .cells #[.int .i64 a1.Address, .int .i64 a1.Instance] 34 (0, 0))]] at S15
 refine WOps.e (E14 rfl) rfl ?_
 refine WOps.p (G.assign rfl) rfl ?_
 refine WOps.nil ?_
 refine WEx.then_ ?_
 refine WCode.seq ?_
 refine WCode.region ?_
 refine WOps.p (G.move rfl) rfl ?_
 refine WOps.r (G.loada T.agg34_2 rfl (cs := [.int .i64 a1.Address, .int .i64 a1.Instance]) (cellsAt.of_blk (S15.blk 0 rfl) rfl)) rfl ?_
 refine WOps.p (G.move rfl) rfl ?_
 obtain ⟨t18, hc19, hF⟩ := bind_some hF
 refine WOps.call T.call60 (evs_cons rfl (evs_cons rfl (evs_cons rfl evs_nil))) rfl ?_
 refine (rc_item_calls k a0 a1 a2 (hP0.ext (S15.keepF hF0)) (St.outF (Bs := []) S15 hF0) hc19).mono ?_
 rintro _ w20 ⟨rfl, T21⟩
 have S22 := St.callN (As := []) S15 T21
 change St _ _ _ [[(b12, .cells #[.int .i64 a1.Address, .int .i64 a1.Instance] 34 (0, 0))]] at S22
 refine ⟨_, rfl, ?_⟩
 refine WOps.p (G.assign rfl) rfl ?_
 refine WOps.nil ?_
 refine WEx.then_ ?_
 refine WCode.seq ?_
 refine WCode.region ?_
 refine WOps.p (G.move rfl) rfl ?_
 refine WOps.p (G.geq rfl rfl rfl) rfl ?_
 refine WOps.p (G.move rfl) rfl ?_
 rcases ite_some hF with ⟨h23, hF⟩ | ⟨h23, hF⟩
 ·
  refine WOps.on rfl (kbl (b := decide (0 ≤ t18)) rfl (decide_eq_true h23)) ?_
  refine WOps.p (G.move rfl) rfl ?_
  refine WOps.on rfl (kbl (b := decide (0 ≤ t18)) rfl (decide_eq_true h23)) ?_
  refine WOps.p (G.nilp rfl) rfl ?_
  refine WOps.on rfl (kbl (b := decide (0 ≤ t18)) rfl (decide_eq_true h23)) ?_
  refine WOps.p (G.field T.fld104_2 rfl (show 0 + 5 = 5 from rfl)) rfl ?_
  refine WOps.on rfl (kbl (b := decide (0 ≤ t18)) rfl (decide_eq_true h23)) ?_
  refine WOps.r (G.load1 T.one102 rfl (cell_blk ((S22.fr p0 (lt_of_blk hB2) (hF0 p0 hf3).1).trans hB2) rfl)) rfl ?_
  refine WOps.on rfl (kbl (b := decide (0 ≤ t18)) rfl (decide_eq_true h23)) ?_
  refine WOps.p (G.move rfl) rfl ?_
  refine WOps.on rfl (kbl (b := decide (0 ≤ t18)) rfl (decide_eq_true h23)) ?_
  obtain ⟨x24, hc25, hF⟩ := bind_some hF
  obtain ⟨j26, ej27, hj28, hl29⟩ := idx_spec hc25
  obtain ⟨b30, o31, cs32, eA33, hf34, hc35, hr36⟩ := SlR.at_ (hR11.ext (S22.keepF hF0)) hj28
  have hq37 : cs32 = [.int .i64 x24.Who.Address, .int .i64 x24.Who.Instance, .int .i64 x24.Sequence, .bool x24.Answered, .string (bs x24.Reply)] := hr36
  subst hq37
  change cellsAt _ _ (o31 + j26 * 5) [.int .i64 x24.Who.Address, .int .i64 x24.Who.Instance, .int .i64 x24.Sequence, .bool x24.Answered, .string (bs x24.Reply)] at hc35
  refine WOps.p (G.idx T.el102 rfl eA33 rfl ej27 hl29) rfl ?_
  refine WOps.on rfl (kbl (b := decide (0 ≤ t18)) rfl (decide_eq_true h23)) ?_
  refine WOps.p (G.field T.fld127_2 rfl (show o31 + j26 * 5 + 3 = o31 + j26 * 5 + 3 from rfl)) rfl ?_
  refine WOps.on rfl (kbl (b := decide (0 ≤ t18)) rfl (decide_eq_true h23)) ?_
  refine WOps.r (G.load1 T.one4 rfl (cellsAt.at hc35 3 rfl)) rfl ?_
  refine WOps.on rfl (kbl (b := decide (0 ≤ t18)) rfl (decide_eq_true h23)) ?_
  refine WOps.p (G.not rfl rfl) rfl ?_
  refine WOps.p (G.pick_t (kb (b := decide (0 ≤ t18)) rfl (decide_eq_true h23)) rfl) rfl ?_
  refine WOps.p (G.assign rfl) rfl ?_
  refine WOps.nil ?_
  refine WEx.then_ ?_
  refine WCode.forget (l' := [(6, .bool (!x24.Answered))]) ⟨rfl, trivial⟩ ?_
  refine WCode.ret ?_
  obtain rfl := some_eq hF
  refine WEx.ret1 rfl rfl ?_
  exact ⟨rfl, St.keep (As := []) S22⟩
 ·
  refine WOps.off rfl (kbl (b := decide (0 ≤ t18)) rfl (decide_eq_false h23)) rfl rfl ?_
  refine WOps.off rfl (kbl (b := decide (0 ≤ t18)) rfl (decide_eq_false h23)) rfl rfl ?_
  refine WOps.off rfl (kbl (b := decide (0 ≤ t18)) rfl (decide_eq_false h23)) rfl rfl ?_
  refine WOps.off rfl (kbl (b := decide (0 ≤ t18)) rfl (decide_eq_false h23)) rfl rfl ?_
  refine WOps.off rfl (kbl (b := decide (0 ≤ t18)) rfl (decide_eq_false h23)) rfl rfl ?_
  refine WOps.off rfl (kbl (b := decide (0 ≤ t18)) rfl (decide_eq_false h23)) rfl rfl ?_
  refine WOps.off rfl (kbl (b := decide (0 ≤ t18)) rfl (decide_eq_false h23)) rfl rfl ?_
  refine WOps.off rfl (kbl (b := decide (0 ≤ t18)) rfl (decide_eq_false h23)) rfl rfl ?_
  refine WOps.off rfl (kbl (b := decide (0 ≤ t18)) rfl (decide_eq_false h23)) rfl rfl ?_
  refine WOps.p (G.pick_f (kb (b := decide (0 ≤ t18)) rfl (decide_eq_false h23)) rfl) rfl ?_
  refine WOps.p (G.assign rfl) rfl ?_
  refine WOps.nil ?_
  refine WEx.then_ ?_
  refine WCode.forget (l' := [(6, .bool false)]) ⟨rfl, trivial⟩ ?_
  refine WCode.ret ?_
  obtain rfl := some_eq hF
  refine WEx.ret1 rfl rfl ?_
  exact ⟨rfl, St.keep (As := []) S22⟩

def rc_Done.j1 (q31 : Nat) (a0 : Cache104) (a3 : List UInt8) (t21 : Int) (b28 : Bool) : Option (Int × Cache104) := (if b28 = true then (some (151, a0)) else (if a0.C.Reserve < (a3.length : Int) then (some (152, a0)) else (Option.bind (idx a0.I t21) fun x56 => (Option.bind (upd a0.I t21 (⟨x56.Who, x56.Sequence, true, x56.Reply⟩ : Item)) fun l70 => (Option.bind (idx l70 t21) fun x80 => (Option.bind (upd l70 t21 (⟨x80.Who, x80.Sequence, x80.Answered, a3⟩ : Item)) fun l94 => (some (0, (⟨a0.C, a0.L, l94⟩ : Cache104)))))))))
def rc_Done (k : Nat) (a0 : Cache104) (a1 : WhoC) (a2 : Int) (a3 : List UInt8) : Option (Int × Cache104) := (Option.bind (rc_item k a0 a1 a2) fun t21 => (if t21 < 0 then (rc_Done.j1 k a0 a3 t21 true) else (Option.bind (idx a0.I t21) fun x35 => (rc_Done.j1 k a0 a3 t21 x35.Answered))))
set_option maxRecDepth 100000 in
set_option maxHeartbeats 1000000 in
theorem rc_Done_calls (k : Nat) (a0 : Cache104) {p0 : Nat} {G0 : Grp} (a1 : WhoC) (a2 : Int) (a3 : List UInt8) {w : World} (hO0 : ObjO 104 Cache104.rp p0 a0 G0) {r_ : Int × Cache104} (h_ : rc_Done k a0 a1 a2 a3 = some r_) (hp_ : Hp w ([G0]).flatten) :
    Calls Try.prog 40 [.pointer (some ⟨p0, 0, none⟩), .agg #[.int .i64 a1.Address, .int .i64 a1.Instance], .int .i64 a2, .string (bs a3)].toArray w fun e w' => ∃ Go0' : Grp, e = .returned (.int .i64 r_.1) ∧ ObjO 104 Cache104.rp p0 (r_.2) Go0' ∧ St w (KS [G0]) w' [Go0'] := by
 have hF := h_
 clear h_
 unfold rc_Done at hF
 have S := St.initK [G0] hp_
 obtain ⟨cs1, G2, ho3, hg4⟩ := hO0
 obtain ⟨A5, c6, G7, A9, c10, G11, rfl, hO8, hO12, hq13⟩ := ho3
 have S14 : St _ _ _ [[(p0, .cells #[.int .i64 a0.C.Clients, .int .i64 a0.C.Entries, .int .i64 a0.C.Bytes, .int .i64 a0.C.Reserve, .slice A5 a0.L.length c6, .slice A9 a0.I.length c10] 104 (0, 0))], G7, G11] := S.objs (by rw [hg4, hq13]; simp)
 refine enter 49 [(0, .pointer (some ⟨p0, 0, none⟩)), (1, .agg #[.int .i64 a1.Address, .int .i64 a1.Instance]), (2, .int .i64 a2), (3, .string (bs a3))] Try.func40 rfl rfl rfl rfl ?_
 refine WCode.seq ?_
 refine WCode.region ?_
 obtain ⟨b15, w16, E17, S18, X19, L20⟩ := St.box S14 Try.prog 34 (.agg #[.int .i64 a1.Address, .int .i64 a1.Instance])
 change St _ _ _ [[(b15, .cells #[.int .i64 a1.Address, .int .i64 a1.Instance] 34 (0, 0))], [(p0, .cells #[.int .i64 a0.C.Clients, .int .i64 a0.C.Entries, .int .i64 a0.C.Bytes, .int .i64 a0.C.Reserve, .slice A5 a0.L.length c6, .slice A9 a0.I.length c10] 104 (0, 0))], G7, G11] at S18
 refine WOps.e (E17 rfl) rfl ?_
 refine WOps.p (G.assign rfl) rfl ?_
 refine WOps.nil ?_
 refine WEx.then_ ?_
 refine WCode.seq ?_
 refine WCode.region ?_
 refine WOps.p (G.move rfl) rfl ?_
 refine WOps.r (G.loada T.agg34_2 rfl (cs := [.int .i64 a1.Address, .int .i64 a1.Instance]) (cellsAt.of_blk (S18.blk 0 rfl) rfl)) rfl ?_
 refine WOps.p (G.move rfl) rfl ?_
 obtain ⟨t21, hc22, hF⟩ := bind_some hF
 have S23 := ((S18.front 3 rfl).front 3 rfl).front 3 rfl
 change St _ _ _ [[(p0, .cells #[.int .i64 a0.C.Clients, .int .i64 a0.C.Entries, .int .i64 a0.C.Bytes, .int .i64 a0.C.Reserve, .slice A5 a0.L.length c6, .slice A9 a0.I.length c10] 104 (0, 0))], G7, G11, [(b15, .cells #[.int .i64 a1.Address, .int .i64 a1.Instance] 34 (0, 0))]] at S23
 have hP24 : PtR 104 Cache104.rp w16 (KS [[(p0, .cells #[.int .i64 a0.C.Clients, .int .i64 a0.C.Entries, .int .i64 a0.C.Bytes, .int .i64 a0.C.Reserve, .slice A5 a0.L.length c6, .slice A9 a0.I.length c10] 104 (0, 0))], G7, G11]) p0 a0 := ⟨_, S23.blk 0 rfl, KS_at 0 rfl (by simp [keys]), ⟨A5, c6, A9, c10, rfl, ((hO8.rd (fun b o hb => S23.grp 1 rfl hb)).mono (fun b hb => KS_at 1 rfl hb)), ((hO12.rd (fun b o hb => S23.grp 2 rfl hb)).mono (fun b hb => KS_at 2 rfl hb))⟩⟩
 refine WOps.call T.call60 (evs_cons rfl (evs_cons rfl (evs_cons rfl evs_nil))) rfl ?_
 refine (rc_item_calls k a0 a1 a2 hP24 (St.outN (Bs := []) (As := [[(p0, .cells #[.int .i64 a0.C.Clients, .int .i64 a0.C.Entries, .int .i64 a0.C.Bytes, .int .i64 a0.C.Reserve, .slice A5 a0.L.length c6, .slice A9 a0.I.length c10] 104 (0, 0))], G7, G11]) S23) hc22).mono ?_
 rintro _ w25 ⟨rfl, T26⟩
 have S27 := St.callN (As := []) S23 T26
 change St _ _ _ [[(p0, .cells #[.int .i64 a0.C.Clients, .int .i64 a0.C.Entries, .int .i64 a0.C.Bytes, .int .i64 a0.C.Reserve, .slice A5 a0.L.length c6, .slice A9 a0.I.length c10] 104 (0, 0))], G7, G11, [(b15, .cells #[.int .i64 a1.Address, .int .i64 a1.Instance] 34 (0, 0))]] at S27
 refine ⟨_, rfl, ?_⟩
 refine WOps.p (G.assign rfl) rfl ?_
 refine WOps.nil ?_
 refine WEx.then_ ?_
 refine WCode.seq ?_
 refine WCode.cutseq (fun l_ w_ => ∃ q31 : Nat, ∃ b28 : Bool, l_ = [(0, .pointer (some ⟨p0, 0, none⟩)), (3, .string (bs a3)), (9, .int .i64 t21), (25, .bool b28)] ∧ rc_Done.j1 q31 a0 a3 t21 b28 = some r_ ∧ St w (KS [G0]) w_ [[(p0, .cells #[.int .i64 a0.C.Clients, .int .i64 a0.C.Entries, .int .i64 a0.C.Bytes, .int .i64 a0.C.Reserve, .slice A5 a0.L.length c6, .slice A9 a0.I.length c10] 104 (0, 0))], G7, G11]) ?_ ?_
 ·
  refine WCode.region ?_
  refine WOps.p (G.move rfl) rfl ?_
  refine WOps.p (G.lss rfl rfl rfl) rfl ?_
  refine WOps.p (G.move rfl) rfl ?_
  rcases ite_some hF with ⟨h33, hF⟩ | ⟨h33, hF⟩
  ·
   refine WOps.off rfl (kbl (b := decide (t21 < 0)) rfl (decide_eq_true h33)) rfl rfl ?_
   refine WOps.off rfl (kbl (b := decide (t21 < 0)) rfl (decide_eq_true h33)) rfl rfl ?_
   refine WOps.off rfl (kbl (b := decide (t21 < 0)) rfl (decide_eq_true h33)) rfl rfl ?_
   refine WOps.off rfl (kbl (b := decide (t21 < 0)) rfl (decide_eq_true h33)) rfl rfl ?_
   refine WOps.off rfl (kbl (b := decide (t21 < 0)) rfl (decide_eq_true h33)) rfl rfl ?_
   refine WOps.off rfl (kbl (b := decide (t21 < 0)) rfl (decide_eq_true h33)) rfl rfl ?_
   refine WOps.off rfl (kbl (b := decide (t21 < 0)) rfl (decide_eq_true h33)) rfl rfl ?_
   refine WOps.off rfl (kbl (b := decide (t21 < 0)) rfl (decide_eq_true h33)) rfl rfl ?_
   refine WOps.p (G.pick_t (kb (b := decide (t21 < 0)) rfl (decide_eq_true h33)) rfl) rfl ?_
   refine WOps.nil ?_
   have S34 := St.keep (As := [[(p0, .cells #[.int .i64 a0.C.Clients, .int .i64 a0.C.Entries, .int .i64 a0.C.Bytes, .int .i64 a0.C.Reserve, .slice A5 a0.L.length c6, .slice A9 a0.I.length c10] 104 (0, 0))], G7, G11]) S27
   refine WEx.cutend _ ?_ ⟨k, true, rfl, hF, S34⟩
   exact ⟨rfl, rfl, rfl, rfl, trivial⟩
  ·
   refine WOps.on rfl (kbl (b := decide (t21 < 0)) rfl (decide_eq_false h33)) ?_
   refine WOps.p (G.move rfl) rfl ?_
   refine WOps.on rfl (kbl (b := decide (t21 < 0)) rfl (decide_eq_false h33)) ?_
   refine WOps.p (G.nilp rfl) rfl ?_
   refine WOps.on rfl (kbl (b := decide (t21 < 0)) rfl (decide_eq_false h33)) ?_
   refine WOps.p (G.field T.fld104_2 rfl (show 0 + 5 = 5 from rfl)) rfl ?_
   refine WOps.on rfl (kbl (b := decide (t21 < 0)) rfl (decide_eq_false h33)) ?_
   refine WOps.r (G.load1 T.one102 rfl (cell_blk (S27.blk 0 rfl) rfl)) rfl ?_
   refine WOps.on rfl (kbl (b := decide (t21 < 0)) rfl (decide_eq_false h33)) ?_
   refine WOps.p (G.move rfl) rfl ?_
   refine WOps.on rfl (kbl (b := decide (t21 < 0)) rfl (decide_eq_false h33)) ?_
   obtain ⟨x35, hc36, hF⟩ := bind_some hF
   obtain ⟨j37, ej38, hj39, hl40⟩ := idx_spec hc36
   obtain ⟨b41, o42, cs43, eA44, hf45, hc46, hr47⟩ := SlR.at_ (hO12.rd (fun b o hb => S27.grp 2 rfl hb)) hj39
   have hq48 : cs43 = [.int .i64 x35.Who.Address, .int .i64 x35.Who.Instance, .int .i64 x35.Sequence, .bool x35.Answered, .string (bs x35.Reply)] := hr47
   subst hq48
   change cellsAt _ _ (o42 + j37 * 5) [.int .i64 x35.Who.Address, .int .i64 x35.Who.Instance, .int .i64 x35.Sequence, .bool x35.Answered, .string (bs x35.Reply)] at hc46
   refine WOps.p (G.idx T.el102 rfl eA44 rfl ej38 hl40) rfl ?_
   refine WOps.on rfl (kbl (b := decide (t21 < 0)) rfl (decide_eq_false h33)) ?_
   refine WOps.p (G.field T.fld127_2 rfl (show o42 + j37 * 5 + 3 = o42 + j37 * 5 + 3 from rfl)) rfl ?_
   refine WOps.on rfl (kbl (b := decide (t21 < 0)) rfl (decide_eq_false h33)) ?_
   refine WOps.r (G.load1 T.one4 rfl (cellsAt.at hc46 3 rfl)) rfl ?_
   refine WOps.p (G.pick_f (kb (b := decide (t21 < 0)) rfl (decide_eq_false h33)) rfl) rfl ?_
   refine WOps.nil ?_
   have S49 := St.keep (As := [[(p0, .cells #[.int .i64 a0.C.Clients, .int .i64 a0.C.Entries, .int .i64 a0.C.Bytes, .int .i64 a0.C.Reserve, .slice A5 a0.L.length c6, .slice A9 a0.I.length c10] 104 (0, 0))], G7, G11]) S27
   refine WEx.cutend _ ?_ ⟨k, x35.Answered, rfl, hF, S49⟩
   exact ⟨rfl, rfl, rfl, rfl, trivial⟩
 ·
  rintro _ w29 ⟨q31, b28, rfl, hF, S30⟩
  unfold rc_Done.j1 at hF
  rcases ite_some hF with ⟨h50, hF⟩ | ⟨h50, hF⟩
  ·
   refine WCode.cond_t (kb (b := b28) rfl h50) ?_
   refine WCode.seq ?_
   refine WCode.region ?_
   refine WOps.p (G.assign rfl) rfl ?_
   refine WOps.nil ?_
   refine WEx.then_ ?_
   refine WCode.ret ?_
   refine WEx.then_ret ?_
   obtain rfl := some_eq hF
   refine WEx.ret1 rfl rfl ?_
   have hO51 : ObjO 104 Cache104.rp p0 a0 ([(p0, .cells #[.int .i64 a0.C.Clients, .int .i64 a0.C.Entries, .int .i64 a0.C.Bytes, .int .i64 a0.C.Reserve, .slice A5 a0.L.length c6, .slice A9 a0.I.length c10] 104 (0, 0))] ++ (G7 ++ (G11))) := ⟨_, _, ⟨A5, c6, G7, A9, c10, G11, rfl, hO8, hO12, rfl⟩, rfl⟩
   have S52 : St _ _ _ [[(p0, .cells #[.int .i64 a0.C.Clients, .int .i64 a0.C.Entries, .int .i64 a0.C.Bytes, .int .i64 a0.C.Reserve, .slice A5 a0.L.length c6, .slice A9 a0.I.length c10] 104 (0, 0))] ++ (G7 ++ (G11))] := S30.objs (by simp)
   exact ⟨[(p0, .cells #[.int .i64 a0.C.Clients, .int .i64 a0.C.Entries, .int .i64 a0.C.Bytes, .int .i64 a0.C.Reserve, .slice A5 a0.L.length c6, .slice A9 a0.I.length c10] 104 (0, 0))] ++ (G7 ++ (G11)), rfl, hO51, St.keep (As := [[(p0, .cells #[.int .i64 a0.C.Clients, .int .i64 a0.C.Entries, .int .i64 a0.C.Bytes, .int .i64 a0.C.Reserve, .slice A5 a0.L.length c6, .slice A9 a0.I.length c10] 104 (0, 0))] ++ (G7 ++ (G11))]) S52⟩
  ·
   refine WCode.cond_f (kb (b := b28) rfl (Bool.eq_false_iff.2 h50)) ?_
   refine WCode.skip ?_
   refine WEx.then_ ?_
   refine WCode.seq ?_
   refine WCode.seq ?_
   refine WCode.region ?_
   refine WOps.p (G.move rfl) rfl ?_
   refine WOps.p (G.lenb T.str9 rfl) rfl ?_
   refine WOps.p (G.move rfl) rfl ?_
   refine WOps.p (G.nilp rfl) rfl ?_
   refine WOps.p (G.field T.fld104_0 rfl (show 0 + 0 = 0 from rfl)) rfl ?_
   refine WOps.p (G.field T.fld26_3 rfl (show 0 + 3 = 3 from rfl)) rfl ?_
   refine WOps.r (G.load1 T.one3 rfl (cell_blk (S30.blk 0 rfl) rfl)) rfl ?_
   refine WOps.p (G.gtr rfl rfl rfl) rfl ?_
   refine WOps.nil ?_
   refine WEx.then_ ?_
   rcases ite_some hF with ⟨h53, hF⟩ | ⟨h53, hF⟩
   ·
    refine WCode.cond_t (kb (b := decide (a0.C.Reserve < (a3.length : Int))) rfl (decide_eq_true h53)) ?_
    refine WCode.seq ?_
    refine WCode.region ?_
    refine WOps.p (G.assign rfl) rfl ?_
    refine WOps.nil ?_
    refine WEx.then_ ?_
    refine WCode.forget (l' := [(8, .int .i64 152)]) ⟨rfl, trivial⟩ ?_
    refine WCode.ret ?_
    refine WEx.then_ret ?_
    obtain rfl := some_eq hF
    refine WEx.ret1 rfl rfl ?_
    have hO54 : ObjO 104 Cache104.rp p0 a0 ([(p0, .cells #[.int .i64 a0.C.Clients, .int .i64 a0.C.Entries, .int .i64 a0.C.Bytes, .int .i64 a0.C.Reserve, .slice A5 a0.L.length c6, .slice A9 a0.I.length c10] 104 (0, 0))] ++ (G7 ++ (G11))) := ⟨_, _, ⟨A5, c6, G7, A9, c10, G11, rfl, hO8, hO12, rfl⟩, rfl⟩
    have S55 : St _ _ _ [[(p0, .cells #[.int .i64 a0.C.Clients, .int .i64 a0.C.Entries, .int .i64 a0.C.Bytes, .int .i64 a0.C.Reserve, .slice A5 a0.L.length c6, .slice A9 a0.I.length c10] 104 (0, 0))] ++ (G7 ++ (G11))] := S30.objs (by simp)
    exact ⟨[(p0, .cells #[.int .i64 a0.C.Clients, .int .i64 a0.C.Entries, .int .i64 a0.C.Bytes, .int .i64 a0.C.Reserve, .slice A5 a0.L.length c6, .slice A9 a0.I.length c10] 104 (0, 0))] ++ (G7 ++ (G11)), rfl, hO54, St.keep (As := [[(p0, .cells #[.int .i64 a0.C.Clients, .int .i64 a0.C.Entries, .int .i64 a0.C.Bytes, .int .i64 a0.C.Reserve, .slice A5 a0.L.length c6, .slice A9 a0.I.length c10] 104 (0, 0))] ++ (G7 ++ (G11))]) S55⟩
   ·
    refine WCode.cond_f (kb (b := decide (a0.C.Reserve < (a3.length : Int))) rfl (decide_eq_false h53)) ?_
    refine WCode.skip ?_
    refine WEx.then_ ?_
    refine WCode.seq ?_
    refine WCode.region ?_
    refine WOps.p (G.move rfl) rfl ?_
    refine WOps.p (G.nilp rfl) rfl ?_
    refine WOps.p (G.field T.fld104_2 rfl (show 0 + 5 = 5 from rfl)) rfl ?_
    refine WOps.r (G.load1 T.one102 rfl (cell_blk (S30.blk 0 rfl) rfl)) rfl ?_
    refine WOps.p (G.move rfl) rfl ?_
    obtain ⟨x56, hc57, hF⟩ := bind_some hF
    obtain ⟨j58, ej59, hj60, hl61⟩ := idx_spec hc57
    obtain ⟨b62, o63, cs64, eA65, hf66, hc67, hr68⟩ := SlR.at_ (hO12.rd (fun b o hb => S30.grp 2 rfl hb)) hj60
    have hq69 : cs64 = [.int .i64 x56.Who.Address, .int .i64 x56.Who.Instance, .int .i64 x56.Sequence, .bool x56.Answered, .string (bs x56.Reply)] := hr68
    subst hq69
    change cellsAt _ _ (o63 + j58 * 5) [.int .i64 x56.Who.Address, .int .i64 x56.Who.Instance, .int .i64 x56.Sequence, .bool x56.Answered, .string (bs x56.Reply)] at hc67
    refine WOps.p (G.idx T.el102 rfl eA65 rfl ej59 hl61) rfl ?_
    refine WOps.p (G.field T.fld127_2 rfl (show o63 + j58 * 5 + 3 = o63 + j58 * 5 + 3 from rfl)) rfl ?_
    obtain ⟨l70, hc71, hF⟩ := bind_some hF
    have e72 := upd_spec' hc71 ej59
    have S73 := S30.front 2 rfl
    change St _ _ _ [G11, [(p0, .cells #[.int .i64 a0.C.Clients, .int .i64 a0.C.Entries, .int .i64 a0.C.Bytes, .int .i64 a0.C.Reserve, .slice A5 a0.L.length c6, .slice A9 a0.I.length c10] 104 (0, 0))], G7] at S73
    obtain ⟨w74, G75, E76, hO77, S78⟩ := St.storeF (P := Try.prog) (T := 4) S73 hO12 T.size4_1 hj60 eA65 (⟨x56.Who, x56.Sequence, true, x56.Reply⟩ : Item) (v := .bool true) [.int .i64 x56.Who.Address, .int .i64 x56.Who.Instance, .int .i64 x56.Sequence] [.bool x56.Answered] [.string (bs x56.Reply)] rfl rfl rfl
    rw [← e72] at hO77
    have hl79 : (a0.I).length = l70.length := by rw [e72, List.length_set]
    try rw [hl79] at S78
    try rw [hl79]
    change St _ _ _ [G75, [(p0, .cells #[.int .i64 a0.C.Clients, .int .i64 a0.C.Entries, .int .i64 a0.C.Bytes, .int .i64 a0.C.Reserve, .slice A5 a0.L.length c6, .slice A9 l70.length c10] 104 (0, 0))], G7] at S78
    refine WOps.u (E76 rfl rfl) ?_
    refine WOps.nil ?_
    refine WEx.then_ ?_
    refine WCode.forget (l' := [(0, .pointer (some ⟨p0, 0, none⟩)), (3, .string (bs a3)), (9, .int .i64 t21)]) ⟨rfl, rfl, rfl, trivial⟩ ?_
    refine WCode.seq ?_
    refine WCode.region ?_
    refine WOps.p (G.move rfl) rfl ?_
    refine WOps.p (G.nilp rfl) rfl ?_
    refine WOps.p (G.field T.fld104_2 rfl (show 0 + 5 = 5 from rfl)) rfl ?_
    refine WOps.r (G.load1 T.one102 rfl (cell_blk (S78.blk 1 rfl) rfl)) rfl ?_
    refine WOps.p (G.move rfl) rfl ?_
    refine WOps.p (G.move rfl) rfl ?_
    obtain ⟨x80, hc81, hF⟩ := bind_some hF
    obtain ⟨j82, ej83, hj84, hl85⟩ := idx_spec hc81
    obtain ⟨b86, o87, cs88, eA89, hf90, hc91, hr92⟩ := SlR.at_ (hO77.rd (fun b o hb => S78.grp 0 rfl hb)) hj84
    have hq93 : cs88 = [.int .i64 x80.Who.Address, .int .i64 x80.Who.Instance, .int .i64 x80.Sequence, .bool x80.Answered, .string (bs x80.Reply)] := hr92
    subst hq93
    change cellsAt _ _ (o87 + j82 * 5) [.int .i64 x80.Who.Address, .int .i64 x80.Who.Instance, .int .i64 x80.Sequence, .bool x80.Answered, .string (bs x80.Reply)] at hc91
    refine WOps.p (G.idx T.el102 rfl eA89 rfl ej83 hl85) rfl ?_
    refine WOps.p (G.field T.fld127_3 rfl (show o87 + j82 * 5 + 4 = o87 + j82 * 5 + 4 from rfl)) rfl ?_
    obtain ⟨l94, hc95, hF⟩ := bind_some hF
    have e96 := upd_spec' hc95 ej83
    obtain ⟨w97, G98, E99, hO100, S101⟩ := St.storeF (P := Try.prog) (T := 9) S78 hO77 T.size9_1 hj84 eA89 (⟨x80.Who, x80.Sequence, x80.Answered, a3⟩ : Item) (v := .string (bs a3)) [.int .i64 x80.Who.Address, .int .i64 x80.Who.Instance, .int .i64 x80.Sequence, .bool x80.Answered] [.string (bs x80.Reply)] [] rfl rfl rfl
    rw [← e96] at hO100
    have hl102 : (l70).length = l94.length := by rw [e96, List.length_set]
    try rw [hl102] at S101
    try rw [hl102]
    change St _ _ _ [G98, [(p0, .cells #[.int .i64 a0.C.Clients, .int .i64 a0.C.Entries, .int .i64 a0.C.Bytes, .int .i64 a0.C.Reserve, .slice A5 a0.L.length c6, .slice A9 l94.length c10] 104 (0, 0))], G7] at S101
    refine WOps.u (E99 rfl rfl) ?_
    refine WOps.nil ?_
    refine WEx.then_ ?_
    refine WCode.forget (l' := []) trivial ?_
    refine WCode.seq ?_
    refine WCode.region ?_
    refine WOps.p (G.assign rfl) rfl ?_
    refine WOps.nil ?_
    refine WEx.then_ ?_
    refine WCode.ret ?_
    obtain rfl := some_eq hF
    refine WEx.ret1 rfl rfl ?_
    have S103 := (S101.front 2 rfl).front 2 rfl
    change St _ _ _ [[(p0, .cells #[.int .i64 a0.C.Clients, .int .i64 a0.C.Entries, .int .i64 a0.C.Bytes, .int .i64 a0.C.Reserve, .slice A5 a0.L.length c6, .slice A9 l94.length c10] 104 (0, 0))], G7, G98] at S103
    have hO104 : ObjO 104 Cache104.rp p0 (⟨a0.C, a0.L, l94⟩ : Cache104) ([(p0, .cells #[.int .i64 a0.C.Clients, .int .i64 a0.C.Entries, .int .i64 a0.C.Bytes, .int .i64 a0.C.Reserve, .slice A5 a0.L.length c6, .slice A9 l94.length c10] 104 (0, 0))] ++ (G7 ++ (G98))) := ⟨_, _, ⟨A5, c6, G7, A9, c10, G98, rfl, hO8, hO100, rfl⟩, rfl⟩
    have S105 : St _ _ _ [[(p0, .cells #[.int .i64 a0.C.Clients, .int .i64 a0.C.Entries, .int .i64 a0.C.Bytes, .int .i64 a0.C.Reserve, .slice A5 a0.L.length c6, .slice A9 l94.length c10] 104 (0, 0))] ++ (G7 ++ (G98))] := S103.objs (by simp)
    exact ⟨[(p0, .cells #[.int .i64 a0.C.Clients, .int .i64 a0.C.Entries, .int .i64 a0.C.Bytes, .int .i64 a0.C.Reserve, .slice A5 a0.L.length c6, .slice A9 l94.length c10] 104 (0, 0))] ++ (G7 ++ (G98)), rfl, hO104, St.keep (As := [[(p0, .cells #[.int .i64 a0.C.Clients, .int .i64 a0.C.Entries, .int .i64 a0.C.Bytes, .int .i64 a0.C.Reserve, .slice A5 a0.L.length c6, .slice A9 l94.length c10] 104 (0, 0))] ++ (G7 ++ (G98))]) S105⟩

def rc_Ask.j6 (q239 : Nat) (a1 : WhoC) (a2 : Int) (x44 : Int) (x45 : Int) (x46 : Int) (x47 : Int) (l55 : List Item) (l234 : List Known123) : Option (Int × (List UInt8) × Cache104) := (Option.bind (catN 2932031007402 l55 ([(⟨a1, a2, false, ([] : List UInt8)⟩ : Item)] : List Item)) fun l275 => (some (1, ([] : List UInt8), (⟨(⟨x44, x45, x46, x47⟩ : CacheConfig), l234, l275⟩ : Cache104))))
def rc_Ask.j5 (q183 : Nat) (a1 : WhoC) (a2 : Int) (t37 : Int) (x44 : Int) (x45 : Int) (x46 : Int) (x47 : Int) (l50 : List Known123) (l55 : List Item) (x104 : Int) : Option (Int × (List UInt8) × Cache104) := (if t37 < 0 then (Option.bind (catN 5864062014805 l50 ([(⟨a1, x104⟩ : Known123)] : List Known123)) fun l250 => (rc_Ask.j6 q183 a1 a2 x44 x45 x46 x47 l55 l250)) else (rc_Ask.j6 q183 a1 a2 x44 x45 x46 x47 l55 l50))
def rc_Ask.j4 (q138 : Nat) (a1 : WhoC) (a2 : Int) (t37 : Int) (x44 : Int) (x45 : Int) (x46 : Int) (x47 : Int) (l50 : List Known123) (l55 : List Item) (x104 : Int) (t128 : Int) (b135 : Bool) : Option (Int × (List UInt8) × Cache104) := (if b135 = true then (Option.bind (idx l55 t128) fun x160 => (some (3, x160.Reply, (⟨(⟨x44, x45, x46, x47⟩ : CacheConfig), l50, l55⟩ : Cache104)))) else (if 0 ≤ t128 then (some (2, ([] : List UInt8), (⟨(⟨x44, x45, x46, x47⟩ : CacheConfig), l50, l55⟩ : Cache104))) else (if t37 < 0 then (if (l50.length : Int) = x44 then (some (5, ([] : List UInt8), (⟨(⟨x44, x45, x46, x47⟩ : CacheConfig), l50, l55⟩ : Cache104))) else (Option.bind (rc_of q138 (⟨(⟨x44, x45, x46, x47⟩ : CacheConfig), l50, l55⟩ : Cache104) a1) fun t192 => (if t192 = x45 then (some (5, ([] : List UInt8), (⟨(⟨x44, x45, x46, x47⟩ : CacheConfig), l50, l55⟩ : Cache104))) else (Option.bind (rc_Bytes q138 (⟨(⟨x44, x45, x46, x47⟩ : CacheConfig), l50, l55⟩ : Cache104)) fun t202 => (if x46 < (w64 (t202 + x47)) then (some (5, ([] : List UInt8), (⟨(⟨x44, x45, x46, x47⟩ : CacheConfig), l50, l55⟩ : Cache104))) else (rc_Ask.j5 q138 a1 a2 t37 x44 x45 x46 x47 l50 l55 x104)))))) else (Option.bind (rc_of q138 (⟨(⟨x44, x45, x46, x47⟩ : CacheConfig), l50, l55⟩ : Cache104) a1) fun t212 => (if t212 = x45 then (some (5, ([] : List UInt8), (⟨(⟨x44, x45, x46, x47⟩ : CacheConfig), l50, l55⟩ : Cache104))) else (Option.bind (rc_Bytes q138 (⟨(⟨x44, x45, x46, x47⟩ : CacheConfig), l50, l55⟩ : Cache104)) fun t222 => (if x46 < (w64 (t222 + x47)) then (some (5, ([] : List UInt8), (⟨(⟨x44, x45, x46, x47⟩ : CacheConfig), l50, l55⟩ : Cache104))) else (rc_Ask.j5 q138 a1 a2 t37 x44 x45 x46 x47 l50 l55 x104))))))))
def rc_Ask.j3 (q107 : Nat) (a1 : WhoC) (a2 : Int) (t37 : Int) (x44 : Int) (x45 : Int) (x46 : Int) (x47 : Int) (l50 : List Known123) (l55 : List Item) (x104 : Int) : Option (Int × (List UInt8) × Cache104) := (if a2 < x104 then (some (4, ([] : List UInt8), (⟨(⟨x44, x45, x46, x47⟩ : CacheConfig), l50, l55⟩ : Cache104))) else (Option.bind (rc_item q107 (⟨(⟨x44, x45, x46, x47⟩ : CacheConfig), l50, l55⟩ : Cache104) a1 a2) fun t128 => (if 0 ≤ t128 then (Option.bind (idx l55 t128) fun x141 => (rc_Ask.j4 q107 a1 a2 t37 x44 x45 x46 x47 l50 l55 x104 t128 x141.Answered)) else (rc_Ask.j4 q107 a1 a2 t37 x44 x45 x46 x47 l50 l55 x104 t128 false))))
def rc_Ask.j2 (q60 : Nat) (a1 : WhoC) (a2 : Int) (a3 : Int) (t37 : Int) (x44 : Int) (x45 : Int) (x46 : Int) (x47 : Int) (l50 : List Known123) (l55 : List Item) : Option (Int × (List UInt8) × Cache104) := (if 0 ≤ t37 then (Option.bind (idx l50 t37) fun x110 => (rc_Ask.j3 q60 a1 a2 t37 x44 x45 x46 x47 l50 l55 x110.Water)) else (rc_Ask.j3 q60 a1 a2 t37 x44 x45 x46 x47 l50 l55 a3))
def rc_Ask.j1 (q24 : Nat) (a0 : Cache104) (a1 : WhoC) (a2 : Int) (a3 : Int) (b21 : Bool) : Option (Int × (List UInt8) × Cache104) := (if b21 = true then (some (4, ([] : List UInt8), a0)) else (Option.bind (rc_client q24 a0 a1) fun t37 => (if 0 ≤ t37 then (Option.bind (idx a0.L t37) fun x63 => (if x63.Water < a3 then (Option.bind (rc_rises q24 a0 t37 a3) fun t80 => (rc_Ask.j2 q24 a1 a2 a3 t37 t80.C.Clients t80.C.Entries t80.C.Bytes t80.C.Reserve t80.L t80.I)) else (rc_Ask.j2 q24 a1 a2 a3 t37 a0.C.Clients a0.C.Entries a0.C.Bytes a0.C.Reserve a0.L a0.I))) else (rc_Ask.j2 q24 a1 a2 a3 t37 a0.C.Clients a0.C.Entries a0.C.Bytes a0.C.Reserve a0.L a0.I))))
def rc_Ask (k : Nat) (a0 : Cache104) (a1 : WhoC) (a2 : Int) (a3 : Int) : Option (Int × (List UInt8) × Cache104) := (if a1.Address < 1 then (rc_Ask.j1 k a0 a1 a2 a3 true) else (if 16777215 < a1.Address then (rc_Ask.j1 k a0 a1 a2 a3 true) else (if a1.Instance < 1 then (rc_Ask.j1 k a0 a1 a2 a3 true) else (if 4611686018427387904 < a1.Instance then (rc_Ask.j1 k a0 a1 a2 a3 true) else (if a2 < 1 then (rc_Ask.j1 k a0 a1 a2 a3 true) else (if 4294967295 < a2 then (rc_Ask.j1 k a0 a1 a2 a3 true) else (if a3 < 1 then (rc_Ask.j1 k a0 a1 a2 a3 true) else (rc_Ask.j1 k a0 a1 a2 a3 (decide (4294967295 < a3))))))))))
set_option maxRecDepth 100000 in
set_option maxHeartbeats 1000000 in
theorem rc_Ask_calls (k : Nat) (a0 : Cache104) {p0 : Nat} {G0 : Grp} (a1 : WhoC) (a2 : Int) (a3 : Int) {w : World} (hO0 : ObjO 104 Cache104.rp p0 a0 G0) {r_ : Int × (List UInt8) × Cache104} (h_ : rc_Ask k a0 a1 a2 a3 = some r_) (hp_ : Hp w ([G0]).flatten) :
    Calls Try.prog 39 [.pointer (some ⟨p0, 0, none⟩), .agg #[.int .i64 a1.Address, .int .i64 a1.Instance], .int .i64 a2, .int .i64 a3].toArray w fun e w' => ∃ Go0' : Grp, e = .returned (.tuple #[.int .i64 r_.1, .string (bs r_.2.1)]) ∧ ObjO 104 Cache104.rp p0 (r_.2.2) Go0' ∧ St w (KS [G0]) w' [Go0'] := by
 have hF := h_
 clear h_
 unfold rc_Ask at hF
 have S := St.initK [G0] hp_
 obtain ⟨cs1, G2, ho3, hg4⟩ := hO0
 obtain ⟨A5, c6, G7, A9, c10, G11, rfl, hO8, hO12, hq13⟩ := ho3
 have S14 : St _ _ _ [[(p0, .cells #[.int .i64 a0.C.Clients, .int .i64 a0.C.Entries, .int .i64 a0.C.Bytes, .int .i64 a0.C.Reserve, .slice A5 a0.L.length c6, .slice A9 a0.I.length c10] 104 (0, 0))], G7, G11] := S.objs (by rw [hg4, hq13]; simp)
 refine enter 174 [(0, .pointer (some ⟨p0, 0, none⟩)), (1, .agg #[.int .i64 a1.Address, .int .i64 a1.Instance]), (2, .int .i64 a2), (3, .int .i64 a3)] Try.func39 rfl rfl rfl rfl ?_
 refine WCode.seq ?_
 refine WCode.region ?_
 obtain ⟨b15, w16, E17, S18, X19, L20⟩ := St.box S14 Try.prog 34 (.agg #[.int .i64 a1.Address, .int .i64 a1.Instance])
 change St _ _ _ [[(b15, .cells #[.int .i64 a1.Address, .int .i64 a1.Instance] 34 (0, 0))], [(p0, .cells #[.int .i64 a0.C.Clients, .int .i64 a0.C.Entries, .int .i64 a0.C.Bytes, .int .i64 a0.C.Reserve, .slice A5 a0.L.length c6, .slice A9 a0.I.length c10] 104 (0, 0))], G7, G11] at S18
 refine WOps.e (E17 rfl) rfl ?_
 refine WOps.p (G.assign rfl) rfl ?_
 refine WOps.p (G.assign rfl) rfl ?_
 refine WOps.nil ?_
 refine WEx.then_ ?_
 refine WCode.seq ?_
 refine WCode.cutseq (fun l_ w_ => ∃ q24 : Nat, ∃ b21 : Bool, l_ = [(0, .pointer (some ⟨p0, 0, none⟩)), (2, .int .i64 a2), (3, .int .i64 a3), (5, .pointer (some ⟨b15, 0, none⟩)), (45, .bool b21)] ∧ rc_Ask.j1 q24 a0 a1 a2 a3 b21 = some r_ ∧ St w (KS [G0]) w_ [[(b15, .cells #[.int .i64 a1.Address, .int .i64 a1.Instance] 34 (0, 0))], [(p0, .cells #[.int .i64 a0.C.Clients, .int .i64 a0.C.Entries, .int .i64 a0.C.Bytes, .int .i64 a0.C.Reserve, .slice A5 a0.L.length c6, .slice A9 a0.I.length c10] 104 (0, 0))], G7, G11]) ?_ ?_
 ·
  refine WCode.region ?_
  refine WOps.p (G.field T.fld34_0 rfl (show 0 + 0 = 0 from rfl)) rfl ?_
  refine WOps.r (G.load1 T.one3 rfl (cell_blk (S18.blk 0 rfl) rfl)) rfl ?_
  refine WOps.p (G.lss rfl rfl rfl) rfl ?_
  refine WOps.p (G.move rfl) rfl ?_
  rcases ite_some hF with ⟨h26, hF⟩ | ⟨h26, hF⟩
  ·
   refine WOps.off rfl (kbl (b := decide (a1.Address < 1)) rfl (decide_eq_true h26)) rfl rfl ?_
   refine WOps.off rfl (kbl (b := decide (a1.Address < 1)) rfl (decide_eq_true h26)) rfl rfl ?_
   refine WOps.off rfl (kbl (b := decide (a1.Address < 1)) rfl (decide_eq_true h26)) rfl rfl ?_
   refine WOps.p (G.pick_t (kb (b := decide (a1.Address < 1)) rfl (decide_eq_true h26)) rfl) rfl ?_
   refine WOps.p (G.move rfl) rfl ?_
   refine WOps.off rfl rfl rfl rfl ?_
   refine WOps.off rfl rfl rfl rfl ?_
   refine WOps.off rfl rfl rfl rfl ?_
   refine WOps.p (G.pick_t rfl rfl) rfl ?_
   refine WOps.p (G.move rfl) rfl ?_
   refine WOps.off rfl rfl rfl rfl ?_
   refine WOps.off rfl rfl rfl rfl ?_
   refine WOps.off rfl rfl rfl rfl ?_
   refine WOps.p (G.pick_t rfl rfl) rfl ?_
   refine WOps.p (G.move rfl) rfl ?_
   refine WOps.off rfl rfl rfl rfl ?_
   refine WOps.off rfl rfl rfl rfl ?_
   refine WOps.p (G.pick_t rfl rfl) rfl ?_
   refine WOps.p (G.move rfl) rfl ?_
   refine WOps.off rfl rfl rfl rfl ?_
   refine WOps.off rfl rfl rfl rfl ?_
   refine WOps.p (G.pick_t rfl rfl) rfl ?_
   refine WOps.p (G.move rfl) rfl ?_
   refine WOps.off rfl rfl rfl rfl ?_
   refine WOps.off rfl rfl rfl rfl ?_
   refine WOps.p (G.pick_t rfl rfl) rfl ?_
   refine WOps.p (G.move rfl) rfl ?_
   refine WOps.off rfl rfl rfl rfl ?_
   refine WOps.off rfl rfl rfl rfl ?_
   refine WOps.p (G.pick_t rfl rfl) rfl ?_
   refine WOps.nil ?_
   refine WEx.cutend _ ?_ ⟨k, true, rfl, hF, S18⟩
   exact ⟨rfl, rfl, rfl, rfl, rfl, trivial⟩
  ·
   refine WOps.on rfl (kbl (b := decide (a1.Address < 1)) rfl (decide_eq_false h26)) ?_
   refine WOps.p (G.field T.fld34_0 rfl (show 0 + 0 = 0 from rfl)) rfl ?_
   refine WOps.on rfl (kbl (b := decide (a1.Address < 1)) rfl (decide_eq_false h26)) ?_
   refine WOps.r (G.load1 T.one3 rfl (cell_blk (S18.blk 0 rfl) rfl)) rfl ?_
   refine WOps.on rfl (kbl (b := decide (a1.Address < 1)) rfl (decide_eq_false h26)) ?_
   refine WOps.p (G.gtr rfl rfl rfl) rfl ?_
   refine WOps.p (G.pick_f (kb (b := decide (a1.Address < 1)) rfl (decide_eq_false h26)) rfl) rfl ?_
   refine WOps.p (G.move rfl) rfl ?_
   rcases ite_some hF with ⟨h27, hF⟩ | ⟨h27, hF⟩
   ·
    refine WOps.off rfl (kbl (b := decide (16777215 < a1.Address)) rfl (decide_eq_true h27)) rfl rfl ?_
    refine WOps.off rfl (kbl (b := decide (16777215 < a1.Address)) rfl (decide_eq_true h27)) rfl rfl ?_
    refine WOps.off rfl (kbl (b := decide (16777215 < a1.Address)) rfl (decide_eq_true h27)) rfl rfl ?_
    refine WOps.p (G.pick_t (kb (b := decide (16777215 < a1.Address)) rfl (decide_eq_true h27)) rfl) rfl ?_
    refine WOps.p (G.move rfl) rfl ?_
    refine WOps.off rfl rfl rfl rfl ?_
    refine WOps.off rfl rfl rfl rfl ?_
    refine WOps.off rfl rfl rfl rfl ?_
    refine WOps.p (G.pick_t rfl rfl) rfl ?_
    refine WOps.p (G.move rfl) rfl ?_
    refine WOps.off rfl rfl rfl rfl ?_
    refine WOps.off rfl rfl rfl rfl ?_
    refine WOps.p (G.pick_t rfl rfl) rfl ?_
    refine WOps.p (G.move rfl) rfl ?_
    refine WOps.off rfl rfl rfl rfl ?_
    refine WOps.off rfl rfl rfl rfl ?_
    refine WOps.p (G.pick_t rfl rfl) rfl ?_
    refine WOps.p (G.move rfl) rfl ?_
    refine WOps.off rfl rfl rfl rfl ?_
    refine WOps.off rfl rfl rfl rfl ?_
    refine WOps.p (G.pick_t rfl rfl) rfl ?_
    refine WOps.p (G.move rfl) rfl ?_
    refine WOps.off rfl rfl rfl rfl ?_
    refine WOps.off rfl rfl rfl rfl ?_
    refine WOps.p (G.pick_t rfl rfl) rfl ?_
    refine WOps.nil ?_
    refine WEx.cutend _ ?_ ⟨k, true, rfl, hF, S18⟩
    exact ⟨rfl, rfl, rfl, rfl, rfl, trivial⟩
   ·
    refine WOps.on rfl (kbl (b := decide (16777215 < a1.Address)) rfl (decide_eq_false h27)) ?_
    refine WOps.p (G.field T.fld34_1 rfl (show 0 + 1 = 1 from rfl)) rfl ?_
    refine WOps.on rfl (kbl (b := decide (16777215 < a1.Address)) rfl (decide_eq_false h27)) ?_
    refine WOps.r (G.load1 T.one3 rfl (cell_blk (S18.blk 0 rfl) rfl)) rfl ?_
    refine WOps.on rfl (kbl (b := decide (16777215 < a1.Address)) rfl (decide_eq_false h27)) ?_
    refine WOps.p (G.lss rfl rfl rfl) rfl ?_
    refine WOps.p (G.pick_f (kb (b := decide (16777215 < a1.Address)) rfl (decide_eq_false h27)) rfl) rfl ?_
    refine WOps.p (G.move rfl) rfl ?_
    rcases ite_some hF with ⟨h28, hF⟩ | ⟨h28, hF⟩
    ·
     refine WOps.off rfl (kbl (b := decide (a1.Instance < 1)) rfl (decide_eq_true h28)) rfl rfl ?_
     refine WOps.off rfl (kbl (b := decide (a1.Instance < 1)) rfl (decide_eq_true h28)) rfl rfl ?_
     refine WOps.off rfl (kbl (b := decide (a1.Instance < 1)) rfl (decide_eq_true h28)) rfl rfl ?_
     refine WOps.p (G.pick_t (kb (b := decide (a1.Instance < 1)) rfl (decide_eq_true h28)) rfl) rfl ?_
     refine WOps.p (G.move rfl) rfl ?_
     refine WOps.off rfl rfl rfl rfl ?_
     refine WOps.off rfl rfl rfl rfl ?_
     refine WOps.p (G.pick_t rfl rfl) rfl ?_
     refine WOps.p (G.move rfl) rfl ?_
     refine WOps.off rfl rfl rfl rfl ?_
     refine WOps.off rfl rfl rfl rfl ?_
     refine WOps.p (G.pick_t rfl rfl) rfl ?_
     refine WOps.p (G.move rfl) rfl ?_
     refine WOps.off rfl rfl rfl rfl ?_
     refine WOps.off rfl rfl rfl rfl ?_
     refine WOps.p (G.pick_t rfl rfl) rfl ?_
     refine WOps.p (G.move rfl) rfl ?_
     refine WOps.off rfl rfl rfl rfl ?_
     refine WOps.off rfl rfl rfl rfl ?_
     refine WOps.p (G.pick_t rfl rfl) rfl ?_
     refine WOps.nil ?_
     refine WEx.cutend _ ?_ ⟨k, true, rfl, hF, S18⟩
     exact ⟨rfl, rfl, rfl, rfl, rfl, trivial⟩
    ·
     refine WOps.on rfl (kbl (b := decide (a1.Instance < 1)) rfl (decide_eq_false h28)) ?_
     refine WOps.p (G.field T.fld34_1 rfl (show 0 + 1 = 1 from rfl)) rfl ?_
     refine WOps.on rfl (kbl (b := decide (a1.Instance < 1)) rfl (decide_eq_false h28)) ?_
     refine WOps.r (G.load1 T.one3 rfl (cell_blk (S18.blk 0 rfl) rfl)) rfl ?_
     refine WOps.on rfl (kbl (b := decide (a1.Instance < 1)) rfl (decide_eq_false h28)) ?_
     refine WOps.p (G.gtr rfl rfl rfl) rfl ?_
     refine WOps.p (G.pick_f (kb (b := decide (a1.Instance < 1)) rfl (decide_eq_false h28)) rfl) rfl ?_
     refine WOps.p (G.move rfl) rfl ?_
     rcases ite_some hF with ⟨h29, hF⟩ | ⟨h29, hF⟩
     ·
      refine WOps.off rfl (kbl (b := decide (4611686018427387904 < a1.Instance)) rfl (decide_eq_true h29)) rfl rfl ?_
      refine WOps.off rfl (kbl (b := decide (4611686018427387904 < a1.Instance)) rfl (decide_eq_true h29)) rfl rfl ?_
      refine WOps.p (G.pick_t (kb (b := decide (4611686018427387904 < a1.Instance)) rfl (decide_eq_true h29)) rfl) rfl ?_
      refine WOps.p (G.move rfl) rfl ?_
      refine WOps.off rfl rfl rfl rfl ?_
      refine WOps.off rfl rfl rfl rfl ?_
      refine WOps.p (G.pick_t rfl rfl) rfl ?_
      refine WOps.p (G.move rfl) rfl ?_
      refine WOps.off rfl rfl rfl rfl ?_
      refine WOps.off rfl rfl rfl rfl ?_
      refine WOps.p (G.pick_t rfl rfl) rfl ?_
      refine WOps.p (G.move rfl) rfl ?_
      refine WOps.off rfl rfl rfl rfl ?_
      refine WOps.off rfl rfl rfl rfl ?_
      refine WOps.p (G.pick_t rfl rfl) rfl ?_
      refine WOps.nil ?_
      refine WEx.cutend _ ?_ ⟨k, true, rfl, hF, S18⟩
      exact ⟨rfl, rfl, rfl, rfl, rfl, trivial⟩
     ·
      refine WOps.on rfl (kbl (b := decide (4611686018427387904 < a1.Instance)) rfl (decide_eq_false h29)) ?_
      refine WOps.p (G.move rfl) rfl ?_
      refine WOps.on rfl (kbl (b := decide (4611686018427387904 < a1.Instance)) rfl (decide_eq_false h29)) ?_
      refine WOps.p (G.lss rfl rfl rfl) rfl ?_
      refine WOps.p (G.pick_f (kb (b := decide (4611686018427387904 < a1.Instance)) rfl (decide_eq_false h29)) rfl) rfl ?_
      refine WOps.p (G.move rfl) rfl ?_
      rcases ite_some hF with ⟨h30, hF⟩ | ⟨h30, hF⟩
      ·
       refine WOps.off rfl (kbl (b := decide (a2 < 1)) rfl (decide_eq_true h30)) rfl rfl ?_
       refine WOps.off rfl (kbl (b := decide (a2 < 1)) rfl (decide_eq_true h30)) rfl rfl ?_
       refine WOps.p (G.pick_t (kb (b := decide (a2 < 1)) rfl (decide_eq_true h30)) rfl) rfl ?_
       refine WOps.p (G.move rfl) rfl ?_
       refine WOps.off rfl rfl rfl rfl ?_
       refine WOps.off rfl rfl rfl rfl ?_
       refine WOps.p (G.pick_t rfl rfl) rfl ?_
       refine WOps.p (G.move rfl) rfl ?_
       refine WOps.off rfl rfl rfl rfl ?_
       refine WOps.off rfl rfl rfl rfl ?_
       refine WOps.p (G.pick_t rfl rfl) rfl ?_
       refine WOps.nil ?_
       refine WEx.cutend _ ?_ ⟨k, true, rfl, hF, S18⟩
       exact ⟨rfl, rfl, rfl, rfl, rfl, trivial⟩
      ·
       refine WOps.on rfl (kbl (b := decide (a2 < 1)) rfl (decide_eq_false h30)) ?_
       refine WOps.p (G.move rfl) rfl ?_
       refine WOps.on rfl (kbl (b := decide (a2 < 1)) rfl (decide_eq_false h30)) ?_
       refine WOps.p (G.gtr rfl rfl rfl) rfl ?_
       refine WOps.p (G.pick_f (kb (b := decide (a2 < 1)) rfl (decide_eq_false h30)) rfl) rfl ?_
       refine WOps.p (G.move rfl) rfl ?_
       rcases ite_some hF with ⟨h31, hF⟩ | ⟨h31, hF⟩
       ·
        refine WOps.off rfl (kbl (b := decide (4294967295 < a2)) rfl (decide_eq_true h31)) rfl rfl ?_
        refine WOps.off rfl (kbl (b := decide (4294967295 < a2)) rfl (decide_eq_true h31)) rfl rfl ?_
        refine WOps.p (G.pick_t (kb (b := decide (4294967295 < a2)) rfl (decide_eq_true h31)) rfl) rfl ?_
        refine WOps.p (G.move rfl) rfl ?_
        refine WOps.off rfl rfl rfl rfl ?_
        refine WOps.off rfl rfl rfl rfl ?_
        refine WOps.p (G.pick_t rfl rfl) rfl ?_
        refine WOps.nil ?_
        refine WEx.cutend _ ?_ ⟨k, true, rfl, hF, S18⟩
        exact ⟨rfl, rfl, rfl, rfl, rfl, trivial⟩
       ·
        refine WOps.on rfl (kbl (b := decide (4294967295 < a2)) rfl (decide_eq_false h31)) ?_
        refine WOps.p (G.move rfl) rfl ?_
        refine WOps.on rfl (kbl (b := decide (4294967295 < a2)) rfl (decide_eq_false h31)) ?_
        refine WOps.p (G.lss rfl rfl rfl) rfl ?_
        refine WOps.p (G.pick_f (kb (b := decide (4294967295 < a2)) rfl (decide_eq_false h31)) rfl) rfl ?_
        refine WOps.p (G.move rfl) rfl ?_
        rcases ite_some hF with ⟨h32, hF⟩ | ⟨h32, hF⟩
        ·
         refine WOps.off rfl (kbl (b := decide (a3 < 1)) rfl (decide_eq_true h32)) rfl rfl ?_
         refine WOps.off rfl (kbl (b := decide (a3 < 1)) rfl (decide_eq_true h32)) rfl rfl ?_
         refine WOps.p (G.pick_t (kb (b := decide (a3 < 1)) rfl (decide_eq_true h32)) rfl) rfl ?_
         refine WOps.nil ?_
         refine WEx.cutend _ ?_ ⟨k, true, rfl, hF, S18⟩
         exact ⟨rfl, rfl, rfl, rfl, rfl, trivial⟩
        ·
         refine WOps.on rfl (kbl (b := decide (a3 < 1)) rfl (decide_eq_false h32)) ?_
         refine WOps.p (G.move rfl) rfl ?_
         refine WOps.on rfl (kbl (b := decide (a3 < 1)) rfl (decide_eq_false h32)) ?_
         refine WOps.p (G.gtr rfl rfl rfl) rfl ?_
         refine WOps.p (G.pick_f (kb (b := decide (a3 < 1)) rfl (decide_eq_false h32)) rfl) rfl ?_
         refine WOps.nil ?_
         refine WEx.cutend _ ?_ ⟨k, decide (4294967295 < a3), rfl, hF, S18⟩
         exact ⟨rfl, rfl, rfl, rfl, rfl, trivial⟩
 ·
  rintro _ w22 ⟨q24, b21, rfl, hF, S23⟩
  unfold rc_Ask.j1 at hF
  rcases ite_some hF with ⟨h33, hF⟩ | ⟨h33, hF⟩
  ·
   refine WCode.cond_t (kb (b := b21) rfl h33) ?_
   refine WCode.seq ?_
   refine WCode.region ?_
   refine WOps.p (G.assign rfl) rfl ?_
   refine WOps.p (G.assign rfl) rfl ?_
   refine WOps.nil ?_
   refine WEx.then_ ?_
   refine WCode.ret ?_
   refine WEx.then_ret ?_
   obtain rfl := some_eq hF
   refine WEx.ret2 rfl rfl rfl ?_
   have S34 := ((S23.front 3 rfl).front 3 rfl).front 3 rfl
   change St _ _ _ [[(p0, .cells #[.int .i64 a0.C.Clients, .int .i64 a0.C.Entries, .int .i64 a0.C.Bytes, .int .i64 a0.C.Reserve, .slice A5 a0.L.length c6, .slice A9 a0.I.length c10] 104 (0, 0))], G7, G11, [(b15, .cells #[.int .i64 a1.Address, .int .i64 a1.Instance] 34 (0, 0))]] at S34
   have hO35 : ObjO 104 Cache104.rp p0 a0 ([(p0, .cells #[.int .i64 a0.C.Clients, .int .i64 a0.C.Entries, .int .i64 a0.C.Bytes, .int .i64 a0.C.Reserve, .slice A5 a0.L.length c6, .slice A9 a0.I.length c10] 104 (0, 0))] ++ (G7 ++ (G11))) := ⟨_, _, ⟨A5, c6, G7, A9, c10, G11, rfl, hO8, hO12, rfl⟩, rfl⟩
   have S36 : St _ _ _ [[(p0, .cells #[.int .i64 a0.C.Clients, .int .i64 a0.C.Entries, .int .i64 a0.C.Bytes, .int .i64 a0.C.Reserve, .slice A5 a0.L.length c6, .slice A9 a0.I.length c10] 104 (0, 0))] ++ (G7 ++ (G11)), [(b15, .cells #[.int .i64 a1.Address, .int .i64 a1.Instance] 34 (0, 0))]] := S34.objs (by simp)
   exact ⟨[(p0, .cells #[.int .i64 a0.C.Clients, .int .i64 a0.C.Entries, .int .i64 a0.C.Bytes, .int .i64 a0.C.Reserve, .slice A5 a0.L.length c6, .slice A9 a0.I.length c10] 104 (0, 0))] ++ (G7 ++ (G11)), rfl, hO35, St.keep (As := [[(p0, .cells #[.int .i64 a0.C.Clients, .int .i64 a0.C.Entries, .int .i64 a0.C.Bytes, .int .i64 a0.C.Reserve, .slice A5 a0.L.length c6, .slice A9 a0.I.length c10] 104 (0, 0))] ++ (G7 ++ (G11))]) S36⟩
  ·
   refine WCode.cond_f (kb (b := b21) rfl (Bool.eq_false_iff.2 h33)) ?_
   refine WCode.skip ?_
   refine WEx.then_ ?_
   refine WCode.seq ?_
   refine WCode.region ?_
   refine WOps.p (G.move rfl) rfl ?_
   refine WOps.r (G.loada T.agg34_2 rfl (cs := [.int .i64 a1.Address, .int .i64 a1.Instance]) (cellsAt.of_blk (S23.blk 0 rfl) rfl)) rfl ?_
   obtain ⟨t37, hc38, hF⟩ := bind_some hF
   have S39 := ((S23.front 3 rfl).front 3 rfl).front 3 rfl
   change St _ _ _ [[(p0, .cells #[.int .i64 a0.C.Clients, .int .i64 a0.C.Entries, .int .i64 a0.C.Bytes, .int .i64 a0.C.Reserve, .slice A5 a0.L.length c6, .slice A9 a0.I.length c10] 104 (0, 0))], G7, G11, [(b15, .cells #[.int .i64 a1.Address, .int .i64 a1.Instance] 34 (0, 0))]] at S39
   have hP40 : PtR 104 Cache104.rp w22 (KS [[(p0, .cells #[.int .i64 a0.C.Clients, .int .i64 a0.C.Entries, .int .i64 a0.C.Bytes, .int .i64 a0.C.Reserve, .slice A5 a0.L.length c6, .slice A9 a0.I.length c10] 104 (0, 0))], G7, G11]) p0 a0 := ⟨_, S39.blk 0 rfl, KS_at 0 rfl (by simp [keys]), ⟨A5, c6, A9, c10, rfl, ((hO8.rd (fun b o hb => S39.grp 1 rfl hb)).mono (fun b hb => KS_at 1 rfl hb)), ((hO12.rd (fun b o hb => S39.grp 2 rfl hb)).mono (fun b hb => KS_at 2 rfl hb))⟩⟩
   refine WOps.call T.call58 (evs_cons rfl (evs_cons rfl evs_nil)) rfl ?_
   refine (rc_client_calls q24 a0 a1 hP40 (St.outN (Bs := []) (As := [[(p0, .cells #[.int .i64 a0.C.Clients, .int .i64 a0.C.Entries, .int .i64 a0.C.Bytes, .int .i64 a0.C.Reserve, .slice A5 a0.L.length c6, .slice A9 a0.I.length c10] 104 (0, 0))], G7, G11]) S39) hc38).mono ?_
   rintro _ w41 ⟨rfl, T42⟩
   have S43 := St.callN (As := []) S39 T42
   change St _ _ _ [[(p0, .cells #[.int .i64 a0.C.Clients, .int .i64 a0.C.Entries, .int .i64 a0.C.Bytes, .int .i64 a0.C.Reserve, .slice A5 a0.L.length c6, .slice A9 a0.I.length c10] 104 (0, 0))], G7, G11, [(b15, .cells #[.int .i64 a1.Address, .int .i64 a1.Instance] 34 (0, 0))]] at S43
   refine ⟨_, rfl, ?_⟩
   refine WOps.p (G.assign rfl) rfl ?_
   refine WOps.nil ?_
   refine WEx.then_ ?_
   refine WCode.cutseq (fun l_ w_ => ∃ q60 : Nat, ∃ x44 : Int, ∃ x45 : Int, ∃ x46 : Int, ∃ x47 : Int, ∃ A48 : Option Addr, ∃ c49 : Nat, ∃ l50 : List Known123, ∃ G51 : Grp, ∃ A53 : Option Addr, ∃ c54 : Nat, ∃ l55 : List Item, ∃ G56 : Grp, l_ = [(0, .pointer (some ⟨p0, 0, none⟩)), (2, .int .i64 a2), (3, .int .i64 a3), (5, .pointer (some ⟨b15, 0, none⟩)), (10, .int .i64 t37)] ∧ rc_Ask.j2 q60 a1 a2 a3 t37 x44 x45 x46 x47 l50 l55 = some r_ ∧ (SlO 123 Known123.rp (.slice A48 l50.length c49) l50 G51) ∧ (SlO 127 Item.rp (.slice A53 l55.length c54) l55 G56) ∧ St w (KS [G0]) w_ [[(p0, .cells #[.int .i64 x44, .int .i64 x45, .int .i64 x46, .int .i64 x47, .slice A48 l50.length c49, .slice A53 l55.length c54] 104 (0, 0))], [(b15, .cells #[.int .i64 a1.Address, .int .i64 a1.Instance] 34 (0, 0))], G51, G56]) ?_ ?_
   ·
    refine WCode.seq ?_
    refine WCode.region ?_
    refine WOps.p (G.move rfl) rfl ?_
    refine WOps.p (G.geq rfl rfl rfl) rfl ?_
    refine WOps.p (G.move rfl) rfl ?_
    rcases ite_some hF with ⟨h62, hF⟩ | ⟨h62, hF⟩
    ·
     refine WOps.on rfl (kbl (b := decide (0 ≤ t37)) rfl (decide_eq_true h62)) ?_
     refine WOps.p (G.move rfl) rfl ?_
     refine WOps.on rfl (kbl (b := decide (0 ≤ t37)) rfl (decide_eq_true h62)) ?_
     refine WOps.p (G.move rfl) rfl ?_
     refine WOps.on rfl (kbl (b := decide (0 ≤ t37)) rfl (decide_eq_true h62)) ?_
     refine WOps.p (G.nilp rfl) rfl ?_
     refine WOps.on rfl (kbl (b := decide (0 ≤ t37)) rfl (decide_eq_true h62)) ?_
     refine WOps.p (G.field T.fld104_1 rfl (show 0 + 4 = 4 from rfl)) rfl ?_
     refine WOps.on rfl (kbl (b := decide (0 ≤ t37)) rfl (decide_eq_true h62)) ?_
     refine WOps.r (G.load1 T.one101 rfl (cell_blk (S43.blk 0 rfl) rfl)) rfl ?_
     refine WOps.on rfl (kbl (b := decide (0 ≤ t37)) rfl (decide_eq_true h62)) ?_
     refine WOps.p (G.move rfl) rfl ?_
     refine WOps.on rfl (kbl (b := decide (0 ≤ t37)) rfl (decide_eq_true h62)) ?_
     obtain ⟨x63, hc64, hF⟩ := bind_some hF
     obtain ⟨j65, ej66, hj67, hl68⟩ := idx_spec hc64
     obtain ⟨b69, o70, cs71, eA72, hf73, hc74, hr75⟩ := SlR.at_ (hO8.rd (fun b o hb => S43.grp 1 rfl hb)) hj67
     have hq76 : cs71 = [.int .i64 x63.Who.Address, .int .i64 x63.Who.Instance, .int .i64 x63.Water] := hr75
     subst hq76
     change cellsAt _ _ (o70 + j65 * 3) [.int .i64 x63.Who.Address, .int .i64 x63.Who.Instance, .int .i64 x63.Water] at hc74
     refine WOps.p (G.idx T.el101 rfl eA72 rfl ej66 hl68) rfl ?_
     refine WOps.on rfl (kbl (b := decide (0 ≤ t37)) rfl (decide_eq_true h62)) ?_
     refine WOps.p (G.field T.fld123_1 rfl (show o70 + j65 * 3 + 2 = o70 + j65 * 3 + 2 from rfl)) rfl ?_
     refine WOps.on rfl (kbl (b := decide (0 ≤ t37)) rfl (decide_eq_true h62)) ?_
     refine WOps.r (G.load1 T.one3 rfl (cellsAt.at hc74 2 rfl)) rfl ?_
     refine WOps.on rfl (kbl (b := decide (0 ≤ t37)) rfl (decide_eq_true h62)) ?_
     refine WOps.p (G.gtr rfl rfl rfl) rfl ?_
     refine WOps.p (G.pick_t (kb (b := decide (0 ≤ t37)) rfl (decide_eq_true h62)) rfl) rfl ?_
     refine WOps.nil ?_
     refine WEx.then_ ?_
     refine WCode.forget (l' := [(0, .pointer (some ⟨p0, 0, none⟩)), (2, .int .i64 a2), (3, .int .i64 a3), (5, .pointer (some ⟨b15, 0, none⟩)), (10, .int .i64 t37), (62, .bool (decide (x63.Water < a3)))]) ⟨rfl, rfl, rfl, rfl, rfl, rfl, trivial⟩ ?_
     rcases ite_some hF with ⟨h77, hF⟩ | ⟨h77, hF⟩
     ·
      refine WCode.cond_t (kb (b := decide (x63.Water < a3)) rfl (decide_eq_true h77)) ?_
      refine WCode.region ?_
      refine WOps.p (G.move rfl) rfl ?_
      refine WOps.p (G.move rfl) rfl ?_
      refine WOps.p (G.move rfl) rfl ?_
      have hO78 : ObjO 104 Cache104.rp p0 a0 ([(p0, .cells #[.int .i64 a0.C.Clients, .int .i64 a0.C.Entries, .int .i64 a0.C.Bytes, .int .i64 a0.C.Reserve, .slice A5 a0.L.length c6, .slice A9 a0.I.length c10] 104 (0, 0))] ++ (G7 ++ (G11))) := ⟨_, _, ⟨A5, c6, G7, A9, c10, G11, rfl, hO8, hO12, rfl⟩, rfl⟩
      have S79 : St _ _ _ [[(p0, .cells #[.int .i64 a0.C.Clients, .int .i64 a0.C.Entries, .int .i64 a0.C.Bytes, .int .i64 a0.C.Reserve, .slice A5 a0.L.length c6, .slice A9 a0.I.length c10] 104 (0, 0))] ++ (G7 ++ (G11)), [(b15, .cells #[.int .i64 a1.Address, .int .i64 a1.Instance] 34 (0, 0))]] := S43.objs (by simp)
      obtain ⟨t80, hc81, hF⟩ := bind_some hF
      refine WOps.call T.call59 (evs_cons rfl (evs_cons rfl (evs_cons rfl evs_nil))) rfl ?_
      refine (rc_rises_calls q24 a0 t37 a3 hO78 hc81 (St.hpN (As := [[(p0, .cells #[.int .i64 a0.C.Clients, .int .i64 a0.C.Entries, .int .i64 a0.C.Bytes, .int .i64 a0.C.Reserve, .slice A5 a0.L.length c6, .slice A9 a0.I.length c10] 104 (0, 0))] ++ (G7 ++ (G11))]) S79)).mono ?_
      rintro _ w82 ⟨G85, rfl, hO86, T83⟩
      have S84 := St.callN (As := [[(p0, .cells #[.int .i64 a0.C.Clients, .int .i64 a0.C.Entries, .int .i64 a0.C.Bytes, .int .i64 a0.C.Reserve, .slice A5 a0.L.length c6, .slice A9 a0.I.length c10] 104 (0, 0))] ++ (G7 ++ (G11))]) S79 T83
      change St _ _ _ [G85, [(b15, .cells #[.int .i64 a1.Address, .int .i64 a1.Instance] 34 (0, 0))]] at S84
      refine ⟨_, rfl, ?_⟩
      obtain ⟨cs87, G88, ho89, hg90⟩ := hO86
      obtain ⟨A91, c92, G93, A95, c96, G97, rfl, hO94, hO98, hq99⟩ := ho89
      have S100 : St _ _ _ [[(p0, .cells #[.int .i64 t80.C.Clients, .int .i64 t80.C.Entries, .int .i64 t80.C.Bytes, .int .i64 t80.C.Reserve, .slice A91 t80.L.length c92, .slice A95 t80.I.length c96] 104 (0, 0))], G93, G97, [(b15, .cells #[.int .i64 a1.Address, .int .i64 a1.Instance] 34 (0, 0))]] := S84.objs (by rw [hg90, hq99]; simp)
      refine WOps.nil ?_
      have S101 := (((S100.front 2 rfl).front 2 rfl).front 3 rfl).front 3 rfl
      change St _ _ _ [[(p0, .cells #[.int .i64 t80.C.Clients, .int .i64 t80.C.Entries, .int .i64 t80.C.Bytes, .int .i64 t80.C.Reserve, .slice A91 t80.L.length c92, .slice A95 t80.I.length c96] 104 (0, 0))], [(b15, .cells #[.int .i64 a1.Address, .int .i64 a1.Instance] 34 (0, 0))], G93, G97] at S101
      refine WEx.cutend _ ?_ ⟨q24, t80.C.Clients, t80.C.Entries, t80.C.Bytes, t80.C.Reserve, A91, c92, t80.L, G93, A95, c96, t80.I, G97, rfl, hF, hO94, hO98, S101⟩
      exact ⟨rfl, rfl, rfl, rfl, rfl, trivial⟩
     ·
      refine WCode.cond_f (kb (b := decide (x63.Water < a3)) rfl (decide_eq_false h77)) ?_
      refine WCode.skip ?_
      have S102 := (((S43.front 2 rfl).front 2 rfl).front 3 rfl).front 3 rfl
      change St _ _ _ [[(p0, .cells #[.int .i64 a0.C.Clients, .int .i64 a0.C.Entries, .int .i64 a0.C.Bytes, .int .i64 a0.C.Reserve, .slice A5 a0.L.length c6, .slice A9 a0.I.length c10] 104 (0, 0))], [(b15, .cells #[.int .i64 a1.Address, .int .i64 a1.Instance] 34 (0, 0))], G7, G11] at S102
      refine WEx.cutend _ ?_ ⟨q24, a0.C.Clients, a0.C.Entries, a0.C.Bytes, a0.C.Reserve, A5, c6, a0.L, G7, A9, c10, a0.I, G11, rfl, hF, hO8, hO12, S102⟩
      exact ⟨rfl, rfl, rfl, rfl, rfl, trivial⟩
    ·
     refine WOps.off rfl (kbl (b := decide (0 ≤ t37)) rfl (decide_eq_false h62)) rfl rfl ?_
     refine WOps.off rfl (kbl (b := decide (0 ≤ t37)) rfl (decide_eq_false h62)) rfl rfl ?_
     refine WOps.off rfl (kbl (b := decide (0 ≤ t37)) rfl (decide_eq_false h62)) rfl rfl ?_
     refine WOps.off rfl (kbl (b := decide (0 ≤ t37)) rfl (decide_eq_false h62)) rfl rfl ?_
     refine WOps.off rfl (kbl (b := decide (0 ≤ t37)) rfl (decide_eq_false h62)) rfl rfl ?_
     refine WOps.off rfl (kbl (b := decide (0 ≤ t37)) rfl (decide_eq_false h62)) rfl rfl ?_
     refine WOps.off rfl (kbl (b := decide (0 ≤ t37)) rfl (decide_eq_false h62)) rfl rfl ?_
     refine WOps.off rfl (kbl (b := decide (0 ≤ t37)) rfl (decide_eq_false h62)) rfl rfl ?_
     refine WOps.off rfl (kbl (b := decide (0 ≤ t37)) rfl (decide_eq_false h62)) rfl rfl ?_
     refine WOps.off rfl (kbl (b := decide (0 ≤ t37)) rfl (decide_eq_false h62)) rfl rfl ?_
     refine WOps.p (G.pick_f (kb (b := decide (0 ≤ t37)) rfl (decide_eq_false h62)) rfl) rfl ?_
     refine WOps.nil ?_
     refine WEx.then_ ?_
     refine WCode.forget (l' := [(0, .pointer (some ⟨p0, 0, none⟩)), (2, .int .i64 a2), (3, .int .i64 a3), (5, .pointer (some ⟨b15, 0, none⟩)), (10, .int .i64 t37), (62, .bool false)]) ⟨rfl, rfl, rfl, rfl, rfl, rfl, trivial⟩ ?_
     refine WCode.cond_f rfl ?_
     refine WCode.skip ?_
     have S103 := (((S43.front 2 rfl).front 2 rfl).front 3 rfl).front 3 rfl
     change St _ _ _ [[(p0, .cells #[.int .i64 a0.C.Clients, .int .i64 a0.C.Entries, .int .i64 a0.C.Bytes, .int .i64 a0.C.Reserve, .slice A5 a0.L.length c6, .slice A9 a0.I.length c10] 104 (0, 0))], [(b15, .cells #[.int .i64 a1.Address, .int .i64 a1.Instance] 34 (0, 0))], G7, G11] at S103
     refine WEx.cutend _ ?_ ⟨q24, a0.C.Clients, a0.C.Entries, a0.C.Bytes, a0.C.Reserve, A5, c6, a0.L, G7, A9, c10, a0.I, G11, rfl, hF, hO8, hO12, S103⟩
     exact ⟨rfl, rfl, rfl, rfl, rfl, trivial⟩
   ·
    rintro _ w58 ⟨q60, x44, x45, x46, x47, A48, c49, l50, G51, A53, c54, l55, G56, rfl, hF, hO52, hO57, S59⟩
    unfold rc_Ask.j2 at hF
    refine WCode.cutseq (fun l_ w_ => ∃ q107 : Nat, ∃ x104 : Int, l_ = [(0, .pointer (some ⟨p0, 0, none⟩)), (2, .int .i64 a2), (3, .int .i64 x104), (5, .pointer (some ⟨b15, 0, none⟩)), (10, .int .i64 t37)] ∧ rc_Ask.j3 q107 a1 a2 t37 x44 x45 x46 x47 l50 l55 x104 = some r_ ∧ St w (KS [G0]) w_ [[(p0, .cells #[.int .i64 x44, .int .i64 x45, .int .i64 x46, .int .i64 x47, .slice A48 l50.length c49, .slice A53 l55.length c54] 104 (0, 0))], [(b15, .cells #[.int .i64 a1.Address, .int .i64 a1.Instance] 34 (0, 0))], G51, G56]) ?_ ?_
    ·
     refine WCode.seq ?_
     refine WCode.region ?_
     refine WOps.p (G.move rfl) rfl ?_
     refine WOps.p (G.geq rfl rfl rfl) rfl ?_
     refine WOps.nil ?_
     refine WEx.then_ ?_
     rcases ite_some hF with ⟨h109, hF⟩ | ⟨h109, hF⟩
     ·
      refine WCode.cond_t (kb (b := decide (0 ≤ t37)) rfl (decide_eq_true h109)) ?_
      refine WCode.region ?_
      refine WOps.p (G.move rfl) rfl ?_
      refine WOps.p (G.nilp rfl) rfl ?_
      refine WOps.p (G.field T.fld104_1 rfl (show 0 + 4 = 4 from rfl)) rfl ?_
      refine WOps.r (G.load1 T.one101 rfl (cell_blk (S59.blk 0 rfl) rfl)) rfl ?_
      refine WOps.p (G.move rfl) rfl ?_
      obtain ⟨x110, hc111, hF⟩ := bind_some hF
      obtain ⟨j112, ej113, hj114, hl115⟩ := idx_spec hc111
      obtain ⟨b116, o117, cs118, eA119, hf120, hc121, hr122⟩ := SlR.at_ (hO52.rd (fun b o hb => S59.grp 2 rfl hb)) hj114
      have hq123 : cs118 = [.int .i64 x110.Who.Address, .int .i64 x110.Who.Instance, .int .i64 x110.Water] := hr122
      subst hq123
      change cellsAt _ _ (o117 + j112 * 3) [.int .i64 x110.Who.Address, .int .i64 x110.Who.Instance, .int .i64 x110.Water] at hc121
      refine WOps.p (G.idx T.el101 rfl eA119 rfl ej113 hl115) rfl ?_
      refine WOps.p (G.field T.fld123_1 rfl (show o117 + j112 * 3 + 2 = o117 + j112 * 3 + 2 from rfl)) rfl ?_
      refine WOps.r (G.load1 T.one3 rfl (cellsAt.at hc121 2 rfl)) rfl ?_
      refine WOps.p (G.assign rfl) rfl ?_
      refine WOps.nil ?_
      refine WEx.cutend _ ?_ ⟨q60, x110.Water, rfl, hF, S59⟩
      exact ⟨rfl, rfl, rfl, rfl, rfl, trivial⟩
     ·
      refine WCode.cond_f (kb (b := decide (0 ≤ t37)) rfl (decide_eq_false h109)) ?_
      refine WCode.skip ?_
      refine WEx.cutend _ ?_ ⟨q60, a3, rfl, hF, S59⟩
      exact ⟨rfl, rfl, rfl, rfl, rfl, trivial⟩
    ·
     rintro _ w105 ⟨q107, x104, rfl, hF, S106⟩
     unfold rc_Ask.j3 at hF
     refine WCode.seq ?_
     refine WCode.seq ?_
     refine WCode.region ?_
     refine WOps.p (G.move rfl) rfl ?_
     refine WOps.p (G.move rfl) rfl ?_
     refine WOps.p (G.lss rfl rfl rfl) rfl ?_
     refine WOps.nil ?_
     refine WEx.then_ ?_
     rcases ite_some hF with ⟨h124, hF⟩ | ⟨h124, hF⟩
     ·
      refine WCode.cond_t (kb (b := decide (a2 < x104)) rfl (decide_eq_true h124)) ?_
      refine WCode.seq ?_
      refine WCode.region ?_
      refine WOps.p (G.assign rfl) rfl ?_
      refine WOps.p (G.assign rfl) rfl ?_
      refine WOps.nil ?_
      refine WEx.then_ ?_
      refine WCode.ret ?_
      refine WEx.then_ret ?_
      obtain rfl := some_eq hF
      refine WEx.ret2 rfl rfl rfl ?_
      have S125 := ((S106.front 3 rfl).front 3 rfl).front 2 rfl
      change St _ _ _ [[(p0, .cells #[.int .i64 x44, .int .i64 x45, .int .i64 x46, .int .i64 x47, .slice A48 l50.length c49, .slice A53 l55.length c54] 104 (0, 0))], G51, G56, [(b15, .cells #[.int .i64 a1.Address, .int .i64 a1.Instance] 34 (0, 0))]] at S125
      have hO126 : ObjO 104 Cache104.rp p0 (⟨(⟨x44, x45, x46, x47⟩ : CacheConfig), l50, l55⟩ : Cache104) ([(p0, .cells #[.int .i64 x44, .int .i64 x45, .int .i64 x46, .int .i64 x47, .slice A48 l50.length c49, .slice A53 l55.length c54] 104 (0, 0))] ++ (G51 ++ (G56))) := ⟨_, _, ⟨A48, c49, G51, A53, c54, G56, rfl, hO52, hO57, rfl⟩, rfl⟩
      have S127 : St _ _ _ [[(p0, .cells #[.int .i64 x44, .int .i64 x45, .int .i64 x46, .int .i64 x47, .slice A48 l50.length c49, .slice A53 l55.length c54] 104 (0, 0))] ++ (G51 ++ (G56)), [(b15, .cells #[.int .i64 a1.Address, .int .i64 a1.Instance] 34 (0, 0))]] := S125.objs (by simp)
      exact ⟨[(p0, .cells #[.int .i64 x44, .int .i64 x45, .int .i64 x46, .int .i64 x47, .slice A48 l50.length c49, .slice A53 l55.length c54] 104 (0, 0))] ++ (G51 ++ (G56)), rfl, hO126, St.keep (As := [[(p0, .cells #[.int .i64 x44, .int .i64 x45, .int .i64 x46, .int .i64 x47, .slice A48 l50.length c49, .slice A53 l55.length c54] 104 (0, 0))] ++ (G51 ++ (G56))]) S127⟩
     ·
      refine WCode.cond_f (kb (b := decide (a2 < x104)) rfl (decide_eq_false h124)) ?_
      refine WCode.skip ?_
      refine WEx.then_ ?_
      refine WCode.seq ?_
      refine WCode.region ?_
      refine WOps.p (G.move rfl) rfl ?_
      refine WOps.r (G.loada T.agg34_2 rfl (cs := [.int .i64 a1.Address, .int .i64 a1.Instance]) (cellsAt.of_blk (S106.blk 1 rfl) rfl)) rfl ?_
      refine WOps.p (G.move rfl) rfl ?_
      obtain ⟨t128, hc129, hF⟩ := bind_some hF
      have S130 := ((S106.front 3 rfl).front 3 rfl).front 2 rfl
      change St _ _ _ [[(p0, .cells #[.int .i64 x44, .int .i64 x45, .int .i64 x46, .int .i64 x47, .slice A48 l50.length c49, .slice A53 l55.length c54] 104 (0, 0))], G51, G56, [(b15, .cells #[.int .i64 a1.Address, .int .i64 a1.Instance] 34 (0, 0))]] at S130
      have hP131 : PtR 104 Cache104.rp w105 (KS [[(p0, .cells #[.int .i64 x44, .int .i64 x45, .int .i64 x46, .int .i64 x47, .slice A48 l50.length c49, .slice A53 l55.length c54] 104 (0, 0))], G51, G56]) p0 (⟨(⟨x44, x45, x46, x47⟩ : CacheConfig), l50, l55⟩ : Cache104) := ⟨_, S130.blk 0 rfl, KS_at 0 rfl (by simp [keys]), ⟨A48, c49, A53, c54, rfl, ((hO52.rd (fun b o hb => S130.grp 1 rfl hb)).mono (fun b hb => KS_at 1 rfl hb)), ((hO57.rd (fun b o hb => S130.grp 2 rfl hb)).mono (fun b hb => KS_at 2 rfl hb))⟩⟩
      refine WOps.call T.call60 (evs_cons rfl (evs_cons rfl (evs_cons rfl evs_nil))) rfl ?_
      refine (rc_item_calls q107 (⟨(⟨x44, x45, x46, x47⟩ : CacheConfig), l50, l55⟩ : Cache104) a1 a2 hP131 (St.outN (Bs := []) (As := [[(p0, .cells #[.int .i64 x44, .int .i64 x45, .int .i64 x46, .int .i64 x47, .slice A48 l50.length c49, .slice A53 l55.length c54] 104 (0, 0))], G51, G56]) S130) hc129).mono ?_
      rintro _ w132 ⟨rfl, T133⟩
      have S134 := St.callN (As := []) S130 T133
      change St _ _ _ [[(p0, .cells #[.int .i64 x44, .int .i64 x45, .int .i64 x46, .int .i64 x47, .slice A48 l50.length c49, .slice A53 l55.length c54] 104 (0, 0))], G51, G56, [(b15, .cells #[.int .i64 a1.Address, .int .i64 a1.Instance] 34 (0, 0))]] at S134
      refine ⟨_, rfl, ?_⟩
      refine WOps.p (G.assign rfl) rfl ?_
      refine WOps.nil ?_
      refine WEx.then_ ?_
      refine WCode.seq ?_
      refine WCode.cutseq (fun l_ w_ => ∃ q138 : Nat, ∃ b135 : Bool, l_ = [(0, .pointer (some ⟨p0, 0, none⟩)), (2, .int .i64 a2), (3, .int .i64 x104), (5, .pointer (some ⟨b15, 0, none⟩)), (10, .int .i64 t37), (11, .int .i64 t128), (95, .bool b135)] ∧ rc_Ask.j4 q138 a1 a2 t37 x44 x45 x46 x47 l50 l55 x104 t128 b135 = some r_ ∧ St w (KS [G0]) w_ [[(p0, .cells #[.int .i64 x44, .int .i64 x45, .int .i64 x46, .int .i64 x47, .slice A48 l50.length c49, .slice A53 l55.length c54] 104 (0, 0))], [(b15, .cells #[.int .i64 a1.Address, .int .i64 a1.Instance] 34 (0, 0))], G51, G56]) ?_ ?_
      ·
       refine WCode.region ?_
       refine WOps.p (G.move rfl) rfl ?_
       refine WOps.p (G.geq rfl rfl rfl) rfl ?_
       refine WOps.p (G.move rfl) rfl ?_
       rcases ite_some hF with ⟨h140, hF⟩ | ⟨h140, hF⟩
       ·
        refine WOps.on rfl (kbl (b := decide (0 ≤ t128)) rfl (decide_eq_true h140)) ?_
        refine WOps.p (G.move rfl) rfl ?_
        refine WOps.on rfl (kbl (b := decide (0 ≤ t128)) rfl (decide_eq_true h140)) ?_
        refine WOps.p (G.nilp rfl) rfl ?_
        refine WOps.on rfl (kbl (b := decide (0 ≤ t128)) rfl (decide_eq_true h140)) ?_
        refine WOps.p (G.field T.fld104_2 rfl (show 0 + 5 = 5 from rfl)) rfl ?_
        refine WOps.on rfl (kbl (b := decide (0 ≤ t128)) rfl (decide_eq_true h140)) ?_
        refine WOps.r (G.load1 T.one102 rfl (cell_blk (S134.blk 0 rfl) rfl)) rfl ?_
        refine WOps.on rfl (kbl (b := decide (0 ≤ t128)) rfl (decide_eq_true h140)) ?_
        refine WOps.p (G.move rfl) rfl ?_
        refine WOps.on rfl (kbl (b := decide (0 ≤ t128)) rfl (decide_eq_true h140)) ?_
        obtain ⟨x141, hc142, hF⟩ := bind_some hF
        obtain ⟨j143, ej144, hj145, hl146⟩ := idx_spec hc142
        obtain ⟨b147, o148, cs149, eA150, hf151, hc152, hr153⟩ := SlR.at_ (hO57.rd (fun b o hb => S134.grp 2 rfl hb)) hj145
        have hq154 : cs149 = [.int .i64 x141.Who.Address, .int .i64 x141.Who.Instance, .int .i64 x141.Sequence, .bool x141.Answered, .string (bs x141.Reply)] := hr153
        subst hq154
        change cellsAt _ _ (o148 + j143 * 5) [.int .i64 x141.Who.Address, .int .i64 x141.Who.Instance, .int .i64 x141.Sequence, .bool x141.Answered, .string (bs x141.Reply)] at hc152
        refine WOps.p (G.idx T.el102 rfl eA150 rfl ej144 hl146) rfl ?_
        refine WOps.on rfl (kbl (b := decide (0 ≤ t128)) rfl (decide_eq_true h140)) ?_
        refine WOps.p (G.field T.fld127_2 rfl (show o148 + j143 * 5 + 3 = o148 + j143 * 5 + 3 from rfl)) rfl ?_
        refine WOps.on rfl (kbl (b := decide (0 ≤ t128)) rfl (decide_eq_true h140)) ?_
        refine WOps.r (G.load1 T.one4 rfl (cellsAt.at hc152 3 rfl)) rfl ?_
        refine WOps.p (G.pick_t (kb (b := decide (0 ≤ t128)) rfl (decide_eq_true h140)) rfl) rfl ?_
        refine WOps.nil ?_
        have S155 := (((S134.front 2 rfl).front 2 rfl).front 3 rfl).front 3 rfl
        change St _ _ _ [[(p0, .cells #[.int .i64 x44, .int .i64 x45, .int .i64 x46, .int .i64 x47, .slice A48 l50.length c49, .slice A53 l55.length c54] 104 (0, 0))], [(b15, .cells #[.int .i64 a1.Address, .int .i64 a1.Instance] 34 (0, 0))], G51, G56] at S155
        refine WEx.cutend _ ?_ ⟨q107, x141.Answered, rfl, hF, S155⟩
        exact ⟨rfl, rfl, rfl, rfl, rfl, rfl, rfl, trivial⟩
       ·
        refine WOps.off rfl (kbl (b := decide (0 ≤ t128)) rfl (decide_eq_false h140)) rfl rfl ?_
        refine WOps.off rfl (kbl (b := decide (0 ≤ t128)) rfl (decide_eq_false h140)) rfl rfl ?_
        refine WOps.off rfl (kbl (b := decide (0 ≤ t128)) rfl (decide_eq_false h140)) rfl rfl ?_
        refine WOps.off rfl (kbl (b := decide (0 ≤ t128)) rfl (decide_eq_false h140)) rfl rfl ?_
        refine WOps.off rfl (kbl (b := decide (0 ≤ t128)) rfl (decide_eq_false h140)) rfl rfl ?_
        refine WOps.off rfl (kbl (b := decide (0 ≤ t128)) rfl (decide_eq_false h140)) rfl rfl ?_
        refine WOps.off rfl (kbl (b := decide (0 ≤ t128)) rfl (decide_eq_false h140)) rfl rfl ?_
        refine WOps.off rfl (kbl (b := decide (0 ≤ t128)) rfl (decide_eq_false h140)) rfl rfl ?_
        refine WOps.p (G.pick_f (kb (b := decide (0 ≤ t128)) rfl (decide_eq_false h140)) rfl) rfl ?_
        refine WOps.nil ?_
        have S156 := (((S134.front 2 rfl).front 2 rfl).front 3 rfl).front 3 rfl
        change St _ _ _ [[(p0, .cells #[.int .i64 x44, .int .i64 x45, .int .i64 x46, .int .i64 x47, .slice A48 l50.length c49, .slice A53 l55.length c54] 104 (0, 0))], [(b15, .cells #[.int .i64 a1.Address, .int .i64 a1.Instance] 34 (0, 0))], G51, G56] at S156
        refine WEx.cutend _ ?_ ⟨q107, false, rfl, hF, S156⟩
        exact ⟨rfl, rfl, rfl, rfl, rfl, rfl, rfl, trivial⟩
      ·
       rintro _ w136 ⟨q138, b135, rfl, hF, S137⟩
       unfold rc_Ask.j4 at hF
       rcases ite_some hF with ⟨h157, hF⟩ | ⟨h157, hF⟩
       ·
        refine WCode.cond_t (kb (b := b135) rfl h157) ?_
        refine WCode.seq ?_
        refine WCode.draw [⟨0, 0, []⟩, ⟨1, 0, []⟩, ⟨2, 0, []⟩, ⟨4, 0, []⟩, ⟨8, 0, []⟩, ⟨3, 1, [5, 6, 7, 9]⟩, ⟨5, 0, []⟩, ⟨6, 0, []⟩, ⟨7, 1, [9]⟩, ⟨9, 0, []⟩] T.mixed (by kernel_rfl) (by intro _ _ d _ _ h; cases d <;> exact h) rfl (by kernel_rfl) ?_
        have S158 := S137.drew
        generalize w136.drew = w159 at *
        refine WD.p rfl (G.move rfl) rfl ?_
        refine WD.p rfl (G.nilp rfl) rfl ?_
        refine WD.p rfl (G.field T.fld104_2 rfl (show 0 + 5 = 5 from rfl)) rfl ?_
        refine WD.p rfl (G.move rfl) rfl ?_
        refine WD.p rfl (G.assign rfl) rfl ?_
        refine WD.r rfl (G.load1 T.one102 rfl (cell_blk (S158.blk 0 rfl) rfl)) rfl ?_
        obtain ⟨x160, hc161, hF⟩ := bind_some hF
        obtain ⟨j162, ej163, hj164, hl165⟩ := idx_spec hc161
        obtain ⟨b166, o167, cs168, eA169, hf170, hc171, hr172⟩ := SlR.at_ (hO57.rd (fun b o hb => S158.grp 3 rfl hb)) hj164
        have hq173 : cs168 = [.int .i64 x160.Who.Address, .int .i64 x160.Who.Instance, .int .i64 x160.Sequence, .bool x160.Answered, .string (bs x160.Reply)] := hr172
        subst hq173
        change cellsAt _ _ (o167 + j162 * 5) [.int .i64 x160.Who.Address, .int .i64 x160.Who.Instance, .int .i64 x160.Sequence, .bool x160.Answered, .string (bs x160.Reply)] at hc171
        refine WD.p rfl (G.idx T.el102 rfl eA169 rfl ej163 hl165) rfl ?_
        refine WD.p rfl (G.field T.fld127_3 rfl (show o167 + j162 * 5 + 4 = o167 + j162 * 5 + 4 from rfl)) rfl ?_
        refine WD.r rfl (G.load1 T.one9 rfl (cellsAt.at hc171 4 rfl)) rfl ?_
        refine WD.p rfl (G.assign rfl) rfl ?_
        refine WD.nil ?_
        refine WEx.then_ ?_
        refine WCode.forget (l' := [(8, .int .i64 3), (9, .string (bs x160.Reply))]) ⟨rfl, rfl, trivial⟩ ?_
        refine WCode.ret ?_
        refine WEx.then_ret ?_
        obtain rfl := some_eq hF
        refine WEx.ret2 rfl rfl rfl ?_
        have S174 := ((S158.front 3 rfl).front 3 rfl).front 2 rfl
        change St _ _ _ [[(p0, .cells #[.int .i64 x44, .int .i64 x45, .int .i64 x46, .int .i64 x47, .slice A48 l50.length c49, .slice A53 l55.length c54] 104 (0, 0))], G51, G56, [(b15, .cells #[.int .i64 a1.Address, .int .i64 a1.Instance] 34 (0, 0))]] at S174
        have hO175 : ObjO 104 Cache104.rp p0 (⟨(⟨x44, x45, x46, x47⟩ : CacheConfig), l50, l55⟩ : Cache104) ([(p0, .cells #[.int .i64 x44, .int .i64 x45, .int .i64 x46, .int .i64 x47, .slice A48 l50.length c49, .slice A53 l55.length c54] 104 (0, 0))] ++ (G51 ++ (G56))) := ⟨_, _, ⟨A48, c49, G51, A53, c54, G56, rfl, hO52, hO57, rfl⟩, rfl⟩
        have S176 : St _ _ _ [[(p0, .cells #[.int .i64 x44, .int .i64 x45, .int .i64 x46, .int .i64 x47, .slice A48 l50.length c49, .slice A53 l55.length c54] 104 (0, 0))] ++ (G51 ++ (G56)), [(b15, .cells #[.int .i64 a1.Address, .int .i64 a1.Instance] 34 (0, 0))]] := S174.objs (by simp)
        exact ⟨[(p0, .cells #[.int .i64 x44, .int .i64 x45, .int .i64 x46, .int .i64 x47, .slice A48 l50.length c49, .slice A53 l55.length c54] 104 (0, 0))] ++ (G51 ++ (G56)), rfl, hO175, St.keep (As := [[(p0, .cells #[.int .i64 x44, .int .i64 x45, .int .i64 x46, .int .i64 x47, .slice A48 l50.length c49, .slice A53 l55.length c54] 104 (0, 0))] ++ (G51 ++ (G56))]) S176⟩
       ·
        refine WCode.cond_f (kb (b := b135) rfl (Bool.eq_false_iff.2 h157)) ?_
        refine WCode.skip ?_
        refine WEx.then_ ?_
        refine WCode.seq ?_
        refine WCode.seq ?_
        refine WCode.region ?_
        refine WOps.p (G.move rfl) rfl ?_
        refine WOps.p (G.geq rfl rfl rfl) rfl ?_
        refine WOps.nil ?_
        refine WEx.then_ ?_
        rcases ite_some hF with ⟨h177, hF⟩ | ⟨h177, hF⟩
        ·
         refine WCode.cond_t (kb (b := decide (0 ≤ t128)) rfl (decide_eq_true h177)) ?_
         refine WCode.seq ?_
         refine WCode.region ?_
         refine WOps.p (G.assign rfl) rfl ?_
         refine WOps.p (G.assign rfl) rfl ?_
         refine WOps.nil ?_
         refine WEx.then_ ?_
         refine WCode.ret ?_
         refine WEx.then_ret ?_
         obtain rfl := some_eq hF
         refine WEx.ret2 rfl rfl rfl ?_
         have S178 := ((S137.front 3 rfl).front 3 rfl).front 2 rfl
         change St _ _ _ [[(p0, .cells #[.int .i64 x44, .int .i64 x45, .int .i64 x46, .int .i64 x47, .slice A48 l50.length c49, .slice A53 l55.length c54] 104 (0, 0))], G51, G56, [(b15, .cells #[.int .i64 a1.Address, .int .i64 a1.Instance] 34 (0, 0))]] at S178
         have hO179 : ObjO 104 Cache104.rp p0 (⟨(⟨x44, x45, x46, x47⟩ : CacheConfig), l50, l55⟩ : Cache104) ([(p0, .cells #[.int .i64 x44, .int .i64 x45, .int .i64 x46, .int .i64 x47, .slice A48 l50.length c49, .slice A53 l55.length c54] 104 (0, 0))] ++ (G51 ++ (G56))) := ⟨_, _, ⟨A48, c49, G51, A53, c54, G56, rfl, hO52, hO57, rfl⟩, rfl⟩
         have S180 : St _ _ _ [[(p0, .cells #[.int .i64 x44, .int .i64 x45, .int .i64 x46, .int .i64 x47, .slice A48 l50.length c49, .slice A53 l55.length c54] 104 (0, 0))] ++ (G51 ++ (G56)), [(b15, .cells #[.int .i64 a1.Address, .int .i64 a1.Instance] 34 (0, 0))]] := S178.objs (by simp)
         exact ⟨[(p0, .cells #[.int .i64 x44, .int .i64 x45, .int .i64 x46, .int .i64 x47, .slice A48 l50.length c49, .slice A53 l55.length c54] 104 (0, 0))] ++ (G51 ++ (G56)), rfl, hO179, St.keep (As := [[(p0, .cells #[.int .i64 x44, .int .i64 x45, .int .i64 x46, .int .i64 x47, .slice A48 l50.length c49, .slice A53 l55.length c54] 104 (0, 0))] ++ (G51 ++ (G56))]) S180⟩
        ·
         refine WCode.cond_f (kb (b := decide (0 ≤ t128)) rfl (decide_eq_false h177)) ?_
         refine WCode.skip ?_
         refine WEx.then_ ?_
         refine WCode.cutseq (fun l_ w_ => ∃ q183 : Nat, l_ = [(0, .pointer (some ⟨p0, 0, none⟩)), (2, .int .i64 a2), (3, .int .i64 x104), (5, .pointer (some ⟨b15, 0, none⟩)), (10, .int .i64 t37)] ∧ rc_Ask.j5 q183 a1 a2 t37 x44 x45 x46 x47 l50 l55 x104 = some r_ ∧ St w (KS [G0]) w_ [[(p0, .cells #[.int .i64 x44, .int .i64 x45, .int .i64 x46, .int .i64 x47, .slice A48 l50.length c49, .slice A53 l55.length c54] 104 (0, 0))], [(b15, .cells #[.int .i64 a1.Address, .int .i64 a1.Instance] 34 (0, 0))], G51, G56]) ?_ ?_
         ·
          refine WCode.seq ?_
          refine WCode.drawH (.one 0 0 (.one 1 0 (.one 2 0 (.one 3 0 (.one 4 0 (.one 5 0 (.one 8 0 (.one 9 0 (.one 10 0 (.one 11 0 (.one 6 1 (.one 7 0 (.one 12 1 (.one 13 0 (.one 14 0 (.one 15 0 (.one 16 0 (.one 19 0 (.one 20 0 (.one 21 0 (.one 22 0 (.one 17 1 (.one 23 1 (.one 18 2 (.one 24 0 (.one 25 0 (.one 26 0 (.one 27 0 (.one 29 0 (.one 30 0 (.one 31 0 (.one 32 0 (.one 35 0 (.one 36 0 (.one 37 0 (.one 38 0 (.one 33 1 (.one 39 1 (.one 28 2 (.one 34 0 (.one 40 0 (.one 41 0 .nil)))))))))))))))))))))))))))))))))))))))))) (fun W_ => cellsAt W_ p0 0 [.int .i64 x44, .int .i64 x45, .int .i64 x46, .int .i64 x47, .slice A48 l50.length c49, .slice A53 l55.length c54] ∧ cellsAt W_ b15 0 [.int .i64 a1.Address, .int .i64 a1.Instance] ∧ True) T.mixed (by kernel_rfl) (by intro _ _ d _ _ h; cases d <;> exact h) rfl rfl (by kernel_rfl) ?_ ?_
          all_goals have S185 := S137.drew
          all_goals generalize w136.drew = w186 at *
          · exact ⟨cellsAt.of_blk (S185.blk 0 rfl) rfl, cellsAt.of_blk (S185.blk 1 rfl) rfl, trivial⟩
          refine WH.p rfl wants (G.move rfl) rfl ?_
          refine WH.p rfl wants (G.lss rfl rfl rfl) rfl ?_
          refine WH.p rfl wants (G.move rfl) rfl ?_
          rcases ite_some hF with ⟨h187, hF⟩ | ⟨h187, hF⟩
          ·
           refine WH.p rfl (wants_on rfl (kbl (b := decide (t37 < 0)) rfl (decide_eq_true h187))) (G.move rfl) rfl ?_
           refine WH.p rfl (wants_on rfl (kbl (b := decide (t37 < 0)) rfl (decide_eq_true h187))) (G.nilp rfl) rfl ?_
           refine WH.p rfl (wants_on rfl (kbl (b := decide (t37 < 0)) rfl (decide_eq_true h187))) (G.field T.fld104_1 rfl (show 0 + 4 = 4 from rfl)) rfl ?_
           refine WH.p rfl (wants_on rfl (kbl (b := decide (t37 < 0)) rfl (decide_eq_true h187))) (G.move rfl) rfl ?_
           refine WH.p rfl (wants_on rfl (kbl (b := decide (t37 < 0)) rfl (decide_eq_true h187))) (G.nilp rfl) rfl ?_
           refine WH.p rfl (wants_on rfl (kbl (b := decide (t37 < 0)) rfl (decide_eq_true h187))) (G.field T.fld104_0 rfl (show 0 + 0 = 0 from rfl)) rfl ?_
           refine WH.p rfl (wants_on rfl (kbl (b := decide (t37 < 0)) rfl (decide_eq_true h187))) (G.field T.fld26_0 rfl (show 0 + 0 = 0 from rfl)) rfl ?_
           refine WH.r rfl (wants_on rfl (kbl (b := decide (t37 < 0)) rfl (decide_eq_true h187))) (fun _ h_ => G.load1 T.one101 rfl (cellsAt.at h_.1 4 rfl)) rfl ?_
           refine WH.p rfl (wants_on rfl (kbl (b := decide (t37 < 0)) rfl (decide_eq_true h187))) (G.len T.el101 rfl) rfl ?_
           refine WH.r rfl (wants_on rfl (kbl (b := decide (t37 < 0)) rfl (decide_eq_true h187))) (fun _ h_ => G.load1 T.one3 rfl (cellsAt.at h_.1 0 rfl)) rfl ?_
           refine WH.p rfl (wants_on rfl (kbl (b := decide (t37 < 0)) rfl (decide_eq_true h187))) (G.eql rfl rfl rfl) rfl ?_
           refine WH.p rfl wants (G.pick_t (kb (b := decide (t37 < 0)) rfl (decide_eq_true h187)) rfl) rfl ?_
           refine WH.p rfl wants (G.move rfl) rfl ?_
           rcases ite_some hF with ⟨h188, hF⟩ | ⟨h188, hF⟩
           ·
            refine WH.off rfl rfl (kbl (b := decide ((l50.length : Int) = x44)) rfl (decide_eq_true h188)) rfl rfl rfl ?_
            refine WH.off rfl rfl (kbl (b := decide ((l50.length : Int) = x44)) rfl (decide_eq_true h188)) rfl rfl rfl ?_
            refine WH.off rfl rfl (kbl (b := decide ((l50.length : Int) = x44)) rfl (decide_eq_true h188)) rfl rfl rfl ?_
            refine WH.off rfl rfl (kbl (b := decide ((l50.length : Int) = x44)) rfl (decide_eq_true h188)) rfl rfl rfl ?_
            refine WH.off rfl rfl (kbl (b := decide ((l50.length : Int) = x44)) rfl (decide_eq_true h188)) rfl rfl rfl ?_
            refine WH.off rfl rfl (kbl (b := decide ((l50.length : Int) = x44)) rfl (decide_eq_true h188)) rfl rfl rfl ?_
            refine WH.off rfl rfl (kbl (b := decide ((l50.length : Int) = x44)) rfl (decide_eq_true h188)) rfl rfl rfl ?_
            refine WH.off2 rfl rfl (kbl (b := decide ((l50.length : Int) = x44)) rfl (decide_eq_true h188)) rfl rfl ⟨cellsAt.of_blk (S185.blk 0 rfl) rfl, cellsAt.of_blk (S185.blk 1 rfl) rfl, trivial⟩ ?_
            refine WH.off rfl rfl (kbl (b := decide ((l50.length : Int) = x44)) rfl (decide_eq_true h188)) rfl rfl rfl ?_
            refine WH.p rfl wants (G.pick_t (kb (b := decide ((l50.length : Int) = x44)) rfl (decide_eq_true h188)) rfl) rfl ?_
            refine WH.p rfl wants (G.move rfl) rfl ?_
            refine WH.off rfl rfl rfl rfl rfl rfl ?_
            refine WH.off rfl rfl rfl rfl rfl rfl ?_
            refine WH.off rfl rfl rfl rfl rfl rfl ?_
            refine WH.off rfl rfl rfl rfl rfl rfl ?_
            refine WH.off rfl rfl rfl rfl rfl rfl ?_
            refine WH.off rfl rfl rfl rfl rfl rfl ?_
            refine WH.off rfl rfl rfl rfl rfl rfl ?_
            refine WH.off rfl rfl rfl rfl rfl rfl ?_
            refine WH.off rfl rfl rfl rfl rfl rfl ?_
            refine WH.off rfl rfl rfl rfl rfl rfl ?_
            refine WH.off rfl rfl rfl rfl rfl rfl ?_
            refine WH.off2 rfl rfl rfl rfl rfl ⟨cellsAt.of_blk (S185.blk 0 rfl) rfl, cellsAt.of_blk (S185.blk 1 rfl) rfl, trivial⟩ ?_
            refine WH.off rfl rfl rfl rfl rfl rfl ?_
            refine WH.off rfl rfl rfl rfl rfl rfl ?_
            refine WH.p rfl wants (G.pick_t rfl rfl) rfl ?_
            refine WH.nil ?_
            refine WEx.then_ ?_
            refine WCode.forget (l' := [(0, .pointer (some ⟨p0, 0, none⟩)), (2, .int .i64 a2), (3, .int .i64 x104), (5, .pointer (some ⟨b15, 0, none⟩)), (10, .int .i64 t37), (147, .bool true)]) ⟨rfl, rfl, rfl, rfl, rfl, rfl, trivial⟩ ?_
            refine WCode.cond_t rfl ?_
            refine WCode.seq ?_
            refine WCode.region ?_
            refine WOps.p (G.assign rfl) rfl ?_
            refine WOps.p (G.assign rfl) rfl ?_
            refine WOps.nil ?_
            refine WEx.then_ ?_
            refine WCode.ret ?_
            refine WEx.then_ret ?_
            obtain rfl := some_eq hF
            refine WEx.ret2 rfl rfl rfl ?_
            have S189 := ((S185.front 3 rfl).front 3 rfl).front 2 rfl
            change St _ _ _ [[(p0, .cells #[.int .i64 x44, .int .i64 x45, .int .i64 x46, .int .i64 x47, .slice A48 l50.length c49, .slice A53 l55.length c54] 104 (0, 0))], G51, G56, [(b15, .cells #[.int .i64 a1.Address, .int .i64 a1.Instance] 34 (0, 0))]] at S189
            have hO190 : ObjO 104 Cache104.rp p0 (⟨(⟨x44, x45, x46, x47⟩ : CacheConfig), l50, l55⟩ : Cache104) ([(p0, .cells #[.int .i64 x44, .int .i64 x45, .int .i64 x46, .int .i64 x47, .slice A48 l50.length c49, .slice A53 l55.length c54] 104 (0, 0))] ++ (G51 ++ (G56))) := ⟨_, _, ⟨A48, c49, G51, A53, c54, G56, rfl, hO52, hO57, rfl⟩, rfl⟩
            have S191 : St _ _ _ [[(p0, .cells #[.int .i64 x44, .int .i64 x45, .int .i64 x46, .int .i64 x47, .slice A48 l50.length c49, .slice A53 l55.length c54] 104 (0, 0))] ++ (G51 ++ (G56)), [(b15, .cells #[.int .i64 a1.Address, .int .i64 a1.Instance] 34 (0, 0))]] := S189.objs (by simp)
            exact ⟨[(p0, .cells #[.int .i64 x44, .int .i64 x45, .int .i64 x46, .int .i64 x47, .slice A48 l50.length c49, .slice A53 l55.length c54] 104 (0, 0))] ++ (G51 ++ (G56)), rfl, hO190, St.keep (As := [[(p0, .cells #[.int .i64 x44, .int .i64 x45, .int .i64 x46, .int .i64 x47, .slice A48 l50.length c49, .slice A53 l55.length c54] 104 (0, 0))] ++ (G51 ++ (G56))]) S191⟩
           ·
            refine WH.p rfl (wants_on rfl (kbl (b := decide ((l50.length : Int) = x44)) rfl (decide_eq_false h188))) (G.move rfl) rfl ?_
            refine WH.p rfl (wants_on rfl (kbl (b := decide ((l50.length : Int) = x44)) rfl (decide_eq_false h188))) (G.move rfl) rfl ?_
            refine WH.p rfl (wants_on rfl (kbl (b := decide ((l50.length : Int) = x44)) rfl (decide_eq_false h188))) (G.nilp rfl) rfl ?_
            refine WH.p rfl (wants_on rfl (kbl (b := decide ((l50.length : Int) = x44)) rfl (decide_eq_false h188))) (G.field T.fld104_0 rfl (show 0 + 0 = 0 from rfl)) rfl ?_
            refine WH.p rfl (wants_on rfl (kbl (b := decide ((l50.length : Int) = x44)) rfl (decide_eq_false h188))) (G.field T.fld26_1 rfl (show 0 + 1 = 1 from rfl)) rfl ?_
            refine WH.r rfl (wants_on rfl (kbl (b := decide ((l50.length : Int) = x44)) rfl (decide_eq_false h188))) (fun _ h_ => G.loada T.agg34_2 rfl (cs := [.int .i64 a1.Address, .int .i64 a1.Instance]) (cellsAt.part h_.2.1 0 rfl)) rfl ?_
            refine WH.r rfl (wants_on rfl (kbl (b := decide ((l50.length : Int) = x44)) rfl (decide_eq_false h188))) (fun _ h_ => G.load1 T.one3 rfl (cellsAt.at h_.1 1 rfl)) rfl ?_
            obtain ⟨t192, hc193, hF⟩ := bind_some hF
            have S194 := ((S185.front 3 rfl).front 3 rfl).front 2 rfl
            change St _ _ _ [[(p0, .cells #[.int .i64 x44, .int .i64 x45, .int .i64 x46, .int .i64 x47, .slice A48 l50.length c49, .slice A53 l55.length c54] 104 (0, 0))], G51, G56, [(b15, .cells #[.int .i64 a1.Address, .int .i64 a1.Instance] 34 (0, 0))]] at S194
            have hP195 : PtR 104 Cache104.rp w186 (KS [[(p0, .cells #[.int .i64 x44, .int .i64 x45, .int .i64 x46, .int .i64 x47, .slice A48 l50.length c49, .slice A53 l55.length c54] 104 (0, 0))], G51, G56]) p0 (⟨(⟨x44, x45, x46, x47⟩ : CacheConfig), l50, l55⟩ : Cache104) := ⟨_, S194.blk 0 rfl, KS_at 0 rfl (by simp [keys]), ⟨A48, c49, A53, c54, rfl, ((hO52.rd (fun b o hb => S194.grp 1 rfl hb)).mono (fun b hb => KS_at 1 rfl hb)), ((hO57.rd (fun b o hb => S194.grp 2 rfl hb)).mono (fun b hb => KS_at 2 rfl hb))⟩⟩
            refine WH.call rfl (wants_on rfl (kbl (b := decide ((l50.length : Int) = x44)) rfl (decide_eq_false h188))) T.call61 (evs_cons rfl (evs_cons rfl evs_nil)) rfl ?_
            refine (rc_of_calls q138 (⟨(⟨x44, x45, x46, x47⟩ : CacheConfig), l50, l55⟩ : Cache104) a1 hP195 (St.outN (Bs := []) (As := [[(p0, .cells #[.int .i64 x44, .int .i64 x45, .int .i64 x46, .int .i64 x47, .slice A48 l50.length c49, .slice A53 l55.length c54] 104 (0, 0))], G51, G56]) S194) hc193).mono ?_
            rintro _ w196 ⟨rfl, T197⟩
            have S198 := St.callN (As := []) S194 T197
            change St _ _ _ [[(p0, .cells #[.int .i64 x44, .int .i64 x45, .int .i64 x46, .int .i64 x47, .slice A48 l50.length c49, .slice A53 l55.length c54] 104 (0, 0))], G51, G56, [(b15, .cells #[.int .i64 a1.Address, .int .i64 a1.Instance] 34 (0, 0))]] at S198
            refine ⟨_, rfl, ?_⟩
            refine ⟨⟨cellsAt.of_blk (S198.blk 0 rfl) rfl, cellsAt.of_blk (S198.blk 3 rfl) rfl, trivial⟩, ?_⟩
            refine WH.p rfl (wants_on rfl (kbl (b := decide ((l50.length : Int) = x44)) rfl (decide_eq_false h188))) (G.eql rfl rfl rfl) rfl ?_
            refine WH.p rfl wants (G.pick_f (kb (b := decide ((l50.length : Int) = x44)) rfl (decide_eq_false h188)) rfl) rfl ?_
            refine WH.p rfl wants (G.move rfl) rfl ?_
            rcases ite_some hF with ⟨h199, hF⟩ | ⟨h199, hF⟩
            ·
             refine WH.off rfl rfl (kbl (b := decide (t192 = x45)) rfl (decide_eq_true h199)) rfl rfl rfl ?_
             refine WH.off rfl rfl (kbl (b := decide (t192 = x45)) rfl (decide_eq_true h199)) rfl rfl rfl ?_
             refine WH.off rfl rfl (kbl (b := decide (t192 = x45)) rfl (decide_eq_true h199)) rfl rfl rfl ?_
             refine WH.off rfl rfl (kbl (b := decide (t192 = x45)) rfl (decide_eq_true h199)) rfl rfl rfl ?_
             refine WH.off rfl rfl (kbl (b := decide (t192 = x45)) rfl (decide_eq_true h199)) rfl rfl rfl ?_
             refine WH.off rfl rfl (kbl (b := decide (t192 = x45)) rfl (decide_eq_true h199)) rfl rfl rfl ?_
             refine WH.off rfl rfl (kbl (b := decide (t192 = x45)) rfl (decide_eq_true h199)) rfl rfl rfl ?_
             refine WH.off rfl rfl (kbl (b := decide (t192 = x45)) rfl (decide_eq_true h199)) rfl rfl rfl ?_
             refine WH.off rfl rfl (kbl (b := decide (t192 = x45)) rfl (decide_eq_true h199)) rfl rfl rfl ?_
             refine WH.off rfl rfl (kbl (b := decide (t192 = x45)) rfl (decide_eq_true h199)) rfl rfl rfl ?_
             refine WH.off rfl rfl (kbl (b := decide (t192 = x45)) rfl (decide_eq_true h199)) rfl rfl rfl ?_
             refine WH.off2 rfl rfl (kbl (b := decide (t192 = x45)) rfl (decide_eq_true h199)) rfl rfl ⟨cellsAt.of_blk (S198.blk 0 rfl) rfl, cellsAt.of_blk (S198.blk 3 rfl) rfl, trivial⟩ ?_
             refine WH.off rfl rfl (kbl (b := decide (t192 = x45)) rfl (decide_eq_true h199)) rfl rfl rfl ?_
             refine WH.off rfl rfl (kbl (b := decide (t192 = x45)) rfl (decide_eq_true h199)) rfl rfl rfl ?_
             refine WH.p rfl wants (G.pick_t (kb (b := decide (t192 = x45)) rfl (decide_eq_true h199)) rfl) rfl ?_
             refine WH.nil ?_
             refine WEx.then_ ?_
             refine WCode.forget (l' := [(0, .pointer (some ⟨p0, 0, none⟩)), (2, .int .i64 a2), (3, .int .i64 x104), (5, .pointer (some ⟨b15, 0, none⟩)), (10, .int .i64 t37), (147, .bool true)]) ⟨rfl, rfl, rfl, rfl, rfl, rfl, trivial⟩ ?_
             refine WCode.cond_t rfl ?_
             refine WCode.seq ?_
             refine WCode.region ?_
             refine WOps.p (G.assign rfl) rfl ?_
             refine WOps.p (G.assign rfl) rfl ?_
             refine WOps.nil ?_
             refine WEx.then_ ?_
             refine WCode.ret ?_
             refine WEx.then_ret ?_
             obtain rfl := some_eq hF
             refine WEx.ret2 rfl rfl rfl ?_
             have hO200 : ObjO 104 Cache104.rp p0 (⟨(⟨x44, x45, x46, x47⟩ : CacheConfig), l50, l55⟩ : Cache104) ([(p0, .cells #[.int .i64 x44, .int .i64 x45, .int .i64 x46, .int .i64 x47, .slice A48 l50.length c49, .slice A53 l55.length c54] 104 (0, 0))] ++ (G51 ++ (G56))) := ⟨_, _, ⟨A48, c49, G51, A53, c54, G56, rfl, hO52, hO57, rfl⟩, rfl⟩
             have S201 : St _ _ _ [[(p0, .cells #[.int .i64 x44, .int .i64 x45, .int .i64 x46, .int .i64 x47, .slice A48 l50.length c49, .slice A53 l55.length c54] 104 (0, 0))] ++ (G51 ++ (G56)), [(b15, .cells #[.int .i64 a1.Address, .int .i64 a1.Instance] 34 (0, 0))]] := S198.objs (by simp)
             exact ⟨[(p0, .cells #[.int .i64 x44, .int .i64 x45, .int .i64 x46, .int .i64 x47, .slice A48 l50.length c49, .slice A53 l55.length c54] 104 (0, 0))] ++ (G51 ++ (G56)), rfl, hO200, St.keep (As := [[(p0, .cells #[.int .i64 x44, .int .i64 x45, .int .i64 x46, .int .i64 x47, .slice A48 l50.length c49, .slice A53 l55.length c54] 104 (0, 0))] ++ (G51 ++ (G56))]) S201⟩
            ·
             refine WH.p rfl (wants_on rfl (kbl (b := decide (t192 = x45)) rfl (decide_eq_false h199))) (G.move rfl) rfl ?_
             refine WH.p rfl (wants_on rfl (kbl (b := decide (t192 = x45)) rfl (decide_eq_false h199))) (G.move rfl) rfl ?_
             refine WH.p rfl (wants_on rfl (kbl (b := decide (t192 = x45)) rfl (decide_eq_false h199))) (G.nilp rfl) rfl ?_
             refine WH.p rfl (wants_on rfl (kbl (b := decide (t192 = x45)) rfl (decide_eq_false h199))) (G.field T.fld104_0 rfl (show 0 + 0 = 0 from rfl)) rfl ?_
             refine WH.p rfl (wants_on rfl (kbl (b := decide (t192 = x45)) rfl (decide_eq_false h199))) (G.field T.fld26_3 rfl (show 0 + 3 = 3 from rfl)) rfl ?_
             refine WH.p rfl (wants_on rfl (kbl (b := decide (t192 = x45)) rfl (decide_eq_false h199))) (G.move rfl) rfl ?_
             refine WH.p rfl (wants_on rfl (kbl (b := decide (t192 = x45)) rfl (decide_eq_false h199))) (G.nilp rfl) rfl ?_
             refine WH.p rfl (wants_on rfl (kbl (b := decide (t192 = x45)) rfl (decide_eq_false h199))) (G.field T.fld104_0 rfl (show 0 + 0 = 0 from rfl)) rfl ?_
             refine WH.p rfl (wants_on rfl (kbl (b := decide (t192 = x45)) rfl (decide_eq_false h199))) (G.field T.fld26_2 rfl (show 0 + 2 = 2 from rfl)) rfl ?_
             refine WH.r rfl (wants_on rfl (kbl (b := decide (t192 = x45)) rfl (decide_eq_false h199))) (fun _ h_ => G.load1 T.one3 rfl (cellsAt.at h_.1 3 rfl)) rfl ?_
             refine WH.r rfl (wants_on rfl (kbl (b := decide (t192 = x45)) rfl (decide_eq_false h199))) (fun _ h_ => G.load1 T.one3 rfl (cellsAt.at h_.1 2 rfl)) rfl ?_
             obtain ⟨t202, hc203, hF⟩ := bind_some hF
             have hP204 : PtR 104 Cache104.rp w196 (KS [[(p0, .cells #[.int .i64 x44, .int .i64 x45, .int .i64 x46, .int .i64 x47, .slice A48 l50.length c49, .slice A53 l55.length c54] 104 (0, 0))], G51, G56]) p0 (⟨(⟨x44, x45, x46, x47⟩ : CacheConfig), l50, l55⟩ : Cache104) := ⟨_, S198.blk 0 rfl, KS_at 0 rfl (by simp [keys]), ⟨A48, c49, A53, c54, rfl, ((hO52.rd (fun b o hb => S198.grp 1 rfl hb)).mono (fun b hb => KS_at 1 rfl hb)), ((hO57.rd (fun b o hb => S198.grp 2 rfl hb)).mono (fun b hb => KS_at 2 rfl hb))⟩⟩
             refine WH.call rfl (wants_on rfl (kbl (b := decide (t192 = x45)) rfl (decide_eq_false h199))) T.call46 (evs_cons rfl evs_nil) rfl ?_
             refine (rc_Bytes_calls q138 (⟨(⟨x44, x45, x46, x47⟩ : CacheConfig), l50, l55⟩ : Cache104) hP204 (St.outN (Bs := []) (As := [[(p0, .cells #[.int .i64 x44, .int .i64 x45, .int .i64 x46, .int .i64 x47, .slice A48 l50.length c49, .slice A53 l55.length c54] 104 (0, 0))], G51, G56]) S198) hc203).mono ?_
             rintro _ w205 ⟨rfl, T206⟩
             have S207 := St.callN (As := []) S198 T206
             change St _ _ _ [[(p0, .cells #[.int .i64 x44, .int .i64 x45, .int .i64 x46, .int .i64 x47, .slice A48 l50.length c49, .slice A53 l55.length c54] 104 (0, 0))], G51, G56, [(b15, .cells #[.int .i64 a1.Address, .int .i64 a1.Instance] 34 (0, 0))]] at S207
             refine ⟨_, rfl, ?_⟩
             refine ⟨⟨cellsAt.of_blk (S207.blk 0 rfl) rfl, cellsAt.of_blk (S207.blk 3 rfl) rfl, trivial⟩, ?_⟩
             refine WH.p rfl (wants_on rfl (kbl (b := decide (t192 = x45)) rfl (decide_eq_false h199))) (G.add rfl rfl (r := (w64 (t202 + x47))) rfl) rfl ?_
             refine WH.p rfl (wants_on rfl (kbl (b := decide (t192 = x45)) rfl (decide_eq_false h199))) (G.gtr rfl rfl rfl) rfl ?_
             refine WH.p rfl wants (G.pick_f (kb (b := decide (t192 = x45)) rfl (decide_eq_false h199)) rfl) rfl ?_
             refine WH.nil ?_
             refine WEx.then_ ?_
             refine WCode.forget (l' := [(0, .pointer (some ⟨p0, 0, none⟩)), (2, .int .i64 a2), (3, .int .i64 x104), (5, .pointer (some ⟨b15, 0, none⟩)), (10, .int .i64 t37), (147, .bool (decide (x46 < (w64 (t202 + x47)))))]) ⟨rfl, rfl, rfl, rfl, rfl, rfl, trivial⟩ ?_
             rcases ite_some hF with ⟨h208, hF⟩ | ⟨h208, hF⟩
             ·
              refine WCode.cond_t (kb (b := decide (x46 < (w64 (t202 + x47)))) rfl (decide_eq_true h208)) ?_
              refine WCode.seq ?_
              refine WCode.region ?_
              refine WOps.p (G.assign rfl) rfl ?_
              refine WOps.p (G.assign rfl) rfl ?_
              refine WOps.nil ?_
              refine WEx.then_ ?_
              refine WCode.ret ?_
              refine WEx.then_ret ?_
              obtain rfl := some_eq hF
              refine WEx.ret2 rfl rfl rfl ?_
              have hO209 : ObjO 104 Cache104.rp p0 (⟨(⟨x44, x45, x46, x47⟩ : CacheConfig), l50, l55⟩ : Cache104) ([(p0, .cells #[.int .i64 x44, .int .i64 x45, .int .i64 x46, .int .i64 x47, .slice A48 l50.length c49, .slice A53 l55.length c54] 104 (0, 0))] ++ (G51 ++ (G56))) := ⟨_, _, ⟨A48, c49, G51, A53, c54, G56, rfl, hO52, hO57, rfl⟩, rfl⟩
              have S210 : St _ _ _ [[(p0, .cells #[.int .i64 x44, .int .i64 x45, .int .i64 x46, .int .i64 x47, .slice A48 l50.length c49, .slice A53 l55.length c54] 104 (0, 0))] ++ (G51 ++ (G56)), [(b15, .cells #[.int .i64 a1.Address, .int .i64 a1.Instance] 34 (0, 0))]] := S207.objs (by simp)
              exact ⟨[(p0, .cells #[.int .i64 x44, .int .i64 x45, .int .i64 x46, .int .i64 x47, .slice A48 l50.length c49, .slice A53 l55.length c54] 104 (0, 0))] ++ (G51 ++ (G56)), rfl, hO209, St.keep (As := [[(p0, .cells #[.int .i64 x44, .int .i64 x45, .int .i64 x46, .int .i64 x47, .slice A48 l50.length c49, .slice A53 l55.length c54] 104 (0, 0))] ++ (G51 ++ (G56))]) S210⟩
             ·
              refine WCode.cond_f (kb (b := decide (x46 < (w64 (t202 + x47)))) rfl (decide_eq_false h208)) ?_
              refine WCode.skip ?_
              have S211 := (((S207.front 2 rfl).front 2 rfl).front 3 rfl).front 3 rfl
              change St _ _ _ [[(p0, .cells #[.int .i64 x44, .int .i64 x45, .int .i64 x46, .int .i64 x47, .slice A48 l50.length c49, .slice A53 l55.length c54] 104 (0, 0))], [(b15, .cells #[.int .i64 a1.Address, .int .i64 a1.Instance] 34 (0, 0))], G51, G56] at S211
              refine WEx.cutend _ ?_ ⟨q138, rfl, hF, S211⟩
              exact ⟨rfl, rfl, rfl, rfl, rfl, trivial⟩
          ·
           refine WH.off rfl rfl (kbl (b := decide (t37 < 0)) rfl (decide_eq_false h187)) rfl rfl rfl ?_
           refine WH.off rfl rfl (kbl (b := decide (t37 < 0)) rfl (decide_eq_false h187)) rfl rfl rfl ?_
           refine WH.off rfl rfl (kbl (b := decide (t37 < 0)) rfl (decide_eq_false h187)) rfl rfl rfl ?_
           refine WH.off rfl rfl (kbl (b := decide (t37 < 0)) rfl (decide_eq_false h187)) rfl rfl rfl ?_
           refine WH.off rfl rfl (kbl (b := decide (t37 < 0)) rfl (decide_eq_false h187)) rfl rfl rfl ?_
           refine WH.off rfl rfl (kbl (b := decide (t37 < 0)) rfl (decide_eq_false h187)) rfl rfl rfl ?_
           refine WH.off rfl rfl (kbl (b := decide (t37 < 0)) rfl (decide_eq_false h187)) rfl rfl rfl ?_
           refine WH.off rfl rfl (kbl (b := decide (t37 < 0)) rfl (decide_eq_false h187)) rfl rfl rfl ?_
           refine WH.off rfl rfl (kbl (b := decide (t37 < 0)) rfl (decide_eq_false h187)) rfl rfl rfl ?_
           refine WH.off rfl rfl (kbl (b := decide (t37 < 0)) rfl (decide_eq_false h187)) rfl rfl rfl ?_
           refine WH.off rfl rfl (kbl (b := decide (t37 < 0)) rfl (decide_eq_false h187)) rfl rfl rfl ?_
           refine WH.p rfl wants (G.pick_f (kb (b := decide (t37 < 0)) rfl (decide_eq_false h187)) rfl) rfl ?_
           refine WH.p rfl wants (G.move rfl) rfl ?_
           refine WH.p rfl (wants_on rfl rfl) (G.move rfl) rfl ?_
           refine WH.p rfl (wants_on rfl rfl) (G.move rfl) rfl ?_
           refine WH.p rfl (wants_on rfl rfl) (G.nilp rfl) rfl ?_
           refine WH.p rfl (wants_on rfl rfl) (G.field T.fld104_0 rfl (show 0 + 0 = 0 from rfl)) rfl ?_
           refine WH.p rfl (wants_on rfl rfl) (G.field T.fld26_1 rfl (show 0 + 1 = 1 from rfl)) rfl ?_
           refine WH.r rfl (wants_on rfl rfl) (fun _ h_ => G.loada T.agg34_2 rfl (cs := [.int .i64 a1.Address, .int .i64 a1.Instance]) (cellsAt.part h_.2.1 0 rfl)) rfl ?_
           refine WH.r rfl (wants_on rfl rfl) (fun _ h_ => G.load1 T.one3 rfl (cellsAt.at h_.1 1 rfl)) rfl ?_
           obtain ⟨t212, hc213, hF⟩ := bind_some hF
           have S214 := ((S185.front 3 rfl).front 3 rfl).front 2 rfl
           change St _ _ _ [[(p0, .cells #[.int .i64 x44, .int .i64 x45, .int .i64 x46, .int .i64 x47, .slice A48 l50.length c49, .slice A53 l55.length c54] 104 (0, 0))], G51, G56, [(b15, .cells #[.int .i64 a1.Address, .int .i64 a1.Instance] 34 (0, 0))]] at S214
           have hP215 : PtR 104 Cache104.rp w186 (KS [[(p0, .cells #[.int .i64 x44, .int .i64 x45, .int .i64 x46, .int .i64 x47, .slice A48 l50.length c49, .slice A53 l55.length c54] 104 (0, 0))], G51, G56]) p0 (⟨(⟨x44, x45, x46, x47⟩ : CacheConfig), l50, l55⟩ : Cache104) := ⟨_, S214.blk 0 rfl, KS_at 0 rfl (by simp [keys]), ⟨A48, c49, A53, c54, rfl, ((hO52.rd (fun b o hb => S214.grp 1 rfl hb)).mono (fun b hb => KS_at 1 rfl hb)), ((hO57.rd (fun b o hb => S214.grp 2 rfl hb)).mono (fun b hb => KS_at 2 rfl hb))⟩⟩
           refine WH.call rfl (wants_on rfl rfl) T.call61 (evs_cons rfl (evs_cons rfl evs_nil)) rfl ?_
           refine (rc_of_calls q138 (⟨(⟨x44, x45, x46, x47⟩ : CacheConfig), l50, l55⟩ : Cache104) a1 hP215 (St.outN (Bs := []) (As := [[(p0, .cells #[.int .i64 x44, .int .i64 x45, .int .i64 x46, .int .i64 x47, .slice A48 l50.length c49, .slice A53 l55.length c54] 104 (0, 0))], G51, G56]) S214) hc213).mono ?_
           rintro _ w216 ⟨rfl, T217⟩
           have S218 := St.callN (As := []) S214 T217
           change St _ _ _ [[(p0, .cells #[.int .i64 x44, .int .i64 x45, .int .i64 x46, .int .i64 x47, .slice A48 l50.length c49, .slice A53 l55.length c54] 104 (0, 0))], G51, G56, [(b15, .cells #[.int .i64 a1.Address, .int .i64 a1.Instance] 34 (0, 0))]] at S218
           refine ⟨_, rfl, ?_⟩
           refine ⟨⟨cellsAt.of_blk (S218.blk 0 rfl) rfl, cellsAt.of_blk (S218.blk 3 rfl) rfl, trivial⟩, ?_⟩
           refine WH.p rfl (wants_on rfl rfl) (G.eql rfl rfl rfl) rfl ?_
           refine WH.p rfl wants (G.pick_f rfl rfl) rfl ?_
           refine WH.p rfl wants (G.move rfl) rfl ?_
           rcases ite_some hF with ⟨h219, hF⟩ | ⟨h219, hF⟩
           ·
            refine WH.off rfl rfl (kbl (b := decide (t212 = x45)) rfl (decide_eq_true h219)) rfl rfl rfl ?_
            refine WH.off rfl rfl (kbl (b := decide (t212 = x45)) rfl (decide_eq_true h219)) rfl rfl rfl ?_
            refine WH.off rfl rfl (kbl (b := decide (t212 = x45)) rfl (decide_eq_true h219)) rfl rfl rfl ?_
            refine WH.off rfl rfl (kbl (b := decide (t212 = x45)) rfl (decide_eq_true h219)) rfl rfl rfl ?_
            refine WH.off rfl rfl (kbl (b := decide (t212 = x45)) rfl (decide_eq_true h219)) rfl rfl rfl ?_
            refine WH.off rfl rfl (kbl (b := decide (t212 = x45)) rfl (decide_eq_true h219)) rfl rfl rfl ?_
            refine WH.off rfl rfl (kbl (b := decide (t212 = x45)) rfl (decide_eq_true h219)) rfl rfl rfl ?_
            refine WH.off rfl rfl (kbl (b := decide (t212 = x45)) rfl (decide_eq_true h219)) rfl rfl rfl ?_
            refine WH.off rfl rfl (kbl (b := decide (t212 = x45)) rfl (decide_eq_true h219)) rfl rfl rfl ?_
            refine WH.off rfl rfl (kbl (b := decide (t212 = x45)) rfl (decide_eq_true h219)) rfl rfl rfl ?_
            refine WH.off rfl rfl (kbl (b := decide (t212 = x45)) rfl (decide_eq_true h219)) rfl rfl rfl ?_
            refine WH.off2 rfl rfl (kbl (b := decide (t212 = x45)) rfl (decide_eq_true h219)) rfl rfl ⟨cellsAt.of_blk (S218.blk 0 rfl) rfl, cellsAt.of_blk (S218.blk 3 rfl) rfl, trivial⟩ ?_
            refine WH.off rfl rfl (kbl (b := decide (t212 = x45)) rfl (decide_eq_true h219)) rfl rfl rfl ?_
            refine WH.off rfl rfl (kbl (b := decide (t212 = x45)) rfl (decide_eq_true h219)) rfl rfl rfl ?_
            refine WH.p rfl wants (G.pick_t (kb (b := decide (t212 = x45)) rfl (decide_eq_true h219)) rfl) rfl ?_
            refine WH.nil ?_
            refine WEx.then_ ?_
            refine WCode.forget (l' := [(0, .pointer (some ⟨p0, 0, none⟩)), (2, .int .i64 a2), (3, .int .i64 x104), (5, .pointer (some ⟨b15, 0, none⟩)), (10, .int .i64 t37), (147, .bool true)]) ⟨rfl, rfl, rfl, rfl, rfl, rfl, trivial⟩ ?_
            refine WCode.cond_t rfl ?_
            refine WCode.seq ?_
            refine WCode.region ?_
            refine WOps.p (G.assign rfl) rfl ?_
            refine WOps.p (G.assign rfl) rfl ?_
            refine WOps.nil ?_
            refine WEx.then_ ?_
            refine WCode.ret ?_
            refine WEx.then_ret ?_
            obtain rfl := some_eq hF
            refine WEx.ret2 rfl rfl rfl ?_
            have hO220 : ObjO 104 Cache104.rp p0 (⟨(⟨x44, x45, x46, x47⟩ : CacheConfig), l50, l55⟩ : Cache104) ([(p0, .cells #[.int .i64 x44, .int .i64 x45, .int .i64 x46, .int .i64 x47, .slice A48 l50.length c49, .slice A53 l55.length c54] 104 (0, 0))] ++ (G51 ++ (G56))) := ⟨_, _, ⟨A48, c49, G51, A53, c54, G56, rfl, hO52, hO57, rfl⟩, rfl⟩
            have S221 : St _ _ _ [[(p0, .cells #[.int .i64 x44, .int .i64 x45, .int .i64 x46, .int .i64 x47, .slice A48 l50.length c49, .slice A53 l55.length c54] 104 (0, 0))] ++ (G51 ++ (G56)), [(b15, .cells #[.int .i64 a1.Address, .int .i64 a1.Instance] 34 (0, 0))]] := S218.objs (by simp)
            exact ⟨[(p0, .cells #[.int .i64 x44, .int .i64 x45, .int .i64 x46, .int .i64 x47, .slice A48 l50.length c49, .slice A53 l55.length c54] 104 (0, 0))] ++ (G51 ++ (G56)), rfl, hO220, St.keep (As := [[(p0, .cells #[.int .i64 x44, .int .i64 x45, .int .i64 x46, .int .i64 x47, .slice A48 l50.length c49, .slice A53 l55.length c54] 104 (0, 0))] ++ (G51 ++ (G56))]) S221⟩
           ·
            refine WH.p rfl (wants_on rfl (kbl (b := decide (t212 = x45)) rfl (decide_eq_false h219))) (G.move rfl) rfl ?_
            refine WH.p rfl (wants_on rfl (kbl (b := decide (t212 = x45)) rfl (decide_eq_false h219))) (G.move rfl) rfl ?_
            refine WH.p rfl (wants_on rfl (kbl (b := decide (t212 = x45)) rfl (decide_eq_false h219))) (G.nilp rfl) rfl ?_
            refine WH.p rfl (wants_on rfl (kbl (b := decide (t212 = x45)) rfl (decide_eq_false h219))) (G.field T.fld104_0 rfl (show 0 + 0 = 0 from rfl)) rfl ?_
            refine WH.p rfl (wants_on rfl (kbl (b := decide (t212 = x45)) rfl (decide_eq_false h219))) (G.field T.fld26_3 rfl (show 0 + 3 = 3 from rfl)) rfl ?_
            refine WH.p rfl (wants_on rfl (kbl (b := decide (t212 = x45)) rfl (decide_eq_false h219))) (G.move rfl) rfl ?_
            refine WH.p rfl (wants_on rfl (kbl (b := decide (t212 = x45)) rfl (decide_eq_false h219))) (G.nilp rfl) rfl ?_
            refine WH.p rfl (wants_on rfl (kbl (b := decide (t212 = x45)) rfl (decide_eq_false h219))) (G.field T.fld104_0 rfl (show 0 + 0 = 0 from rfl)) rfl ?_
            refine WH.p rfl (wants_on rfl (kbl (b := decide (t212 = x45)) rfl (decide_eq_false h219))) (G.field T.fld26_2 rfl (show 0 + 2 = 2 from rfl)) rfl ?_
            refine WH.r rfl (wants_on rfl (kbl (b := decide (t212 = x45)) rfl (decide_eq_false h219))) (fun _ h_ => G.load1 T.one3 rfl (cellsAt.at h_.1 3 rfl)) rfl ?_
            refine WH.r rfl (wants_on rfl (kbl (b := decide (t212 = x45)) rfl (decide_eq_false h219))) (fun _ h_ => G.load1 T.one3 rfl (cellsAt.at h_.1 2 rfl)) rfl ?_
            obtain ⟨t222, hc223, hF⟩ := bind_some hF
            have hP224 : PtR 104 Cache104.rp w216 (KS [[(p0, .cells #[.int .i64 x44, .int .i64 x45, .int .i64 x46, .int .i64 x47, .slice A48 l50.length c49, .slice A53 l55.length c54] 104 (0, 0))], G51, G56]) p0 (⟨(⟨x44, x45, x46, x47⟩ : CacheConfig), l50, l55⟩ : Cache104) := ⟨_, S218.blk 0 rfl, KS_at 0 rfl (by simp [keys]), ⟨A48, c49, A53, c54, rfl, ((hO52.rd (fun b o hb => S218.grp 1 rfl hb)).mono (fun b hb => KS_at 1 rfl hb)), ((hO57.rd (fun b o hb => S218.grp 2 rfl hb)).mono (fun b hb => KS_at 2 rfl hb))⟩⟩
            refine WH.call rfl (wants_on rfl (kbl (b := decide (t212 = x45)) rfl (decide_eq_false h219))) T.call46 (evs_cons rfl evs_nil) rfl ?_
            refine (rc_Bytes_calls q138 (⟨(⟨x44, x45, x46, x47⟩ : CacheConfig), l50, l55⟩ : Cache104) hP224 (St.outN (Bs := []) (As := [[(p0, .cells #[.int .i64 x44, .int .i64 x45, .int .i64 x46, .int .i64 x47, .slice A48 l50.length c49, .slice A53 l55.length c54] 104 (0, 0))], G51, G56]) S218) hc223).mono ?_
            rintro _ w225 ⟨rfl, T226⟩
            have S227 := St.callN (As := []) S218 T226
            change St _ _ _ [[(p0, .cells #[.int .i64 x44, .int .i64 x45, .int .i64 x46, .int .i64 x47, .slice A48 l50.length c49, .slice A53 l55.length c54] 104 (0, 0))], G51, G56, [(b15, .cells #[.int .i64 a1.Address, .int .i64 a1.Instance] 34 (0, 0))]] at S227
            refine ⟨_, rfl, ?_⟩
            refine ⟨⟨cellsAt.of_blk (S227.blk 0 rfl) rfl, cellsAt.of_blk (S227.blk 3 rfl) rfl, trivial⟩, ?_⟩
            refine WH.p rfl (wants_on rfl (kbl (b := decide (t212 = x45)) rfl (decide_eq_false h219))) (G.add rfl rfl (r := (w64 (t222 + x47))) rfl) rfl ?_
            refine WH.p rfl (wants_on rfl (kbl (b := decide (t212 = x45)) rfl (decide_eq_false h219))) (G.gtr rfl rfl rfl) rfl ?_
            refine WH.p rfl wants (G.pick_f (kb (b := decide (t212 = x45)) rfl (decide_eq_false h219)) rfl) rfl ?_
            refine WH.nil ?_
            refine WEx.then_ ?_
            refine WCode.forget (l' := [(0, .pointer (some ⟨p0, 0, none⟩)), (2, .int .i64 a2), (3, .int .i64 x104), (5, .pointer (some ⟨b15, 0, none⟩)), (10, .int .i64 t37), (147, .bool (decide (x46 < (w64 (t222 + x47)))))]) ⟨rfl, rfl, rfl, rfl, rfl, rfl, trivial⟩ ?_
            rcases ite_some hF with ⟨h228, hF⟩ | ⟨h228, hF⟩
            ·
             refine WCode.cond_t (kb (b := decide (x46 < (w64 (t222 + x47)))) rfl (decide_eq_true h228)) ?_
             refine WCode.seq ?_
             refine WCode.region ?_
             refine WOps.p (G.assign rfl) rfl ?_
             refine WOps.p (G.assign rfl) rfl ?_
             refine WOps.nil ?_
             refine WEx.then_ ?_
             refine WCode.ret ?_
             refine WEx.then_ret ?_
             obtain rfl := some_eq hF
             refine WEx.ret2 rfl rfl rfl ?_
             have hO229 : ObjO 104 Cache104.rp p0 (⟨(⟨x44, x45, x46, x47⟩ : CacheConfig), l50, l55⟩ : Cache104) ([(p0, .cells #[.int .i64 x44, .int .i64 x45, .int .i64 x46, .int .i64 x47, .slice A48 l50.length c49, .slice A53 l55.length c54] 104 (0, 0))] ++ (G51 ++ (G56))) := ⟨_, _, ⟨A48, c49, G51, A53, c54, G56, rfl, hO52, hO57, rfl⟩, rfl⟩
             have S230 : St _ _ _ [[(p0, .cells #[.int .i64 x44, .int .i64 x45, .int .i64 x46, .int .i64 x47, .slice A48 l50.length c49, .slice A53 l55.length c54] 104 (0, 0))] ++ (G51 ++ (G56)), [(b15, .cells #[.int .i64 a1.Address, .int .i64 a1.Instance] 34 (0, 0))]] := S227.objs (by simp)
             exact ⟨[(p0, .cells #[.int .i64 x44, .int .i64 x45, .int .i64 x46, .int .i64 x47, .slice A48 l50.length c49, .slice A53 l55.length c54] 104 (0, 0))] ++ (G51 ++ (G56)), rfl, hO229, St.keep (As := [[(p0, .cells #[.int .i64 x44, .int .i64 x45, .int .i64 x46, .int .i64 x47, .slice A48 l50.length c49, .slice A53 l55.length c54] 104 (0, 0))] ++ (G51 ++ (G56))]) S230⟩
            ·
             refine WCode.cond_f (kb (b := decide (x46 < (w64 (t222 + x47)))) rfl (decide_eq_false h228)) ?_
             refine WCode.skip ?_
             have S231 := (((S227.front 2 rfl).front 2 rfl).front 3 rfl).front 3 rfl
             change St _ _ _ [[(p0, .cells #[.int .i64 x44, .int .i64 x45, .int .i64 x46, .int .i64 x47, .slice A48 l50.length c49, .slice A53 l55.length c54] 104 (0, 0))], [(b15, .cells #[.int .i64 a1.Address, .int .i64 a1.Instance] 34 (0, 0))], G51, G56] at S231
             refine WEx.cutend _ ?_ ⟨q138, rfl, hF, S231⟩
             exact ⟨rfl, rfl, rfl, rfl, rfl, trivial⟩
         ·
          rintro _ w181 ⟨q183, rfl, hF, S182⟩
          unfold rc_Ask.j5 at hF
          refine WCode.cutseq (fun l_ w_ => ∃ q239 : Nat, ∃ A232 : Option Addr, ∃ c233 : Nat, ∃ l234 : List Known123, ∃ G235 : Grp, l_ = [(0, .pointer (some ⟨p0, 0, none⟩)), (2, .int .i64 a2), (5, .pointer (some ⟨b15, 0, none⟩))] ∧ rc_Ask.j6 q239 a1 a2 x44 x45 x46 x47 l55 l234 = some r_ ∧ (SlO 123 Known123.rp (.slice A232 l234.length c233) l234 G235) ∧ St w (KS [G0]) w_ [[(p0, .cells #[.int .i64 x44, .int .i64 x45, .int .i64 x46, .int .i64 x47, .slice A232 l234.length c233, .slice A53 l55.length c54] 104 (0, 0))], [(b15, .cells #[.int .i64 a1.Address, .int .i64 a1.Instance] 34 (0, 0))], G56, G235]) ?_ ?_
          ·
           refine WCode.seq ?_
           refine WCode.region ?_
           refine WOps.p (G.move rfl) rfl ?_
           refine WOps.p (G.lss rfl rfl rfl) rfl ?_
           refine WOps.nil ?_
           refine WEx.then_ ?_
           rcases ite_some hF with ⟨h241, hF⟩ | ⟨h241, hF⟩
           ·
            refine WCode.cond_t (kb (b := decide (t37 < 0)) rfl (decide_eq_true h241)) ?_
            refine WCode.draw [⟨0, 0, []⟩, ⟨1, 0, []⟩, ⟨2, 0, []⟩, ⟨3, 0, []⟩, ⟨6, 0, []⟩, ⟨4, 1, [9, 10, 11, 12]⟩, ⟨5, 1, [7, 8, 9, 10, 11, 12]⟩, ⟨7, 0, []⟩, ⟨8, 2, []⟩, ⟨9, 2, []⟩, ⟨10, 0, []⟩, ⟨11, 0, []⟩, ⟨12, 2, []⟩] T.mixed (by kernel_rfl) (by intro _ _ d _ _ h; cases d <;> exact h) rfl (by kernel_rfl) ?_
            have S242 := S182.drew
            generalize w181.drew = w243 at *
            refine WD.p rfl (G.move rfl) rfl ?_
            refine WD.p rfl (G.move rfl) rfl ?_
            refine WD.p rfl (G.nilp rfl) rfl ?_
            refine WD.p rfl (G.field T.fld104_1 rfl (show 0 + 4 = 4 from rfl)) rfl ?_
            refine WD.p rfl (G.move rfl) rfl ?_
            refine WD.r rfl (G.load1 T.one101 rfl (cell_blk (S242.blk 0 rfl) rfl)) rfl ?_
            refine WD.r rfl (G.loada T.agg34_2 rfl (cs := [.int .i64 a1.Address, .int .i64 a1.Instance]) (cellsAt.of_blk (S242.blk 1 rfl) rfl)) rfl ?_
            refine WD.p rfl (G.build (cells := #[.int .i64 a1.Address, .int .i64 a1.Instance, .int .i64 x104]) (evp_spec (evp_cons rfl (evp_cons rfl evp_nil))) (by kernel_rfl)) rfl ?_
            obtain ⟨b244, w245, E246, S247, X248, L249⟩ := St.lit S242 (P := Try.prog) (t := 101) (e := 123) (n := 1) (vs := [(0, .agg #[.int .i64 a1.Address, .int .i64 a1.Instance, .int .i64 x104])]) (cs := #[.int .i64 a1.Address, .int .i64 a1.Instance, .int .i64 x104]) (by kernel_rfl)
            change St _ _ _ [[(b244, .cells #[.int .i64 a1.Address, .int .i64 a1.Instance, .int .i64 x104] 123 (0, 0))], [(p0, .cells #[.int .i64 x44, .int .i64 x45, .int .i64 x46, .int .i64 x47, .slice A48 l50.length c49, .slice A53 l55.length c54] 104 (0, 0))], [(b15, .cells #[.int .i64 a1.Address, .int .i64 a1.Instance] 34 (0, 0))], G51, G56] at S247
            refine WD.e rfl (E246 (evp_cons rfl evp_nil)) rfl ?_
            obtain ⟨l250, hc251, hF⟩ := bind_some hF
            have S252 := S247.front 3 rfl
            change St _ _ _ [G51, [(b244, .cells #[.int .i64 a1.Address, .int .i64 a1.Instance, .int .i64 x104] 123 (0, 0))], [(p0, .cells #[.int .i64 x44, .int .i64 x45, .int .i64 x46, .int .i64 x47, .slice A48 l50.length c49, .slice A53 l55.length c54] 104 (0, 0))], [(b15, .cells #[.int .i64 a1.Address, .int .i64 a1.Instance] 34 (0, 0))], G56] at S252
            obtain ⟨A253, c254, G255, w256, E257, hO258, S259, hk260⟩ := St.appP (P := Try.prog) (r := Known123.rp) (M := ([(⟨a1, x104⟩ : Known123)] : List Known123)) S252 T.elt101 rfl hO52 (Rd.of_blk (S252.blk 1 rfl) (n := 1) (sz := 3) rfl) ⟨_, _, [], [], rfl, rfl, ⟨rfl, rfl⟩, ⟨rfl, rfl⟩⟩ rfl hc251
            change St _ _ _ [G255, [(b244, .cells #[.int .i64 a1.Address, .int .i64 a1.Instance, .int .i64 x104] 123 (0, 0))], [(p0, .cells #[.int .i64 x44, .int .i64 x45, .int .i64 x46, .int .i64 x47, .slice A48 l50.length c49, .slice A53 l55.length c54] 104 (0, 0))], [(b15, .cells #[.int .i64 a1.Address, .int .i64 a1.Instance] 34 (0, 0))], G56] at S259
            refine WD.e rfl (E257 rfl rfl) rfl ?_
            refine WD.p rfl (G.nilp rfl) rfl ?_
            refine WD.p rfl (G.field T.fld104_1 rfl (show 0 + 4 = 4 from rfl)) rfl ?_
            obtain ⟨w261, E262, S263⟩ := St.store (P := Try.prog) S259 2 101 (.slice A253 l250.length c254) (off := 4) (cur' := #[.int .i64 x44, .int .i64 x45, .int .i64 x46, .int .i64 x47, .slice A253 l250.length c254, .slice A53 l55.length c54]) rfl T.size101_1 rfl rfl rfl
            change St _ _ _ [G255, [(b244, .cells #[.int .i64 a1.Address, .int .i64 a1.Instance, .int .i64 x104] 123 (0, 0))], [(p0, .cells #[.int .i64 x44, .int .i64 x45, .int .i64 x46, .int .i64 x47, .slice A253 l250.length c254, .slice A53 l55.length c54] 104 (0, 0))], [(b15, .cells #[.int .i64 a1.Address, .int .i64 a1.Instance] 34 (0, 0))], G56] at S263
            refine WD.u rfl (E262 rfl rfl) ?_
            refine WD.nil ?_
            have S264 := ((S263.front 4 rfl).front 4 rfl).front 4 rfl
            change St _ _ _ [[(p0, .cells #[.int .i64 x44, .int .i64 x45, .int .i64 x46, .int .i64 x47, .slice A253 l250.length c254, .slice A53 l55.length c54] 104 (0, 0))], [(b15, .cells #[.int .i64 a1.Address, .int .i64 a1.Instance] 34 (0, 0))], G56, G255, [(b244, .cells #[.int .i64 a1.Address, .int .i64 a1.Instance, .int .i64 x104] 123 (0, 0))]] at S264
            have S265 := St.keep (As := [[(p0, .cells #[.int .i64 x44, .int .i64 x45, .int .i64 x46, .int .i64 x47, .slice A253 l250.length c254, .slice A53 l55.length c54] 104 (0, 0))], [(b15, .cells #[.int .i64 a1.Address, .int .i64 a1.Instance] 34 (0, 0))], G56, G255]) S264
            refine WEx.cutend _ ?_ ⟨q183, A253, c254, l250, G255, rfl, hF, hO258, S265⟩
            exact ⟨rfl, rfl, rfl, trivial⟩
           ·
            refine WCode.cond_f (kb (b := decide (t37 < 0)) rfl (decide_eq_false h241)) ?_
            refine WCode.skip ?_
            have S266 := (((S182.front 2 rfl).front 3 rfl).front 3 rfl).front 3 rfl
            change St _ _ _ [[(p0, .cells #[.int .i64 x44, .int .i64 x45, .int .i64 x46, .int .i64 x47, .slice A48 l50.length c49, .slice A53 l55.length c54] 104 (0, 0))], [(b15, .cells #[.int .i64 a1.Address, .int .i64 a1.Instance] 34 (0, 0))], G56, G51] at S266
            refine WEx.cutend _ ?_ ⟨q183, A48, c49, l50, G51, rfl, hF, hO52, S266⟩
            exact ⟨rfl, rfl, rfl, trivial⟩
          ·
           rintro _ w237 ⟨q239, A232, c233, l234, G235, rfl, hF, hO236, S238⟩
           unfold rc_Ask.j6 at hF
           refine WCode.seq ?_
           refine WCode.draw [⟨0, 0, []⟩, ⟨1, 0, []⟩, ⟨2, 0, []⟩, ⟨3, 0, []⟩, ⟨6, 0, []⟩, ⟨4, 1, [9, 10, 11, 12]⟩, ⟨5, 1, [7, 8, 9, 10, 11, 12]⟩, ⟨7, 0, []⟩, ⟨8, 2, []⟩, ⟨9, 2, []⟩, ⟨10, 0, []⟩, ⟨11, 0, []⟩, ⟨12, 2, []⟩] T.mixed (by kernel_rfl) (by intro _ _ d _ _ h; cases d <;> exact h) rfl (by kernel_rfl) ?_
           have S267 := S238.drew
           generalize w237.drew = w268 at *
           refine WD.p rfl (G.move rfl) rfl ?_
           refine WD.p rfl (G.move rfl) rfl ?_
           refine WD.p rfl (G.nilp rfl) rfl ?_
           refine WD.p rfl (G.field T.fld104_2 rfl (show 0 + 5 = 5 from rfl)) rfl ?_
           refine WD.p rfl (G.move rfl) rfl ?_
           refine WD.r rfl (G.load1 T.one102 rfl (cell_blk (S267.blk 0 rfl) rfl)) rfl ?_
           refine WD.r rfl (G.loada T.agg34_2 rfl (cs := [.int .i64 a1.Address, .int .i64 a1.Instance]) (cellsAt.of_blk (S267.blk 1 rfl) rfl)) rfl ?_
           refine WD.p rfl (G.build (cells := #[.int .i64 a1.Address, .int .i64 a1.Instance, .int .i64 a2, .bool false, .string (bs ([] : List UInt8))]) (evp_spec (evp_cons rfl (evp_cons rfl evp_nil))) (by kernel_rfl)) rfl ?_
           obtain ⟨b269, w270, E271, S272, X273, L274⟩ := St.lit S267 (P := Try.prog) (t := 102) (e := 127) (n := 1) (vs := [(0, .agg #[.int .i64 a1.Address, .int .i64 a1.Instance, .int .i64 a2, .bool false, .string (bs ([] : List UInt8))])]) (cs := #[.int .i64 a1.Address, .int .i64 a1.Instance, .int .i64 a2, .bool false, .string (bs ([] : List UInt8))]) (by kernel_rfl)
           change St _ _ _ [[(b269, .cells #[.int .i64 a1.Address, .int .i64 a1.Instance, .int .i64 a2, .bool false, .string (bs ([] : List UInt8))] 127 (0, 0))], [(p0, .cells #[.int .i64 x44, .int .i64 x45, .int .i64 x46, .int .i64 x47, .slice A232 l234.length c233, .slice A53 l55.length c54] 104 (0, 0))], [(b15, .cells #[.int .i64 a1.Address, .int .i64 a1.Instance] 34 (0, 0))], G56, G235] at S272
           refine WD.e rfl (E271 (evp_cons rfl evp_nil)) rfl ?_
           obtain ⟨l275, hc276, hF⟩ := bind_some hF
           have S277 := S272.front 3 rfl
           change St _ _ _ [G56, [(b269, .cells #[.int .i64 a1.Address, .int .i64 a1.Instance, .int .i64 a2, .bool false, .string (bs ([] : List UInt8))] 127 (0, 0))], [(p0, .cells #[.int .i64 x44, .int .i64 x45, .int .i64 x46, .int .i64 x47, .slice A232 l234.length c233, .slice A53 l55.length c54] 104 (0, 0))], [(b15, .cells #[.int .i64 a1.Address, .int .i64 a1.Instance] 34 (0, 0))], G235] at S277
           obtain ⟨A278, c279, G280, w281, E282, hO283, S284, hk285⟩ := St.appP (P := Try.prog) (r := Item.rp) (M := ([(⟨a1, a2, false, ([] : List UInt8)⟩ : Item)] : List Item)) S277 T.elt102 rfl hO57 (Rd.of_blk (S277.blk 1 rfl) (n := 1) (sz := 5) rfl) ⟨_, _, [], [], rfl, rfl, ⟨rfl, rfl⟩, ⟨rfl, rfl⟩⟩ rfl hc276
           change St _ _ _ [G280, [(b269, .cells #[.int .i64 a1.Address, .int .i64 a1.Instance, .int .i64 a2, .bool false, .string (bs ([] : List UInt8))] 127 (0, 0))], [(p0, .cells #[.int .i64 x44, .int .i64 x45, .int .i64 x46, .int .i64 x47, .slice A232 l234.length c233, .slice A53 l55.length c54] 104 (0, 0))], [(b15, .cells #[.int .i64 a1.Address, .int .i64 a1.Instance] 34 (0, 0))], G235] at S284
           refine WD.e rfl (E282 rfl rfl) rfl ?_
           refine WD.p rfl (G.nilp rfl) rfl ?_
           refine WD.p rfl (G.field T.fld104_2 rfl (show 0 + 5 = 5 from rfl)) rfl ?_
           obtain ⟨w286, E287, S288⟩ := St.store (P := Try.prog) S284 2 102 (.slice A278 l275.length c279) (off := 5) (cur' := #[.int .i64 x44, .int .i64 x45, .int .i64 x46, .int .i64 x47, .slice A232 l234.length c233, .slice A278 l275.length c279]) rfl T.size102_1 rfl rfl rfl
           change St _ _ _ [G280, [(b269, .cells #[.int .i64 a1.Address, .int .i64 a1.Instance, .int .i64 a2, .bool false, .string (bs ([] : List UInt8))] 127 (0, 0))], [(p0, .cells #[.int .i64 x44, .int .i64 x45, .int .i64 x46, .int .i64 x47, .slice A232 l234.length c233, .slice A278 l275.length c279] 104 (0, 0))], [(b15, .cells #[.int .i64 a1.Address, .int .i64 a1.Instance] 34 (0, 0))], G235] at S288
           refine WD.u rfl (E287 rfl rfl) ?_
           refine WD.nil ?_
           refine WEx.then_ ?_
           refine WCode.forget (l' := []) trivial ?_
           refine WCode.seq ?_
           refine WCode.region ?_
           refine WOps.p (G.assign rfl) rfl ?_
           refine WOps.p (G.assign rfl) rfl ?_
           refine WOps.nil ?_
           refine WEx.then_ ?_
           refine WCode.ret ?_
           obtain rfl := some_eq hF
           refine WEx.ret2 rfl rfl rfl ?_
           have S289 := (S288.front 4 rfl).front 3 rfl
           change St _ _ _ [[(p0, .cells #[.int .i64 x44, .int .i64 x45, .int .i64 x46, .int .i64 x47, .slice A232 l234.length c233, .slice A278 l275.length c279] 104 (0, 0))], G235, G280, [(b269, .cells #[.int .i64 a1.Address, .int .i64 a1.Instance, .int .i64 a2, .bool false, .string (bs ([] : List UInt8))] 127 (0, 0))], [(b15, .cells #[.int .i64 a1.Address, .int .i64 a1.Instance] 34 (0, 0))]] at S289
           have hO290 : ObjO 104 Cache104.rp p0 (⟨(⟨x44, x45, x46, x47⟩ : CacheConfig), l234, l275⟩ : Cache104) ([(p0, .cells #[.int .i64 x44, .int .i64 x45, .int .i64 x46, .int .i64 x47, .slice A232 l234.length c233, .slice A278 l275.length c279] 104 (0, 0))] ++ (G235 ++ (G280))) := ⟨_, _, ⟨A232, c233, G235, A278, c279, G280, rfl, hO236, hO283, rfl⟩, rfl⟩
           have S291 : St _ _ _ [[(p0, .cells #[.int .i64 x44, .int .i64 x45, .int .i64 x46, .int .i64 x47, .slice A232 l234.length c233, .slice A278 l275.length c279] 104 (0, 0))] ++ (G235 ++ (G280)), [(b269, .cells #[.int .i64 a1.Address, .int .i64 a1.Instance, .int .i64 a2, .bool false, .string (bs ([] : List UInt8))] 127 (0, 0))], [(b15, .cells #[.int .i64 a1.Address, .int .i64 a1.Instance] 34 (0, 0))]] := S289.objs (by simp)
           exact ⟨[(p0, .cells #[.int .i64 x44, .int .i64 x45, .int .i64 x46, .int .i64 x47, .slice A232 l234.length c233, .slice A278 l275.length c279] 104 (0, 0))] ++ (G235 ++ (G280)), rfl, hO290, St.keep (As := [[(p0, .cells #[.int .i64 x44, .int .i64 x45, .int .i64 x46, .int .i64 x47, .slice A232 l234.length c233, .slice A278 l275.length c279] 104 (0, 0))] ++ (G235 ++ (G280))]) S291⟩

end Go.Proofs.Ytpdpfiaediadgaa
