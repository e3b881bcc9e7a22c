/- Functions and their walks (printed by auto.py over the engine). -/
import Derived.Test.YtoahkjehjmbojaaProg
import Derived.Test.YtoahkjehjmbojaaPools
namespace Go.Proofs.Ytoahkjehjmbojaa
open Go Go.Eng
set_option linter.unusedSimpArgs false
set_option linter.unusedVariables false
theorem T.mixed : Try.prog.follows .mixedOrders = true := by kernel_rfl
theorem T.agg37_3 : isAggT Try.prog 37 3 = true := by kernel_rfl
theorem T.call14 : Callable Try.prog 14 := Callable.mk Try.func14 (by kernel_rfl) (by kernel_rfl)
theorem T.call16 : Callable Try.prog 16 := Callable.mk Try.func16 (by kernel_rfl) (by kernel_rfl)
theorem T.call19 : Callable Try.prog 19 := Callable.mk Try.func19 (by kernel_rfl) (by kernel_rfl)
theorem T.call20 : Callable Try.prog 20 := Callable.mk Try.func20 (by kernel_rfl) (by kernel_rfl)
theorem T.call21 : Callable Try.prog 21 := Callable.mk Try.func21 (by kernel_rfl) (by kernel_rfl)
theorem T.call22 : Callable Try.prog 22 := Callable.mk Try.func22 (by kernel_rfl) (by kernel_rfl)
theorem T.call23 : Callable Try.prog 23 := Callable.mk Try.func23 (by kernel_rfl) (by kernel_rfl)
theorem T.call24 : Callable Try.prog 24 := Callable.mk Try.func24 (by kernel_rfl) (by kernel_rfl)
theorem T.call25 : Callable Try.prog 25 := Callable.mk Try.func25 (by kernel_rfl) (by kernel_rfl)
theorem T.call66 : Callable Try.prog 66 := Callable.mk Try.func66 (by kernel_rfl) (by kernel_rfl)
theorem T.call67 : Callable Try.prog 67 := Callable.mk Try.func67 (by kernel_rfl) (by kernel_rfl)
theorem T.call69 : Callable Try.prog 69 := Callable.mk Try.func69 (by kernel_rfl) (by kernel_rfl)
theorem T.call76 : Callable Try.prog 76 := Callable.mk Try.func76 (by kernel_rfl) (by kernel_rfl)
theorem T.call77 : Callable Try.prog 77 := Callable.mk Try.func77 (by kernel_rfl) (by kernel_rfl)
theorem T.call78 : Callable Try.prog 78 := Callable.mk Try.func78 (by kernel_rfl) (by kernel_rfl)
theorem T.call79 : Callable Try.prog 79 := Callable.mk Try.func79 (by kernel_rfl) (by kernel_rfl)
theorem T.el22 : slEl Try.prog 22 = some 7 := by kernel_rfl
theorem T.el43 : slEl Try.prog 43 = some 3 := by kernel_rfl
theorem T.elt43 : Elt Try.prog 43 37 3 32 := elt_mk (z := .agg #[.int .i64 0, .int .i64 0, .string ⟨#[]⟩]) Try.underlying43 (by kernel_rfl) rfl
theorem T.fld133_0 : fldOff Try.prog 133 0 = some 0 := by kernel_rfl
theorem T.fld133_1 : fldOff Try.prog 133 1 = some 1 := by kernel_rfl
theorem T.fld135_0 : fldOff Try.prog 135 0 = some 0 := by kernel_rfl
theorem T.fld135_1 : fldOff Try.prog 135 1 = some 1 := by kernel_rfl
theorem T.fld37_2 : fldOff Try.prog 37 2 = some 2 := by kernel_rfl
theorem T.fld39_3 : fldOff Try.prog 39 3 = some 3 := by kernel_rfl
theorem T.fld39_4 : fldOff Try.prog 39 4 = some 4 := by kernel_rfl
theorem T.one3 : isOneT Try.prog 3 = true := by kernel_rfl
theorem T.one43 : isOneT Try.prog 43 = true := by kernel_rfl
theorem T.one9 : isOneT Try.prog 9 = true := by kernel_rfl
theorem T.size3_1 : sizeT Try.prog 3 = some 1 := by kernel_rfl
theorem T.size37_3 : sizeT Try.prog 37 = some 3 := by kernel_rfl
theorem T.size43_1 : sizeT Try.prog 43 = some 1 := by kernel_rfl
theorem T.str9 : isStr Try.prog 9 = true := by kernel_rfl
theorem T.zero37 : zeroOf Try.prog 37 = some (.agg #[.int .i64 0, .int .i64 0, .string (bs ([] : List UInt8))]) := by kernel_rfl
structure Packet where
  From : Int
  To : Int
  Data : List UInt8
  deriving DecidableEq
def Packet.cs (x : Packet) : List Value := [.int .i64 x.From, .int .i64 x.To, .string (bs x.Data)]
def Packet.rp : Rp Packet := .plain Packet.cs 3 (fun _ => rfl) (fun _ => rfl)
structure Air where
  flying : List Packet
  time : Int
  deriving DecidableEq
def Air.rp : Rp Air where
  sz := 2
  rd := fun w F x cs => ∃ A1 : Option Addr, ∃ c1 : Nat, cs = [.slice A1 (x.flying).length c1, .int .i64 x.time] ∧ SlR Packet.rp w F A1 c1 (x.flying)
  own := fun x cs G => ∃ A1 : Option Addr, ∃ c1 : Nat, ∃ G1 : Grp, cs = [.slice A1 (x.flying).length c1, .int .i64 x.time] ∧ SlO 37 Packet.rp (.slice A1 (x.flying).length c1) (x.flying) G1 ∧ G = G1
  len := by rintro _ _ _ _ ⟨_, _, rfl, _⟩; rfl
  one := by rintro _ _ _ _ ⟨_, _, rfl, _⟩; exact one_of_all rfl
  lenO := by rintro _ _ _ ⟨_, _, _, rfl, _⟩; rfl
  oneO := by rintro _ _ _ ⟨_, _, _, rfl, _⟩; exact one_of_all rfl
  ext := by rintro _ _ _ _ _ ⟨A1, c1, rfl, h1⟩ hE; exact ⟨A1, c1, rfl, h1.ext hE⟩
  mono := by rintro _ _ _ _ _ ⟨A1, c1, rfl, h1⟩ hF; exact ⟨A1, c1, rfl, h1.mono hF⟩
  low := by
    rintro w x cs G ⟨A1, c1, G1, rfl, h1, hGe⟩ hG
    exact ⟨A1, c1, rfl, (h1.rd (fun b o hb => hG b o (by rw [hGe]; simp [hb]))).mono (fun b (hb : b ∈ keys G1) => show b ∈ keys G by rw [hGe]; simp [keys_append, hb])⟩
structure Air135 where
  L : List Packet
  Time : Int
  deriving DecidableEq
def Air135.rp : Rp Air135 where
  sz := 2
  rd := fun w F x cs => ∃ A1 : Option Addr, ∃ c1 : Nat, cs = [.slice A1 (x.L).length c1, .int .i64 x.Time] ∧ SlR Packet.rp w F A1 c1 (x.L)
  own := fun x cs G => ∃ A1 : Option Addr, ∃ c1 : Nat, ∃ G1 : Grp, cs = [.slice A1 (x.L).length c1, .int .i64 x.Time] ∧ SlO 37 Packet.rp (.slice A1 (x.L).length c1) (x.L) G1 ∧ G = G1
  len := by rintro _ _ _ _ ⟨_, _, rfl, _⟩; rfl
  one := by rintro _ _ _ _ ⟨_, _, rfl, _⟩; exact one_of_all rfl
  lenO := by rintro _ _ _ ⟨_, _, _, rfl, _⟩; rfl
  oneO := by rintro _ _ _ ⟨_, _, _, rfl, _⟩; exact one_of_all rfl
  ext := by rintro _ _ _ _ _ ⟨A1, c1, rfl, h1⟩ hE; exact ⟨A1, c1, rfl, h1.ext hE⟩
  mono := by rintro _ _ _ _ _ ⟨A1, c1, rfl, h1⟩ hF; exact ⟨A1, c1, rfl, h1.mono hF⟩
  low := by
    rintro w x cs G ⟨A1, c1, G1, rfl, h1, hGe⟩ hG
    exact ⟨A1, c1, rfl, (h1.rd (fun b o hb => hG b o (by rw [hGe]; simp [hb]))).mono (fun b (hb : b ∈ keys G1) => show b ∈ keys G by rw [hGe]; simp [keys_append, hb])⟩
structure Op where
  Kind : Int
  On : Int
  N : Int
  Many : Int
  P : Packet
  deriving DecidableEq
def Op.cs (x : Op) : List Value := [.int .i64 x.Kind, .int .i64 x.On, .int .i64 x.N, .int .i64 x.Many, .int .i64 x.P.From, .int .i64 x.P.To, .string (bs x.P.Data)]
def Op.rp : Rp Op := .plain Op.cs 7 (fun _ => rfl) (fun _ => rfl)
theorem Packet.eq_iff37 (x y : Packet) : x = y ↔ x.From = y.From ∧ x.To = y.To ∧ x.Data = y.Data := by
  cases x; cases y; simp
theorem Packet.eqd37 (d : Nat) (a0 : Int) (a1 : Int) (a2 : List UInt8) (b0 : Int) (b1 : Int) (b2 : List UInt8) (w : World) : (Op.equalIn (d + 2) 37 (.agg #[.int .i64 a0, .int .i64 a1, .string (bs a2)]) (.agg #[.int .i64 b0, .int .i64 b1, .string (bs b2)])).run Try.prog w = .ok (decide (a0 = b0 ∧ a1 = b1 ∧ a2 = b2)) w := by
  rw [show d + 2 = (d + 1) + 1 from rfl, run_equalIn_struct w (d + 1) 37 _ _ (by kernel_rfl) (by kernel_rfl), show (Try.prog.fieldsOf 37) = _ from by unfold Program.fieldsOf; rw [Try.underlying37]]
  simp only [Op.eqFields]
  by_cases h0 : a0 = b0 <;> by_cases h1 : a1 = b1 <;> by_cases h2 : a2 = b2 <;> simp [go_sem, toList_iff, bs_inj, h0, h1, h2]
theorem Packet.eqIn37 (x y : Packet) (w : World) : (Op.equalIn 10000 37 (.agg #[.int .i64 x.From, .int .i64 x.To, .string (bs x.Data)]) (.agg #[.int .i64 y.From, .int .i64 y.To, .string (bs y.Data)])).run Try.prog w = .ok (decide (x = y)) w := by
  rw [show (10000 : Nat) = 9998 + 2 from rfl, Packet.eqd37]
  simp only [Packet.eq_iff37]

def ypick (k : Nat) (a0 : Int) (a1 : Int) : Option Int := (if a0 < 0 then (if a1 = 0 then none else (some (Int.tmod (w64 (-(w64 (a0 + 1)))) a1))) else (if a1 = 0 then none else (some (Int.tmod a0 a1))))
set_option maxRecDepth 100000 in
set_option maxHeartbeats 1000000 in
theorem ypick_calls (k : Nat) (a0 : Int) (a1 : Int) {w : World} {r_ : Int} (h_ : ypick k a0 a1 = some r_) :
    Calls Try.prog 16 [.int .i64 a0, .int .i64 a1].toArray w fun e w' => e = .returned (.int .i64 r_) ∧ St w (KS []) w' [] := by
 have hF := h_
 clear h_
 unfold ypick at hF
 have S := St.ofFalse (As := []) (St.init0 w)
 refine enter 13 [(0, .int .i64 a0), (1, .int .i64 a1)] Try.func16 rfl rfl rfl rfl ?_
 refine WCode.seq ?_
 refine WCode.region ?_
 refine WOps.p (G.assign rfl) rfl ?_
 refine WOps.nil ?_
 refine WEx.then_ ?_
 refine WCode.seq ?_
 refine WCode.seq ?_
 refine WCode.region ?_
 refine WOps.p (G.move rfl) rfl ?_
 refine WOps.p (G.lss rfl rfl rfl) rfl ?_
 refine WOps.nil ?_
 refine WEx.then_ ?_
 rcases ite_some hF with ⟨h1, hF⟩ | ⟨h1, hF⟩
 ·
  refine WCode.cond_t (kb (b := decide (a0 < 0)) rfl (decide_eq_true h1)) ?_
  refine WCode.region ?_
  refine WOps.p (G.move rfl) rfl ?_
  refine WOps.p (G.add rfl rfl (r := (w64 (a0 + 1))) rfl) rfl ?_
  refine WOps.p (G.neg rfl (r := (w64 (-(w64 (a0 + 1))))) rfl) rfl ?_
  refine WOps.p (G.assign rfl) rfl ?_
  refine WOps.nil ?_
  refine WEx.then_ ?_
  refine WCode.seq ?_
  refine WCode.region ?_
  refine WOps.p (G.move rfl) rfl ?_
  refine WOps.p (G.move rfl) rfl ?_
  obtain ⟨h2, hF⟩ := nguard_some hF
  refine WOps.p (G.remk rfl rfl h2) rfl ?_
  refine WOps.p (G.assign rfl) rfl ?_
  refine WOps.nil ?_
  refine WEx.then_ ?_
  refine WCode.forget (l' := [(4, .int .i64 (Int.tmod (w64 (-(w64 (a0 + 1)))) a1))]) ⟨rfl, trivial⟩ ?_
  refine WCode.ret ?_
  obtain rfl := some_eq hF
  refine WEx.ret1 rfl rfl ?_
  exact ⟨rfl, St.keep (As := []) S⟩
 ·
  refine WCode.cond_f (kb (b := decide (a0 < 0)) rfl (decide_eq_false h1)) ?_
  refine WCode.skip ?_
  refine WEx.then_ ?_
  refine WCode.seq ?_
  refine WCode.region ?_
  refine WOps.p (G.move rfl) rfl ?_
  refine WOps.p (G.move rfl) rfl ?_
  obtain ⟨h3, hF⟩ := nguard_some hF
  refine WOps.p (G.remk rfl rfl h3) rfl ?_
  refine WOps.p (G.assign rfl) rfl ?_
  refine WOps.nil ?_
  refine WEx.then_ ?_
  refine WCode.ret ?_
  obtain rfl := some_eq hF
  refine WEx.ret1 rfl rfl ?_
  exact ⟨rfl, St.keep (As := []) S⟩

def yadd (k : Nat) (a0 : Int) (a1 : Int) : Option Int := (if (w64 (2147483647 - a0)) < a1 then (some 2147483648) else (some (w64 (a0 + a1))))
set_option maxRecDepth 100000 in
set_option maxHeartbeats 1000000 in
theorem yadd_calls (k : Nat) (a0 : Int) (a1 : Int) {w : World} {r_ : Int} (h_ : yadd k a0 a1 = some r_) :
    Calls Try.prog 66 [.int .i64 a0, .int .i64 a1].toArray w fun e w' => e = .returned (.int .i64 r_) ∧ St w (KS []) w' [] := by
 have hF := h_
 clear h_
 unfold yadd at hF
 have S := St.ofFalse (As := []) (St.init0 w)
 refine enter 12 [(0, .int .i64 a0), (1, .int .i64 a1)] Try.func66 rfl rfl rfl rfl ?_
 refine WCode.seq ?_
 refine WCode.region ?_
 refine WOps.p (G.assign rfl) rfl ?_
 refine WOps.nil ?_
 refine WEx.then_ ?_
 refine WCode.seq ?_
 refine WCode.seq ?_
 refine WCode.region ?_
 refine WOps.p (G.move rfl) rfl ?_
 refine WOps.p (G.move rfl) rfl ?_
 refine WOps.p (G.sub rfl rfl (r := (w64 (2147483647 - a0))) rfl) rfl ?_
 refine WOps.p (G.gtr rfl rfl rfl) rfl ?_
 refine WOps.nil ?_
 refine WEx.then_ ?_
 rcases ite_some hF with ⟨h1, hF⟩ | ⟨h1, hF⟩
 ·
  refine WCode.cond_t (kb (b := decide ((w64 (2147483647 - a0)) < a1)) rfl (decide_eq_true h1)) ?_
  refine WCode.seq ?_
  refine WCode.region ?_
  refine WOps.p (G.assign rfl) rfl ?_
  refine WOps.nil ?_
  refine WEx.then_ ?_
  refine WCode.ret ?_
  refine WEx.then_ret ?_
  obtain rfl := some_eq hF
  refine WEx.ret1 rfl rfl ?_
  exact ⟨rfl, St.keep (As := []) S⟩
 ·
  refine WCode.cond_f (kb (b := decide ((w64 (2147483647 - a0)) < a1)) rfl (decide_eq_false h1)) ?_
  refine WCode.skip ?_
  refine WEx.then_ ?_
  refine WCode.seq ?_
  refine WCode.region ?_
  refine WOps.p (G.move rfl) rfl ?_
  refine WOps.p (G.move rfl) rfl ?_
  refine WOps.p (G.add rfl rfl (r := (w64 (a0 + a1))) rfl) rfl ?_
  refine WOps.p (G.assign rfl) rfl ?_
  refine WOps.nil ?_
  refine WEx.then_ ?_
  refine WCode.ret ?_
  obtain rfl := some_eq hF
  refine WEx.ret1 rfl rfl ?_
  exact ⟨rfl, St.keep (As := []) S⟩

def ysame.l1 : Nat → List Packet → List Packet → Int → Option Bool
  | 0, _, _, _ => none
  | k5 + 1, a0, a1, x2 => (if x2 < (a0.length : Int) then (Option.bind (idx a0 x2) fun x11 => (Option.bind (idx a1 x2) fun x25 => (if x11 = x25 then (ysame.l1 k5 a0 a1 (w64 (x2 + 1))) else (some false)))) else (some true))
def ysame (k : Nat) (a0 : List Packet) (a1 : List Packet) : Option Bool := (if (a0.length : Int) = (a1.length : Int) then (ysame.l1 k a0 a1 0) else (some false))
set_option maxRecDepth 100000 in
set_option maxHeartbeats 1000000 in
theorem ysame_calls (k : Nat) (a0 : List Packet) {A0 : Option Addr} {c0 : Nat} {F0 : Nat → Prop} (a1 : List Packet) {A1 : Option Addr} {c1 : Nat} {F1 : Nat → Prop} {w : World} (hR0 : SlR Packet.rp w F0 A0 c0 a0) (hF0 : ∀ b, F0 b → NK w [] b) (hR1 : SlR Packet.rp w F1 A1 c1 a1) (hF1 : ∀ b, F1 b → NK w [] b) {r_ : Bool} (h_ : ysame k a0 a1 = some r_) :
    Calls Try.prog 23 [.slice A0 a0.length c0, .slice A1 a1.length c1].toArray w fun e w' => e = .returned (.bool r_) ∧ St w (KS []) w' [] := by
 have hF := h_
 clear h_
 unfold ysame at hF
 have S := St.ofFalse (As := []) (St.init0 w)
 refine enter 26 [(0, .slice A0 a0.length c0), (1, .slice A1 a1.length c1)] Try.func23 rfl rfl rfl rfl ?_
 refine WCode.seq ?_
 refine WCode.region ?_
 refine WOps.p (G.assign rfl) rfl ?_
 refine WOps.nil ?_
 refine WEx.then_ ?_
 refine WCode.seq ?_
 refine WCode.seq ?_
 refine WCode.region ?_
 refine WOps.p (G.move rfl) rfl ?_
 refine WOps.p (G.len T.el43 rfl) rfl ?_
 refine WOps.p (G.move rfl) rfl ?_
 refine WOps.p (G.len T.el43 rfl) rfl ?_
 refine WOps.p (G.neq rfl rfl rfl) rfl ?_
 refine WOps.nil ?_
 refine WEx.then_ ?_
 rcases ite_some hF with ⟨h1, hF⟩ | ⟨h1, hF⟩
 ·
  refine WCode.cond_f (kb (b := !(decide ((a0.length : Int) = (a1.length : Int)))) rfl (show (!(decide ((a0.length : Int) = (a1.length : Int)))) = false from by rw [(decide_eq_true h1)]; rfl)) ?_
  refine WCode.skip ?_
  refine WEx.then_ ?_
  refine WCode.seq ?_
  refine WCode.seq ?_
  refine WCode.region ?_
  refine WOps.p (G.assign rfl) rfl ?_
  refine WOps.nil ?_
  refine WEx.then_ ?_
  refine WCode.block ?_
  refine WCode.forget (l' := [(0, .slice A0 a0.length c0), (1, .slice A1 a1.length c1), (5, .int .i64 0)]) ⟨rfl, rfl, rfl, trivial⟩ ?_
  refine WCode.loop (fun n_ l_ w_ => ∃ x2 : Int, l_ = [(0, .slice A0 a0.length c0), (1, .slice A1 a1.length c1), (5, .int .i64 x2)] ∧ ysame.l1 n_ a0 a1 x2 = some r_ ∧ St w (KS []) w_ []) k ⟨0, rfl, hF, S⟩ ?_
  rintro n6 _ w3 ⟨x2, rfl, hF, S4⟩
  obtain _ | k5 := n6
  · exact nomatch (show (none : Option Bool) = some r_ from hF)
  rw [ysame.l1] at hF
  refine WCode.seq ?_
  refine WCode.seq ?_
  refine WCode.region ?_
  refine WOps.p (G.move rfl) rfl ?_
  refine WOps.p (G.move rfl) rfl ?_
  refine WOps.p (G.len T.el43 rfl) rfl ?_
  refine WOps.p (G.lss rfl rfl rfl) rfl ?_
  refine WOps.nil ?_
  refine WEx.then_ ?_
  rcases ite_some hF with ⟨h8, hF⟩ | ⟨h8, hF⟩
  ·
   refine WCode.cond_t (kb (b := decide (x2 < (a0.length : Int))) rfl (decide_eq_true h8)) ?_
   refine WCode.skip ?_
   refine WEx.then_ ?_
   refine WCode.seq ?_
   refine WCode.block ?_
   refine WCode.seq ?_
   refine WCode.draw [⟨0, 0, []⟩, ⟨1, 0, []⟩, ⟨2, 0, []⟩, ⟨4, 0, []⟩, ⟨5, 0, []⟩, ⟨6, 0, []⟩, ⟨3, 1, [8]⟩, ⟨7, 1, [8]⟩, ⟨8, 0, []⟩] T.mixed (by kernel_rfl) (by intro _ _ d _ _ h; cases d <;> exact h) rfl (by kernel_rfl) ?_
   have S9 := S4.drew
   generalize w3.drew = w10 at *
   refine WD.p rfl (G.move rfl) rfl ?_
   refine WD.p rfl (G.move rfl) rfl ?_
   obtain ⟨x11, hc12, hF⟩ := bind_some hF
   obtain ⟨j13, ej14, hj15, hl16⟩ := idx_spec hc12
   obtain ⟨b17, o18, cs19, eA20, hf21, hc22, hr23⟩ := SlR.at_ (hR0.ext (S9.keepF hF0)) hj15
   have hq24 : cs19 = [.int .i64 x11.From, .int .i64 x11.To, .string (bs x11.Data)] := hr23
   subst hq24
   change cellsAt _ _ (o18 + j13 * 3) [.int .i64 x11.From, .int .i64 x11.To, .string (bs x11.Data)] at hc22
   refine WD.p rfl (G.idx T.el43 rfl eA20 rfl ej14 hl16) rfl ?_
   refine WD.p rfl (G.move rfl) rfl ?_
   refine WD.p rfl (G.move rfl) rfl ?_
   obtain ⟨x25, hc26, hF⟩ := bind_some hF
   obtain ⟨j27, ej28, hj29, hl30⟩ := idx_spec hc26
   obtain ⟨b31, o32, cs33, eA34, hf35, hc36, hr37⟩ := SlR.at_ (hR1.ext (S9.keepF hF1)) hj29
   have hq38 : cs33 = [.int .i64 x25.From, .int .i64 x25.To, .string (bs x25.Data)] := hr37
   subst hq38
   change cellsAt _ _ (o32 + j27 * 3) [.int .i64 x25.From, .int .i64 x25.To, .string (bs x25.Data)] at hc36
   refine WD.p rfl (G.idx T.el43 rfl eA34 rfl ej28 hl30) rfl ?_
   refine WD.r rfl (G.loada T.agg37_3 rfl (cs := [.int .i64 x11.From, .int .i64 x11.To, .string (bs x11.Data)]) hc22) rfl ?_
   refine WD.r rfl (G.loada T.agg37_3 rfl (cs := [.int .i64 x25.From, .int .i64 x25.To, .string (bs x25.Data)]) hc36) rfl ?_
   refine WD.p rfl (G.neqa rfl rfl (by kernel_rfl) (Packet.eqIn37 x11 x25) rfl) rfl ?_
   refine WD.nil ?_
   refine WEx.then_ ?_
   refine WCode.forget (l' := [(0, .slice A0 a0.length c0), (1, .slice A1 a1.length c1), (5, .int .i64 x2), (25, .bool (!(decide (x11 = x25))))]) ⟨rfl, rfl, rfl, rfl, trivial⟩ ?_
   rcases ite_some hF with ⟨h39, hF⟩ | ⟨h39, hF⟩
   ·
    refine WCode.cond_f (kb (b := !(decide (x11 = x25))) rfl (show (!(decide (x11 = x25))) = false from by rw [(decide_eq_true h39)]; rfl)) ?_
    refine WCode.skip ?_
    refine WEx.in_normal ?_
    refine WEx.then_ ?_
    refine WCode.region ?_
    refine WOps.p (G.move rfl) rfl ?_
    refine WOps.p (G.add rfl rfl (r := (w64 (x2 + 1))) rfl) rfl ?_
    refine WOps.p (G.assign rfl) rfl ?_
    refine WOps.nil ?_
    refine WEx.again _ _ (by omega) ?_ ⟨w64 (x2 + 1), rfl, hF, S9⟩
    exact ⟨rfl, rfl, rfl, trivial⟩
   ·
    refine WCode.cond_t (kb (b := !(decide (x11 = x25))) rfl (show (!(decide (x11 = x25))) = true from by rw [(decide_eq_false h39)]; rfl)) ?_
    refine WCode.seq ?_
    refine WCode.region ?_
    refine WOps.p (G.assign rfl) rfl ?_
    refine WOps.nil ?_
    refine WEx.then_ ?_
    refine WCode.ret ?_
    refine WEx.in_ret ?_
    refine WEx.then_ret ?_
    refine WEx.then_ret ?_
    refine WEx.in_ret ?_
    refine WEx.then_ret ?_
    obtain rfl := some_eq hF
    refine WEx.ret1 rfl rfl ?_
    exact ⟨rfl, St.keep (As := []) S9⟩
  ·
   refine WCode.cond_f (kb (b := decide (x2 < (a0.length : Int))) rfl (decide_eq_false h8)) ?_
   refine WCode.exit ?_
   refine WEx.then_exit ?_
   refine WEx.then_exit ?_
   refine WEx.in_exit ?_
   refine WEx.then_ ?_
   refine WCode.seq ?_
   refine WCode.region ?_
   refine WOps.p (G.assign rfl) rfl ?_
   refine WOps.nil ?_
   refine WEx.then_ ?_
   refine WCode.ret ?_
   obtain rfl := some_eq hF
   refine WEx.ret1 rfl rfl ?_
   exact ⟨rfl, St.keep (As := []) S4⟩
 ·
  refine WCode.cond_t (kb (b := !(decide ((a0.length : Int) = (a1.length : Int)))) rfl (show (!(decide ((a0.length : Int) = (a1.length : Int)))) = true from by rw [(decide_eq_false h1)]; rfl)) ?_
  refine WCode.seq ?_
  refine WCode.region ?_
  refine WOps.p (G.assign rfl) rfl ?_
  refine WOps.nil ?_
  refine WEx.then_ ?_
  refine WCode.ret ?_
  refine WEx.then_ret ?_
  obtain rfl := some_eq hF
  refine WEx.ret1 rfl rfl ?_
  exact ⟨rfl, St.keep (As := []) S⟩

def yreads.l1 : Nat → List Packet → Int → Int → Option Bool
  | 0, _, _, _ => none
  | k4 + 1, a0, a1, x1 => (if x1 < (a0.length : Int) then (Option.bind (idx a0 x1) fun x8 => (if x8 = (⟨w64 ((-1) - a1), 0, ([] : List UInt8)⟩ : Packet) then (yreads.l1 k4 a0 a1 (w64 (x1 + 1))) else (some false))) else (some true))
def yreads (k : Nat) (a0 : List Packet) (a1 : Int) : Option Bool := (yreads.l1 k a0 a1 0)
set_option maxRecDepth 100000 in
set_option maxHeartbeats 1000000 in
theorem yreads_calls (k : Nat) (a0 : List Packet) {A0 : Option Addr} {c0 : Nat} {F0 : Nat → Prop} (a1 : Int) {w : World} (hR0 : SlR Packet.rp w F0 A0 c0 a0) (hF0 : ∀ b, F0 b → NK w [] b) {r_ : Bool} (h_ : yreads k a0 a1 = some r_) :
    Calls Try.prog 75 [.slice A0 a0.length c0, .int .i64 a1].toArray w fun e w' => e = .returned (.bool r_) ∧ St w (KS []) w' [] := by
 have hF := h_
 clear h_
 unfold yreads at hF
 have S := St.ofFalse (As := []) (St.init0 w)
 refine enter 20 [(0, .slice A0 a0.length c0), (1, .int .i64 a1)] Try.func75 rfl rfl rfl rfl ?_
 refine WCode.seq ?_
 refine WCode.region ?_
 refine WOps.p (G.assign rfl) rfl ?_
 refine WOps.nil ?_
 refine WEx.then_ ?_
 refine WCode.seq ?_
 refine WCode.seq ?_
 refine WCode.region ?_
 refine WOps.p (G.assign rfl) rfl ?_
 refine WOps.nil ?_
 refine WEx.then_ ?_
 refine WCode.block ?_
 refine WCode.forget (l' := [(0, .slice A0 a0.length c0), (1, .int .i64 a1), (5, .int .i64 0)]) ⟨rfl, rfl, rfl, trivial⟩ ?_
 refine WCode.loop (fun n_ l_ w_ => ∃ x1 : Int, l_ = [(0, .slice A0 a0.length c0), (1, .int .i64 a1), (5, .int .i64 x1)] ∧ yreads.l1 n_ a0 a1 x1 = some r_ ∧ St w (KS []) w_ []) k ⟨0, rfl, hF, S⟩ ?_
 rintro n5 _ w2 ⟨x1, rfl, hF, S3⟩
 obtain _ | k4 := n5
 · exact nomatch (show (none : Option Bool) = some r_ from hF)
 rw [yreads.l1] at hF
 refine WCode.seq ?_
 refine WCode.seq ?_
 refine WCode.region ?_
 refine WOps.p (G.move rfl) rfl ?_
 refine WOps.p (G.move rfl) rfl ?_
 refine WOps.p (G.len T.el43 rfl) rfl ?_
 refine WOps.p (G.lss rfl rfl rfl) rfl ?_
 refine WOps.nil ?_
 refine WEx.then_ ?_
 rcases ite_some hF with ⟨h7, hF⟩ | ⟨h7, hF⟩
 ·
  refine WCode.cond_t (kb (b := decide (x1 < (a0.length : Int))) rfl (decide_eq_true h7)) ?_
  refine WCode.skip ?_
  refine WEx.then_ ?_
  refine WCode.seq ?_
  refine WCode.block ?_
  refine WCode.seq ?_
  refine WCode.region ?_
  refine WOps.p (G.move rfl) rfl ?_
  refine WOps.p (G.move rfl) rfl ?_
  obtain ⟨x8, hc9, hF⟩ := bind_some hF
  obtain ⟨j10, ej11, hj12, hl13⟩ := idx_spec hc9
  obtain ⟨b14, o15, cs16, eA17, hf18, hc19, hr20⟩ := SlR.at_ (hR0.ext (S3.keepF hF0)) hj12
  have hq21 : cs16 = [.int .i64 x8.From, .int .i64 x8.To, .string (bs x8.Data)] := hr20
  subst hq21
  change cellsAt _ _ (o15 + j10 * 3) [.int .i64 x8.From, .int .i64 x8.To, .string (bs x8.Data)] at hc19
  refine WOps.p (G.idx T.el43 rfl eA17 rfl ej11 hl13) rfl ?_
  refine WOps.r (G.loada T.agg37_3 rfl (cs := [.int .i64 x8.From, .int .i64 x8.To, .string (bs x8.Data)]) hc19) rfl ?_
  refine WOps.p (G.move rfl) rfl ?_
  refine WOps.p (G.sub rfl rfl (r := (w64 ((-1) - a1))) rfl) rfl ?_
  refine WOps.p (G.build (cells := #[.int .i64 (w64 ((-1) - a1)), .int .i64 0, .string (bs ([] : List UInt8))]) (evp_spec (evp_cons rfl evp_nil)) (by kernel_rfl)) rfl ?_
  refine WOps.p (G.neqa rfl rfl (by kernel_rfl) (Packet.eqIn37 x8 (⟨w64 ((-1) - a1), 0, ([] : List UInt8)⟩ : Packet)) rfl) rfl ?_
  refine WOps.nil ?_
  refine WEx.then_ ?_
  refine WCode.forget (l' := [(0, .slice A0 a0.length c0), (1, .int .i64 a1), (5, .int .i64 x1), (19, .bool (!(decide (x8 = (⟨w64 ((-1) - a1), 0, ([] : List UInt8)⟩ : Packet)))))]) ⟨rfl, rfl, rfl, rfl, trivial⟩ ?_
  rcases ite_some hF with ⟨h22, hF⟩ | ⟨h22, hF⟩
  ·
   refine WCode.cond_f (kb (b := !(decide (x8 = (⟨w64 ((-1) - a1), 0, ([] : List UInt8)⟩ : Packet)))) rfl (show (!(decide (x8 = (⟨w64 ((-1) - a1), 0, ([] : List UInt8)⟩ : Packet)))) = false from by rw [(decide_eq_true h22)]; rfl)) ?_
   refine WCode.skip ?_
   refine WEx.in_normal ?_
   refine WEx.then_ ?_
   refine WCode.region ?_
   refine WOps.p (G.move rfl) rfl ?_
   refine WOps.p (G.add rfl rfl (r := (w64 (x1 + 1))) rfl) rfl ?_
   refine WOps.p (G.assign rfl) rfl ?_
   refine WOps.nil ?_
   refine WEx.again _ _ (by omega) ?_ ⟨w64 (x1 + 1), rfl, hF, S3⟩
   exact ⟨rfl, rfl, rfl, trivial⟩
  ·
   refine WCode.cond_t (kb (b := !(decide (x8 = (⟨w64 ((-1) - a1), 0, ([] : List UInt8)⟩ : Packet)))) rfl (show (!(decide (x8 = (⟨w64 ((-1) - a1), 0, ([] : List UInt8)⟩ : Packet)))) = true from by rw [(decide_eq_false h22)]; rfl)) ?_
   refine WCode.seq ?_
   refine WCode.region ?_
   refine WOps.p (G.assign rfl) rfl ?_
   refine WOps.nil ?_
   refine WEx.then_ ?_
   refine WCode.ret ?_
   refine WEx.in_ret ?_
   refine WEx.then_ret ?_
   refine WEx.then_ret ?_
   refine WEx.in_ret ?_
   refine WEx.then_ret ?_
   obtain rfl := some_eq hF
   refine WEx.ret1 rfl rfl ?_
   exact ⟨rfl, St.keep (As := []) S3⟩
 ·
  refine WCode.cond_f (kb (b := decide (x1 < (a0.length : Int))) rfl (decide_eq_false h7)) ?_
  refine WCode.exit ?_
  refine WEx.then_exit ?_
  refine WEx.then_exit ?_
  refine WEx.in_exit ?_
  refine WEx.then_ ?_
  refine WCode.seq ?_
  refine WCode.region ?_
  refine WOps.p (G.assign rfl) rfl ?_
  refine WOps.nil ?_
  refine WEx.then_ ?_
  refine WCode.ret ?_
  obtain rfl := some_eq hF
  refine WEx.ret1 rfl rfl ?_
  exact ⟨rfl, St.keep (As := []) S3⟩

def ya_has (k : Nat) (a0 : Air) (a1 : Int) : Option Bool := (if 0 ≤ a1 then (some (decide (a1 < (a0.flying.length : Int)))) else (some false))
set_option maxRecDepth 100000 in
set_option maxHeartbeats 1000000 in
theorem ya_has_calls (k : Nat) (a0 : Air) {p0 : Nat} {F0 : Nat → Prop} (a1 : Int) {w : World} (hP0 : PtR 133 Air.rp w F0 p0 a0) (hF0 : ∀ b, F0 b → NK w [] b) {r_ : Bool} (h_ : ya_has k a0 a1 = some r_) :
    Calls Try.prog 76 [.pointer (some ⟨p0, 0, none⟩), .int .i64 a1].toArray w fun e w' => e = .returned (.bool r_) ∧ St w (KS []) w' [] := by
 have hF := h_
 clear h_
 unfold ya_has at hF
 have S := St.ofFalse (As := []) (St.init0 w)
 have hPq5 := hP0
 obtain ⟨cs1, hB2, hf3, A6, c7, hq4, hR8⟩ := hPq5
 subst hq4
 change _ = some (Obj.cells #[.slice A6 a0.flying.length c7, .int .i64 a0.time] 133 (0, 0)) at hB2
 refine enter 16 [(0, .pointer (some ⟨p0, 0, none⟩)), (1, .int .i64 a1)] Try.func76 rfl rfl rfl rfl ?_
 refine WCode.seq ?_
 refine WCode.region ?_
 refine WOps.p (G.assign rfl) rfl ?_
 refine WOps.nil ?_
 refine WEx.then_ ?_
 refine WCode.seq ?_
 refine WCode.region ?_
 refine WOps.p (G.move rfl) rfl ?_
 refine WOps.p (G.geq rfl rfl rfl) rfl ?_
 refine WOps.p (G.move rfl) rfl ?_
 rcases ite_some hF with ⟨h9, hF⟩ | ⟨h9, hF⟩
 ·
  refine WOps.on rfl (kbl (b := decide (0 ≤ a1)) rfl (decide_eq_true h9)) ?_
  refine WOps.p (G.move rfl) rfl ?_
  refine WOps.on rfl (kbl (b := decide (0 ≤ a1)) rfl (decide_eq_true h9)) ?_
  refine WOps.p (G.move rfl) rfl ?_
  refine WOps.on rfl (kbl (b := decide (0 ≤ a1)) rfl (decide_eq_true h9)) ?_
  refine WOps.p (G.nilp rfl) rfl ?_
  refine WOps.on rfl (kbl (b := decide (0 ≤ a1)) rfl (decide_eq_true h9)) ?_
  refine WOps.p (G.field T.fld133_0 rfl (show 0 + 0 = 0 from rfl)) rfl ?_
  refine WOps.on rfl (kbl (b := decide (0 ≤ a1)) rfl (decide_eq_true h9)) ?_
  refine WOps.r (G.load1 T.one43 rfl (cell_blk ((S.fr p0 (lt_of_blk hB2) (hF0 p0 hf3).1).trans hB2) rfl)) rfl ?_
  refine WOps.on rfl (kbl (b := decide (0 ≤ a1)) rfl (decide_eq_true h9)) ?_
  refine WOps.p (G.len T.el43 rfl) rfl ?_
  refine WOps.on rfl (kbl (b := decide (0 ≤ a1)) rfl (decide_eq_true h9)) ?_
  refine WOps.p (G.lss rfl rfl rfl) rfl ?_
  refine WOps.p (G.pick_t (kb (b := decide (0 ≤ a1)) rfl (decide_eq_true h9)) rfl) rfl ?_
  refine WOps.p (G.assign rfl) rfl ?_
  refine WOps.nil ?_
  refine WEx.then_ ?_
  refine WCode.forget (l' := [(4, .bool (decide (a1 < (a0.flying.length : Int))))]) ⟨rfl, trivial⟩ ?_
  refine WCode.ret ?_
  obtain rfl := some_eq hF
  refine WEx.ret1 rfl rfl ?_
  exact ⟨rfl, St.keep (As := []) S⟩
 ·
  refine WOps.off rfl (kbl (b := decide (0 ≤ a1)) rfl (decide_eq_false h9)) rfl rfl ?_
  refine WOps.off rfl (kbl (b := decide (0 ≤ a1)) rfl (decide_eq_false h9)) rfl rfl ?_
  refine WOps.off rfl (kbl (b := decide (0 ≤ a1)) rfl (decide_eq_false h9)) rfl rfl ?_
  refine WOps.off rfl (kbl (b := decide (0 ≤ a1)) rfl (decide_eq_false h9)) rfl rfl ?_
  refine WOps.off rfl (kbl (b := decide (0 ≤ a1)) rfl (decide_eq_false h9)) rfl rfl ?_
  refine WOps.off rfl (kbl (b := decide (0 ≤ a1)) rfl (decide_eq_false h9)) rfl rfl ?_
  refine WOps.off rfl (kbl (b := decide (0 ≤ a1)) rfl (decide_eq_false h9)) rfl rfl ?_
  refine WOps.p (G.pick_f (kb (b := decide (0 ≤ a1)) rfl (decide_eq_false h9)) rfl) rfl ?_
  refine WOps.p (G.assign rfl) rfl ?_
  refine WOps.nil ?_
  refine WEx.then_ ?_
  refine WCode.forget (l' := [(4, .bool false)]) ⟨rfl, trivial⟩ ?_
  refine WCode.ret ?_
  obtain rfl := some_eq hF
  refine WEx.ret1 rfl rfl ?_
  exact ⟨rfl, St.keep (As := []) S⟩

def ya_put (k : Nat) (a0 : Air) (a1 : Packet) : Option (Int × Air) := (if 1000 ≤ (a0.flying.length : Int) then (some (132, a0)) else (Option.bind (cat a0.flying ([a1] : List Packet)) fun l29 => (some (0, (⟨l29, a0.time⟩ : Air)))))
set_option maxRecDepth 100000 in
set_option maxHeartbeats 1000000 in
theorem ya_put_calls (k : Nat) (a0 : Air) {p0 : Nat} {G0 : Grp} (a1 : Packet) {w : World} (hO0 : ObjO 133 Air.rp p0 a0 G0) {r_ : Int × Air} (h_ : ya_put k a0 a1 = some r_) (hp_ : Hp w ([G0]).flatten) :
    Calls Try.prog 77 [.pointer (some ⟨p0, 0, none⟩), .agg #[.int .i64 a1.From, .int .i64 a1.To, .string (bs a1.Data)]].toArray w fun e w' => ∃ Go0' : Grp, e = .returned (.int .i64 r_.1) ∧ ObjO 133 Air.rp p0 (r_.2) Go0' ∧ St w (KS [G0]) w' [Go0'] := by
 have hF := h_
 clear h_
 unfold ya_put at hF
 have S := St.initK [G0] hp_
 obtain ⟨cs1, G2, ho3, hg4⟩ := hO0
 obtain ⟨A5, c6, G7, rfl, hO8, hq9⟩ := ho3
 have S10 : St _ _ _ [[(p0, .cells #[.slice A5 a0.flying.length c6, .int .i64 a0.time] 133 (0, 0))], G7] := S.objs (by rw [hg4, hq9]; simp)
 refine enter 21 [(0, .pointer (some ⟨p0, 0, none⟩)), (1, .agg #[.int .i64 a1.From, .int .i64 a1.To, .string (bs a1.Data)])] Try.func77 rfl rfl rfl rfl ?_
 refine WCode.seq ?_
 refine WCode.region ?_
 obtain ⟨b11, w12, E13, S14, X15, L16⟩ := St.box S10 Try.prog 37 (.agg #[.int .i64 a1.From, .int .i64 a1.To, .string (bs a1.Data)])
 change St _ _ _ [[(b11, .cells #[.int .i64 a1.From, .int .i64 a1.To, .string (bs a1.Data)] 37 (0, 0))], [(p0, .cells #[.slice A5 a0.flying.length c6, .int .i64 a0.time] 133 (0, 0))], G7] at S14
 refine WOps.e (E13 rfl) rfl ?_
 refine WOps.p (G.assign rfl) rfl ?_
 refine WOps.nil ?_
 refine WEx.then_ ?_
 refine WCode.seq ?_
 refine WCode.seq ?_
 refine WCode.region ?_
 refine WOps.p (G.move rfl) rfl ?_
 refine WOps.p (G.nilp rfl) rfl ?_
 refine WOps.p (G.field T.fld133_0 rfl (show 0 + 0 = 0 from rfl)) rfl ?_
 refine WOps.r (G.load1 T.one43 rfl (cell_blk (S14.blk 1 rfl) rfl)) rfl ?_
 refine WOps.p (G.len T.el43 rfl) rfl ?_
 refine WOps.p (G.geq rfl rfl rfl) rfl ?_
 refine WOps.nil ?_
 refine WEx.then_ ?_
 rcases ite_some hF with ⟨h17, hF⟩ | ⟨h17, hF⟩
 ·
  refine WCode.cond_t (kb (b := decide (1000 ≤ (a0.flying.length : Int))) rfl (decide_eq_true h17)) ?_
  refine WCode.seq ?_
  refine WCode.region ?_
  refine WOps.p (G.assign rfl) rfl ?_
  refine WOps.nil ?_
  refine WEx.then_ ?_
  refine WCode.ret ?_
  refine WEx.then_ret ?_
  obtain rfl := some_eq hF
  refine WEx.ret1 rfl rfl ?_
  have S18 := (S14.front 2 rfl).front 2 rfl
  change St _ _ _ [[(p0, .cells #[.slice A5 a0.flying.length c6, .int .i64 a0.time] 133 (0, 0))], G7, [(b11, .cells #[.int .i64 a1.From, .int .i64 a1.To, .string (bs a1.Data)] 37 (0, 0))]] at S18
  have hO19 : ObjO 133 Air.rp p0 a0 ([(p0, .cells #[.slice A5 a0.flying.length c6, .int .i64 a0.time] 133 (0, 0))] ++ (G7)) := ⟨_, _, ⟨A5, c6, G7, rfl, hO8, rfl⟩, rfl⟩
  have S20 : St _ _ _ [[(p0, .cells #[.slice A5 a0.flying.length c6, .int .i64 a0.time] 133 (0, 0))] ++ (G7), [(b11, .cells #[.int .i64 a1.From, .int .i64 a1.To, .string (bs a1.Data)] 37 (0, 0))]] := S18.objs (by simp)
  exact ⟨[(p0, .cells #[.slice A5 a0.flying.length c6, .int .i64 a0.time] 133 (0, 0))] ++ (G7), rfl, hO19, St.keep (As := [[(p0, .cells #[.slice A5 a0.flying.length c6, .int .i64 a0.time] 133 (0, 0))] ++ (G7)]) S20⟩
 ·
  refine WCode.cond_f (kb (b := decide (1000 ≤ (a0.flying.length : Int))) rfl (decide_eq_false h17)) ?_
  refine WCode.skip ?_
  refine WEx.then_ ?_
  refine WCode.seq ?_
  refine WCode.draw [⟨0, 0, []⟩, ⟨1, 0, []⟩, ⟨2, 0, []⟩, ⟨3, 0, []⟩, ⟨4, 1, [7, 8, 9, 10]⟩, ⟨5, 1, [6, 7, 8, 9, 10]⟩, ⟨6, 2, []⟩, ⟨7, 2, []⟩, ⟨8, 0, []⟩, ⟨9, 0, []⟩, ⟨10, 2, []⟩] T.mixed (by kernel_rfl) (by intro _ _ d _ _ h; cases d <;> exact h) rfl (by kernel_rfl) ?_
  have S21 := S14.drew
  generalize w12.drew = w22 at *
  refine WD.p rfl (G.move rfl) rfl ?_
  refine WD.p rfl (G.move rfl) rfl ?_
  refine WD.p rfl (G.nilp rfl) rfl ?_
  refine WD.p rfl (G.field T.fld133_0 rfl (show 0 + 0 = 0 from rfl)) rfl ?_
  refine WD.r rfl (G.load1 T.one43 rfl (cell_blk (S21.blk 1 rfl) rfl)) rfl ?_
  refine WD.r rfl (G.loada T.agg37_3 rfl (cs := [.int .i64 a1.From, .int .i64 a1.To, .string (bs a1.Data)]) (cellsAt.of_blk (S21.blk 0 rfl) rfl)) rfl ?_
  obtain ⟨b23, w24, E25, S26, X27, L28⟩ := St.lit S21 (P := Try.prog) (t := 43) (e := 37) (n := 1) (vs := [(0, .agg #[.int .i64 a1.From, .int .i64 a1.To, .string (bs a1.Data)])]) (cs := #[.int .i64 a1.From, .int .i64 a1.To, .string (bs a1.Data)]) (by kernel_rfl)
  change St _ _ _ [[(b23, .cells #[.int .i64 a1.From, .int .i64 a1.To, .string (bs a1.Data)] 37 (0, 0))], [(b11, .cells #[.int .i64 a1.From, .int .i64 a1.To, .string (bs a1.Data)] 37 (0, 0))], [(p0, .cells #[.slice A5 a0.flying.length c6, .int .i64 a0.time] 133 (0, 0))], G7] at S26
  refine WD.e rfl (E25 (evp_cons rfl evp_nil)) rfl ?_
  obtain ⟨l29, hc30, hF⟩ := bind_some hF
  have S31 := S26.front 3 rfl
  change St _ _ _ [G7, [(b23, .cells #[.int .i64 a1.From, .int .i64 a1.To, .string (bs a1.Data)] 37 (0, 0))], [(b11, .cells #[.int .i64 a1.From, .int .i64 a1.To, .string (bs a1.Data)] 37 (0, 0))], [(p0, .cells #[.slice A5 a0.flying.length c6, .int .i64 a0.time] 133 (0, 0))]] at S31
  obtain ⟨A32, c33, G34, w35, E36, hO37, S38, hk39⟩ := St.appP (P := Try.prog) (r := Packet.rp) (M := ([a1] : List Packet)) S31 T.elt43 rfl hO8 (Rd.of_blk (S31.blk 1 rfl) (n := 1) (sz := 3) rfl) ⟨_, _, [], [], rfl, rfl, ⟨rfl, rfl⟩, ⟨rfl, rfl⟩⟩ rfl hc30
  change St _ _ _ [G34, [(b23, .cells #[.int .i64 a1.From, .int .i64 a1.To, .string (bs a1.Data)] 37 (0, 0))], [(b11, .cells #[.int .i64 a1.From, .int .i64 a1.To, .string (bs a1.Data)] 37 (0, 0))], [(p0, .cells #[.slice A5 a0.flying.length c6, .int .i64 a0.time] 133 (0, 0))]] at S38
  refine WD.e rfl (E36 rfl rfl) rfl ?_
  refine WD.p rfl (G.nilp rfl) rfl ?_
  refine WD.p rfl (G.field T.fld133_0 rfl (show 0 + 0 = 0 from rfl)) rfl ?_
  obtain ⟨w40, E41, S42⟩ := St.store (P := Try.prog) S38 3 43 (.slice A32 l29.length c33) (off := 0) (cur' := #[.slice A32 l29.length c33, .int .i64 a0.time]) rfl T.size43_1 rfl rfl rfl
  change St _ _ _ [G34, [(b23, .cells #[.int .i64 a1.From, .int .i64 a1.To, .string (bs a1.Data)] 37 (0, 0))], [(b11, .cells #[.int .i64 a1.From, .int .i64 a1.To, .string (bs a1.Data)] 37 (0, 0))], [(p0, .cells #[.slice A32 l29.length c33, .int .i64 a0.time] 133 (0, 0))]] at S42
  refine WD.u rfl (E41 rfl rfl) ?_
  refine WD.nil ?_
  refine WEx.then_ ?_
  refine WCode.forget (l' := []) trivial ?_
  refine WCode.seq ?_
  refine WCode.region ?_
  refine WOps.p (G.assign rfl) rfl ?_
  refine WOps.nil ?_
  refine WEx.then_ ?_
  refine WCode.ret ?_
  obtain rfl := some_eq hF
  refine WEx.ret1 rfl rfl ?_
  have S43 := S42.front 3 rfl
  change St _ _ _ [[(p0, .cells #[.slice A32 l29.length c33, .int .i64 a0.time] 133 (0, 0))], G34, [(b23, .cells #[.int .i64 a1.From, .int .i64 a1.To, .string (bs a1.Data)] 37 (0, 0))], [(b11, .cells #[.int .i64 a1.From, .int .i64 a1.To, .string (bs a1.Data)] 37 (0, 0))]] at S43
  have hO44 : ObjO 133 Air.rp p0 (⟨l29, a0.time⟩ : Air) ([(p0, .cells #[.slice A32 l29.length c33, .int .i64 a0.time] 133 (0, 0))] ++ (G34)) := ⟨_, _, ⟨A32, c33, G34, rfl, hO37, rfl⟩, rfl⟩
  have S45 : St _ _ _ [[(p0, .cells #[.slice A32 l29.length c33, .int .i64 a0.time] 133 (0, 0))] ++ (G34), [(b23, .cells #[.int .i64 a1.From, .int .i64 a1.To, .string (bs a1.Data)] 37 (0, 0))], [(b11, .cells #[.int .i64 a1.From, .int .i64 a1.To, .string (bs a1.Data)] 37 (0, 0))]] := S43.objs (by simp)
  exact ⟨[(p0, .cells #[.slice A32 l29.length c33, .int .i64 a0.time] 133 (0, 0))] ++ (G34), rfl, hO44, St.keep (As := [[(p0, .cells #[.slice A32 l29.length c33, .int .i64 a0.time] 133 (0, 0))] ++ (G34)]) S45⟩

def ya_Send (k : Nat) (a0 : Air) (a1 : Packet) : Option (Int × Air) := (if 1500 < (a1.Data.length : Int) then (some (131, a0)) else (Option.bind (ya_put k a0 a1) fun t24 => (some (t24.1, t24.2))))
set_option maxRecDepth 100000 in
set_option maxHeartbeats 1000000 in
theorem ya_Send_calls (k : Nat) (a0 : Air) {p0 : Nat} {G0 : Grp} (a1 : Packet) {w : World} (hO0 : ObjO 133 Air.rp p0 a0 G0) {r_ : Int × Air} (h_ : ya_Send k a0 a1 = some r_) (hp_ : Hp w ([G0]).flatten) :
    Calls Try.prog 22 [.pointer (some ⟨p0, 0, none⟩), .agg #[.int .i64 a1.From, .int .i64 a1.To, .string (bs a1.Data)]].toArray w fun e w' => ∃ Go0' : Grp, e = .returned (.int .i64 r_.1) ∧ ObjO 133 Air.rp p0 (r_.2) Go0' ∧ St w (KS [G0]) w' [Go0'] := by
 have hF := h_
 clear h_
 unfold ya_Send at hF
 have S := St.initK [G0] hp_
 obtain ⟨cs1, G2, ho3, hg4⟩ := hO0
 obtain ⟨A5, c6, G7, rfl, hO8, hq9⟩ := ho3
 have S10 : St _ _ _ [[(p0, .cells #[.slice A5 a0.flying.length c6, .int .i64 a0.time] 133 (0, 0))], G7] := S.objs (by rw [hg4, hq9]; simp)
 refine enter 12 [(0, .pointer (some ⟨p0, 0, none⟩)), (1, .agg #[.int .i64 a1.From, .int .i64 a1.To, .string (bs a1.Data)])] Try.func22 rfl rfl rfl rfl ?_
 refine WCode.seq ?_
 refine WCode.region ?_
 obtain ⟨b11, w12, E13, S14, X15, L16⟩ := St.box S10 Try.prog 37 (.agg #[.int .i64 a1.From, .int .i64 a1.To, .string (bs a1.Data)])
 change St _ _ _ [[(b11, .cells #[.int .i64 a1.From, .int .i64 a1.To, .string (bs a1.Data)] 37 (0, 0))], [(p0, .cells #[.slice A5 a0.flying.length c6, .int .i64 a0.time] 133 (0, 0))], G7] at S14
 refine WOps.e (E13 rfl) rfl ?_
 refine WOps.p (G.assign rfl) rfl ?_
 refine WOps.nil ?_
 refine WEx.then_ ?_
 refine WCode.seq ?_
 refine WCode.seq ?_
 refine WCode.region ?_
 refine WOps.p (G.field T.fld37_2 rfl (show 0 + 2 = 2 from rfl)) rfl ?_
 refine WOps.r (G.load1 T.one9 rfl (cell_blk (S14.blk 0 rfl) rfl)) rfl ?_
 refine WOps.p (G.lenb T.str9 rfl) rfl ?_
 refine WOps.p (G.gtr rfl rfl rfl) rfl ?_
 refine WOps.nil ?_
 refine WEx.then_ ?_
 rcases ite_some hF with ⟨h17, hF⟩ | ⟨h17, hF⟩
 ·
  refine WCode.cond_t (kb (b := decide (1500 < (a1.Data.length : Int))) rfl (decide_eq_true h17)) ?_
  refine WCode.seq ?_
  refine WCode.region ?_
  refine WOps.p (G.assign rfl) rfl ?_
  refine WOps.nil ?_
  refine WEx.then_ ?_
  refine WCode.ret ?_
  refine WEx.then_ret ?_
  obtain rfl := some_eq hF
  refine WEx.ret1 rfl rfl ?_
  have S18 := (S14.front 2 rfl).front 2 rfl
  change St _ _ _ [[(p0, .cells #[.slice A5 a0.flying.length c6, .int .i64 a0.time] 133 (0, 0))], G7, [(b11, .cells #[.int .i64 a1.From, .int .i64 a1.To, .string (bs a1.Data)] 37 (0, 0))]] at S18
  have hO19 : ObjO 133 Air.rp p0 a0 ([(p0, .cells #[.slice A5 a0.flying.length c6, .int .i64 a0.time] 133 (0, 0))] ++ (G7)) := ⟨_, _, ⟨A5, c6, G7, rfl, hO8, rfl⟩, rfl⟩
  have S20 : St _ _ _ [[(p0, .cells #[.slice A5 a0.flying.length c6, .int .i64 a0.time] 133 (0, 0))] ++ (G7), [(b11, .cells #[.int .i64 a1.From, .int .i64 a1.To, .string (bs a1.Data)] 37 (0, 0))]] := S18.objs (by simp)
  exact ⟨[(p0, .cells #[.slice A5 a0.flying.length c6, .int .i64 a0.time] 133 (0, 0))] ++ (G7), rfl, hO19, St.keep (As := [[(p0, .cells #[.slice A5 a0.flying.length c6, .int .i64 a0.time] 133 (0, 0))] ++ (G7)]) S20⟩
 ·
  refine WCode.cond_f (kb (b := decide (1500 < (a1.Data.length : Int))) rfl (decide_eq_false h17)) ?_
  refine WCode.skip ?_
  refine WEx.then_ ?_
  refine WCode.seq ?_
  refine WCode.region ?_
  refine WOps.p (G.move rfl) rfl ?_
  refine WOps.r (G.loada T.agg37_3 rfl (cs := [.int .i64 a1.From, .int .i64 a1.To, .string (bs a1.Data)]) (cellsAt.of_blk (S14.blk 0 rfl) rfl)) rfl ?_
  have S21 := (S14.front 2 rfl).front 2 rfl
  change St _ _ _ [[(p0, .cells #[.slice A5 a0.flying.length c6, .int .i64 a0.time] 133 (0, 0))], G7, [(b11, .cells #[.int .i64 a1.From, .int .i64 a1.To, .string (bs a1.Data)] 37 (0, 0))]] at S21
  have hO22 : ObjO 133 Air.rp p0 a0 ([(p0, .cells #[.slice A5 a0.flying.length c6, .int .i64 a0.time] 133 (0, 0))] ++ (G7)) := ⟨_, _, ⟨A5, c6, G7, rfl, hO8, rfl⟩, rfl⟩
  have S23 : St _ _ _ [[(p0, .cells #[.slice A5 a0.flying.length c6, .int .i64 a0.time] 133 (0, 0))] ++ (G7), [(b11, .cells #[.int .i64 a1.From, .int .i64 a1.To, .string (bs a1.Data)] 37 (0, 0))]] := S21.objs (by simp)
  obtain ⟨t24, hc25, hF⟩ := bind_some hF
  refine WOps.call T.call77 (evs_cons rfl (evs_cons rfl evs_nil)) rfl ?_
  refine (ya_put_calls k a0 a1 hO22 hc25 (St.hpN (As := [[(p0, .cells #[.slice A5 a0.flying.length c6, .int .i64 a0.time] 133 (0, 0))] ++ (G7)]) S23)).mono ?_
  rintro _ w26 ⟨G29, rfl, hO30, T27⟩
  have S28 := St.callN (As := [[(p0, .cells #[.slice A5 a0.flying.length c6, .int .i64 a0.time] 133 (0, 0))] ++ (G7)]) S23 T27
  change St _ _ _ [G29, [(b11, .cells #[.int .i64 a1.From, .int .i64 a1.To, .string (bs a1.Data)] 37 (0, 0))]] at S28
  refine ⟨_, rfl, ?_⟩
  obtain ⟨cs31, G32, ho33, hg34⟩ := hO30
  obtain ⟨A35, c36, G37, rfl, hO38, hq39⟩ := ho33
  have S40 : St _ _ _ [[(p0, .cells #[.slice A35 t24.2.flying.length c36, .int .i64 t24.2.time] 133 (0, 0))], G37, [(b11, .cells #[.int .i64 a1.From, .int .i64 a1.To, .string (bs a1.Data)] 37 (0, 0))]] := S28.objs (by rw [hg34, hq39]; simp)
  refine WOps.p (G.assign rfl) rfl ?_
  refine WOps.nil ?_
  refine WEx.then_ ?_
  refine WCode.forget (l' := [(4, .int .i64 t24.1)]) ⟨rfl, trivial⟩ ?_
  refine WCode.ret ?_
  obtain rfl := some_eq hF
  refine WEx.ret1 rfl rfl ?_
  have hO41 : ObjO 133 Air.rp p0 t24.2 ([(p0, .cells #[.slice A35 t24.2.flying.length c36, .int .i64 t24.2.time] 133 (0, 0))] ++ (G37)) := ⟨_, _, ⟨A35, c36, G37, rfl, hO38, rfl⟩, rfl⟩
  have S42 : St _ _ _ [[(p0, .cells #[.slice A35 t24.2.flying.length c36, .int .i64 t24.2.time] 133 (0, 0))] ++ (G37), [(b11, .cells #[.int .i64 a1.From, .int .i64 a1.To, .string (bs a1.Data)] 37 (0, 0))]] := S40.objs (by simp)
  exact ⟨[(p0, .cells #[.slice A35 t24.2.flying.length c36, .int .i64 t24.2.time] 133 (0, 0))] ++ (G37), rfl, hO41, St.keep (As := [[(p0, .cells #[.slice A35 t24.2.flying.length c36, .int .i64 t24.2.time] 133 (0, 0))] ++ (G37)]) S42⟩

def ya_Now (k : Nat) (a0 : Air) : Option Int := (some a0.time)
set_option maxRecDepth 100000 in
set_option maxHeartbeats 1000000 in
theorem ya_Now_calls (k : Nat) (a0 : Air) {p0 : Nat} {F0 : Nat → Prop} {w : World} (hP0 : PtR 133 Air.rp w F0 p0 a0) (hF0 : ∀ b, F0 b → NK w [] b) {r_ : Int} (h_ : ya_Now k a0 = some r_) :
    Calls Try.prog 25 [.pointer (some ⟨p0, 0, none⟩)].toArray w fun e w' => e = .returned (.int .i64 r_) ∧ St w (KS []) w' [] := by
 have hF := h_
 clear h_
 unfold ya_Now at hF
 have S := St.ofFalse (As := []) (St.init0 w)
 have hPq5 := hP0
 obtain ⟨cs1, hB2, hf3, A6, c7, hq4, hR8⟩ := hPq5
 subst hq4
 change _ = some (Obj.cells #[.slice A6 a0.flying.length c7, .int .i64 a0.time] 133 (0, 0)) at hB2
 refine enter 7 [(0, .pointer (some ⟨p0, 0, none⟩))] Try.func25 rfl rfl rfl rfl ?_
 refine WCode.seq ?_
 refine WCode.region ?_
 refine WOps.p (G.assign rfl) rfl ?_
 refine WOps.nil ?_
 refine WEx.then_ ?_
 refine WCode.seq ?_
 refine WCode.region ?_
 refine WOps.p (G.move rfl) rfl ?_
 refine WOps.p (G.nilp rfl) rfl ?_
 refine WOps.p (G.field T.fld133_1 rfl (show 0 + 1 = 1 from rfl)) rfl ?_
 refine WOps.r (G.load1 T.one3 rfl (cell_blk ((S.fr p0 (lt_of_blk hB2) (hF0 p0 hf3).1).trans hB2) rfl)) rfl ?_
 refine WOps.p (G.assign rfl) rfl ?_
 refine WOps.nil ?_
 refine WEx.then_ ?_
 refine WCode.ret ?_
 obtain rfl := some_eq hF
 refine WEx.ret1 rfl rfl ?_
 exact ⟨rfl, St.keep (As := []) S⟩

def ya_Tick (k : Nat) (a0 : Air) : Option (Int × Air) := (some (w64 (a0.time + 1), (⟨a0.flying, w64 (a0.time + 1)⟩ : Air)))
set_option maxRecDepth 100000 in
set_option maxHeartbeats 1000000 in
theorem ya_Tick_calls (k : Nat) (a0 : Air) {p0 : Nat} {G0 : Grp} {w : World} (hO0 : ObjO 133 Air.rp p0 a0 G0) {r_ : Int × Air} (h_ : ya_Tick k a0 = some r_) (hp_ : Hp w ([G0]).flatten) :
    Calls Try.prog 67 [.pointer (some ⟨p0, 0, none⟩)].toArray w fun e w' => ∃ Go0' : Grp, e = .returned (.int .i64 r_.1) ∧ ObjO 133 Air.rp p0 (r_.2) Go0' ∧ St w (KS [G0]) w' [Go0'] := by
 have hF := h_
 clear h_
 unfold ya_Tick at hF
 have S := St.initK [G0] hp_
 obtain ⟨cs1, G2, ho3, hg4⟩ := hO0
 obtain ⟨A5, c6, G7, rfl, hO8, hq9⟩ := ho3
 have S10 : St _ _ _ [[(p0, .cells #[.slice A5 a0.flying.length c6, .int .i64 a0.time] 133 (0, 0))], G7] := S.objs (by rw [hg4, hq9]; simp)
 refine enter 14 [(0, .pointer (some ⟨p0, 0, none⟩))] Try.func67 rfl rfl rfl rfl ?_
 refine WCode.seq ?_
 refine WCode.region ?_
 refine WOps.p (G.assign rfl) rfl ?_
 refine WOps.nil ?_
 refine WEx.then_ ?_
 refine WCode.seq ?_
 refine WCode.region ?_
 refine WOps.p (G.move rfl) rfl ?_
 refine WOps.p (G.nilp rfl) rfl ?_
 refine WOps.p (G.field T.fld133_1 rfl (show 0 + 1 = 1 from rfl)) rfl ?_
 refine WOps.r (G.load1 T.one3 rfl (cell_blk (S10.blk 0 rfl) rfl)) rfl ?_
 refine WOps.p (G.add rfl rfl (r := (w64 (a0.time + 1))) rfl) rfl ?_
 refine WOps.p (G.nilp rfl) rfl ?_
 refine WOps.p (G.field T.fld133_1 rfl (show 0 + 1 = 1 from rfl)) rfl ?_
 obtain ⟨w11, E12, S13⟩ := St.store (P := Try.prog) S10 0 3 (.int .i64 (w64 (a0.time + 1))) (off := 1) (cur' := #[.slice A5 a0.flying.length c6, .int .i64 (w64 (a0.time + 1))]) rfl T.size3_1 rfl rfl rfl
 change St _ _ _ [[(p0, .cells #[.slice A5 a0.flying.length c6, .int .i64 (w64 (a0.time + 1))] 133 (0, 0))], G7] at S13
 refine WOps.u (E12 rfl rfl) ?_
 refine WOps.nil ?_
 refine WEx.then_ ?_
 refine WCode.seq ?_
 refine WCode.region ?_
 refine WOps.p (G.move rfl) rfl ?_
 refine WOps.p (G.nilp rfl) rfl ?_
 refine WOps.p (G.field T.fld133_1 rfl (show 0 + 1 = 1 from rfl)) rfl ?_
 refine WOps.r (G.load1 T.one3 rfl (cell_blk (S13.blk 0 rfl) rfl)) rfl ?_
 refine WOps.p (G.assign rfl) rfl ?_
 refine WOps.nil ?_
 refine WEx.then_ ?_
 refine WCode.forget (l' := [(2, .int .i64 (w64 (a0.time + 1)))]) ⟨rfl, trivial⟩ ?_
 refine WCode.ret ?_
 obtain rfl := some_eq hF
 refine WEx.ret1 rfl rfl ?_
 have hO14 : ObjO 133 Air.rp p0 (⟨a0.flying, w64 (a0.time + 1)⟩ : Air) ([(p0, .cells #[.slice A5 a0.flying.length c6, .int .i64 (w64 (a0.time + 1))] 133 (0, 0))] ++ (G7)) := ⟨_, _, ⟨A5, c6, G7, rfl, hO8, rfl⟩, rfl⟩
 have S15 : St _ _ _ [[(p0, .cells #[.slice A5 a0.flying.length c6, .int .i64 (w64 (a0.time + 1))] 133 (0, 0))] ++ (G7)] := S13.objs (by simp)
 exact ⟨[(p0, .cells #[.slice A5 a0.flying.length c6, .int .i64 (w64 (a0.time + 1))] 133 (0, 0))] ++ (G7), rfl, hO14, St.keep (As := [[(p0, .cells #[.slice A5 a0.flying.length c6, .int .i64 (w64 (a0.time + 1))] 133 (0, 0))] ++ (G7)]) S15⟩

def yr_Now (k : Nat) (a0 : Air135) : Option Int := (some a0.Time)
set_option maxRecDepth 100000 in
set_option maxHeartbeats 1000000 in
theorem yr_Now_calls (k : Nat) (a0 : Air135) {p0 : Nat} {F0 : Nat → Prop} {w : World} (hP0 : PtR 135 Air135.rp w F0 p0 a0) (hF0 : ∀ b, F0 b → NK w [] b) {r_ : Int} (h_ : yr_Now k a0 = some r_) :
    Calls Try.prog 74 [.pointer (some ⟨p0, 0, none⟩)].toArray w fun e w' => e = .returned (.int .i64 r_) ∧ St w (KS []) w' [] := by
 have hF := h_
 clear h_
 unfold yr_Now at hF
 have S := St.ofFalse (As := []) (St.init0 w)
 have hPq5 := hP0
 obtain ⟨cs1, hB2, hf3, A6, c7, hq4, hR8⟩ := hPq5
 subst hq4
 change _ = some (Obj.cells #[.slice A6 a0.L.length c7, .int .i64 a0.Time] 135 (0, 0)) at hB2
 refine enter 7 [(0, .pointer (some ⟨p0, 0, none⟩))] Try.func74 rfl rfl rfl rfl ?_
 refine WCode.seq ?_
 refine WCode.region ?_
 refine WOps.p (G.assign rfl) rfl ?_
 refine WOps.nil ?_
 refine WEx.then_ ?_
 refine WCode.seq ?_
 refine WCode.region ?_
 refine WOps.p (G.move rfl) rfl ?_
 refine WOps.p (G.nilp rfl) rfl ?_
 refine WOps.p (G.field T.fld135_1 rfl (show 0 + 1 = 1 from rfl)) rfl ?_
 refine WOps.r (G.load1 T.one3 rfl (cell_blk ((S.fr p0 (lt_of_blk hB2) (hF0 p0 hf3).1).trans hB2) rfl)) rfl ?_
 refine WOps.p (G.assign rfl) rfl ?_
 refine WOps.nil ?_
 refine WEx.then_ ?_
 refine WCode.ret ?_
 obtain rfl := some_eq hF
 refine WEx.ret1 rfl rfl ?_
 exact ⟨rfl, St.keep (As := []) S⟩

def yr_Tick (k : Nat) (a0 : Air135) : Option (Int × Air135) := (some (w64 (a0.Time + 1), (⟨a0.L, w64 (a0.Time + 1)⟩ : Air135)))
set_option maxRecDepth 100000 in
set_option maxHeartbeats 1000000 in
theorem yr_Tick_calls (k : Nat) (a0 : Air135) {p0 : Nat} {G0 : Grp} {w : World} (hO0 : ObjO 135 Air135.rp p0 a0 G0) {r_ : Int × Air135} (h_ : yr_Tick k a0 = some r_) (hp_ : Hp w ([G0]).flatten) :
    Calls Try.prog 73 [.pointer (some ⟨p0, 0, none⟩)].toArray w fun e w' => ∃ Go0' : Grp, e = .returned (.int .i64 r_.1) ∧ ObjO 135 Air135.rp p0 (r_.2) Go0' ∧ St w (KS [G0]) w' [Go0'] := by
 have hF := h_
 clear h_
 unfold yr_Tick at hF
 have S := St.initK [G0] hp_
 obtain ⟨cs1, G2, ho3, hg4⟩ := hO0
 obtain ⟨A5, c6, G7, rfl, hO8, hq9⟩ := ho3
 have S10 : St _ _ _ [[(p0, .cells #[.slice A5 a0.L.length c6, .int .i64 a0.Time] 135 (0, 0))], G7] := S.objs (by rw [hg4, hq9]; simp)
 refine enter 14 [(0, .pointer (some ⟨p0, 0, none⟩))] Try.func73 rfl rfl rfl rfl ?_
 refine WCode.seq ?_
 refine WCode.region ?_
 refine WOps.p (G.assign rfl) rfl ?_
 refine WOps.nil ?_
 refine WEx.then_ ?_
 refine WCode.seq ?_
 refine WCode.region ?_
 refine WOps.p (G.move rfl) rfl ?_
 refine WOps.p (G.nilp rfl) rfl ?_
 refine WOps.p (G.field T.fld135_1 rfl (show 0 + 1 = 1 from rfl)) rfl ?_
 refine WOps.r (G.load1 T.one3 rfl (cell_blk (S10.blk 0 rfl) rfl)) rfl ?_
 refine WOps.p (G.add rfl rfl (r := (w64 (a0.Time + 1))) rfl) rfl ?_
 refine WOps.p (G.nilp rfl) rfl ?_
 refine WOps.p (G.field T.fld135_1 rfl (show 0 + 1 = 1 from rfl)) rfl ?_
 obtain ⟨w11, E12, S13⟩ := St.store (P := Try.prog) S10 0 3 (.int .i64 (w64 (a0.Time + 1))) (off := 1) (cur' := #[.slice A5 a0.L.length c6, .int .i64 (w64 (a0.Time + 1))]) rfl T.size3_1 rfl rfl rfl
 change St _ _ _ [[(p0, .cells #[.slice A5 a0.L.length c6, .int .i64 (w64 (a0.Time + 1))] 135 (0, 0))], G7] at S13
 refine WOps.u (E12 rfl rfl) ?_
 refine WOps.nil ?_
 refine WEx.then_ ?_
 refine WCode.seq ?_
 refine WCode.region ?_
 refine WOps.p (G.move rfl) rfl ?_
 refine WOps.p (G.nilp rfl) rfl ?_
 refine WOps.p (G.field T.fld135_1 rfl (show 0 + 1 = 1 from rfl)) rfl ?_
 refine WOps.r (G.load1 T.one3 rfl (cell_blk (S13.blk 0 rfl) rfl)) rfl ?_
 refine WOps.p (G.assign rfl) rfl ?_
 refine WOps.nil ?_
 refine WEx.then_ ?_
 refine WCode.forget (l' := [(2, .int .i64 (w64 (a0.Time + 1)))]) ⟨rfl, trivial⟩ ?_
 refine WCode.ret ?_
 obtain rfl := some_eq hF
 refine WEx.ret1 rfl rfl ?_
 have hO14 : ObjO 135 Air135.rp p0 (⟨a0.L, w64 (a0.Time + 1)⟩ : Air135) ([(p0, .cells #[.slice A5 a0.L.length c6, .int .i64 (w64 (a0.Time + 1))] 135 (0, 0))] ++ (G7)) := ⟨_, _, ⟨A5, c6, G7, rfl, hO8, rfl⟩, rfl⟩
 have S15 : St _ _ _ [[(p0, .cells #[.slice A5 a0.L.length c6, .int .i64 (w64 (a0.Time + 1))] 135 (0, 0))] ++ (G7)] := S13.objs (by simp)
 exact ⟨[(p0, .cells #[.slice A5 a0.L.length c6, .int .i64 (w64 (a0.Time + 1))] 135 (0, 0))] ++ (G7), rfl, hO14, St.keep (As := [[(p0, .cells #[.slice A5 a0.L.length c6, .int .i64 (w64 (a0.Time + 1))] 135 (0, 0))] ++ (G7)]) S15⟩

def yr_Send (k : Nat) (a0 : Air135) (a1 : Packet) : Option (Int × Air135) := (if 1500 < (a1.Data.length : Int) then (some (131, a0)) else (if 1000 ≤ (a0.L.length : Int) then (some (132, a0)) else (Option.bind (cat a0.L ([a1] : List Packet)) fun l33 => (some (0, (⟨l33, a0.Time⟩ : Air135))))))
set_option maxRecDepth 100000 in
set_option maxHeartbeats 1000000 in
theorem yr_Send_calls (k : Nat) (a0 : Air135) {p0 : Nat} {G0 : Grp} (a1 : Packet) {w : World} (hO0 : ObjO 135 Air135.rp p0 a0 G0) {r_ : Int × Air135} (h_ : yr_Send k a0 a1 = some r_) (hp_ : Hp w ([G0]).flatten) :
    Calls Try.prog 68 [.pointer (some ⟨p0, 0, none⟩), .agg #[.int .i64 a1.From, .int .i64 a1.To, .string (bs a1.Data)]].toArray w fun e w' => ∃ Go0' : Grp, e = .returned (.int .i64 r_.1) ∧ ObjO 135 Air135.rp p0 (r_.2) Go0' ∧ St w (KS [G0]) w' [Go0'] := by
 have hF := h_
 clear h_
 unfold yr_Send at hF
 have S := St.initK [G0] hp_
 obtain ⟨cs1, G2, ho3, hg4⟩ := hO0
 obtain ⟨A5, c6, G7, rfl, hO8, hq9⟩ := ho3
 have S10 : St _ _ _ [[(p0, .cells #[.slice A5 a0.L.length c6, .int .i64 a0.Time] 135 (0, 0))], G7] := S.objs (by rw [hg4, hq9]; simp)
 refine enter 25 [(0, .pointer (some ⟨p0, 0, none⟩)), (1, .agg #[.int .i64 a1.From, .int .i64 a1.To, .string (bs a1.Data)])] Try.func68 rfl rfl rfl rfl ?_
 refine WCode.seq ?_
 refine WCode.region ?_
 obtain ⟨b11, w12, E13, S14, X15, L16⟩ := St.box S10 Try.prog 37 (.agg #[.int .i64 a1.From, .int .i64 a1.To, .string (bs a1.Data)])
 change St _ _ _ [[(b11, .cells #[.int .i64 a1.From, .int .i64 a1.To, .string (bs a1.Data)] 37 (0, 0))], [(p0, .cells #[.slice A5 a0.L.length c6, .int .i64 a0.Time] 135 (0, 0))], G7] at S14
 refine WOps.e (E13 rfl) rfl ?_
 refine WOps.p (G.assign rfl) rfl ?_
 refine WOps.nil ?_
 refine WEx.then_ ?_
 refine WCode.seq ?_
 refine WCode.seq ?_
 refine WCode.region ?_
 refine WOps.p (G.field T.fld37_2 rfl (show 0 + 2 = 2 from rfl)) rfl ?_
 refine WOps.r (G.load1 T.one9 rfl (cell_blk (S14.blk 0 rfl) rfl)) rfl ?_
 refine WOps.p (G.lenb T.str9 rfl) rfl ?_
 refine WOps.p (G.gtr rfl rfl rfl) rfl ?_
 refine WOps.nil ?_
 refine WEx.then_ ?_
 rcases ite_some hF with ⟨h17, hF⟩ | ⟨h17, hF⟩
 ·
  refine WCode.cond_t (kb (b := decide (1500 < (a1.Data.length : Int))) rfl (decide_eq_true h17)) ?_
  refine WCode.seq ?_
  refine WCode.region ?_
  refine WOps.p (G.assign rfl) rfl ?_
  refine WOps.nil ?_
  refine WEx.then_ ?_
  refine WCode.ret ?_
  refine WEx.then_ret ?_
  obtain rfl := some_eq hF
  refine WEx.ret1 rfl rfl ?_
  have S18 := (S14.front 2 rfl).front 2 rfl
  change St _ _ _ [[(p0, .cells #[.slice A5 a0.L.length c6, .int .i64 a0.Time] 135 (0, 0))], G7, [(b11, .cells #[.int .i64 a1.From, .int .i64 a1.To, .string (bs a1.Data)] 37 (0, 0))]] at S18
  have hO19 : ObjO 135 Air135.rp p0 a0 ([(p0, .cells #[.slice A5 a0.L.length c6, .int .i64 a0.Time] 135 (0, 0))] ++ (G7)) := ⟨_, _, ⟨A5, c6, G7, rfl, hO8, rfl⟩, rfl⟩
  have S20 : St _ _ _ [[(p0, .cells #[.slice A5 a0.L.length c6, .int .i64 a0.Time] 135 (0, 0))] ++ (G7), [(b11, .cells #[.int .i64 a1.From, .int .i64 a1.To, .string (bs a1.Data)] 37 (0, 0))]] := S18.objs (by simp)
  exact ⟨[(p0, .cells #[.slice A5 a0.L.length c6, .int .i64 a0.Time] 135 (0, 0))] ++ (G7), rfl, hO19, St.keep (As := [[(p0, .cells #[.slice A5 a0.L.length c6, .int .i64 a0.Time] 135 (0, 0))] ++ (G7)]) S20⟩
 ·
  refine WCode.cond_f (kb (b := decide (1500 < (a1.Data.length : Int))) rfl (decide_eq_false h17)) ?_
  refine WCode.skip ?_
  refine WEx.then_ ?_
  refine WCode.seq ?_
  refine WCode.seq ?_
  refine WCode.region ?_
  refine WOps.p (G.move rfl) rfl ?_
  refine WOps.p (G.nilp rfl) rfl ?_
  refine WOps.p (G.field T.fld135_0 rfl (show 0 + 0 = 0 from rfl)) rfl ?_
  refine WOps.r (G.load1 T.one43 rfl (cell_blk (S14.blk 1 rfl) rfl)) rfl ?_
  refine WOps.p (G.len T.el43 rfl) rfl ?_
  refine WOps.p (G.geq rfl rfl rfl) rfl ?_
  refine WOps.nil ?_
  refine WEx.then_ ?_
  refine WCode.forget (l' := [(0, .pointer (some ⟨p0, 0, none⟩)), (3, .pointer (some ⟨b11, 0, none⟩)), (14, .bool (decide (1000 ≤ (a0.L.length : Int))))]) ⟨rfl, rfl, rfl, trivial⟩ ?_
  rcases ite_some hF with ⟨h21, hF⟩ | ⟨h21, hF⟩
  ·
   refine WCode.cond_t (kb (b := decide (1000 ≤ (a0.L.length : Int))) rfl (decide_eq_true h21)) ?_
   refine WCode.seq ?_
   refine WCode.region ?_
   refine WOps.p (G.assign rfl) rfl ?_
   refine WOps.nil ?_
   refine WEx.then_ ?_
   refine WCode.ret ?_
   refine WEx.then_ret ?_
   obtain rfl := some_eq hF
   refine WEx.ret1 rfl rfl ?_
   have S22 := (S14.front 2 rfl).front 2 rfl
   change St _ _ _ [[(p0, .cells #[.slice A5 a0.L.length c6, .int .i64 a0.Time] 135 (0, 0))], G7, [(b11, .cells #[.int .i64 a1.From, .int .i64 a1.To, .string (bs a1.Data)] 37 (0, 0))]] at S22
   have hO23 : ObjO 135 Air135.rp p0 a0 ([(p0, .cells #[.slice A5 a0.L.length c6, .int .i64 a0.Time] 135 (0, 0))] ++ (G7)) := ⟨_, _, ⟨A5, c6, G7, rfl, hO8, rfl⟩, rfl⟩
   have S24 : St _ _ _ [[(p0, .cells #[.slice A5 a0.L.length c6, .int .i64 a0.Time] 135 (0, 0))] ++ (G7), [(b11, .cells #[.int .i64 a1.From, .int .i64 a1.To, .string (bs a1.Data)] 37 (0, 0))]] := S22.objs (by simp)
   exact ⟨[(p0, .cells #[.slice A5 a0.L.length c6, .int .i64 a0.Time] 135 (0, 0))] ++ (G7), rfl, hO23, St.keep (As := [[(p0, .cells #[.slice A5 a0.L.length c6, .int .i64 a0.Time] 135 (0, 0))] ++ (G7)]) S24⟩
  ·
   refine WCode.cond_f (kb (b := decide (1000 ≤ (a0.L.length : Int))) rfl (decide_eq_false h21)) ?_
   refine WCode.skip ?_
   refine WEx.then_ ?_
   refine WCode.seq ?_
   refine WCode.draw [⟨0, 0, []⟩, ⟨1, 0, []⟩, ⟨2, 0, []⟩, ⟨3, 0, []⟩, ⟨4, 1, [7, 8, 9, 10]⟩, ⟨5, 1, [6, 7, 8, 9, 10]⟩, ⟨6, 2, []⟩, ⟨7, 2, []⟩, ⟨8, 0, []⟩, ⟨9, 0, []⟩, ⟨10, 2, []⟩] T.mixed (by kernel_rfl) (by intro _ _ d _ _ h; cases d <;> exact h) rfl (by kernel_rfl) ?_
   have S25 := S14.drew
   generalize w12.drew = w26 at *
   refine WD.p rfl (G.move rfl) rfl ?_
   refine WD.p rfl (G.move rfl) rfl ?_
   refine WD.p rfl (G.nilp rfl) rfl ?_
   refine WD.p rfl (G.field T.fld135_0 rfl (show 0 + 0 = 0 from rfl)) rfl ?_
   refine WD.r rfl (G.load1 T.one43 rfl (cell_blk (S25.blk 1 rfl) rfl)) rfl ?_
   refine WD.r rfl (G.loada T.agg37_3 rfl (cs := [.int .i64 a1.From, .int .i64 a1.To, .string (bs a1.Data)]) (cellsAt.of_blk (S25.blk 0 rfl) rfl)) rfl ?_
   obtain ⟨b27, w28, E29, S30, X31, L32⟩ := St.lit S25 (P := Try.prog) (t := 43) (e := 37) (n := 1) (vs := [(0, .agg #[.int .i64 a1.From, .int .i64 a1.To, .string (bs a1.Data)])]) (cs := #[.int .i64 a1.From, .int .i64 a1.To, .string (bs a1.Data)]) (by kernel_rfl)
   change St _ _ _ [[(b27, .cells #[.int .i64 a1.From, .int .i64 a1.To, .string (bs a1.Data)] 37 (0, 0))], [(b11, .cells #[.int .i64 a1.From, .int .i64 a1.To, .string (bs a1.Data)] 37 (0, 0))], [(p0, .cells #[.slice A5 a0.L.length c6, .int .i64 a0.Time] 135 (0, 0))], G7] at S30
   refine WD.e rfl (E29 (evp_cons rfl evp_nil)) rfl ?_
   obtain ⟨l33, hc34, hF⟩ := bind_some hF
   have S35 := S30.front 3 rfl
   change St _ _ _ [G7, [(b27, .cells #[.int .i64 a1.From, .int .i64 a1.To, .string (bs a1.Data)] 37 (0, 0))], [(b11, .cells #[.int .i64 a1.From, .int .i64 a1.To, .string (bs a1.Data)] 37 (0, 0))], [(p0, .cells #[.slice A5 a0.L.length c6, .int .i64 a0.Time] 135 (0, 0))]] at S35
   obtain ⟨A36, c37, G38, w39, E40, hO41, S42, hk43⟩ := St.appP (P := Try.prog) (r := Packet.rp) (M := ([a1] : List Packet)) S35 T.elt43 rfl hO8 (Rd.of_blk (S35.blk 1 rfl) (n := 1) (sz := 3) rfl) ⟨_, _, [], [], rfl, rfl, ⟨rfl, rfl⟩, ⟨rfl, rfl⟩⟩ rfl hc34
   change St _ _ _ [G38, [(b27, .cells #[.int .i64 a1.From, .int .i64 a1.To, .string (bs a1.Data)] 37 (0, 0))], [(b11, .cells #[.int .i64 a1.From, .int .i64 a1.To, .string (bs a1.Data)] 37 (0, 0))], [(p0, .cells #[.slice A5 a0.L.length c6, .int .i64 a0.Time] 135 (0, 0))]] at S42
   refine WD.e rfl (E40 rfl rfl) rfl ?_
   refine WD.p rfl (G.nilp rfl) rfl ?_
   refine WD.p rfl (G.field T.fld135_0 rfl (show 0 + 0 = 0 from rfl)) rfl ?_
   obtain ⟨w44, E45, S46⟩ := St.store (P := Try.prog) S42 3 43 (.slice A36 l33.length c37) (off := 0) (cur' := #[.slice A36 l33.length c37, .int .i64 a0.Time]) rfl T.size43_1 rfl rfl rfl
   change St _ _ _ [G38, [(b27, .cells #[.int .i64 a1.From, .int .i64 a1.To, .string (bs a1.Data)] 37 (0, 0))], [(b11, .cells #[.int .i64 a1.From, .int .i64 a1.To, .string (bs a1.Data)] 37 (0, 0))], [(p0, .cells #[.slice A36 l33.length c37, .int .i64 a0.Time] 135 (0, 0))]] at S46
   refine WD.u rfl (E45 rfl rfl) ?_
   refine WD.nil ?_
   refine WEx.then_ ?_
   refine WCode.forget (l' := []) trivial ?_
   refine WCode.seq ?_
   refine WCode.region ?_
   refine WOps.p (G.assign rfl) rfl ?_
   refine WOps.nil ?_
   refine WEx.then_ ?_
   refine WCode.ret ?_
   obtain rfl := some_eq hF
   refine WEx.ret1 rfl rfl ?_
   have S47 := S46.front 3 rfl
   change St _ _ _ [[(p0, .cells #[.slice A36 l33.length c37, .int .i64 a0.Time] 135 (0, 0))], G38, [(b27, .cells #[.int .i64 a1.From, .int .i64 a1.To, .string (bs a1.Data)] 37 (0, 0))], [(b11, .cells #[.int .i64 a1.From, .int .i64 a1.To, .string (bs a1.Data)] 37 (0, 0))]] at S47
   have hO48 : ObjO 135 Air135.rp p0 (⟨l33, a0.Time⟩ : Air135) ([(p0, .cells #[.slice A36 l33.length c37, .int .i64 a0.Time] 135 (0, 0))] ++ (G38)) := ⟨_, _, ⟨A36, c37, G38, rfl, hO41, rfl⟩, rfl⟩
   have S49 : St _ _ _ [[(p0, .cells #[.slice A36 l33.length c37, .int .i64 a0.Time] 135 (0, 0))] ++ (G38), [(b27, .cells #[.int .i64 a1.From, .int .i64 a1.To, .string (bs a1.Data)] 37 (0, 0))], [(b11, .cells #[.int .i64 a1.From, .int .i64 a1.To, .string (bs a1.Data)] 37 (0, 0))]] := S47.objs (by simp)
   exact ⟨[(p0, .cells #[.slice A36 l33.length c37, .int .i64 a0.Time] 135 (0, 0))] ++ (G38), rfl, hO48, St.keep (As := [[(p0, .cells #[.slice A36 l33.length c37, .int .i64 a0.Time] 135 (0, 0))] ++ (G38)]) S49⟩

def ya_New (k : Nat) : Option Air := (some (⟨[], 0⟩ : Air))
set_option maxRecDepth 100000 in
set_option maxHeartbeats 1000000 in
theorem ya_New_calls (k : Nat)  {w : World} {r_ : Air} (h_ : ya_New k = some r_) :
    Calls Try.prog 14 [].toArray w fun e w' => ∃ p0' : Nat, ∃ G0' : Grp, e = .returned (.pointer (some ⟨p0', 0, none⟩)) ∧ ObjO 133 Air.rp p0' (r_) G0' ∧ St w (KS []) w' [G0'] := by
 have hF := h_
 clear h_
 unfold ya_New at hF
 have S := St.ofFalse (As := []) (St.init0 w)
 refine enter 3 [] Try.func14 rfl rfl rfl rfl ?_
 refine WCode.seq ?_
 refine WCode.region ?_
 refine WOps.p (G.assign rfl) rfl ?_
 refine WOps.nil ?_
 refine WEx.then_ ?_
 refine WCode.seq ?_
 refine WCode.region ?_
 refine WOps.p (G.build (cells := #[.slice none 0 0, .int .i64 0]) (evp_spec (evp_nil)) (by kernel_rfl)) rfl ?_
 obtain ⟨b1, w2, E3, S4, X5, L6⟩ := St.box S Try.prog 133 (.agg #[.slice none 0 0, .int .i64 0])
 change St _ _ _ [[(b1, .cells #[.slice none 0 0, .int .i64 0] 133 (0, 0))]] at S4
 refine WOps.e (E3 rfl) rfl ?_
 refine WOps.p (G.assign rfl) rfl ?_
 refine WOps.nil ?_
 refine WEx.then_ ?_
 refine WCode.ret ?_
 obtain rfl := some_eq hF
 refine WEx.ret1 rfl rfl ?_
 have S7 := S4.emp
 have S9 := S7.front 1 rfl
 change St _ _ _ [[(b1, .cells #[.slice none 0 0, .int .i64 0] 133 (0, 0))], ([] : Grp)] at S9
 have hO10 : ObjO 133 Air.rp b1 (⟨[], 0⟩ : Air) ([(b1, .cells #[.slice none 0 0, .int .i64 0] 133 (0, 0))] ++ (([] : Grp))) := ⟨_, _, ⟨none, 0, ([] : Grp), rfl, (SlO.nil 37 Packet.rp), rfl⟩, rfl⟩
 have S11 : St _ _ _ [[(b1, .cells #[.slice none 0 0, .int .i64 0] 133 (0, 0))] ++ (([] : Grp))] := S9.objs (by simp)
 exact ⟨b1, [(b1, .cells #[.slice none 0 0, .int .i64 0] 133 (0, 0))] ++ (([] : Grp)), rfl, hO10, St.keep (As := [[(b1, .cells #[.slice none 0 0, .int .i64 0] 133 (0, 0))] ++ (([] : Grp))]) S11⟩

def yr_New (k : Nat) : Option Air135 := (some (⟨[], 0⟩ : Air135))
set_option maxRecDepth 100000 in
set_option maxHeartbeats 1000000 in
theorem yr_New_calls (k : Nat)  {w : World} {r_ : Air135} (h_ : yr_New k = some r_) :
    Calls Try.prog 15 [].toArray w fun e w' => ∃ p0' : Nat, ∃ G0' : Grp, e = .returned (.pointer (some ⟨p0', 0, none⟩)) ∧ ObjO 135 Air135.rp p0' (r_) G0' ∧ St w (KS []) w' [G0'] := by
 have hF := h_
 clear h_
 unfold yr_New at hF
 have S := St.ofFalse (As := []) (St.init0 w)
 refine enter 3 [] Try.func15 rfl rfl rfl rfl ?_
 refine WCode.seq ?_
 refine WCode.region ?_
 refine WOps.p (G.assign rfl) rfl ?_
 refine WOps.nil ?_
 refine WEx.then_ ?_
 refine WCode.seq ?_
 refine WCode.region ?_
 refine WOps.p (G.build (cells := #[.slice none 0 0, .int .i64 0]) (evp_spec (evp_nil)) (by kernel_rfl)) rfl ?_
 obtain ⟨b1, w2, E3, S4, X5, L6⟩ := St.box S Try.prog 135 (.agg #[.slice none 0 0, .int .i64 0])
 change St _ _ _ [[(b1, .cells #[.slice none 0 0, .int .i64 0] 135 (0, 0))]] at S4
 refine WOps.e (E3 rfl) rfl ?_
 refine WOps.p (G.assign rfl) rfl ?_
 refine WOps.nil ?_
 refine WEx.then_ ?_
 refine WCode.ret ?_
 obtain rfl := some_eq hF
 refine WEx.ret1 rfl rfl ?_
 have S7 := S4.emp
 have S9 := S7.front 1 rfl
 change St _ _ _ [[(b1, .cells #[.slice none 0 0, .int .i64 0] 135 (0, 0))], ([] : Grp)] at S9
 have hO10 : ObjO 135 Air135.rp b1 (⟨[], 0⟩ : Air135) ([(b1, .cells #[.slice none 0 0, .int .i64 0] 135 (0, 0))] ++ (([] : Grp))) := ⟨_, _, ⟨none, 0, ([] : Grp), rfl, (SlO.nil 37 Packet.rp), rfl⟩, rfl⟩
 have S11 : St _ _ _ [[(b1, .cells #[.slice none 0 0, .int .i64 0] 135 (0, 0))] ++ (([] : Grp))] := S9.objs (by simp)
 exact ⟨b1, [(b1, .cells #[.slice none 0 0, .int .i64 0] 135 (0, 0))] ++ (([] : Grp)), rfl, hO10, St.keep (As := [[(b1, .cells #[.slice none 0 0, .int .i64 0] 135 (0, 0))] ++ (([] : Grp))]) S11⟩

def ya_Double (k : Nat) (a0 : Air) (a1 : Int) : Option (Int × Air) := (Option.bind (ya_has k a0 a1) fun t11 => (if t11 = true then (Option.bind (idx a0.flying a1) fun x18 => (Option.bind (ya_put k a0 x18) fun t34 => (some (t34.1, t34.2)))) else (some (130, a0))))
set_option maxRecDepth 100000 in
set_option maxHeartbeats 1000000 in
theorem ya_Double_calls (k : Nat) (a0 : Air) {p0 : Nat} {G0 : Grp} (a1 : Int) {w : World} (hO0 : ObjO 133 Air.rp p0 a0 G0) {r_ : Int × Air} (h_ : ya_Double k a0 a1 = some r_) (hp_ : Hp w ([G0]).flatten) :
    Calls Try.prog 21 [.pointer (some ⟨p0, 0, none⟩), .int .i64 a1].toArray w fun e w' => ∃ Go0' : Grp, e = .returned (.int .i64 r_.1) ∧ ObjO 133 Air.rp p0 (r_.2) Go0' ∧ St w (KS [G0]) w' [Go0'] := by
 have hF := h_
 clear h_
 unfold ya_Double at hF
 have S := St.initK [G0] hp_
 obtain ⟨cs1, G2, ho3, hg4⟩ := hO0
 obtain ⟨A5, c6, G7, rfl, hO8, hq9⟩ := ho3
 have S10 : St _ _ _ [[(p0, .cells #[.slice A5 a0.flying.length c6, .int .i64 a0.time] 133 (0, 0))], G7] := S.objs (by rw [hg4, hq9]; simp)
 refine enter 18 [(0, .pointer (some ⟨p0, 0, none⟩)), (1, .int .i64 a1)] Try.func21 rfl rfl rfl rfl ?_
 refine WCode.seq ?_
 refine WCode.region ?_
 refine WOps.p (G.assign rfl) rfl ?_
 refine WOps.nil ?_
 refine WEx.then_ ?_
 refine WCode.seq ?_
 refine WCode.seq ?_
 refine WCode.region ?_
 refine WOps.p (G.move rfl) rfl ?_
 refine WOps.p (G.move rfl) rfl ?_
 obtain ⟨t11, hc12, hF⟩ := bind_some hF
 have hP13 : PtR 133 Air.rp w (KS [[(p0, .cells #[.slice A5 a0.flying.length c6, .int .i64 a0.time] 133 (0, 0))], G7]) p0 a0 := ⟨_, S10.blk 0 rfl, KS_at 0 rfl (by simp [keys]), ⟨A5, c6, rfl, ((hO8.rd (fun b o hb => S10.grp 1 rfl hb)).mono (fun b hb => KS_at 1 rfl hb))⟩⟩
 refine WOps.call T.call76 (evs_cons rfl (evs_cons rfl evs_nil)) rfl ?_
 refine (ya_has_calls k a0 a1 hP13 (St.outN (Bs := []) (As := [[(p0, .cells #[.slice A5 a0.flying.length c6, .int .i64 a0.time] 133 (0, 0))], G7]) S10) hc12).mono ?_
 rintro _ w14 ⟨rfl, T15⟩
 have S16 := St.callN (As := []) S10 T15
 change St _ _ _ [[(p0, .cells #[.slice A5 a0.flying.length c6, .int .i64 a0.time] 133 (0, 0))], G7] at S16
 refine ⟨_, rfl, ?_⟩
 refine WOps.p (G.not rfl rfl) rfl ?_
 refine WOps.nil ?_
 refine WEx.then_ ?_
 rcases ite_some hF with ⟨h17, hF⟩ | ⟨h17, hF⟩
 ·
  refine WCode.cond_f (kb (b := !t11) rfl (show (!t11) = false from by rw [h17]; rfl)) ?_
  refine WCode.skip ?_
  refine WEx.then_ ?_
  refine WCode.seq ?_
  refine WCode.region ?_
  refine WOps.p (G.move rfl) rfl ?_
  refine WOps.p (G.move rfl) rfl ?_
  refine WOps.p (G.nilp rfl) rfl ?_
  refine WOps.p (G.field T.fld133_0 rfl (show 0 + 0 = 0 from rfl)) rfl ?_
  refine WOps.r (G.load1 T.one43 rfl (cell_blk (S16.blk 0 rfl) rfl)) rfl ?_
  refine WOps.p (G.move rfl) rfl ?_
  obtain ⟨x18, hc19, hF⟩ := bind_some hF
  obtain ⟨j20, ej21, hj22, hl23⟩ := idx_spec hc19
  obtain ⟨b24, o25, cs26, eA27, hf28, hc29, hr30⟩ := SlR.at_ (hO8.rd (fun b o hb => S16.grp 1 rfl hb)) hj22
  have hq31 : cs26 = [.int .i64 x18.From, .int .i64 x18.To, .string (bs x18.Data)] := hr30
  subst hq31
  change cellsAt _ _ (o25 + j20 * 3) [.int .i64 x18.From, .int .i64 x18.To, .string (bs x18.Data)] at hc29
  refine WOps.p (G.idx T.el43 rfl eA27 rfl ej21 hl23) rfl ?_
  refine WOps.r (G.loada T.agg37_3 rfl (cs := [.int .i64 x18.From, .int .i64 x18.To, .string (bs x18.Data)]) hc29) rfl ?_
  have hO32 : ObjO 133 Air.rp p0 a0 ([(p0, .cells #[.slice A5 a0.flying.length c6, .int .i64 a0.time] 133 (0, 0))] ++ (G7)) := ⟨_, _, ⟨A5, c6, G7, rfl, hO8, rfl⟩, rfl⟩
  have S33 : St _ _ _ [[(p0, .cells #[.slice A5 a0.flying.length c6, .int .i64 a0.time] 133 (0, 0))] ++ (G7)] := S16.objs (by simp)
  obtain ⟨t34, hc35, hF⟩ := bind_some hF
  refine WOps.call T.call77 (evs_cons rfl (evs_cons rfl evs_nil)) rfl ?_
  refine (ya_put_calls k a0 x18 hO32 hc35 (St.hpN (As := [[(p0, .cells #[.slice A5 a0.flying.length c6, .int .i64 a0.time] 133 (0, 0))] ++ (G7)]) S33)).mono ?_
  rintro _ w36 ⟨G39, rfl, hO40, T37⟩
  have S38 := St.callN (As := [[(p0, .cells #[.slice A5 a0.flying.length c6, .int .i64 a0.time] 133 (0, 0))] ++ (G7)]) S33 T37
  change St _ _ _ [G39] at S38
  refine ⟨_, rfl, ?_⟩
  obtain ⟨cs41, G42, ho43, hg44⟩ := hO40
  obtain ⟨A45, c46, G47, rfl, hO48, hq49⟩ := ho43
  have S50 : St _ _ _ [[(p0, .cells #[.slice A45 t34.2.flying.length c46, .int .i64 t34.2.time] 133 (0, 0))], G47] := S38.objs (by rw [hg44, hq49]; simp)
  refine WOps.p (G.assign rfl) rfl ?_
  refine WOps.nil ?_
  refine WEx.then_ ?_
  refine WCode.forget (l' := [(4, .int .i64 t34.1)]) ⟨rfl, trivial⟩ ?_
  refine WCode.ret ?_
  obtain rfl := some_eq hF
  refine WEx.ret1 rfl rfl ?_
  have hO51 : ObjO 133 Air.rp p0 t34.2 ([(p0, .cells #[.slice A45 t34.2.flying.length c46, .int .i64 t34.2.time] 133 (0, 0))] ++ (G47)) := ⟨_, _, ⟨A45, c46, G47, rfl, hO48, rfl⟩, rfl⟩
  have S52 : St _ _ _ [[(p0, .cells #[.slice A45 t34.2.flying.length c46, .int .i64 t34.2.time] 133 (0, 0))] ++ (G47)] := S50.objs (by simp)
  exact ⟨[(p0, .cells #[.slice A45 t34.2.flying.length c46, .int .i64 t34.2.time] 133 (0, 0))] ++ (G47), rfl, hO51, St.keep (As := [[(p0, .cells #[.slice A45 t34.2.flying.length c46, .int .i64 t34.2.time] 133 (0, 0))] ++ (G47)]) S52⟩
 ·
  refine WCode.cond_t (kb (b := !t11) rfl (show (!t11) = true from by rw [(Bool.eq_false_iff.2 h17)]; rfl)) ?_
  refine WCode.seq ?_
  refine WCode.region ?_
  refine WOps.p (G.assign rfl) rfl ?_
  refine WOps.nil ?_
  refine WEx.then_ ?_
  refine WCode.ret ?_
  refine WEx.then_ret ?_
  obtain rfl := some_eq hF
  refine WEx.ret1 rfl rfl ?_
  have hO53 : ObjO 133 Air.rp p0 a0 ([(p0, .cells #[.slice A5 a0.flying.length c6, .int .i64 a0.time] 133 (0, 0))] ++ (G7)) := ⟨_, _, ⟨A5, c6, G7, rfl, hO8, rfl⟩, rfl⟩
  have S54 : St _ _ _ [[(p0, .cells #[.slice A5 a0.flying.length c6, .int .i64 a0.time] 133 (0, 0))] ++ (G7)] := S16.objs (by simp)
  exact ⟨[(p0, .cells #[.slice A5 a0.flying.length c6, .int .i64 a0.time] 133 (0, 0))] ++ (G7), rfl, hO53, St.keep (As := [[(p0, .cells #[.slice A5 a0.flying.length c6, .int .i64 a0.time] 133 (0, 0))] ++ (G7)]) S54⟩

def yr_Double.j1 (q14 : Nat) (a0 : Air135) (a1 : Int) (b11 : Bool) : Option (Int × Air135) := (if b11 = true then (some (130, a0)) else (if 1000 ≤ (a0.L.length : Int) then (some (132, a0)) else (Option.bind (idx a0.L a1) fun x25 => (Option.bind (cat a0.L ([x25] : List Packet)) fun l46 => (some (0, (⟨l46, a0.Time⟩ : Air135)))))))
def yr_Double (k : Nat) (a0 : Air135) (a1 : Int) : Option (Int × Air135) := (if a1 < 0 then (yr_Double.j1 k a0 a1 true) else (yr_Double.j1 k a0 a1 (decide ((a0.L.length : Int) ≤ a1))))
set_option maxRecDepth 100000 in
set_option maxHeartbeats 1000000 in
theorem yr_Double_calls (k : Nat) (a0 : Air135) {p0 : Nat} {G0 : Grp} (a1 : Int) {w : World} (hO0 : ObjO 135 Air135.rp p0 a0 G0) {r_ : Int × Air135} (h_ : yr_Double k a0 a1 = some r_) (hp_ : Hp w ([G0]).flatten) :
    Calls Try.prog 71 [.pointer (some ⟨p0, 0, none⟩), .int .i64 a1].toArray w fun e w' => ∃ Go0' : Grp, e = .returned (.int .i64 r_.1) ∧ ObjO 135 Air135.rp p0 (r_.2) Go0' ∧ St w (KS [G0]) w' [Go0'] := by
 have hF := h_
 clear h_
 unfold yr_Double at hF
 have S := St.initK [G0] hp_
 obtain ⟨cs1, G2, ho3, hg4⟩ := hO0
 obtain ⟨A5, c6, G7, rfl, hO8, hq9⟩ := ho3
 have S10 : St _ _ _ [[(p0, .cells #[.slice A5 a0.L.length c6, .int .i64 a0.Time] 135 (0, 0))], G7] := S.objs (by rw [hg4, hq9]; simp)
 refine enter 40 [(0, .pointer (some ⟨p0, 0, none⟩)), (1, .int .i64 a1)] Try.func71 rfl rfl rfl rfl ?_
 refine WCode.seq ?_
 refine WCode.region ?_
 refine WOps.p (G.assign rfl) rfl ?_
 refine WOps.nil ?_
 refine WEx.then_ ?_
 refine WCode.seq ?_
 refine WCode.block ?_
 refine WCode.cutseq (fun l_ w_ => ∃ q14 : Nat, ∃ b11 : Bool, l_ = [(0, .pointer (some ⟨p0, 0, none⟩)), (1, .int .i64 a1), (5, .bool b11)] ∧ yr_Double.j1 q14 a0 a1 b11 = some r_ ∧ St w (KS [G0]) w_ [[(p0, .cells #[.slice A5 a0.L.length c6, .int .i64 a0.Time] 135 (0, 0))], G7]) ?_ ?_
 ·
  refine WCode.region ?_
  refine WOps.p (G.move rfl) rfl ?_
  refine WOps.p (G.lss rfl rfl rfl) rfl ?_
  refine WOps.p (G.move rfl) rfl ?_
  rcases ite_some hF with ⟨h16, hF⟩ | ⟨h16, hF⟩
  ·
   refine WOps.off rfl (kbl (b := decide (a1 < 0)) rfl (decide_eq_true h16)) rfl rfl ?_
   refine WOps.off rfl (kbl (b := decide (a1 < 0)) rfl (decide_eq_true h16)) rfl rfl ?_
   refine WOps.off rfl (kbl (b := decide (a1 < 0)) rfl (decide_eq_true h16)) rfl rfl ?_
   refine WOps.off rfl (kbl (b := decide (a1 < 0)) rfl (decide_eq_true h16)) rfl rfl ?_
   refine WOps.off rfl (kbl (b := decide (a1 < 0)) rfl (decide_eq_true h16)) rfl rfl ?_
   refine WOps.off rfl (kbl (b := decide (a1 < 0)) rfl (decide_eq_true h16)) rfl rfl ?_
   refine WOps.off rfl (kbl (b := decide (a1 < 0)) rfl (decide_eq_true h16)) rfl rfl ?_
   refine WOps.p (G.pick_t (kb (b := decide (a1 < 0)) rfl (decide_eq_true h16)) rfl) rfl ?_
   refine WOps.p (G.assign rfl) rfl ?_
   refine WOps.nil ?_
   refine WEx.cutend _ ?_ ⟨k, true, rfl, hF, S10⟩
   exact ⟨rfl, rfl, rfl, trivial⟩
  ·
   refine WOps.on rfl (kbl (b := decide (a1 < 0)) rfl (decide_eq_false h16)) ?_
   refine WOps.p (G.move rfl) rfl ?_
   refine WOps.on rfl (kbl (b := decide (a1 < 0)) rfl (decide_eq_false h16)) ?_
   refine WOps.p (G.move rfl) rfl ?_
   refine WOps.on rfl (kbl (b := decide (a1 < 0)) rfl (decide_eq_false h16)) ?_
   refine WOps.p (G.nilp rfl) rfl ?_
   refine WOps.on rfl (kbl (b := decide (a1 < 0)) rfl (decide_eq_false h16)) ?_
   refine WOps.p (G.field T.fld135_0 rfl (show 0 + 0 = 0 from rfl)) rfl ?_
   refine WOps.on rfl (kbl (b := decide (a1 < 0)) rfl (decide_eq_false h16)) ?_
   refine WOps.r (G.load1 T.one43 rfl (cell_blk (S10.blk 0 rfl) rfl)) rfl ?_
   refine WOps.on rfl (kbl (b := decide (a1 < 0)) rfl (decide_eq_false h16)) ?_
   refine WOps.p (G.len T.el43 rfl) rfl ?_
   refine WOps.on rfl (kbl (b := decide (a1 < 0)) rfl (decide_eq_false h16)) ?_
   refine WOps.p (G.geq rfl rfl rfl) rfl ?_
   refine WOps.p (G.pick_f (kb (b := decide (a1 < 0)) rfl (decide_eq_false h16)) rfl) rfl ?_
   refine WOps.p (G.assign rfl) rfl ?_
   refine WOps.nil ?_
   refine WEx.cutend _ ?_ ⟨k, decide ((a0.L.length : Int) ≤ a1), rfl, hF, S10⟩
   exact ⟨rfl, rfl, rfl, trivial⟩
 ·
  rintro _ w12 ⟨q14, b11, rfl, hF, S13⟩
  unfold yr_Double.j1 at hF
  rcases ite_some hF with ⟨h17, hF⟩ | ⟨h17, hF⟩
  ·
   refine WCode.cond_t (kb (b := b11) rfl h17) ?_
   refine WCode.seq ?_
   refine WCode.region ?_
   refine WOps.p (G.assign rfl) rfl ?_
   refine WOps.nil ?_
   refine WEx.then_ ?_
   refine WCode.ret ?_
   refine WEx.in_ret ?_
   refine WEx.then_ret ?_
   obtain rfl := some_eq hF
   refine WEx.ret1 rfl rfl ?_
   have hO18 : ObjO 135 Air135.rp p0 a0 ([(p0, .cells #[.slice A5 a0.L.length c6, .int .i64 a0.Time] 135 (0, 0))] ++ (G7)) := ⟨_, _, ⟨A5, c6, G7, rfl, hO8, rfl⟩, rfl⟩
   have S19 : St _ _ _ [[(p0, .cells #[.slice A5 a0.L.length c6, .int .i64 a0.Time] 135 (0, 0))] ++ (G7)] := S13.objs (by simp)
   exact ⟨[(p0, .cells #[.slice A5 a0.L.length c6, .int .i64 a0.Time] 135 (0, 0))] ++ (G7), rfl, hO18, St.keep (As := [[(p0, .cells #[.slice A5 a0.L.length c6, .int .i64 a0.Time] 135 (0, 0))] ++ (G7)]) S19⟩
  ·
   refine WCode.cond_f (kb (b := b11) rfl (Bool.eq_false_iff.2 h17)) ?_
   refine WCode.seq ?_
   refine WCode.region ?_
   refine WOps.p (G.move rfl) rfl ?_
   refine WOps.p (G.nilp rfl) rfl ?_
   refine WOps.p (G.field T.fld135_0 rfl (show 0 + 0 = 0 from rfl)) rfl ?_
   refine WOps.r (G.load1 T.one43 rfl (cell_blk (S13.blk 0 rfl) rfl)) rfl ?_
   refine WOps.p (G.len T.el43 rfl) rfl ?_
   refine WOps.p (G.geq rfl rfl rfl) rfl ?_
   refine WOps.p (G.assign rfl) rfl ?_
   refine WOps.nil ?_
   refine WEx.then_ ?_
   rcases ite_some hF with ⟨h20, hF⟩ | ⟨h20, hF⟩
   ·
    refine WCode.cond_t (kb (b := decide (1000 ≤ (a0.L.length : Int))) rfl (decide_eq_true h20)) ?_
    refine WCode.seq ?_
    refine WCode.region ?_
    refine WOps.p (G.assign rfl) rfl ?_
    refine WOps.nil ?_
    refine WEx.then_ ?_
    refine WCode.forget (l' := [(4, .int .i64 132)]) ⟨rfl, trivial⟩ ?_
    refine WCode.ret ?_
    refine WEx.in_ret ?_
    refine WEx.then_ret ?_
    obtain rfl := some_eq hF
    refine WEx.ret1 rfl rfl ?_
    have hO21 : ObjO 135 Air135.rp p0 a0 ([(p0, .cells #[.slice A5 a0.L.length c6, .int .i64 a0.Time] 135 (0, 0))] ++ (G7)) := ⟨_, _, ⟨A5, c6, G7, rfl, hO8, rfl⟩, rfl⟩
    have S22 : St _ _ _ [[(p0, .cells #[.slice A5 a0.L.length c6, .int .i64 a0.Time] 135 (0, 0))] ++ (G7)] := S13.objs (by simp)
    exact ⟨[(p0, .cells #[.slice A5 a0.L.length c6, .int .i64 a0.Time] 135 (0, 0))] ++ (G7), rfl, hO21, St.keep (As := [[(p0, .cells #[.slice A5 a0.L.length c6, .int .i64 a0.Time] 135 (0, 0))] ++ (G7)]) S22⟩
   ·
    refine WCode.cond_f (kb (b := decide (1000 ≤ (a0.L.length : Int))) rfl (decide_eq_false h20)) ?_
    refine WCode.skip ?_
    refine WEx.in_normal ?_
    refine WEx.then_ ?_
    refine WCode.seq ?_
    refine WCode.draw [⟨0, 0, []⟩, ⟨1, 0, []⟩, ⟨2, 0, []⟩, ⟨3, 0, []⟩, ⟨5, 0, []⟩, ⟨6, 0, []⟩, ⟨7, 0, []⟩, ⟨9, 0, []⟩, ⟨4, 1, [13, 14, 15, 16]⟩, ⟨8, 1, [10, 11, 12, 13, 14, 15, 16]⟩, ⟨10, 0, []⟩, ⟨11, 1, [12, 13, 14, 15, 16]⟩, ⟨12, 2, []⟩, ⟨13, 2, []⟩, ⟨14, 0, []⟩, ⟨15, 0, []⟩, ⟨16, 2, []⟩] T.mixed (by kernel_rfl) (by intro _ _ d _ _ h; cases d <;> exact h) rfl (by kernel_rfl) ?_
    have S23 := S13.drew
    generalize w12.drew = w24 at *
    refine WD.p rfl (G.move rfl) rfl ?_
    refine WD.p rfl (G.move rfl) rfl ?_
    refine WD.p rfl (G.nilp rfl) rfl ?_
    refine WD.p rfl (G.field T.fld135_0 rfl (show 0 + 0 = 0 from rfl)) rfl ?_
    refine WD.p rfl (G.move rfl) rfl ?_
    refine WD.p rfl (G.nilp rfl) rfl ?_
    refine WD.p rfl (G.field T.fld135_0 rfl (show 0 + 0 = 0 from rfl)) rfl ?_
    refine WD.p rfl (G.move rfl) rfl ?_
    refine WD.r rfl (G.load1 T.one43 rfl (cell_blk (S23.blk 0 rfl) rfl)) rfl ?_
    refine WD.r rfl (G.load1 T.one43 rfl (cell_blk (S23.blk 0 rfl) rfl)) rfl ?_
    obtain ⟨x25, hc26, hF⟩ := bind_some hF
    obtain ⟨j27, ej28, hj29, hl30⟩ := idx_spec hc26
    obtain ⟨b31, o32, cs33, eA34, hf35, hc36, hr37⟩ := SlR.at_ (hO8.rd (fun b o hb => S23.grp 1 rfl hb)) hj29
    have hq38 : cs33 = [.int .i64 x25.From, .int .i64 x25.To, .string (bs x25.Data)] := hr37
    subst hq38
    change cellsAt _ _ (o32 + j27 * 3) [.int .i64 x25.From, .int .i64 x25.To, .string (bs x25.Data)] at hc36
    refine WD.p rfl (G.idx T.el43 rfl eA34 rfl ej28 hl30) rfl ?_
    refine WD.r rfl (G.loada T.agg37_3 rfl (cs := [.int .i64 x25.From, .int .i64 x25.To, .string (bs x25.Data)]) hc36) rfl ?_
    obtain ⟨b39, w40, E41, S42, X43, L44⟩ := St.lit S23 (P := Try.prog) (t := 43) (e := 37) (n := 1) (vs := [(0, .agg #[.int .i64 x25.From, .int .i64 x25.To, .string (bs x25.Data)])]) (cs := #[.int .i64 x25.From, .int .i64 x25.To, .string (bs x25.Data)]) (by kernel_rfl)
    have c45 := hc36.ext X43
    change St _ _ _ [[(b39, .cells #[.int .i64 x25.From, .int .i64 x25.To, .string (bs x25.Data)] 37 (0, 0))], [(p0, .cells #[.slice A5 a0.L.length c6, .int .i64 a0.Time] 135 (0, 0))], G7] at S42
    refine WD.e rfl (E41 (evp_cons rfl evp_nil)) rfl ?_
    obtain ⟨l46, hc47, hF⟩ := bind_some hF
    have S48 := S42.front 2 rfl
    change St _ _ _ [G7, [(b39, .cells #[.int .i64 x25.From, .int .i64 x25.To, .string (bs x25.Data)] 37 (0, 0))], [(p0, .cells #[.slice A5 a0.L.length c6, .int .i64 a0.Time] 135 (0, 0))]] at S48
    obtain ⟨A49, c50, G51, w52, E53, hO54, S55, hk56⟩ := St.appP (P := Try.prog) (r := Packet.rp) (M := ([x25] : List Packet)) S48 T.elt43 rfl hO8 (Rd.of_blk (S48.blk 1 rfl) (n := 1) (sz := 3) rfl) ⟨_, _, [], [], rfl, rfl, ⟨rfl, rfl⟩, ⟨rfl, rfl⟩⟩ rfl hc47
    change St _ _ _ [G51, [(b39, .cells #[.int .i64 x25.From, .int .i64 x25.To, .string (bs x25.Data)] 37 (0, 0))], [(p0, .cells #[.slice A5 a0.L.length c6, .int .i64 a0.Time] 135 (0, 0))]] at S55
    refine WD.e rfl (E53 rfl rfl) rfl ?_
    refine WD.p rfl (G.nilp rfl) rfl ?_
    refine WD.p rfl (G.field T.fld135_0 rfl (show 0 + 0 = 0 from rfl)) rfl ?_
    obtain ⟨w57, E58, S59⟩ := St.store (P := Try.prog) S55 2 43 (.slice A49 l46.length c50) (off := 0) (cur' := #[.slice A49 l46.length c50, .int .i64 a0.Time]) rfl T.size43_1 rfl rfl rfl
    change St _ _ _ [G51, [(b39, .cells #[.int .i64 x25.From, .int .i64 x25.To, .string (bs x25.Data)] 37 (0, 0))], [(p0, .cells #[.slice A49 l46.length c50, .int .i64 a0.Time] 135 (0, 0))]] at S59
    refine WD.u rfl (E58 rfl rfl) ?_
    refine WD.nil ?_
    refine WEx.then_ ?_
    refine WCode.forget (l' := []) trivial ?_
    refine WCode.seq ?_
    refine WCode.region ?_
    refine WOps.p (G.assign rfl) rfl ?_
    refine WOps.nil ?_
    refine WEx.then_ ?_
    refine WCode.ret ?_
    obtain rfl := some_eq hF
    refine WEx.ret1 rfl rfl ?_
    have S60 := S59.front 2 rfl
    change St _ _ _ [[(p0, .cells #[.slice A49 l46.length c50, .int .i64 a0.Time] 135 (0, 0))], G51, [(b39, .cells #[.int .i64 x25.From, .int .i64 x25.To, .string (bs x25.Data)] 37 (0, 0))]] at S60
    have hO61 : ObjO 135 Air135.rp p0 (⟨l46, a0.Time⟩ : Air135) ([(p0, .cells #[.slice A49 l46.length c50, .int .i64 a0.Time] 135 (0, 0))] ++ (G51)) := ⟨_, _, ⟨A49, c50, G51, rfl, hO54, rfl⟩, rfl⟩
    have S62 : St _ _ _ [[(p0, .cells #[.slice A49 l46.length c50, .int .i64 a0.Time] 135 (0, 0))] ++ (G51), [(b39, .cells #[.int .i64 x25.From, .int .i64 x25.To, .string (bs x25.Data)] 37 (0, 0))]] := S60.objs (by simp)
    exact ⟨[(p0, .cells #[.slice A49 l46.length c50, .int .i64 a0.Time] 135 (0, 0))] ++ (G51), rfl, hO61, St.keep (As := [[(p0, .cells #[.slice A49 l46.length c50, .int .i64 a0.Time] 135 (0, 0))] ++ (G51)]) S62⟩

def yr_Deliver.j1 (q20 : Nat) (a0 : Air135) (a1 : Int) (b17 : Bool) : Option (Packet × Int × Air135) := (if b17 = true then (some ((⟨0, 0, ([] : List UInt8)⟩ : Packet), 130, a0)) else (Option.bind (idx a0.L a1) fun x30 => (Option.bind (cut a0.L 0 a1) fun m54 => (Option.bind (cat ([] : List Packet) m54) fun l57 => (Option.bind (cut a0.L (w64 (a1 + 1)) (a0.L.length : Int)) fun m73 => (Option.bind (cat l57 m73) fun l76 => (some (x30, 0, (⟨l76, a0.Time⟩ : Air135)))))))))
def yr_Deliver (k : Nat) (a0 : Air135) (a1 : Int) : Option (Packet × Int × Air135) := (if a1 < 0 then (yr_Deliver.j1 k a0 a1 true) else (yr_Deliver.j1 k a0 a1 (decide ((a0.L.length : Int) ≤ a1))))
set_option maxRecDepth 100000 in
set_option maxHeartbeats 1000000 in
theorem yr_Deliver_calls (k : Nat) (a0 : Air135) {p0 : Nat} {G0 : Grp} (a1 : Int) {w : World} (hO0 : ObjO 135 Air135.rp p0 a0 G0) {r_ : Packet × Int × Air135} (h_ : yr_Deliver k a0 a1 = some r_) (hp_ : Hp w ([G0]).flatten) :
    Calls Try.prog 69 [.pointer (some ⟨p0, 0, none⟩), .int .i64 a1].toArray w fun e w' => ∃ Go0' : Grp, e = .returned (.tuple #[.agg #[.int .i64 r_.1.From, .int .i64 r_.1.To, .string (bs r_.1.Data)], .int .i64 r_.2.1]) ∧ ObjO 135 Air135.rp p0 (r_.2.2) Go0' ∧ St w (KS [G0]) w' [Go0'] := by
 have hF := h_
 clear h_
 unfold yr_Deliver at hF
 have S := St.initK [G0] hp_
 obtain ⟨cs1, G2, ho3, hg4⟩ := hO0
 obtain ⟨A5, c6, G7, rfl, hO8, hq9⟩ := ho3
 have S10 : St _ _ _ [[(p0, .cells #[.slice A5 a0.L.length c6, .int .i64 a0.Time] 135 (0, 0))], G7] := S.objs (by rw [hg4, hq9]; simp)
 refine enter 48 [(0, .pointer (some ⟨p0, 0, none⟩)), (1, .int .i64 a1)] Try.func69 rfl rfl rfl rfl ?_
 refine WCode.seq ?_
 refine WCode.region ?_
 obtain ⟨b11, w12, E13, S14, X15, L16⟩ := St.var S10 (z := .agg #[.int .i64 0, .int .i64 0, .string (bs ([] : List UInt8))]) T.zero37
 change St _ _ _ [[(b11, .cells #[.int .i64 0, .int .i64 0, .string (bs ([] : List UInt8))] 37 (0, 0))], [(p0, .cells #[.slice A5 a0.L.length c6, .int .i64 a0.Time] 135 (0, 0))], G7] at S14
 refine WOps.e E13 rfl ?_
 refine WOps.p (G.assign rfl) rfl ?_
 refine WOps.nil ?_
 refine WEx.then_ ?_
 refine WCode.seq ?_
 refine WCode.cutseq (fun l_ w_ => ∃ q20 : Nat, ∃ b17 : Bool, l_ = [(0, .pointer (some ⟨p0, 0, none⟩)), (1, .int .i64 a1), (4, .pointer (some ⟨b11, 0, none⟩)), (18, .bool b17)] ∧ yr_Deliver.j1 q20 a0 a1 b17 = some r_ ∧ St w (KS [G0]) w_ [[(b11, .cells #[.int .i64 0, .int .i64 0, .string (bs ([] : List UInt8))] 37 (0, 0))], [(p0, .cells #[.slice A5 a0.L.length c6, .int .i64 a0.Time] 135 (0, 0))], G7]) ?_ ?_
 ·
  refine WCode.region ?_
  refine WOps.p (G.move rfl) rfl ?_
  refine WOps.p (G.lss rfl rfl rfl) rfl ?_
  refine WOps.p (G.move rfl) rfl ?_
  rcases ite_some hF with ⟨h22, hF⟩ | ⟨h22, hF⟩
  ·
   refine WOps.off rfl (kbl (b := decide (a1 < 0)) rfl (decide_eq_true h22)) rfl rfl ?_
   refine WOps.off rfl (kbl (b := decide (a1 < 0)) rfl (decide_eq_true h22)) rfl rfl ?_
   refine WOps.off rfl (kbl (b := decide (a1 < 0)) rfl (decide_eq_true h22)) rfl rfl ?_
   refine WOps.off rfl (kbl (b := decide (a1 < 0)) rfl (decide_eq_true h22)) rfl rfl ?_
   refine WOps.off rfl (kbl (b := decide (a1 < 0)) rfl (decide_eq_true h22)) rfl rfl ?_
   refine WOps.off rfl (kbl (b := decide (a1 < 0)) rfl (decide_eq_true h22)) rfl rfl ?_
   refine WOps.off rfl (kbl (b := decide (a1 < 0)) rfl (decide_eq_true h22)) rfl rfl ?_
   refine WOps.p (G.pick_t (kb (b := decide (a1 < 0)) rfl (decide_eq_true h22)) rfl) rfl ?_
   refine WOps.nil ?_
   refine WEx.cutend _ ?_ ⟨k, true, rfl, hF, S14⟩
   exact ⟨rfl, rfl, rfl, rfl, trivial⟩
  ·
   refine WOps.on rfl (kbl (b := decide (a1 < 0)) rfl (decide_eq_false h22)) ?_
   refine WOps.p (G.move rfl) rfl ?_
   refine WOps.on rfl (kbl (b := decide (a1 < 0)) rfl (decide_eq_false h22)) ?_
   refine WOps.p (G.move rfl) rfl ?_
   refine WOps.on rfl (kbl (b := decide (a1 < 0)) rfl (decide_eq_false h22)) ?_
   refine WOps.p (G.nilp rfl) rfl ?_
   refine WOps.on rfl (kbl (b := decide (a1 < 0)) rfl (decide_eq_false h22)) ?_
   refine WOps.p (G.field T.fld135_0 rfl (show 0 + 0 = 0 from rfl)) rfl ?_
   refine WOps.on rfl (kbl (b := decide (a1 < 0)) rfl (decide_eq_false h22)) ?_
   refine WOps.r (G.load1 T.one43 rfl (cell_blk (S14.blk 1 rfl) rfl)) rfl ?_
   refine WOps.on rfl (kbl (b := decide (a1 < 0)) rfl (decide_eq_false h22)) ?_
   refine WOps.p (G.len T.el43 rfl) rfl ?_
   refine WOps.on rfl (kbl (b := decide (a1 < 0)) rfl (decide_eq_false h22)) ?_
   refine WOps.p (G.geq rfl rfl rfl) rfl ?_
   refine WOps.p (G.pick_f (kb (b := decide (a1 < 0)) rfl (decide_eq_false h22)) rfl) rfl ?_
   refine WOps.nil ?_
   refine WEx.cutend _ ?_ ⟨k, decide ((a0.L.length : Int) ≤ a1), rfl, hF, S14⟩
   exact ⟨rfl, rfl, rfl, rfl, trivial⟩
 ·
  rintro _ w18 ⟨q20, b17, rfl, hF, S19⟩
  unfold yr_Deliver.j1 at hF
  rcases ite_some hF with ⟨h23, hF⟩ | ⟨h23, hF⟩
  ·
   refine WCode.cond_t (kb (b := b17) rfl h23) ?_
   refine WCode.seq ?_
   refine WCode.region ?_
   refine WOps.p (G.build (cells := #[.int .i64 0, .int .i64 0, .string (bs ([] : List UInt8))]) (evp_spec (evp_nil)) (by kernel_rfl)) rfl ?_
   obtain ⟨w24, E25, S26⟩ := St.store (P := Try.prog) S19 0 37 (.agg #[.int .i64 0, .int .i64 0, .string (bs ([] : List UInt8))]) (off := 0) (cur' := #[.int .i64 0, .int .i64 0, .string (bs ([] : List UInt8))]) rfl T.size37_3 rfl rfl rfl
   change St _ _ _ [[(b11, .cells #[.int .i64 0, .int .i64 0, .string (bs ([] : List UInt8))] 37 (0, 0))], [(p0, .cells #[.slice A5 a0.L.length c6, .int .i64 a0.Time] 135 (0, 0))], G7] at S26
   refine WOps.u (E25 rfl rfl) ?_
   refine WOps.p (G.assign rfl) rfl ?_
   refine WOps.nil ?_
   refine WEx.then_ ?_
   refine WCode.ret ?_
   refine WEx.then_ret ?_
   obtain rfl := some_eq hF
   refine WEx.retc1 rfl rfl (cs := [.int .i64 0, .int .i64 0, .string (bs ([] : List UInt8))]) T.agg37_3 (cellsAt.of_blk (S26.blk 0 rfl) rfl) rfl ?_
   have S27 := (S26.front 2 rfl).front 2 rfl
   change St _ _ _ [[(p0, .cells #[.slice A5 a0.L.length c6, .int .i64 a0.Time] 135 (0, 0))], G7, [(b11, .cells #[.int .i64 0, .int .i64 0, .string (bs ([] : List UInt8))] 37 (0, 0))]] at S27
   have hO28 : ObjO 135 Air135.rp p0 a0 ([(p0, .cells #[.slice A5 a0.L.length c6, .int .i64 a0.Time] 135 (0, 0))] ++ (G7)) := ⟨_, _, ⟨A5, c6, G7, rfl, hO8, rfl⟩, rfl⟩
   have S29 : St _ _ _ [[(p0, .cells #[.slice A5 a0.L.length c6, .int .i64 a0.Time] 135 (0, 0))] ++ (G7), [(b11, .cells #[.int .i64 0, .int .i64 0, .string (bs ([] : List UInt8))] 37 (0, 0))]] := S27.objs (by simp)
   exact ⟨[(p0, .cells #[.slice A5 a0.L.length c6, .int .i64 a0.Time] 135 (0, 0))] ++ (G7), rfl, hO28, St.keep (As := [[(p0, .cells #[.slice A5 a0.L.length c6, .int .i64 a0.Time] 135 (0, 0))] ++ (G7)]) S29⟩
  ·
   refine WCode.cond_f (kb (b := b17) rfl (Bool.eq_false_iff.2 h23)) ?_
   refine WCode.skip ?_
   refine WEx.then_ ?_
   refine WCode.seq ?_
   refine WCode.region ?_
   refine WOps.p (G.move rfl) rfl ?_
   refine WOps.p (G.nilp rfl) rfl ?_
   refine WOps.p (G.field T.fld135_0 rfl (show 0 + 0 = 0 from rfl)) rfl ?_
   refine WOps.r (G.load1 T.one43 rfl (cell_blk (S19.blk 1 rfl) rfl)) rfl ?_
   refine WOps.p (G.move rfl) rfl ?_
   obtain ⟨x30, hc31, hF⟩ := bind_some hF
   obtain ⟨j32, ej33, hj34, hl35⟩ := idx_spec hc31
   obtain ⟨b36, o37, cs38, eA39, hf40, hc41, hr42⟩ := SlR.at_ (hO8.rd (fun b o hb => S19.grp 2 rfl hb)) hj34
   have hq43 : cs38 = [.int .i64 x30.From, .int .i64 x30.To, .string (bs x30.Data)] := hr42
   subst hq43
   change cellsAt _ _ (o37 + j32 * 3) [.int .i64 x30.From, .int .i64 x30.To, .string (bs x30.Data)] at hc41
   refine WOps.p (G.idx T.el43 rfl eA39 rfl ej33 hl35) rfl ?_
   refine WOps.r (G.loada T.agg37_3 rfl (cs := [.int .i64 x30.From, .int .i64 x30.To, .string (bs x30.Data)]) hc41) rfl ?_
   obtain ⟨b44, w45, E46, S47, X48, L49⟩ := St.var S19 (z := .agg #[.int .i64 0, .int .i64 0, .string (bs ([] : List UInt8))]) T.zero37
   have c50 := hc41.ext X48
   change St _ _ _ [[(b44, .cells #[.int .i64 0, .int .i64 0, .string (bs ([] : List UInt8))] 37 (0, 0))], [(b11, .cells #[.int .i64 0, .int .i64 0, .string (bs ([] : List UInt8))] 37 (0, 0))], [(p0, .cells #[.slice A5 a0.L.length c6, .int .i64 a0.Time] 135 (0, 0))], G7] at S47
   refine WOps.e E46 rfl ?_
   obtain ⟨w51, E52, S53⟩ := St.store (P := Try.prog) S47 0 37 (.agg #[.int .i64 x30.From, .int .i64 x30.To, .string (bs x30.Data)]) (off := 0) (cur' := #[.int .i64 x30.From, .int .i64 x30.To, .string (bs x30.Data)]) rfl T.size37_3 rfl rfl rfl
   change St _ _ _ [[(b44, .cells #[.int .i64 x30.From, .int .i64 x30.To, .string (bs x30.Data)] 37 (0, 0))], [(b11, .cells #[.int .i64 0, .int .i64 0, .string (bs ([] : List UInt8))] 37 (0, 0))], [(p0, .cells #[.slice A5 a0.L.length c6, .int .i64 a0.Time] 135 (0, 0))], G7] at S53
   refine WOps.u (E52 rfl rfl) ?_
   refine WOps.nil ?_
   refine WEx.then_ ?_
   refine WCode.seq ?_
   refine WCode.region ?_
   refine WOps.p (G.assign rfl) rfl ?_
   refine WOps.nil ?_
   refine WEx.then_ ?_
   refine WCode.seq ?_
   refine WCode.region ?_
   refine WOps.p (G.move rfl) rfl ?_
   refine WOps.p (G.move rfl) rfl ?_
   refine WOps.p (G.nilp rfl) rfl ?_
   refine WOps.p (G.field T.fld135_0 rfl (show 0 + 0 = 0 from rfl)) rfl ?_
   refine WOps.r (G.load1 T.one43 rfl (cell_blk (S53.blk 2 rfl) rfl)) rfl ?_
   refine WOps.p (G.move rfl) rfl ?_
   obtain ⟨m54, hc55, hF⟩ := bind_some hF
   have hv56 := (SlO.toV (u := w) hO8 (S53.nd 3 rfl)).cut_h hc55
   refine WOps.p (G.cut_h T.el43 rfl rfl hc55 (hO8.rd (fun b o hb => S53.grp 3 rfl hb)).cap) rfl ?_
   obtain ⟨l57, hc58, hF⟩ := bind_some hF
   have S59 := S53.emp
   obtain ⟨xs70, he71, hd72⟩ := SlR.Rd (hv56.ext (S59.vw 4 rfl))
   obtain ⟨A61, c62, G63, w65, E66, hO67, S68, hk69⟩ := St.appP (P := Try.prog) (r := Packet.rp) (M := m54) S59 T.elt43 rfl (SlO.nil 37 Packet.rp) hd72 (elems.flat plain_flat he71) rfl hc58
   change St _ _ _ [G63, [(b44, .cells #[.int .i64 x30.From, .int .i64 x30.To, .string (bs x30.Data)] 37 (0, 0))], [(b11, .cells #[.int .i64 0, .int .i64 0, .string (bs ([] : List UInt8))] 37 (0, 0))], [(p0, .cells #[.slice A5 a0.L.length c6, .int .i64 a0.Time] 135 (0, 0))], G7] at S68
   refine WOps.e (E66 rfl rfl) rfl ?_
   refine WOps.p (G.assign rfl) rfl ?_
   refine WOps.nil ?_
   refine WEx.then_ ?_
   refine WCode.forget (l' := [(0, .pointer (some ⟨p0, 0, none⟩)), (1, .int .i64 a1), (4, .pointer (some ⟨b11, 0, none⟩)), (6, .pointer (some ⟨b44, 0, none⟩)), (7, .slice A61 l57.length c62)]) ⟨rfl, rfl, rfl, rfl, rfl, trivial⟩ ?_
   refine WCode.seq ?_
   refine WCode.region ?_
   refine WOps.p (G.move rfl) rfl ?_
   refine WOps.p (G.move rfl) rfl ?_
   refine WOps.p (G.move rfl) rfl ?_
   refine WOps.p (G.nilp rfl) rfl ?_
   refine WOps.p (G.field T.fld135_0 rfl (show 0 + 0 = 0 from rfl)) rfl ?_
   refine WOps.r (G.load1 T.one43 rfl (cell_blk (S68.blk 3 rfl) rfl)) rfl ?_
   refine WOps.p (G.move rfl) rfl ?_
   refine WOps.p (G.add rfl rfl (r := (w64 (a1 + 1))) rfl) rfl ?_
   obtain ⟨m73, hc74, hF⟩ := bind_some hF
   have hv75 := (SlO.toV (u := w) hO8 (S68.nd 4 rfl)).cut_lh hc74
   refine WOps.p (G.cut_l T.el43 rfl rfl hc74) rfl ?_
   obtain ⟨l76, hc77, hF⟩ := bind_some hF
   obtain ⟨xs86, he87, hd88⟩ := SlR.Rd (hv75.ext (S68.vw 4 rfl))
   obtain ⟨A78, c79, G80, w81, E82, hO83, S84, hk85⟩ := St.appP (P := Try.prog) (r := Packet.rp) (M := m73) S68 T.elt43 rfl hO67 hd88 (elems.flat plain_flat he87) rfl hc77
   change St _ _ _ [G80, [(b44, .cells #[.int .i64 x30.From, .int .i64 x30.To, .string (bs x30.Data)] 37 (0, 0))], [(b11, .cells #[.int .i64 0, .int .i64 0, .string (bs ([] : List UInt8))] 37 (0, 0))], [(p0, .cells #[.slice A5 a0.L.length c6, .int .i64 a0.Time] 135 (0, 0))], G7] at S84
   refine WOps.e (E82 rfl rfl) rfl ?_
   refine WOps.p (G.nilp rfl) rfl ?_
   refine WOps.p (G.field T.fld135_0 rfl (show 0 + 0 = 0 from rfl)) rfl ?_
   obtain ⟨w89, E90, S91⟩ := St.store (P := Try.prog) S84 3 43 (.slice A78 l76.length c79) (off := 0) (cur' := #[.slice A78 l76.length c79, .int .i64 a0.Time]) rfl T.size43_1 rfl rfl rfl
   change St _ _ _ [G80, [(b44, .cells #[.int .i64 x30.From, .int .i64 x30.To, .string (bs x30.Data)] 37 (0, 0))], [(b11, .cells #[.int .i64 0, .int .i64 0, .string (bs ([] : List UInt8))] 37 (0, 0))], [(p0, .cells #[.slice A78 l76.length c79, .int .i64 a0.Time] 135 (0, 0))], G7] at S91
   refine WOps.u (E90 rfl rfl) ?_
   refine WOps.nil ?_
   refine WEx.then_ ?_
   refine WCode.forget (l' := [(4, .pointer (some ⟨b11, 0, none⟩)), (6, .pointer (some ⟨b44, 0, none⟩))]) ⟨rfl, rfl, trivial⟩ ?_
   refine WCode.seq ?_
   refine WCode.region ?_
   refine WOps.r (G.loada T.agg37_3 rfl (cs := [.int .i64 x30.From, .int .i64 x30.To, .string (bs x30.Data)]) (cellsAt.of_blk (S91.blk 1 rfl) rfl)) rfl ?_
   obtain ⟨w92, E93, S94⟩ := St.store (P := Try.prog) S91 2 37 (.agg #[.int .i64 x30.From, .int .i64 x30.To, .string (bs x30.Data)]) (off := 0) (cur' := #[.int .i64 x30.From, .int .i64 x30.To, .string (bs x30.Data)]) rfl T.size37_3 rfl rfl rfl
   change St _ _ _ [G80, [(b44, .cells #[.int .i64 x30.From, .int .i64 x30.To, .string (bs x30.Data)] 37 (0, 0))], [(b11, .cells #[.int .i64 x30.From, .int .i64 x30.To, .string (bs x30.Data)] 37 (0, 0))], [(p0, .cells #[.slice A78 l76.length c79, .int .i64 a0.Time] 135 (0, 0))], G7] at S94
   refine WOps.u (E93 rfl rfl) ?_
   refine WOps.p (G.assign rfl) rfl ?_
   refine WOps.nil ?_
   refine WEx.then_ ?_
   refine WCode.ret ?_
   obtain rfl := some_eq hF
   refine WEx.retc1 rfl rfl (cs := [.int .i64 x30.From, .int .i64 x30.To, .string (bs x30.Data)]) T.agg37_3 (cellsAt.of_blk (S94.blk 2 rfl) rfl) rfl ?_
   have S95 := S94.front 3 rfl
   change St _ _ _ [[(p0, .cells #[.slice A78 l76.length c79, .int .i64 a0.Time] 135 (0, 0))], G80, [(b44, .cells #[.int .i64 x30.From, .int .i64 x30.To, .string (bs x30.Data)] 37 (0, 0))], [(b11, .cells #[.int .i64 x30.From, .int .i64 x30.To, .string (bs x30.Data)] 37 (0, 0))], G7] at S95
   have hO96 : ObjO 135 Air135.rp p0 (⟨l76, a0.Time⟩ : Air135) ([(p0, .cells #[.slice A78 l76.length c79, .int .i64 a0.Time] 135 (0, 0))] ++ (G80)) := ⟨_, _, ⟨A78, c79, G80, rfl, hO83, rfl⟩, rfl⟩
   have S97 : St _ _ _ [[(p0, .cells #[.slice A78 l76.length c79, .int .i64 a0.Time] 135 (0, 0))] ++ (G80), [(b44, .cells #[.int .i64 x30.From, .int .i64 x30.To, .string (bs x30.Data)] 37 (0, 0))], [(b11, .cells #[.int .i64 x30.From, .int .i64 x30.To, .string (bs x30.Data)] 37 (0, 0))], G7] := S95.objs (by simp)
   exact ⟨[(p0, .cells #[.slice A78 l76.length c79, .int .i64 a0.Time] 135 (0, 0))] ++ (G80), rfl, hO96, St.keep (As := [[(p0, .cells #[.slice A78 l76.length c79, .int .i64 a0.Time] 135 (0, 0))] ++ (G80)]) S97⟩

def ya_Deliver (k : Nat) (a0 : Air) (a1 : Int) : Option (Packet × Int × Air) := (Option.bind (ya_has k a0 a1) fun t17 => (if t17 = true then (Option.bind (idx a0.flying a1) fun x25 => (Option.bind (cut a0.flying 0 a1) fun m51 => (Option.bind (cut a0.flying (w64 (a1 + 1)) (a0.flying.length : Int)) fun m54 => (Option.bind (cat m51 m54) fun l57 => (some (x25, 0, (⟨l57, a0.time⟩ : Air))))))) else (some ((⟨0, 0, ([] : List UInt8)⟩ : Packet), 130, a0))))
set_option maxRecDepth 100000 in
set_option maxHeartbeats 1000000 in
theorem ya_Deliver_calls (k : Nat) (a0 : Air) {p0 : Nat} {G0 : Grp} (a1 : Int) {w : World} (hO0 : ObjO 133 Air.rp p0 a0 G0) {r_ : Packet × Int × Air} (h_ : ya_Deliver k a0 a1 = some r_) (hp_ : Hp w ([G0]).flatten) :
    Calls Try.prog 19 [.pointer (some ⟨p0, 0, none⟩), .int .i64 a1].toArray w fun e w' => ∃ Go0' : Grp, e = .returned (.tuple #[.agg #[.int .i64 r_.1.From, .int .i64 r_.1.To, .string (bs r_.1.Data)], .int .i64 r_.2.1]) ∧ ObjO 133 Air.rp p0 (r_.2.2) Go0' ∧ St w (KS [G0]) w' [Go0'] := by
 have hF := h_
 clear h_
 unfold ya_Deliver at hF
 have S := St.initK [G0] hp_
 obtain ⟨cs1, G2, ho3, hg4⟩ := hO0
 obtain ⟨A5, c6, G7, rfl, hO8, hq9⟩ := ho3
 have S10 : St _ _ _ [[(p0, .cells #[.slice A5 a0.flying.length c6, .int .i64 a0.time] 133 (0, 0))], G7] := S.objs (by rw [hg4, hq9]; simp)
 refine enter 38 [(0, .pointer (some ⟨p0, 0, none⟩)), (1, .int .i64 a1)] Try.func19 rfl rfl rfl rfl ?_
 refine WCode.seq ?_
 refine WCode.region ?_
 obtain ⟨b11, w12, E13, S14, X15, L16⟩ := St.var S10 (z := .agg #[.int .i64 0, .int .i64 0, .string (bs ([] : List UInt8))]) T.zero37
 change St _ _ _ [[(b11, .cells #[.int .i64 0, .int .i64 0, .string (bs ([] : List UInt8))] 37 (0, 0))], [(p0, .cells #[.slice A5 a0.flying.length c6, .int .i64 a0.time] 133 (0, 0))], G7] at S14
 refine WOps.e E13 rfl ?_
 refine WOps.p (G.assign rfl) rfl ?_
 refine WOps.nil ?_
 refine WEx.then_ ?_
 refine WCode.seq ?_
 refine WCode.seq ?_
 refine WCode.region ?_
 refine WOps.p (G.move rfl) rfl ?_
 refine WOps.p (G.move rfl) rfl ?_
 obtain ⟨t17, hc18, hF⟩ := bind_some hF
 have S19 := (S14.front 2 rfl).front 2 rfl
 change St _ _ _ [[(p0, .cells #[.slice A5 a0.flying.length c6, .int .i64 a0.time] 133 (0, 0))], G7, [(b11, .cells #[.int .i64 0, .int .i64 0, .string (bs ([] : List UInt8))] 37 (0, 0))]] at S19
 have hP20 : PtR 133 Air.rp w12 (KS [[(p0, .cells #[.slice A5 a0.flying.length c6, .int .i64 a0.time] 133 (0, 0))], G7]) p0 a0 := ⟨_, S19.blk 0 rfl, KS_at 0 rfl (by simp [keys]), ⟨A5, c6, rfl, ((hO8.rd (fun b o hb => S19.grp 1 rfl hb)).mono (fun b hb => KS_at 1 rfl hb))⟩⟩
 refine WOps.call T.call76 (evs_cons rfl (evs_cons rfl evs_nil)) rfl ?_
 refine (ya_has_calls k a0 a1 hP20 (St.outN (Bs := []) (As := [[(p0, .cells #[.slice A5 a0.flying.length c6, .int .i64 a0.time] 133 (0, 0))], G7]) S19) hc18).mono ?_
 rintro _ w21 ⟨rfl, T22⟩
 have S23 := St.callN (As := []) S19 T22
 change St _ _ _ [[(p0, .cells #[.slice A5 a0.flying.length c6, .int .i64 a0.time] 133 (0, 0))], G7, [(b11, .cells #[.int .i64 0, .int .i64 0, .string (bs ([] : List UInt8))] 37 (0, 0))]] at S23
 refine ⟨_, rfl, ?_⟩
 refine WOps.p (G.not rfl rfl) rfl ?_
 refine WOps.nil ?_
 refine WEx.then_ ?_
 rcases ite_some hF with ⟨h24, hF⟩ | ⟨h24, hF⟩
 ·
  refine WCode.cond_f (kb (b := !t17) rfl (show (!t17) = false from by rw [h24]; rfl)) ?_
  refine WCode.skip ?_
  refine WEx.then_ ?_
  refine WCode.seq ?_
  refine WCode.region ?_
  refine WOps.p (G.move rfl) rfl ?_
  refine WOps.p (G.nilp rfl) rfl ?_
  refine WOps.p (G.field T.fld133_0 rfl (show 0 + 0 = 0 from rfl)) rfl ?_
  refine WOps.r (G.load1 T.one43 rfl (cell_blk (S23.blk 0 rfl) rfl)) rfl ?_
  refine WOps.p (G.move rfl) rfl ?_
  obtain ⟨x25, hc26, hF⟩ := bind_some hF
  obtain ⟨j27, ej28, hj29, hl30⟩ := idx_spec hc26
  obtain ⟨b31, o32, cs33, eA34, hf35, hc36, hr37⟩ := SlR.at_ (hO8.rd (fun b o hb => S23.grp 1 rfl hb)) hj29
  have hq38 : cs33 = [.int .i64 x25.From, .int .i64 x25.To, .string (bs x25.Data)] := hr37
  subst hq38
  change cellsAt _ _ (o32 + j27 * 3) [.int .i64 x25.From, .int .i64 x25.To, .string (bs x25.Data)] at hc36
  refine WOps.p (G.idx T.el43 rfl eA34 rfl ej28 hl30) rfl ?_
  refine WOps.r (G.loada T.agg37_3 rfl (cs := [.int .i64 x25.From, .int .i64 x25.To, .string (bs x25.Data)]) hc36) rfl ?_
  obtain ⟨b39, w40, E41, S42, X43, L44⟩ := St.var S23 (z := .agg #[.int .i64 0, .int .i64 0, .string (bs ([] : List UInt8))]) T.zero37
  have c45 := hc36.ext X43
  change St _ _ _ [[(b39, .cells #[.int .i64 0, .int .i64 0, .string (bs ([] : List UInt8))] 37 (0, 0))], [(p0, .cells #[.slice A5 a0.flying.length c6, .int .i64 a0.time] 133 (0, 0))], G7, [(b11, .cells #[.int .i64 0, .int .i64 0, .string (bs ([] : List UInt8))] 37 (0, 0))]] at S42
  refine WOps.e E41 rfl ?_
  obtain ⟨w46, E47, S48⟩ := St.store (P := Try.prog) S42 0 37 (.agg #[.int .i64 x25.From, .int .i64 x25.To, .string (bs x25.Data)]) (off := 0) (cur' := #[.int .i64 x25.From, .int .i64 x25.To, .string (bs x25.Data)]) rfl T.size37_3 rfl rfl rfl
  change St _ _ _ [[(b39, .cells #[.int .i64 x25.From, .int .i64 x25.To, .string (bs x25.Data)] 37 (0, 0))], [(p0, .cells #[.slice A5 a0.flying.length c6, .int .i64 a0.time] 133 (0, 0))], G7, [(b11, .cells #[.int .i64 0, .int .i64 0, .string (bs ([] : List UInt8))] 37 (0, 0))]] at S48
  refine WOps.u (E47 rfl rfl) ?_
  refine WOps.nil ?_
  refine WEx.then_ ?_
  refine WCode.forget (l' := [(0, .pointer (some ⟨p0, 0, none⟩)), (1, .int .i64 a1), (4, .pointer (some ⟨b11, 0, none⟩)), (6, .pointer (some ⟨b39, 0, none⟩))]) ⟨rfl, rfl, rfl, rfl, trivial⟩ ?_
  refine WCode.seq ?_
  refine WCode.draw [⟨0, 0, []⟩, ⟨1, 0, []⟩, ⟨2, 0, []⟩, ⟨3, 0, []⟩, ⟨5, 0, []⟩, ⟨6, 0, []⟩, ⟨8, 0, []⟩, ⟨9, 0, []⟩, ⟨10, 0, []⟩, ⟨12, 0, []⟩, ⟨13, 0, []⟩, ⟨4, 1, [7, 15, 16, 17, 18]⟩, ⟨7, 0, []⟩, ⟨11, 1, [14, 15, 16, 17, 18]⟩, ⟨14, 0, []⟩, ⟨15, 2, []⟩, ⟨16, 0, []⟩, ⟨17, 0, []⟩, ⟨18, 2, []⟩] T.mixed (by kernel_rfl) (by intro _ _ d _ _ h; cases d <;> exact h) rfl (by kernel_rfl) ?_
  have S49 := S48.drew
  generalize w46.drew = w50 at *
  refine WD.p rfl (G.move rfl) rfl ?_
  refine WD.p rfl (G.move rfl) rfl ?_
  refine WD.p rfl (G.nilp rfl) rfl ?_
  refine WD.p rfl (G.field T.fld133_0 rfl (show 0 + 0 = 0 from rfl)) rfl ?_
  refine WD.p rfl (G.move rfl) rfl ?_
  refine WD.p rfl (G.move rfl) rfl ?_
  refine WD.p rfl (G.move rfl) rfl ?_
  refine WD.p rfl (G.nilp rfl) rfl ?_
  refine WD.p rfl (G.field T.fld133_0 rfl (show 0 + 0 = 0 from rfl)) rfl ?_
  refine WD.p rfl (G.move rfl) rfl ?_
  refine WD.p rfl (G.add rfl rfl (r := (w64 (a1 + 1))) rfl) rfl ?_
  refine WD.r rfl (G.load1 T.one43 rfl (cell_blk (S49.blk 1 rfl) rfl)) rfl ?_
  obtain ⟨m51, hc52, hF⟩ := bind_some hF
  have hv53 := (SlO.toV (u := w) hO8 (S49.nd 2 rfl)).cut_hm hc52
  refine WD.p rfl (G.cut_hm T.el43 rfl rfl rfl hc52 (hO8.rd (fun b o hb => S49.grp 2 rfl hb)).cap) rfl ?_
  refine WD.r rfl (G.load1 T.one43 rfl (cell_blk (S49.blk 1 rfl) rfl)) rfl ?_
  obtain ⟨m54, hc55, hF⟩ := bind_some hF
  have hv56 := (SlO.toV (u := w) hO8 (S49.nd 2 rfl)).cut_lh hc55
  refine WD.p rfl (G.cut_l T.el43 rfl rfl hc55) rfl ?_
  obtain ⟨l57, hc58, hF⟩ := bind_some hF
  obtain ⟨xs59, he60, hd61⟩ := SlR.Rd (hv56.ext (S49.vw 2 rfl))
  have S67 := S49.front 2 rfl
  change St _ _ _ [G7, [(b39, .cells #[.int .i64 x25.From, .int .i64 x25.To, .string (bs x25.Data)] 37 (0, 0))], [(p0, .cells #[.slice A5 a0.flying.length c6, .int .i64 a0.time] 133 (0, 0))], [(b11, .cells #[.int .i64 0, .int .i64 0, .string (bs ([] : List UInt8))] 37 (0, 0))]] at S67
  obtain ⟨G62, G63, hg64, hO65⟩ := SlO.clip hO8 (fun h => h.2) hc52
  have S66 : St _ _ _ [G62, G63, [(b39, .cells #[.int .i64 x25.From, .int .i64 x25.To, .string (bs x25.Data)] 37 (0, 0))], [(p0, .cells #[.slice A5 a0.flying.length c6, .int .i64 a0.time] 133 (0, 0))], [(b11, .cells #[.int .i64 0, .int .i64 0, .string (bs ([] : List UInt8))] 37 (0, 0))]] := S67.objs (by rw [hg64]; simp)
  obtain ⟨A68, c69, G70, w71, E72, hO73, S74, hk75⟩ := St.appP (P := Try.prog) (r := Packet.rp) (M := m54) S66 T.elt43 rfl hO65 hd61 (elems.flat plain_flat he60) rfl hc58
  change St _ _ _ [G70, G63, [(b39, .cells #[.int .i64 x25.From, .int .i64 x25.To, .string (bs x25.Data)] 37 (0, 0))], [(p0, .cells #[.slice A5 a0.flying.length c6, .int .i64 a0.time] 133 (0, 0))], [(b11, .cells #[.int .i64 0, .int .i64 0, .string (bs ([] : List UInt8))] 37 (0, 0))]] at S74
  refine WD.e rfl (E72 rfl rfl) rfl ?_
  refine WD.p rfl (G.nilp rfl) rfl ?_
  refine WD.p rfl (G.field T.fld133_0 rfl (show 0 + 0 = 0 from rfl)) rfl ?_
  obtain ⟨w76, E77, S78⟩ := St.store (P := Try.prog) S74 3 43 (.slice A68 l57.length c69) (off := 0) (cur' := #[.slice A68 l57.length c69, .int .i64 a0.time]) rfl T.size43_1 rfl rfl rfl
  change St _ _ _ [G70, G63, [(b39, .cells #[.int .i64 x25.From, .int .i64 x25.To, .string (bs x25.Data)] 37 (0, 0))], [(p0, .cells #[.slice A68 l57.length c69, .int .i64 a0.time] 133 (0, 0))], [(b11, .cells #[.int .i64 0, .int .i64 0, .string (bs ([] : List UInt8))] 37 (0, 0))]] at S78
  refine WD.u rfl (E77 rfl rfl) ?_
  refine WD.nil ?_
  refine WEx.then_ ?_
  refine WCode.forget (l' := [(4, .pointer (some ⟨b11, 0, none⟩)), (6, .pointer (some ⟨b39, 0, none⟩))]) ⟨rfl, rfl, trivial⟩ ?_
  refine WCode.seq ?_
  refine WCode.region ?_
  refine WOps.r (G.loada T.agg37_3 rfl (cs := [.int .i64 x25.From, .int .i64 x25.To, .string (bs x25.Data)]) (cellsAt.of_blk (S78.blk 2 rfl) rfl)) rfl ?_
  obtain ⟨w79, E80, S81⟩ := St.store (P := Try.prog) S78 4 37 (.agg #[.int .i64 x25.From, .int .i64 x25.To, .string (bs x25.Data)]) (off := 0) (cur' := #[.int .i64 x25.From, .int .i64 x25.To, .string (bs x25.Data)]) rfl T.size37_3 rfl rfl rfl
  change St _ _ _ [G70, G63, [(b39, .cells #[.int .i64 x25.From, .int .i64 x25.To, .string (bs x25.Data)] 37 (0, 0))], [(p0, .cells #[.slice A68 l57.length c69, .int .i64 a0.time] 133 (0, 0))], [(b11, .cells #[.int .i64 x25.From, .int .i64 x25.To, .string (bs x25.Data)] 37 (0, 0))]] at S81
  refine WOps.u (E80 rfl rfl) ?_
  refine WOps.p (G.assign rfl) rfl ?_
  refine WOps.nil ?_
  refine WEx.then_ ?_
  refine WCode.ret ?_
  obtain rfl := some_eq hF
  refine WEx.retc1 rfl rfl (cs := [.int .i64 x25.From, .int .i64 x25.To, .string (bs x25.Data)]) T.agg37_3 (cellsAt.of_blk (S81.blk 4 rfl) rfl) rfl ?_
  have S82 := S81.front 3 rfl
  change St _ _ _ [[(p0, .cells #[.slice A68 l57.length c69, .int .i64 a0.time] 133 (0, 0))], G70, G63, [(b39, .cells #[.int .i64 x25.From, .int .i64 x25.To, .string (bs x25.Data)] 37 (0, 0))], [(b11, .cells #[.int .i64 x25.From, .int .i64 x25.To, .string (bs x25.Data)] 37 (0, 0))]] at S82
  have hO83 : ObjO 133 Air.rp p0 (⟨l57, a0.time⟩ : Air) ([(p0, .cells #[.slice A68 l57.length c69, .int .i64 a0.time] 133 (0, 0))] ++ (G70)) := ⟨_, _, ⟨A68, c69, G70, rfl, hO73, rfl⟩, rfl⟩
  have S84 : St _ _ _ [[(p0, .cells #[.slice A68 l57.length c69, .int .i64 a0.time] 133 (0, 0))] ++ (G70), G63, [(b39, .cells #[.int .i64 x25.From, .int .i64 x25.To, .string (bs x25.Data)] 37 (0, 0))], [(b11, .cells #[.int .i64 x25.From, .int .i64 x25.To, .string (bs x25.Data)] 37 (0, 0))]] := S82.objs (by simp)
  exact ⟨[(p0, .cells #[.slice A68 l57.length c69, .int .i64 a0.time] 133 (0, 0))] ++ (G70), rfl, hO83, St.keep (As := [[(p0, .cells #[.slice A68 l57.length c69, .int .i64 a0.time] 133 (0, 0))] ++ (G70)]) S84⟩
 ·
  refine WCode.cond_t (kb (b := !t17) rfl (show (!t17) = true from by rw [(Bool.eq_false_iff.2 h24)]; rfl)) ?_
  refine WCode.seq ?_
  refine WCode.region ?_
  refine WOps.p (G.build (cells := #[.int .i64 0, .int .i64 0, .string (bs ([] : List UInt8))]) (evp_spec (evp_nil)) (by kernel_rfl)) rfl ?_
  obtain ⟨w85, E86, S87⟩ := St.store (P := Try.prog) S23 2 37 (.agg #[.int .i64 0, .int .i64 0, .string (bs ([] : List UInt8))]) (off := 0) (cur' := #[.int .i64 0, .int .i64 0, .string (bs ([] : List UInt8))]) rfl T.size37_3 rfl rfl rfl
  change St _ _ _ [[(p0, .cells #[.slice A5 a0.flying.length c6, .int .i64 a0.time] 133 (0, 0))], G7, [(b11, .cells #[.int .i64 0, .int .i64 0, .string (bs ([] : List UInt8))] 37 (0, 0))]] at S87
  refine WOps.u (E86 rfl rfl) ?_
  refine WOps.p (G.assign rfl) rfl ?_
  refine WOps.nil ?_
  refine WEx.then_ ?_
  refine WCode.ret ?_
  refine WEx.then_ret ?_
  obtain rfl := some_eq hF
  refine WEx.retc1 rfl rfl (cs := [.int .i64 0, .int .i64 0, .string (bs ([] : List UInt8))]) T.agg37_3 (cellsAt.of_blk (S87.blk 2 rfl) rfl) rfl ?_
  have hO88 : ObjO 133 Air.rp p0 a0 ([(p0, .cells #[.slice A5 a0.flying.length c6, .int .i64 a0.time] 133 (0, 0))] ++ (G7)) := ⟨_, _, ⟨A5, c6, G7, rfl, hO8, rfl⟩, rfl⟩
  have S89 : St _ _ _ [[(p0, .cells #[.slice A5 a0.flying.length c6, .int .i64 a0.time] 133 (0, 0))] ++ (G7), [(b11, .cells #[.int .i64 0, .int .i64 0, .string (bs ([] : List UInt8))] 37 (0, 0))]] := S87.objs (by simp)
  exact ⟨[(p0, .cells #[.slice A5 a0.flying.length c6, .int .i64 a0.time] 133 (0, 0))] ++ (G7), rfl, hO88, St.keep (As := [[(p0, .cells #[.slice A5 a0.flying.length c6, .int .i64 a0.time] 133 (0, 0))] ++ (G7)]) S89⟩

def ya_Drop (k : Nat) (a0 : Air) (a1 : Int) : Option (Int × Air) := (Option.bind (ya_Deliver k a0 a1) fun t13 => (some (t13.2.1, t13.2.2)))
set_option maxRecDepth 100000 in
set_option maxHeartbeats 1000000 in
theorem ya_Drop_calls (k : Nat) (a0 : Air) {p0 : Nat} {G0 : Grp} (a1 : Int) {w : World} (hO0 : ObjO 133 Air.rp p0 a0 G0) {r_ : Int × Air} (h_ : ya_Drop k a0 a1 = some r_) (hp_ : Hp w ([G0]).flatten) :
    Calls Try.prog 20 [.pointer (some ⟨p0, 0, none⟩), .int .i64 a1].toArray w fun e w' => ∃ Go0' : Grp, e = .returned (.int .i64 r_.1) ∧ ObjO 133 Air.rp p0 (r_.2) Go0' ∧ St w (KS [G0]) w' [Go0'] := by
 have hF := h_
 clear h_
 unfold ya_Drop at hF
 have S := St.initK [G0] hp_
 obtain ⟨cs1, G2, ho3, hg4⟩ := hO0
 obtain ⟨A5, c6, G7, rfl, hO8, hq9⟩ := ho3
 have S10 : St _ _ _ [[(p0, .cells #[.slice A5 a0.flying.length c6, .int .i64 a0.time] 133 (0, 0))], G7] := S.objs (by rw [hg4, hq9]; simp)
 refine enter 14 [(0, .pointer (some ⟨p0, 0, none⟩)), (1, .int .i64 a1)] Try.func20 rfl rfl rfl rfl ?_
 refine WCode.seq ?_
 refine WCode.region ?_
 refine WOps.p (G.assign rfl) rfl ?_
 refine WOps.nil ?_
 refine WEx.then_ ?_
 refine WCode.seq ?_
 refine WCode.region ?_
 refine WOps.p (G.move rfl) rfl ?_
 refine WOps.p (G.move rfl) rfl ?_
 have hO11 : ObjO 133 Air.rp p0 a0 ([(p0, .cells #[.slice A5 a0.flying.length c6, .int .i64 a0.time] 133 (0, 0))] ++ (G7)) := ⟨_, _, ⟨A5, c6, G7, rfl, hO8, rfl⟩, rfl⟩
 have S12 : St _ _ _ [[(p0, .cells #[.slice A5 a0.flying.length c6, .int .i64 a0.time] 133 (0, 0))] ++ (G7)] := S10.objs (by simp)
 obtain ⟨t13, hc14, hF⟩ := bind_some hF
 refine WOps.call T.call19 (evs_cons rfl (evs_cons rfl evs_nil)) rfl ?_
 refine (ya_Deliver_calls k a0 a1 hO11 hc14 (St.hpN (As := [[(p0, .cells #[.slice A5 a0.flying.length c6, .int .i64 a0.time] 133 (0, 0))] ++ (G7)]) S12)).mono ?_
 rintro _ w15 ⟨G18, rfl, hO19, T16⟩
 have S17 := St.callN (As := [[(p0, .cells #[.slice A5 a0.flying.length c6, .int .i64 a0.time] 133 (0, 0))] ++ (G7)]) S12 T16
 change St _ _ _ [G18] at S17
 refine ⟨_, rfl, ?_⟩
 obtain ⟨cs20, G21, ho22, hg23⟩ := hO19
 obtain ⟨A24, c25, G26, rfl, hO27, hq28⟩ := ho22
 have S29 : St _ _ _ [[(p0, .cells #[.slice A24 t13.2.2.flying.length c25, .int .i64 t13.2.2.time] 133 (0, 0))], G26] := S17.objs (by rw [hg23, hq28]; simp)
 refine WOps.p (G.move rfl) rfl ?_
 refine WOps.p (G.extract rfl rfl) rfl ?_
 refine WOps.p (G.extract rfl rfl) rfl ?_
 obtain ⟨b30, w31, E32, S33, X34, L35⟩ := St.var S29 (z := .agg #[.int .i64 0, .int .i64 0, .string (bs ([] : List UInt8))]) T.zero37
 change St _ _ _ [[(b30, .cells #[.int .i64 0, .int .i64 0, .string (bs ([] : List UInt8))] 37 (0, 0))], [(p0, .cells #[.slice A24 t13.2.2.flying.length c25, .int .i64 t13.2.2.time] 133 (0, 0))], G26] at S33
 refine WOps.e E32 rfl ?_
 obtain ⟨w36, E37, S38⟩ := St.store (P := Try.prog) S33 0 37 (.agg #[.int .i64 t13.1.From, .int .i64 t13.1.To, .string (bs t13.1.Data)]) (off := 0) (cur' := #[.int .i64 t13.1.From, .int .i64 t13.1.To, .string (bs t13.1.Data)]) rfl T.size37_3 rfl rfl rfl
 change St _ _ _ [[(b30, .cells #[.int .i64 t13.1.From, .int .i64 t13.1.To, .string (bs t13.1.Data)] 37 (0, 0))], [(p0, .cells #[.slice A24 t13.2.2.flying.length c25, .int .i64 t13.2.2.time] 133 (0, 0))], G26] at S38
 refine WOps.u (E37 rfl rfl) ?_
 refine WOps.p (G.assign rfl) rfl ?_
 refine WOps.nil ?_
 refine WEx.then_ ?_
 refine WCode.forget (l' := [(6, .int .i64 t13.2.1)]) ⟨rfl, trivial⟩ ?_
 refine WCode.seq ?_
 refine WCode.region ?_
 refine WOps.p (G.move rfl) rfl ?_
 refine WOps.p (G.assign rfl) rfl ?_
 refine WOps.nil ?_
 refine WEx.then_ ?_
 refine WCode.ret ?_
 obtain rfl := some_eq hF
 refine WEx.ret1 rfl rfl ?_
 have S39 := (S38.front 2 rfl).front 2 rfl
 change St _ _ _ [[(p0, .cells #[.slice A24 t13.2.2.flying.length c25, .int .i64 t13.2.2.time] 133 (0, 0))], G26, [(b30, .cells #[.int .i64 t13.1.From, .int .i64 t13.1.To, .string (bs t13.1.Data)] 37 (0, 0))]] at S39
 have hO40 : ObjO 133 Air.rp p0 t13.2.2 ([(p0, .cells #[.slice A24 t13.2.2.flying.length c25, .int .i64 t13.2.2.time] 133 (0, 0))] ++ (G26)) := ⟨_, _, ⟨A24, c25, G26, rfl, hO27, rfl⟩, rfl⟩
 have S41 : St _ _ _ [[(p0, .cells #[.slice A24 t13.2.2.flying.length c25, .int .i64 t13.2.2.time] 133 (0, 0))] ++ (G26), [(b30, .cells #[.int .i64 t13.1.From, .int .i64 t13.1.To, .string (bs t13.1.Data)] 37 (0, 0))]] := S39.objs (by simp)
 exact ⟨[(p0, .cells #[.slice A24 t13.2.2.flying.length c25, .int .i64 t13.2.2.time] 133 (0, 0))] ++ (G26), rfl, hO40, St.keep (As := [[(p0, .cells #[.slice A24 t13.2.2.flying.length c25, .int .i64 t13.2.2.time] 133 (0, 0))] ++ (G26)]) S41⟩

def yr_Drop (k : Nat) (a0 : Air135) (a1 : Int) : Option (Int × Air135) := (Option.bind (yr_Deliver k a0 a1) fun t13 => (some (t13.2.1, t13.2.2)))
set_option maxRecDepth 100000 in
set_option maxHeartbeats 1000000 in
theorem yr_Drop_calls (k : Nat) (a0 : Air135) {p0 : Nat} {G0 : Grp} (a1 : Int) {w : World} (hO0 : ObjO 135 Air135.rp p0 a0 G0) {r_ : Int × Air135} (h_ : yr_Drop k a0 a1 = some r_) (hp_ : Hp w ([G0]).flatten) :
    Calls Try.prog 70 [.pointer (some ⟨p0, 0, none⟩), .int .i64 a1].toArray w fun e w' => ∃ Go0' : Grp, e = .returned (.int .i64 r_.1) ∧ ObjO 135 Air135.rp p0 (r_.2) Go0' ∧ St w (KS [G0]) w' [Go0'] := by
 have hF := h_
 clear h_
 unfold yr_Drop at hF
 have S := St.initK [G0] hp_
 obtain ⟨cs1, G2, ho3, hg4⟩ := hO0
 obtain ⟨A5, c6, G7, rfl, hO8, hq9⟩ := ho3
 have S10 : St _ _ _ [[(p0, .cells #[.slice A5 a0.L.length c6, .int .i64 a0.Time] 135 (0, 0))], G7] := S.objs (by rw [hg4, hq9]; simp)
 refine enter 14 [(0, .pointer (some ⟨p0, 0, none⟩)), (1, .int .i64 a1)] Try.func70 rfl rfl rfl rfl ?_
 refine WCode.seq ?_
 refine WCode.region ?_
 refine WOps.p (G.assign rfl) rfl ?_
 refine WOps.nil ?_
 refine WEx.then_ ?_
 refine WCode.seq ?_
 refine WCode.region ?_
 refine WOps.p (G.move rfl) rfl ?_
 refine WOps.p (G.move rfl) rfl ?_
 have hO11 : ObjO 135 Air135.rp p0 a0 ([(p0, .cells #[.slice A5 a0.L.length c6, .int .i64 a0.Time] 135 (0, 0))] ++ (G7)) := ⟨_, _, ⟨A5, c6, G7, rfl, hO8, rfl⟩, rfl⟩
 have S12 : St _ _ _ [[(p0, .cells #[.slice A5 a0.L.length c6, .int .i64 a0.Time] 135 (0, 0))] ++ (G7)] := S10.objs (by simp)
 obtain ⟨t13, hc14, hF⟩ := bind_some hF
 refine WOps.call T.call69 (evs_cons rfl (evs_cons rfl evs_nil)) rfl ?_
 refine (yr_Deliver_calls k a0 a1 hO11 hc14 (St.hpN (As := [[(p0, .cells #[.slice A5 a0.L.length c6, .int .i64 a0.Time] 135 (0, 0))] ++ (G7)]) S12)).mono ?_
 rintro _ w15 ⟨G18, rfl, hO19, T16⟩
 have S17 := St.callN (As := [[(p0, .cells #[.slice A5 a0.L.length c6, .int .i64 a0.Time] 135 (0, 0))] ++ (G7)]) S12 T16
 change St _ _ _ [G18] at S17
 refine ⟨_, rfl, ?_⟩
 obtain ⟨cs20, G21, ho22, hg23⟩ := hO19
 obtain ⟨A24, c25, G26, rfl, hO27, hq28⟩ := ho22
 have S29 : St _ _ _ [[(p0, .cells #[.slice A24 t13.2.2.L.length c25, .int .i64 t13.2.2.Time] 135 (0, 0))], G26] := S17.objs (by rw [hg23, hq28]; simp)
 refine WOps.p (G.move rfl) rfl ?_
 refine WOps.p (G.extract rfl rfl) rfl ?_
 refine WOps.p (G.extract rfl rfl) rfl ?_
 obtain ⟨b30, w31, E32, S33, X34, L35⟩ := St.var S29 (z := .agg #[.int .i64 0, .int .i64 0, .string (bs ([] : List UInt8))]) T.zero37
 change St _ _ _ [[(b30, .cells #[.int .i64 0, .int .i64 0, .string (bs ([] : List UInt8))] 37 (0, 0))], [(p0, .cells #[.slice A24 t13.2.2.L.length c25, .int .i64 t13.2.2.Time] 135 (0, 0))], G26] at S33
 refine WOps.e E32 rfl ?_
 obtain ⟨w36, E37, S38⟩ := St.store (P := Try.prog) S33 0 37 (.agg #[.int .i64 t13.1.From, .int .i64 t13.1.To, .string (bs t13.1.Data)]) (off := 0) (cur' := #[.int .i64 t13.1.From, .int .i64 t13.1.To, .string (bs t13.1.Data)]) rfl T.size37_3 rfl rfl rfl
 change St _ _ _ [[(b30, .cells #[.int .i64 t13.1.From, .int .i64 t13.1.To, .string (bs t13.1.Data)] 37 (0, 0))], [(p0, .cells #[.slice A24 t13.2.2.L.length c25, .int .i64 t13.2.2.Time] 135 (0, 0))], G26] at S38
 refine WOps.u (E37 rfl rfl) ?_
 refine WOps.p (G.assign rfl) rfl ?_
 refine WOps.nil ?_
 refine WEx.then_ ?_
 refine WCode.forget (l' := [(6, .int .i64 t13.2.1)]) ⟨rfl, trivial⟩ ?_
 refine WCode.seq ?_
 refine WCode.region ?_
 refine WOps.p (G.move rfl) rfl ?_
 refine WOps.p (G.assign rfl) rfl ?_
 refine WOps.nil ?_
 refine WEx.then_ ?_
 refine WCode.ret ?_
 obtain rfl := some_eq hF
 refine WEx.ret1 rfl rfl ?_
 have S39 := (S38.front 2 rfl).front 2 rfl
 change St _ _ _ [[(p0, .cells #[.slice A24 t13.2.2.L.length c25, .int .i64 t13.2.2.Time] 135 (0, 0))], G26, [(b30, .cells #[.int .i64 t13.1.From, .int .i64 t13.1.To, .string (bs t13.1.Data)] 37 (0, 0))]] at S39
 have hO40 : ObjO 135 Air135.rp p0 t13.2.2 ([(p0, .cells #[.slice A24 t13.2.2.L.length c25, .int .i64 t13.2.2.Time] 135 (0, 0))] ++ (G26)) := ⟨_, _, ⟨A24, c25, G26, rfl, hO27, rfl⟩, rfl⟩
 have S41 : St _ _ _ [[(p0, .cells #[.slice A24 t13.2.2.L.length c25, .int .i64 t13.2.2.Time] 135 (0, 0))] ++ (G26), [(b30, .cells #[.int .i64 t13.1.From, .int .i64 t13.1.To, .string (bs t13.1.Data)] 37 (0, 0))]] := S39.objs (by simp)
 exact ⟨[(p0, .cells #[.slice A24 t13.2.2.L.length c25, .int .i64 t13.2.2.Time] 135 (0, 0))] ++ (G26), rfl, hO40, St.keep (As := [[(p0, .cells #[.slice A24 t13.2.2.L.length c25, .int .i64 t13.2.2.Time] 135 (0, 0))] ++ (G26)]) S41⟩

def yr_Flying (k : Nat) (a0 : Air135) : Option (List Packet) := (Option.bind (cat ([] : List Packet) a0.L) fun l9 => (some l9))
set_option maxRecDepth 100000 in
set_option maxHeartbeats 1000000 in
theorem yr_Flying_calls (k : Nat) (a0 : Air135) {p0 : Nat} {F0 : Nat → Prop} {w : World} (hP0 : PtR 135 Air135.rp w F0 p0 a0) (hF0 : ∀ b, F0 b → NK w [] b) {r_ : (List Packet)} (h_ : yr_Flying k a0 = some r_) :
    Calls Try.prog 72 [.pointer (some ⟨p0, 0, none⟩)].toArray w fun e w' => ∃ A0' : Option Addr, ∃ c0' : Nat, ∃ G0' : Grp, e = .returned (.slice A0' (r_).length c0') ∧ SlO 37 Packet.rp (.slice A0' (r_).length c0') (r_) G0' ∧ St w (KS []) w' [G0'] := by
 have hF := h_
 clear h_
 unfold yr_Flying at hF
 have S := St.ofFalse (As := []) (St.init0 w)
 have hPq5 := hP0
 obtain ⟨cs1, hB2, hf3, A6, c7, hq4, hR8⟩ := hPq5
 subst hq4
 change _ = some (Obj.cells #[.slice A6 a0.L.length c7, .int .i64 a0.Time] 135 (0, 0)) at hB2
 refine enter 8 [(0, .pointer (some ⟨p0, 0, none⟩))] Try.func72 rfl rfl rfl rfl ?_
 refine WCode.seq ?_
 refine WCode.region ?_
 refine WOps.p (G.assign rfl) rfl ?_
 refine WOps.nil ?_
 refine WEx.then_ ?_
 refine WCode.seq ?_
 refine WCode.region ?_
 refine WOps.p (G.move rfl) rfl ?_
 refine WOps.p (G.nilp rfl) rfl ?_
 refine WOps.p (G.field T.fld135_0 rfl (show 0 + 0 = 0 from rfl)) rfl ?_
 refine WOps.r (G.load1 T.one43 rfl (cell_blk ((S.fr p0 (lt_of_blk hB2) (hF0 p0 hf3).1).trans hB2) rfl)) rfl ?_
 obtain ⟨l9, hc10, hF⟩ := bind_some hF
 have S11 := S.emp
 obtain ⟨xs21, he22, hd23⟩ := SlR.Rd (hR8.ext (S11.keepF hF0))
 obtain ⟨A13, c14, G15, w16, E17, hO18, S19, hk20⟩ := St.appP (P := Try.prog) (r := Packet.rp) (M := a0.L) S11 T.elt43 rfl (SlO.nil 37 Packet.rp) hd23 (elems.flat plain_flat he22) rfl hc10
 change St _ _ _ [G15] at S19
 refine WOps.e (E17 rfl rfl) rfl ?_
 refine WOps.p (G.assign rfl) rfl ?_
 refine WOps.nil ?_
 refine WEx.then_ ?_
 refine WCode.ret ?_
 obtain rfl := some_eq hF
 refine WEx.ret1 rfl rfl ?_
 exact ⟨A13, c14, G15, rfl, hO18, St.keep (As := [G15]) S19⟩

mutual
def ysize.j1 : Nat → List Op → Int → Int → Bool → Option Int
  | 0, _, _, _, _ => none
  | k14 + 1, a0, x1, x2, b8 => (if b8 = true then (Option.bind (idx a0 x2) fun x18 => (Option.bind (idx a0 x2) fun x32 => (Option.bind (ypick k14 x18.Many 1101) fun t46 => (Option.bind (yadd k14 (x32.P.Data.length : Int) 100) fun t51 => (Option.bind (yadd k14 100000 (w64 ((w64 (t46 + 1)) * (min t51 2147483647)))) fun t56 => (Option.bind (yadd k14 x1 t56) fun t61 => (ysize.l1 k14 a0 t61 (w64 (x2 + 1))))))))) else (some x1))
def ysize.l1 : Nat → List Op → Int → Int → Option Int
  | 0, _, _, _ => none
  | k5 + 1, a0, x1, x2 => (if x2 < (a0.length : Int) then (ysize.j1 k5 a0 x1 x2 (decide (x1 ≤ 2147483647))) else (ysize.j1 k5 a0 x1 x2 false))
end
def ysize (k : Nat) (a0 : List Op) : Option Int := (ysize.l1 k a0 0 0)
set_option maxRecDepth 100000 in
set_option maxHeartbeats 1000000 in
theorem ysize_calls (k : Nat) (a0 : List Op) {A0 : Option Addr} {c0 : Nat} {F0 : Nat → Prop} {w : World} (hR0 : SlR Op.rp w F0 A0 c0 a0) (hF0 : ∀ b, F0 b → NK w [] b) {r_ : Int} (h_ : ysize k a0 = some r_) :
    Calls Try.prog 12 [.slice A0 a0.length c0].toArray w fun e w' => e = .returned (.int .i64 r_) ∧ St w (KS []) w' [] := by
 have hF := h_
 clear h_
 unfold ysize at hF
 have S := St.ofFalse (As := []) (St.init0 w)
 refine enter 36 [(0, .slice A0 a0.length c0)] Try.func12 rfl rfl rfl rfl ?_
 refine WCode.seq ?_
 refine WCode.region ?_
 refine WOps.p (G.assign rfl) rfl ?_
 refine WOps.nil ?_
 refine WEx.then_ ?_
 refine WCode.seq ?_
 refine WCode.region ?_
 refine WOps.p (G.assign rfl) rfl ?_
 refine WOps.nil ?_
 refine WEx.then_ ?_
 refine WCode.seq ?_
 refine WCode.seq ?_
 refine WCode.region ?_
 refine WOps.p (G.assign rfl) rfl ?_
 refine WOps.nil ?_
 refine WEx.then_ ?_
 refine WCode.block ?_
 refine WCode.forget (l' := [(0, .slice A0 a0.length c0), (3, .int .i64 0), (4, .int .i64 0)]) ⟨rfl, rfl, rfl, trivial⟩ ?_
 refine WCode.loop (fun n_ l_ w_ => ∃ x1 : Int, ∃ x2 : Int, l_ = [(0, .slice A0 a0.length c0), (3, .int .i64 x1), (4, .int .i64 x2)] ∧ ysize.l1 n_ a0 x1 x2 = some r_ ∧ St w (KS []) w_ []) k ⟨0, 0, rfl, hF, S⟩ ?_
 rintro n6 _ w3 ⟨x1, x2, rfl, hF, S4⟩
 obtain _ | k5 := n6
 · exact nomatch (show (none : Option Int) = some r_ from hF)
 rw [ysize.l1] at hF
 refine WCode.seq ?_
 refine WCode.cutseq (fun l_ w_ => ∃ q11 : Nat, ∃ b8 : Bool, l_ = [(0, .slice A0 a0.length c0), (3, .int .i64 x1), (4, .int .i64 x2), (12, .bool b8)] ∧ ysize.j1 q11 a0 x1 x2 b8 = some r_ ∧ q11 ≤ k5 ∧ St w (KS []) w_ []) ?_ ?_
 ·
  refine WCode.region ?_
  refine WOps.p (G.move rfl) rfl ?_
  refine WOps.p (G.move rfl) rfl ?_
  refine WOps.p (G.len T.el22 rfl) rfl ?_
  refine WOps.p (G.lss rfl rfl rfl) rfl ?_
  refine WOps.p (G.move rfl) rfl ?_
  rcases ite_some hF with ⟨h13, hF⟩ | ⟨h13, hF⟩
  ·
   refine WOps.on rfl (kbl (b := decide (x2 < (a0.length : Int))) rfl (decide_eq_true h13)) ?_
   refine WOps.p (G.move rfl) rfl ?_
   refine WOps.on rfl (kbl (b := decide (x2 < (a0.length : Int))) rfl (decide_eq_true h13)) ?_
   refine WOps.p (G.leq rfl rfl rfl) rfl ?_
   refine WOps.p (G.pick_t (kb (b := decide (x2 < (a0.length : Int))) rfl (decide_eq_true h13)) rfl) rfl ?_
   refine WOps.nil ?_
   refine WEx.cutend _ ?_ ⟨k5, decide (x1 ≤ 2147483647), rfl, hF, (by omega), S4⟩
   exact ⟨rfl, rfl, rfl, rfl, trivial⟩
  ·
   refine WOps.off rfl (kbl (b := decide (x2 < (a0.length : Int))) rfl (decide_eq_false h13)) rfl rfl ?_
   refine WOps.off rfl (kbl (b := decide (x2 < (a0.length : Int))) rfl (decide_eq_false h13)) rfl rfl ?_
   refine WOps.p (G.pick_f (kb (b := decide (x2 < (a0.length : Int))) rfl (decide_eq_false h13)) rfl) rfl ?_
   refine WOps.nil ?_
   refine WEx.cutend _ ?_ ⟨k5, false, rfl, hF, (by omega), S4⟩
   exact ⟨rfl, rfl, rfl, rfl, trivial⟩
 ·
  rintro _ w9 ⟨q11, b8, rfl, hF, hq12, S10⟩
  obtain _ | k14 := q11
  · exact nomatch (show (none : Option Int) = some r_ from hF)
  rw [ysize.j1] at hF
  rcases ite_some hF with ⟨h15, hF⟩ | ⟨h15, hF⟩
  ·
   refine WCode.cond_t (kb (b := b8) rfl h15) ?_
   refine WCode.skip ?_
   refine WEx.then_ ?_
   refine WCode.seq ?_
   refine WCode.block ?_
   refine WCode.drawH (.one 0 0 (.one 1 0 (.one 2 0 (.one 3 0 (.one 4 0 (.one 8 0 (.one 9 0 (.one 10 0 (.one 11 0 (.one 12 0 (.one 5 1 (.one 13 1 (.one 14 0 (.one 6 2 (.one 7 0 (.one 15 2 (.one 16 0 (.one 17 0 (.one 18 2 (.one 19 2 (.one 20 0 .nil))))))))))))))))))))) (fun W_ => SlR Op.rp W_ F0 A0 c0 a0 ∧ True) T.mixed (by kernel_rfl) (by intro _ _ d _ _ h; cases d <;> exact h) rfl rfl (by kernel_rfl) ?_ ?_
   all_goals have S16 := S10.drew
   all_goals generalize w9.drew = w17 at *
   · exact ⟨(hR0.ext (S16.keepF hF0)), trivial⟩
   refine WH.p rfl wants (G.move rfl) rfl ?_
   refine WH.p rfl wants (G.move rfl) rfl ?_
   refine WH.p rfl wants (G.move rfl) rfl ?_
   obtain ⟨x18, hc19, hF⟩ := bind_some hF
   obtain ⟨j20, ej21, hj22, hl23⟩ := idx_spec hc19
   obtain ⟨b24, o25, cs26, eA27, hf28, hc29, hr30⟩ := SlR.at_ (hR0.ext (S16.keepF hF0)) hj22
   have hq31 : cs26 = [.int .i64 x18.Kind, .int .i64 x18.On, .int .i64 x18.N, .int .i64 x18.Many, .int .i64 x18.P.From, .int .i64 x18.P.To, .string (bs x18.P.Data)] := hr30
   subst hq31
   change cellsAt _ _ (o25 + j20 * 7) [.int .i64 x18.Kind, .int .i64 x18.On, .int .i64 x18.N, .int .i64 x18.Many, .int .i64 x18.P.From, .int .i64 x18.P.To, .string (bs x18.P.Data)] at hc29
   refine WH.p rfl wants (G.idx T.el22 rfl eA27 rfl ej21 hl23) rfl ?_
   refine WH.p rfl wants (G.field T.fld39_3 rfl (show o25 + j20 * 7 + 3 = o25 + j20 * 7 + 3 from rfl)) rfl ?_
   refine WH.p rfl wants (G.move rfl) rfl ?_
   refine WH.p rfl wants (G.move rfl) rfl ?_
   obtain ⟨x32, hc33, hF⟩ := bind_some hF
   obtain ⟨j34, ej35, hj36, hl37⟩ := idx_spec hc33
   obtain ⟨b38, o39, cs40, eA41, hf42, hc43, hr44⟩ := SlR.at_ (hR0.ext (S16.keepF hF0)) hj36
   have hq45 : cs40 = [.int .i64 x32.Kind, .int .i64 x32.On, .int .i64 x32.N, .int .i64 x32.Many, .int .i64 x32.P.From, .int .i64 x32.P.To, .string (bs x32.P.Data)] := hr44
   subst hq45
   change cellsAt _ _ (o39 + j34 * 7) [.int .i64 x32.Kind, .int .i64 x32.On, .int .i64 x32.N, .int .i64 x32.Many, .int .i64 x32.P.From, .int .i64 x32.P.To, .string (bs x32.P.Data)] at hc43
   refine WH.p rfl wants (G.idx T.el22 rfl eA41 rfl ej35 hl37) rfl ?_
   refine WH.p rfl wants (G.field T.fld39_4 rfl (show o39 + j34 * 7 + 4 = o39 + j34 * 7 + 4 from rfl)) rfl ?_
   refine WH.p rfl wants (G.field T.fld37_2 rfl (show o39 + j34 * 7 + 4 + 2 = o39 + j34 * 7 + 6 from rfl)) rfl ?_
   refine WH.r rfl wants (fun _ h_ => G.load1 T.one3 rfl (cellsAt.at (SlR.cellsP h_.1 hj22 eA27) 3 rfl)) rfl ?_
   refine WH.r rfl wants (fun _ h_ => G.load1 T.one9 rfl (cellsAt.at (SlR.cellsP h_.1 hj36 eA41) 6 rfl)) rfl ?_
   refine WH.p rfl wants (G.lenb T.str9 rfl) rfl ?_
   obtain ⟨t46, hc47, hF⟩ := bind_some hF
   refine WH.call rfl wants T.call16 (evs_cons rfl (evs_cons rfl evs_nil)) rfl ?_
   refine (ypick_calls k14 x18.Many 1101 hc47).mono ?_
   rintro _ w48 ⟨rfl, T49⟩
   have S50 := St.callN (As := []) S16 T49
   change St _ _ _ [] at S50
   refine ⟨_, rfl, ?_⟩
   refine ⟨⟨(hR0.ext (S50.keepF hF0)), trivial⟩, ?_⟩
   refine WH.p rfl wants (G.add rfl rfl (r := (w64 (t46 + 1))) rfl) rfl ?_
   obtain ⟨t51, hc52, hF⟩ := bind_some hF
   refine WH.call rfl wants T.call66 (evs_cons rfl (evs_cons rfl evs_nil)) rfl ?_
   refine (yadd_calls k14 (x32.P.Data.length : Int) 100 hc52).mono ?_
   rintro _ w53 ⟨rfl, T54⟩
   have S55 := St.callN (As := []) S50 T54
   change St _ _ _ [] at S55
   refine ⟨_, rfl, ?_⟩
   refine ⟨⟨(hR0.ext (S55.keepF hF0)), trivial⟩, ?_⟩
   refine WH.p rfl wants (G.min rfl rfl (int_min t51 2147483647)) rfl ?_
   refine WH.p rfl wants (G.mul rfl rfl (r := (w64 ((w64 (t46 + 1)) * (min t51 2147483647)))) rfl) rfl ?_
   obtain ⟨t56, hc57, hF⟩ := bind_some hF
   refine WH.call rfl wants T.call66 (evs_cons rfl (evs_cons rfl evs_nil)) rfl ?_
   refine (yadd_calls k14 100000 (w64 ((w64 (t46 + 1)) * (min t51 2147483647))) hc57).mono ?_
   rintro _ w58 ⟨rfl, T59⟩
   have S60 := St.callN (As := []) S55 T59
   change St _ _ _ [] at S60
   refine ⟨_, rfl, ?_⟩
   refine ⟨⟨(hR0.ext (S60.keepF hF0)), trivial⟩, ?_⟩
   obtain ⟨t61, hc62, hF⟩ := bind_some hF
   refine WH.call rfl wants T.call66 (evs_cons rfl (evs_cons rfl evs_nil)) rfl ?_
   refine (yadd_calls k14 x1 t56 hc62).mono ?_
   rintro _ w63 ⟨rfl, T64⟩
   have S65 := St.callN (As := []) S60 T64
   change St _ _ _ [] at S65
   refine ⟨_, rfl, ?_⟩
   refine ⟨⟨(hR0.ext (S65.keepF hF0)), trivial⟩, ?_⟩
   refine WH.p rfl wants (G.assign rfl) rfl ?_
   refine WH.nil ?_
   refine WEx.in_normal ?_
   refine WEx.then_ ?_
   refine WCode.forget (l' := [(0, .slice A0 a0.length c0), (3, .int .i64 t61), (4, .int .i64 x2)]) ⟨rfl, rfl, rfl, trivial⟩ ?_
   refine WCode.region ?_
   refine WOps.p (G.move rfl) rfl ?_
   refine WOps.p (G.add rfl rfl (r := (w64 (x2 + 1))) rfl) rfl ?_
   refine WOps.p (G.assign rfl) rfl ?_
   refine WOps.nil ?_
   refine WEx.again _ _ (by omega) ?_ ⟨t61, w64 (x2 + 1), rfl, hF, S65⟩
   exact ⟨rfl, rfl, rfl, trivial⟩
  ·
   refine WCode.cond_f (kb (b := b8) rfl (Bool.eq_false_iff.2 h15)) ?_
   refine WCode.exit ?_
   refine WEx.then_exit ?_
   refine WEx.then_exit ?_
   refine WEx.in_exit ?_
   refine WEx.then_ ?_
   refine WCode.seq ?_
   refine WCode.region ?_
   refine WOps.p (G.move rfl) rfl ?_
   refine WOps.p (G.assign rfl) rfl ?_
   refine WOps.nil ?_
   refine WEx.then_ ?_
   refine WCode.ret ?_
   obtain rfl := some_eq hF
   refine WEx.ret1 rfl rfl ?_
   exact ⟨rfl, St.keep (As := []) S10⟩

def ya_Clone (k : Nat) (a0 : List Packet) : Option (List Packet) := (Option.bind (cat ([] : List Packet) a0) fun l11 => (some l11))
set_option maxRecDepth 100000 in
set_option maxHeartbeats 1000000 in
theorem ya_Clone_calls (k : Nat) (a0 : List Packet) {A0 : Option Addr} {c0 : Nat} {F0 : Nat → Prop} {w : World} (hR0 : SlR Packet.rp w F0 A0 c0 a0) (hF0 : ∀ b, F0 b → NK w [] b) {r_ : (List Packet)} (h_ : ya_Clone k a0 = some r_) :
    Calls Try.prog 79 [.slice A0 a0.length c0].toArray w fun e w' => ∃ A0' : Option Addr, ∃ c0' : Nat, ∃ G0' : Grp, e = .returned (.slice A0' (r_).length c0') ∧ SlO 37 Packet.rp (.slice A0' (r_).length c0') (r_) G0' ∧ St w (KS []) w' [G0'] := by
 have hF := h_
 clear h_
 unfold ya_Clone at hF
 have S := St.ofFalse (As := []) (St.init0 w)
 refine enter 8 [(0, .slice A0 a0.length c0)] Try.func79 rfl rfl rfl rfl ?_
 refine WCode.seq ?_
 refine WCode.region ?_
 refine WOps.p (G.assign rfl) rfl ?_
 refine WOps.nil ?_
 refine WEx.then_ ?_
 refine WCode.seq ?_
 refine WCode.seq ?_
 refine WCode.region ?_
 refine WOps.p (G.move rfl) rfl ?_
 by_cases hA1 : A0 = none
 ·
  have hL2 := SlR.none_nil (hR0.ext (S.keepF hF0)) hA1
  have hF : (some []) = some r_ := by simpa [catN, hL2] using hF
  refine WOps.p (G.eq_nil Try.underlying43 rfl rfl (decide_eq_true hA1)) rfl ?_
  refine WOps.nil ?_
  refine WEx.then_ ?_
  refine WCode.cond_t rfl ?_
  refine WCode.seq ?_
  refine WCode.region ?_
  refine WOps.p (G.assign rfl) rfl ?_
  refine WOps.nil ?_
  refine WEx.then_ ?_
  refine WCode.ret ?_
  refine WEx.then_ret ?_
  obtain rfl := some_eq hF
  refine WEx.ret1 rfl rfl ?_
  have S3 := S.emp
  exact ⟨none, 0, ([] : Grp), rfl, (SlO.nil 37 Packet.rp), St.keep (As := [([] : Grp)]) S3⟩
 ·
  refine WOps.p (G.eq_nil Try.underlying43 rfl rfl (decide_eq_false hA1)) rfl ?_
  refine WOps.nil ?_
  refine WEx.then_ ?_
  refine WCode.cond_f rfl ?_
  refine WCode.skip ?_
  refine WEx.then_ ?_
  refine WCode.seq ?_
  refine WCode.region ?_
  obtain ⟨b5, w6, E7, S8, X9, L10⟩ := St.lit S (P := Try.prog) (t := 43) (e := 37) (n := 0) (vs := []) (cs := #[]) (by kernel_rfl)
  change St _ _ _ [[(b5, .cells #[] 37 (0, 0))]] at S8
  refine WOps.e (E7 evp_nil) rfl ?_
  refine WOps.p (G.move rfl) rfl ?_
  obtain ⟨l11, hc12, hF⟩ := bind_some hF
  have S13 := S8.emp
  obtain ⟨xs22, he23, hd24⟩ := SlR.Rd (hR0.ext (S13.keepF hF0))
  obtain ⟨A14, c15, G16, w17, E18, hO19, S20, hk21⟩ := St.appP (P := Try.prog) (r := Packet.rp) (M := a0) S13 T.elt43 rfl (SlO.zero 37 Packet.rp (some ⟨b5, 0, none⟩)) hd24 (elems.flat plain_flat he23) rfl hc12
  change St _ _ _ [G16, [(b5, .cells #[] 37 (0, 0))]] at S20
  refine WOps.e (E18 rfl rfl) rfl ?_
  refine WOps.p (G.assign rfl) rfl ?_
  refine WOps.nil ?_
  refine WEx.then_ ?_
  refine WCode.ret ?_
  obtain rfl := some_eq hF
  refine WEx.ret1 rfl rfl ?_
  exact ⟨A14, c15, G16, rfl, hO19, St.keep (As := [G16]) S20⟩

def ya_Clip (k : Nat) (a0 : List Packet) : Option (List Packet) := (Option.bind (cut a0 0 (a0.length : Int)) fun m1 => (some m1))
set_option maxRecDepth 100000 in
set_option maxHeartbeats 1000000 in
theorem ya_Clip_calls (k : Nat) (a0 : List Packet) {A0 : Option Addr} {c0 : Nat} {G0 : Grp} {w : World} (hO0 : SlO 37 Packet.rp (.slice A0 a0.length c0) a0 G0) {r_ : (List Packet)} (h_ : ya_Clip k a0 = some r_) (hp_ : Hp w ([G0]).flatten) :
    Calls Try.prog 78 [.slice A0 a0.length c0].toArray w fun e w' => ∃ A0' : Option Addr, ∃ c0' : Nat, ∃ G0' : Grp, e = .returned (.slice A0' (r_).length c0') ∧ SlO 37 Packet.rp (.slice A0' (r_).length c0') (r_) G0' ∧ St w (KS [G0]) w' [G0'] := by
 have hF := h_
 clear h_
 unfold ya_Clip at hF
 have S := St.initK [G0] hp_
 refine enter 9 [(0, .slice A0 a0.length c0)] Try.func78 rfl rfl rfl rfl ?_
 refine WCode.seq ?_
 refine WCode.region ?_
 refine WOps.p (G.assign rfl) rfl ?_
 refine WOps.nil ?_
 refine WEx.then_ ?_
 refine WCode.seq ?_
 refine WCode.region ?_
 refine WOps.p (G.move rfl) rfl ?_
 refine WOps.p (G.move rfl) rfl ?_
 refine WOps.p (G.len T.el43 rfl) rfl ?_
 refine WOps.p (G.move rfl) rfl ?_
 refine WOps.p (G.len T.el43 rfl) rfl ?_
 obtain ⟨m1, hc2, hF⟩ := bind_some hF
 have hv3 := (SlO.toV (u := w) hO0 (S.nd 0 rfl)).cut_hm hc2
 refine WOps.p (G.cut_hm T.el43 rfl rfl rfl hc2 (hO0.rd (fun b o hb => S.grp 0 rfl hb)).cap) rfl ?_
 refine WOps.p (G.assign rfl) rfl ?_
 refine WOps.nil ?_
 refine WEx.then_ ?_
 refine WCode.ret ?_
 obtain rfl := some_eq hF
 refine WEx.ret1 rfl rfl ?_
 obtain ⟨G4, G5, hg6, hO7⟩ := SlO.clip hO0 (fun h => h.2) hc2
 have S8 : St _ _ _ [G4, G5] := S.objs (by rw [hg6]; simp)
 exact ⟨A0, ((a0.length : Int).toNat), G4, rfl, hO7, St.keep (As := [G4]) S8⟩

def ya_Flying (k : Nat) (a0 : Air) : Option (List Packet) := (Option.bind (ya_Clone k a0.flying) fun t9 => (Option.bind (ya_Clip k (t9)) fun t18 => (some (t18))))
set_option maxRecDepth 100000 in
set_option maxHeartbeats 1000000 in
theorem ya_Flying_calls (k : Nat) (a0 : Air) {p0 : Nat} {F0 : Nat → Prop} {w : World} (hP0 : PtR 133 Air.rp w F0 p0 a0) (hF0 : ∀ b, F0 b → NK w [] b) {r_ : (List Packet)} (h_ : ya_Flying k a0 = some r_) :
    Calls Try.prog 24 [.pointer (some ⟨p0, 0, none⟩)].toArray w fun e w' => ∃ A0' : Option Addr, ∃ c0' : Nat, ∃ G0' : Grp, e = .returned (.slice A0' (r_).length c0') ∧ SlO 37 Packet.rp (.slice A0' (r_).length c0') (r_) G0' ∧ St w (KS []) w' [G0'] := by
 have hF := h_
 clear h_
 unfold ya_Flying at hF
 have S := St.ofFalse (As := []) (St.init0 w)
 have hPq5 := hP0
 obtain ⟨cs1, hB2, hf3, A6, c7, hq4, hR8⟩ := hPq5
 subst hq4
 change _ = some (Obj.cells #[.slice A6 a0.flying.length c7, .int .i64 a0.time] 133 (0, 0)) at hB2
 refine enter 9 [(0, .pointer (some ⟨p0, 0, none⟩))] Try.func24 rfl rfl rfl rfl ?_
 refine WCode.seq ?_
 refine WCode.region ?_
 refine WOps.p (G.assign rfl) rfl ?_
 refine WOps.nil ?_
 refine WEx.then_ ?_
 refine WCode.seq ?_
 refine WCode.region ?_
 refine WOps.p (G.move rfl) rfl ?_
 refine WOps.p (G.nilp rfl) rfl ?_
 refine WOps.p (G.field T.fld133_0 rfl (show 0 + 0 = 0 from rfl)) rfl ?_
 refine WOps.r (G.load1 T.one43 rfl (cell_blk ((S.fr p0 (lt_of_blk hB2) (hF0 p0 hf3).1).trans hB2) rfl)) rfl ?_
 obtain ⟨t9, hc10, hF⟩ := bind_some hF
 refine WOps.call T.call79 (evs_cons rfl evs_nil) rfl ?_
 refine (ya_Clone_calls k a0.flying (hR8.ext (S.keepF hF0)) (St.outF (Bs := []) S hF0) hc10).mono ?_
 rintro _ w11 ⟨A14, c15, G16, rfl, hO17, T12⟩
 have S13 := St.callN (As := []) S T12
 change St _ _ _ [G16] at S13
 refine ⟨_, rfl, ?_⟩
 obtain ⟨t18, hc19, hF⟩ := bind_some hF
 refine WOps.call T.call78 (evs_cons rfl evs_nil) rfl ?_
 refine (ya_Clip_calls k (t9) hO17 hc19 (St.hpN (As := [G16]) S13)).mono ?_
 rintro _ w20 ⟨A23, c24, G25, rfl, hO26, T21⟩
 have S22 := St.callN (As := [G16]) S13 T21
 change St _ _ _ [G25] at S22
 refine ⟨_, rfl, ?_⟩
 refine WOps.p (G.assign rfl) rfl ?_
 refine WOps.nil ?_
 refine WEx.then_ ?_
 refine WCode.ret ?_
 obtain rfl := some_eq hF
 refine WEx.ret1 rfl rfl ?_
 exact ⟨A23, c24, G25, rfl, hO26, St.keep (As := [G25]) S22⟩

def yawake (k : Nat) : Option Bool := (Option.bind (ya_New k) fun t1 => (Option.bind (ya_Send k t1 (⟨1, 2, ([120] : List UInt8)⟩ : Packet)) fun t40 => (Option.bind (ya_Send k t40.2 (⟨3, 4, ([121] : List UInt8)⟩ : Packet)) fun t59 => (Option.bind (ya_Double k t59.2 0) fun t78 => (Option.bind (ya_Deliver k t78.2 1) fun t97 => (Option.bind (ya_Deliver k t97.2.2 2) fun t126 => (Option.bind (ya_Tick k t126.2.2) fun t155 => (Option.bind (ya_Flying k t155.2) fun t174 => (Option.bind (ysame k (t174) ([(⟨1, 2, ([120] : List UInt8)⟩ : Packet), (⟨1, 2, ([120] : List UInt8)⟩ : Packet)] : List Packet)) fun t191 => (if t191 = true then (if t40.1 = 0 then (if t59.1 = 0 then (if t78.1 = 0 then (if t97.1 = (⟨3, 4, ([121] : List UInt8)⟩ : Packet) then (if t97.2.1 = 0 then (if t126.2.1 = 130 then (if t155.1 = 1 then (Option.bind (ya_Now k t155.2) fun t204 => (if t204 = 1 then (Option.bind (ya_Drop k t155.2 0) fun t214 => (some (decide (t214.1 = 0)))) else (some false))) else (some false)) else (some false)) else (some false)) else (some false)) else (some false)) else (some false)) else (some false)) else (some false)))))))))))
set_option maxRecDepth 100000 in
set_option maxHeartbeats 1000000 in
theorem yawake_calls (k : Nat)  {w : World} {r_ : Bool} (h_ : yawake k = some r_) :
    Calls Try.prog 13 [].toArray w fun e w' => e = .returned (.bool r_) ∧ St w (KS []) w' [] := by
 have hF := h_
 clear h_
 unfold yawake at hF
 have S := St.ofFalse (As := []) (St.init0 w)
 refine enter 84 [] Try.func13 rfl rfl rfl rfl ?_
 refine WCode.seq ?_
 refine WCode.region ?_
 refine WOps.p (G.assign rfl) rfl ?_
 refine WOps.nil ?_
 refine WEx.then_ ?_
 refine WCode.seq ?_
 refine WCode.region ?_
 obtain ⟨t1, hc2, hF⟩ := bind_some hF
 refine WOps.call T.call14 evs_nil rfl ?_
 refine (ya_New_calls k hc2).mono ?_
 rintro _ w3 ⟨p6, G7, rfl, hO8, T4⟩
 have S5 := St.callN (As := []) S T4
 change St _ _ _ [G7] at S5
 refine ⟨_, rfl, ?_⟩
 obtain ⟨cs9, G10, ho11, hg12⟩ := hO8
 obtain ⟨A13, c14, G15, rfl, hO16, hq17⟩ := ho11
 have S18 : St _ _ _ [[(p6, .cells #[.slice A13 t1.flying.length c14, .int .i64 t1.time] 133 (0, 0))], G15] := S5.objs (by rw [hg12, hq17]; simp)
 refine WOps.p (G.assign rfl) rfl ?_
 refine WOps.nil ?_
 refine WEx.then_ ?_
 refine WCode.seq ?_
 refine WCode.seq ?_
 refine WCode.region ?_
 refine WOps.p (G.move rfl) rfl ?_
 refine WOps.p (G.eqp_nil Try.underlying25 rfl rfl rfl) rfl ?_
 refine WOps.nil ?_
 refine WEx.then_ ?_
 refine WCode.cond_f rfl ?_
 refine WCode.skip ?_
 refine WEx.then_ ?_
 refine WCode.seq ?_
 refine WCode.region ?_
 refine WOps.p (G.build (cells := #[.int .i64 1, .int .i64 2, .string (bs ([120] : List UInt8))]) (evp_spec (evp_cons rfl (evp_cons rfl (evp_cons rfl evp_nil)))) (by kernel_rfl)) rfl ?_
 obtain ⟨b19, w20, E21, S22, X23, L24⟩ := St.var S18 (z := .agg #[.int .i64 0, .int .i64 0, .string (bs ([] : List UInt8))]) T.zero37
 change St _ _ _ [[(b19, .cells #[.int .i64 0, .int .i64 0, .string (bs ([] : List UInt8))] 37 (0, 0))], [(p6, .cells #[.slice A13 t1.flying.length c14, .int .i64 t1.time] 133 (0, 0))], G15] at S22
 refine WOps.e E21 rfl ?_
 obtain ⟨w25, E26, S27⟩ := St.store (P := Try.prog) S22 0 37 (.agg #[.int .i64 1, .int .i64 2, .string (bs ([120] : List UInt8))]) (off := 0) (cur' := #[.int .i64 1, .int .i64 2, .string (bs ([120] : List UInt8))]) rfl T.size37_3 rfl rfl rfl
 change St _ _ _ [[(b19, .cells #[.int .i64 1, .int .i64 2, .string (bs ([120] : List UInt8))] 37 (0, 0))], [(p6, .cells #[.slice A13 t1.flying.length c14, .int .i64 t1.time] 133 (0, 0))], G15] at S27
 refine WOps.u (E26 rfl rfl) ?_
 refine WOps.nil ?_
 refine WEx.then_ ?_
 refine WCode.seq ?_
 refine WCode.region ?_
 refine WOps.p (G.build (cells := #[.int .i64 3, .int .i64 4, .string (bs ([121] : List UInt8))]) (evp_spec (evp_cons rfl (evp_cons rfl (evp_cons rfl evp_nil)))) (by kernel_rfl)) rfl ?_
 obtain ⟨b28, w29, E30, S31, X32, L33⟩ := St.var S27 (z := .agg #[.int .i64 0, .int .i64 0, .string (bs ([] : List UInt8))]) T.zero37
 change St _ _ _ [[(b28, .cells #[.int .i64 0, .int .i64 0, .string (bs ([] : List UInt8))] 37 (0, 0))], [(b19, .cells #[.int .i64 1, .int .i64 2, .string (bs ([120] : List UInt8))] 37 (0, 0))], [(p6, .cells #[.slice A13 t1.flying.length c14, .int .i64 t1.time] 133 (0, 0))], G15] at S31
 refine WOps.e E30 rfl ?_
 obtain ⟨w34, E35, S36⟩ := St.store (P := Try.prog) S31 0 37 (.agg #[.int .i64 3, .int .i64 4, .string (bs ([121] : List UInt8))]) (off := 0) (cur' := #[.int .i64 3, .int .i64 4, .string (bs ([121] : List UInt8))]) rfl T.size37_3 rfl rfl rfl
 change St _ _ _ [[(b28, .cells #[.int .i64 3, .int .i64 4, .string (bs ([121] : List UInt8))] 37 (0, 0))], [(b19, .cells #[.int .i64 1, .int .i64 2, .string (bs ([120] : List UInt8))] 37 (0, 0))], [(p6, .cells #[.slice A13 t1.flying.length c14, .int .i64 t1.time] 133 (0, 0))], G15] at S36
 refine WOps.u (E35 rfl rfl) ?_
 refine WOps.nil ?_
 refine WEx.then_ ?_
 refine WCode.seq ?_
 refine WCode.region ?_
 refine WOps.p (G.move rfl) rfl ?_
 refine WOps.r (G.loada T.agg37_3 rfl (cs := [.int .i64 1, .int .i64 2, .string (bs ([120] : List UInt8))]) (cellsAt.of_blk (S36.blk 1 rfl) rfl)) rfl ?_
 have S37 := (S36.front 3 rfl).front 3 rfl
 change St _ _ _ [[(p6, .cells #[.slice A13 t1.flying.length c14, .int .i64 t1.time] 133 (0, 0))], G15, [(b28, .cells #[.int .i64 3, .int .i64 4, .string (bs ([121] : List UInt8))] 37 (0, 0))], [(b19, .cells #[.int .i64 1, .int .i64 2, .string (bs ([120] : List UInt8))] 37 (0, 0))]] at S37
 have hO38 : ObjO 133 Air.rp p6 t1 ([(p6, .cells #[.slice A13 t1.flying.length c14, .int .i64 t1.time] 133 (0, 0))] ++ (G15)) := ⟨_, _, ⟨A13, c14, G15, rfl, hO16, rfl⟩, rfl⟩
 have S39 : St _ _ _ [[(p6, .cells #[.slice A13 t1.flying.length c14, .int .i64 t1.time] 133 (0, 0))] ++ (G15), [(b28, .cells #[.int .i64 3, .int .i64 4, .string (bs ([121] : List UInt8))] 37 (0, 0))], [(b19, .cells #[.int .i64 1, .int .i64 2, .string (bs ([120] : List UInt8))] 37 (0, 0))]] := S37.objs (by simp)
 obtain ⟨t40, hc41, hF⟩ := bind_some hF
 refine WOps.call T.call22 (evs_cons rfl (evs_cons rfl evs_nil)) rfl ?_
 refine (ya_Send_calls k t1 (⟨1, 2, ([120] : List UInt8)⟩ : Packet) hO38 hc41 (St.hpN (As := [[(p6, .cells #[.slice A13 t1.flying.length c14, .int .i64 t1.time] 133 (0, 0))] ++ (G15)]) S39)).mono ?_
 rintro _ w42 ⟨G45, rfl, hO46, T43⟩
 have S44 := St.callN (As := [[(p6, .cells #[.slice A13 t1.flying.length c14, .int .i64 t1.time] 133 (0, 0))] ++ (G15)]) S39 T43
 change St _ _ _ [G45, [(b28, .cells #[.int .i64 3, .int .i64 4, .string (bs ([121] : List UInt8))] 37 (0, 0))], [(b19, .cells #[.int .i64 1, .int .i64 2, .string (bs ([120] : List UInt8))] 37 (0, 0))]] at S44
 refine ⟨_, rfl, ?_⟩
 obtain ⟨cs47, G48, ho49, hg50⟩ := hO46
 obtain ⟨A51, c52, G53, rfl, hO54, hq55⟩ := ho49
 have S56 : St _ _ _ [[(p6, .cells #[.slice A51 t40.2.flying.length c52, .int .i64 t40.2.time] 133 (0, 0))], G53, [(b28, .cells #[.int .i64 3, .int .i64 4, .string (bs ([121] : List UInt8))] 37 (0, 0))], [(b19, .cells #[.int .i64 1, .int .i64 2, .string (bs ([120] : List UInt8))] 37 (0, 0))]] := S44.objs (by rw [hg50, hq55]; simp)
 refine WOps.p (G.assign rfl) rfl ?_
 refine WOps.nil ?_
 refine WEx.then_ ?_
 refine WCode.seq ?_
 refine WCode.region ?_
 refine WOps.p (G.move rfl) rfl ?_
 refine WOps.r (G.loada T.agg37_3 rfl (cs := [.int .i64 3, .int .i64 4, .string (bs ([121] : List UInt8))]) (cellsAt.of_blk (S56.blk 2 rfl) rfl)) rfl ?_
 have hO57 : ObjO 133 Air.rp p6 t40.2 ([(p6, .cells #[.slice A51 t40.2.flying.length c52, .int .i64 t40.2.time] 133 (0, 0))] ++ (G53)) := ⟨_, _, ⟨A51, c52, G53, rfl, hO54, rfl⟩, rfl⟩
 have S58 : St _ _ _ [[(p6, .cells #[.slice A51 t40.2.flying.length c52, .int .i64 t40.2.time] 133 (0, 0))] ++ (G53), [(b28, .cells #[.int .i64 3, .int .i64 4, .string (bs ([121] : List UInt8))] 37 (0, 0))], [(b19, .cells #[.int .i64 1, .int .i64 2, .string (bs ([120] : List UInt8))] 37 (0, 0))]] := S56.objs (by simp)
 obtain ⟨t59, hc60, hF⟩ := bind_some hF
 refine WOps.call T.call22 (evs_cons rfl (evs_cons rfl evs_nil)) rfl ?_
 refine (ya_Send_calls k t40.2 (⟨3, 4, ([121] : List UInt8)⟩ : Packet) hO57 hc60 (St.hpN (As := [[(p6, .cells #[.slice A51 t40.2.flying.length c52, .int .i64 t40.2.time] 133 (0, 0))] ++ (G53)]) S58)).mono ?_
 rintro _ w61 ⟨G64, rfl, hO65, T62⟩
 have S63 := St.callN (As := [[(p6, .cells #[.slice A51 t40.2.flying.length c52, .int .i64 t40.2.time] 133 (0, 0))] ++ (G53)]) S58 T62
 change St _ _ _ [G64, [(b28, .cells #[.int .i64 3, .int .i64 4, .string (bs ([121] : List UInt8))] 37 (0, 0))], [(b19, .cells #[.int .i64 1, .int .i64 2, .string (bs ([120] : List UInt8))] 37 (0, 0))]] at S63
 refine ⟨_, rfl, ?_⟩
 obtain ⟨cs66, G67, ho68, hg69⟩ := hO65
 obtain ⟨A70, c71, G72, rfl, hO73, hq74⟩ := ho68
 have S75 : St _ _ _ [[(p6, .cells #[.slice A70 t59.2.flying.length c71, .int .i64 t59.2.time] 133 (0, 0))], G72, [(b28, .cells #[.int .i64 3, .int .i64 4, .string (bs ([121] : List UInt8))] 37 (0, 0))], [(b19, .cells #[.int .i64 1, .int .i64 2, .string (bs ([120] : List UInt8))] 37 (0, 0))]] := S63.objs (by rw [hg69, hq74]; simp)
 refine WOps.p (G.assign rfl) rfl ?_
 refine WOps.nil ?_
 refine WEx.then_ ?_
 refine WCode.forget (l' := [(1, .pointer (some ⟨p6, 0, none⟩)), (2, .pointer (some ⟨b19, 0, none⟩)), (3, .pointer (some ⟨b28, 0, none⟩)), (4, .int .i64 t40.1), (5, .int .i64 t59.1)]) ⟨rfl, rfl, rfl, rfl, rfl, trivial⟩ ?_
 refine WCode.seq ?_
 refine WCode.region ?_
 refine WOps.p (G.move rfl) rfl ?_
 have hO76 : ObjO 133 Air.rp p6 t59.2 ([(p6, .cells #[.slice A70 t59.2.flying.length c71, .int .i64 t59.2.time] 133 (0, 0))] ++ (G72)) := ⟨_, _, ⟨A70, c71, G72, rfl, hO73, rfl⟩, rfl⟩
 have S77 : St _ _ _ [[(p6, .cells #[.slice A70 t59.2.flying.length c71, .int .i64 t59.2.time] 133 (0, 0))] ++ (G72), [(b28, .cells #[.int .i64 3, .int .i64 4, .string (bs ([121] : List UInt8))] 37 (0, 0))], [(b19, .cells #[.int .i64 1, .int .i64 2, .string (bs ([120] : List UInt8))] 37 (0, 0))]] := S75.objs (by simp)
 obtain ⟨t78, hc79, hF⟩ := bind_some hF
 refine WOps.call T.call21 (evs_cons rfl (evs_cons rfl evs_nil)) rfl ?_
 refine (ya_Double_calls k t59.2 0 hO76 hc79 (St.hpN (As := [[(p6, .cells #[.slice A70 t59.2.flying.length c71, .int .i64 t59.2.time] 133 (0, 0))] ++ (G72)]) S77)).mono ?_
 rintro _ w80 ⟨G83, rfl, hO84, T81⟩
 have S82 := St.callN (As := [[(p6, .cells #[.slice A70 t59.2.flying.length c71, .int .i64 t59.2.time] 133 (0, 0))] ++ (G72)]) S77 T81
 change St _ _ _ [G83, [(b28, .cells #[.int .i64 3, .int .i64 4, .string (bs ([121] : List UInt8))] 37 (0, 0))], [(b19, .cells #[.int .i64 1, .int .i64 2, .string (bs ([120] : List UInt8))] 37 (0, 0))]] at S82
 refine ⟨_, rfl, ?_⟩
 obtain ⟨cs85, G86, ho87, hg88⟩ := hO84
 obtain ⟨A89, c90, G91, rfl, hO92, hq93⟩ := ho87
 have S94 : St _ _ _ [[(p6, .cells #[.slice A89 t78.2.flying.length c90, .int .i64 t78.2.time] 133 (0, 0))], G91, [(b28, .cells #[.int .i64 3, .int .i64 4, .string (bs ([121] : List UInt8))] 37 (0, 0))], [(b19, .cells #[.int .i64 1, .int .i64 2, .string (bs ([120] : List UInt8))] 37 (0, 0))]] := S82.objs (by rw [hg88, hq93]; simp)
 refine WOps.p (G.assign rfl) rfl ?_
 refine WOps.nil ?_
 refine WEx.then_ ?_
 refine WCode.seq ?_
 refine WCode.region ?_
 refine WOps.p (G.move rfl) rfl ?_
 have hO95 : ObjO 133 Air.rp p6 t78.2 ([(p6, .cells #[.slice A89 t78.2.flying.length c90, .int .i64 t78.2.time] 133 (0, 0))] ++ (G91)) := ⟨_, _, ⟨A89, c90, G91, rfl, hO92, rfl⟩, rfl⟩
 have S96 : St _ _ _ [[(p6, .cells #[.slice A89 t78.2.flying.length c90, .int .i64 t78.2.time] 133 (0, 0))] ++ (G91), [(b28, .cells #[.int .i64 3, .int .i64 4, .string (bs ([121] : List UInt8))] 37 (0, 0))], [(b19, .cells #[.int .i64 1, .int .i64 2, .string (bs ([120] : List UInt8))] 37 (0, 0))]] := S94.objs (by simp)
 obtain ⟨t97, hc98, hF⟩ := bind_some hF
 refine WOps.call T.call19 (evs_cons rfl (evs_cons rfl evs_nil)) rfl ?_
 refine (ya_Deliver_calls k t78.2 1 hO95 hc98 (St.hpN (As := [[(p6, .cells #[.slice A89 t78.2.flying.length c90, .int .i64 t78.2.time] 133 (0, 0))] ++ (G91)]) S96)).mono ?_
 rintro _ w99 ⟨G102, rfl, hO103, T100⟩
 have S101 := St.callN (As := [[(p6, .cells #[.slice A89 t78.2.flying.length c90, .int .i64 t78.2.time] 133 (0, 0))] ++ (G91)]) S96 T100
 change St _ _ _ [G102, [(b28, .cells #[.int .i64 3, .int .i64 4, .string (bs ([121] : List UInt8))] 37 (0, 0))], [(b19, .cells #[.int .i64 1, .int .i64 2, .string (bs ([120] : List UInt8))] 37 (0, 0))]] at S101
 refine ⟨_, rfl, ?_⟩
 obtain ⟨cs104, G105, ho106, hg107⟩ := hO103
 obtain ⟨A108, c109, G110, rfl, hO111, hq112⟩ := ho106
 have S113 : St _ _ _ [[(p6, .cells #[.slice A108 t97.2.2.flying.length c109, .int .i64 t97.2.2.time] 133 (0, 0))], G110, [(b28, .cells #[.int .i64 3, .int .i64 4, .string (bs ([121] : List UInt8))] 37 (0, 0))], [(b19, .cells #[.int .i64 1, .int .i64 2, .string (bs ([120] : List UInt8))] 37 (0, 0))]] := S101.objs (by rw [hg107, hq112]; simp)
 refine WOps.p (G.move rfl) rfl ?_
 refine WOps.p (G.extract rfl rfl) rfl ?_
 refine WOps.p (G.extract rfl rfl) rfl ?_
 obtain ⟨b114, w115, E116, S117, X118, L119⟩ := St.var S113 (z := .agg #[.int .i64 0, .int .i64 0, .string (bs ([] : List UInt8))]) T.zero37
 change St _ _ _ [[(b114, .cells #[.int .i64 0, .int .i64 0, .string (bs ([] : List UInt8))] 37 (0, 0))], [(p6, .cells #[.slice A108 t97.2.2.flying.length c109, .int .i64 t97.2.2.time] 133 (0, 0))], G110, [(b28, .cells #[.int .i64 3, .int .i64 4, .string (bs ([121] : List UInt8))] 37 (0, 0))], [(b19, .cells #[.int .i64 1, .int .i64 2, .string (bs ([120] : List UInt8))] 37 (0, 0))]] at S117
 refine WOps.e E116 rfl ?_
 obtain ⟨w120, E121, S122⟩ := St.store (P := Try.prog) S117 0 37 (.agg #[.int .i64 t97.1.From, .int .i64 t97.1.To, .string (bs t97.1.Data)]) (off := 0) (cur' := #[.int .i64 t97.1.From, .int .i64 t97.1.To, .string (bs t97.1.Data)]) rfl T.size37_3 rfl rfl rfl
 change St _ _ _ [[(b114, .cells #[.int .i64 t97.1.From, .int .i64 t97.1.To, .string (bs t97.1.Data)] 37 (0, 0))], [(p6, .cells #[.slice A108 t97.2.2.flying.length c109, .int .i64 t97.2.2.time] 133 (0, 0))], G110, [(b28, .cells #[.int .i64 3, .int .i64 4, .string (bs ([121] : List UInt8))] 37 (0, 0))], [(b19, .cells #[.int .i64 1, .int .i64 2, .string (bs ([120] : List UInt8))] 37 (0, 0))]] at S122
 refine WOps.u (E121 rfl rfl) ?_
 refine WOps.p (G.assign rfl) rfl ?_
 refine WOps.nil ?_
 refine WEx.then_ ?_
 refine WCode.seq ?_
 refine WCode.region ?_
 refine WOps.p (G.move rfl) rfl ?_
 have S123 := (S122.front 2 rfl).front 2 rfl
 change St _ _ _ [[(p6, .cells #[.slice A108 t97.2.2.flying.length c109, .int .i64 t97.2.2.time] 133 (0, 0))], G110, [(b114, .cells #[.int .i64 t97.1.From, .int .i64 t97.1.To, .string (bs t97.1.Data)] 37 (0, 0))], [(b28, .cells #[.int .i64 3, .int .i64 4, .string (bs ([121] : List UInt8))] 37 (0, 0))], [(b19, .cells #[.int .i64 1, .int .i64 2, .string (bs ([120] : List UInt8))] 37 (0, 0))]] at S123
 have hO124 : ObjO 133 Air.rp p6 t97.2.2 ([(p6, .cells #[.slice A108 t97.2.2.flying.length c109, .int .i64 t97.2.2.time] 133 (0, 0))] ++ (G110)) := ⟨_, _, ⟨A108, c109, G110, rfl, hO111, rfl⟩, rfl⟩
 have S125 : St _ _ _ [[(p6, .cells #[.slice A108 t97.2.2.flying.length c109, .int .i64 t97.2.2.time] 133 (0, 0))] ++ (G110), [(b114, .cells #[.int .i64 t97.1.From, .int .i64 t97.1.To, .string (bs t97.1.Data)] 37 (0, 0))], [(b28, .cells #[.int .i64 3, .int .i64 4, .string (bs ([121] : List UInt8))] 37 (0, 0))], [(b19, .cells #[.int .i64 1, .int .i64 2, .string (bs ([120] : List UInt8))] 37 (0, 0))]] := S123.objs (by simp)
 obtain ⟨t126, hc127, hF⟩ := bind_some hF
 refine WOps.call T.call19 (evs_cons rfl (evs_cons rfl evs_nil)) rfl ?_
 refine (ya_Deliver_calls k t97.2.2 2 hO124 hc127 (St.hpN (As := [[(p6, .cells #[.slice A108 t97.2.2.flying.length c109, .int .i64 t97.2.2.time] 133 (0, 0))] ++ (G110)]) S125)).mono ?_
 rintro _ w128 ⟨G131, rfl, hO132, T129⟩
 have S130 := St.callN (As := [[(p6, .cells #[.slice A108 t97.2.2.flying.length c109, .int .i64 t97.2.2.time] 133 (0, 0))] ++ (G110)]) S125 T129
 change St _ _ _ [G131, [(b114, .cells #[.int .i64 t97.1.From, .int .i64 t97.1.To, .string (bs t97.1.Data)] 37 (0, 0))], [(b28, .cells #[.int .i64 3, .int .i64 4, .string (bs ([121] : List UInt8))] 37 (0, 0))], [(b19, .cells #[.int .i64 1, .int .i64 2, .string (bs ([120] : List UInt8))] 37 (0, 0))]] at S130
 refine ⟨_, rfl, ?_⟩
 obtain ⟨cs133, G134, ho135, hg136⟩ := hO132
 obtain ⟨A137, c138, G139, rfl, hO140, hq141⟩ := ho135
 have S142 : St _ _ _ [[(p6, .cells #[.slice A137 t126.2.2.flying.length c138, .int .i64 t126.2.2.time] 133 (0, 0))], G139, [(b114, .cells #[.int .i64 t97.1.From, .int .i64 t97.1.To, .string (bs t97.1.Data)] 37 (0, 0))], [(b28, .cells #[.int .i64 3, .int .i64 4, .string (bs ([121] : List UInt8))] 37 (0, 0))], [(b19, .cells #[.int .i64 1, .int .i64 2, .string (bs ([120] : List UInt8))] 37 (0, 0))]] := S130.objs (by rw [hg136, hq141]; simp)
 refine WOps.p (G.move rfl) rfl ?_
 refine WOps.p (G.extract rfl rfl) rfl ?_
 refine WOps.p (G.extract rfl rfl) rfl ?_
 obtain ⟨b143, w144, E145, S146, X147, L148⟩ := St.var S142 (z := .agg #[.int .i64 0, .int .i64 0, .string (bs ([] : List UInt8))]) T.zero37
 change St _ _ _ [[(b143, .cells #[.int .i64 0, .int .i64 0, .string (bs ([] : List UInt8))] 37 (0, 0))], [(p6, .cells #[.slice A137 t126.2.2.flying.length c138, .int .i64 t126.2.2.time] 133 (0, 0))], G139, [(b114, .cells #[.int .i64 t97.1.From, .int .i64 t97.1.To, .string (bs t97.1.Data)] 37 (0, 0))], [(b28, .cells #[.int .i64 3, .int .i64 4, .string (bs ([121] : List UInt8))] 37 (0, 0))], [(b19, .cells #[.int .i64 1, .int .i64 2, .string (bs ([120] : List UInt8))] 37 (0, 0))]] at S146
 refine WOps.e E145 rfl ?_
 obtain ⟨w149, E150, S151⟩ := St.store (P := Try.prog) S146 0 37 (.agg #[.int .i64 t126.1.From, .int .i64 t126.1.To, .string (bs t126.1.Data)]) (off := 0) (cur' := #[.int .i64 t126.1.From, .int .i64 t126.1.To, .string (bs t126.1.Data)]) rfl T.size37_3 rfl rfl rfl
 change St _ _ _ [[(b143, .cells #[.int .i64 t126.1.From, .int .i64 t126.1.To, .string (bs t126.1.Data)] 37 (0, 0))], [(p6, .cells #[.slice A137 t126.2.2.flying.length c138, .int .i64 t126.2.2.time] 133 (0, 0))], G139, [(b114, .cells #[.int .i64 t97.1.From, .int .i64 t97.1.To, .string (bs t97.1.Data)] 37 (0, 0))], [(b28, .cells #[.int .i64 3, .int .i64 4, .string (bs ([121] : List UInt8))] 37 (0, 0))], [(b19, .cells #[.int .i64 1, .int .i64 2, .string (bs ([120] : List UInt8))] 37 (0, 0))]] at S151
 refine WOps.u (E150 rfl rfl) ?_
 refine WOps.p (G.assign rfl) rfl ?_
 refine WOps.nil ?_
 refine WEx.then_ ?_
 refine WCode.forget (l' := [(1, .pointer (some ⟨p6, 0, none⟩)), (2, .pointer (some ⟨b19, 0, none⟩)), (3, .pointer (some ⟨b28, 0, none⟩)), (4, .int .i64 t40.1), (5, .int .i64 t59.1), (6, .int .i64 t78.1), (7, .pointer (some ⟨b114, 0, none⟩)), (8, .int .i64 t97.2.1), (10, .int .i64 t126.2.1)]) ⟨rfl, rfl, rfl, rfl, rfl, rfl, rfl, rfl, rfl, trivial⟩ ?_
 refine WCode.seq ?_
 refine WCode.region ?_
 refine WOps.p (G.move rfl) rfl ?_
 have S152 := (S151.front 2 rfl).front 2 rfl
 change St _ _ _ [[(p6, .cells #[.slice A137 t126.2.2.flying.length c138, .int .i64 t126.2.2.time] 133 (0, 0))], G139, [(b143, .cells #[.int .i64 t126.1.From, .int .i64 t126.1.To, .string (bs t126.1.Data)] 37 (0, 0))], [(b114, .cells #[.int .i64 t97.1.From, .int .i64 t97.1.To, .string (bs t97.1.Data)] 37 (0, 0))], [(b28, .cells #[.int .i64 3, .int .i64 4, .string (bs ([121] : List UInt8))] 37 (0, 0))], [(b19, .cells #[.int .i64 1, .int .i64 2, .string (bs ([120] : List UInt8))] 37 (0, 0))]] at S152
 have hO153 : ObjO 133 Air.rp p6 t126.2.2 ([(p6, .cells #[.slice A137 t126.2.2.flying.length c138, .int .i64 t126.2.2.time] 133 (0, 0))] ++ (G139)) := ⟨_, _, ⟨A137, c138, G139, rfl, hO140, rfl⟩, rfl⟩
 have S154 : St _ _ _ [[(p6, .cells #[.slice A137 t126.2.2.flying.length c138, .int .i64 t126.2.2.time] 133 (0, 0))] ++ (G139), [(b143, .cells #[.int .i64 t126.1.From, .int .i64 t126.1.To, .string (bs t126.1.Data)] 37 (0, 0))], [(b114, .cells #[.int .i64 t97.1.From, .int .i64 t97.1.To, .string (bs t97.1.Data)] 37 (0, 0))], [(b28, .cells #[.int .i64 3, .int .i64 4, .string (bs ([121] : List UInt8))] 37 (0, 0))], [(b19, .cells #[.int .i64 1, .int .i64 2, .string (bs ([120] : List UInt8))] 37 (0, 0))]] := S152.objs (by simp)
 obtain ⟨t155, hc156, hF⟩ := bind_some hF
 refine WOps.call T.call67 (evs_cons rfl evs_nil) rfl ?_
 refine (ya_Tick_calls k t126.2.2 hO153 hc156 (St.hpN (As := [[(p6, .cells #[.slice A137 t126.2.2.flying.length c138, .int .i64 t126.2.2.time] 133 (0, 0))] ++ (G139)]) S154)).mono ?_
 rintro _ w157 ⟨G160, rfl, hO161, T158⟩
 have S159 := St.callN (As := [[(p6, .cells #[.slice A137 t126.2.2.flying.length c138, .int .i64 t126.2.2.time] 133 (0, 0))] ++ (G139)]) S154 T158
 change St _ _ _ [G160, [(b143, .cells #[.int .i64 t126.1.From, .int .i64 t126.1.To, .string (bs t126.1.Data)] 37 (0, 0))], [(b114, .cells #[.int .i64 t97.1.From, .int .i64 t97.1.To, .string (bs t97.1.Data)] 37 (0, 0))], [(b28, .cells #[.int .i64 3, .int .i64 4, .string (bs ([121] : List UInt8))] 37 (0, 0))], [(b19, .cells #[.int .i64 1, .int .i64 2, .string (bs ([120] : List UInt8))] 37 (0, 0))]] at S159
 refine ⟨_, rfl, ?_⟩
 obtain ⟨cs162, G163, ho164, hg165⟩ := hO161
 obtain ⟨A166, c167, G168, rfl, hO169, hq170⟩ := ho164
 have S171 : St _ _ _ [[(p6, .cells #[.slice A166 t155.2.flying.length c167, .int .i64 t155.2.time] 133 (0, 0))], G168, [(b143, .cells #[.int .i64 t126.1.From, .int .i64 t126.1.To, .string (bs t126.1.Data)] 37 (0, 0))], [(b114, .cells #[.int .i64 t97.1.From, .int .i64 t97.1.To, .string (bs t97.1.Data)] 37 (0, 0))], [(b28, .cells #[.int .i64 3, .int .i64 4, .string (bs ([121] : List UInt8))] 37 (0, 0))], [(b19, .cells #[.int .i64 1, .int .i64 2, .string (bs ([120] : List UInt8))] 37 (0, 0))]] := S159.objs (by rw [hg165, hq170]; simp)
 refine WOps.p (G.assign rfl) rfl ?_
 refine WOps.nil ?_
 refine WEx.then_ ?_
 refine WCode.seq ?_
 refine WCode.drawH (.one 0 0 (.one 2 1 (.one 3 1 (.fork 1 (.one 4 2 (.one 5 2 (.one 6 0 .nil))) 4 (.one 1 2 (.one 5 2 (.one 6 0 .nil))))))) (fun W_ => cellsAt W_ b19 0 [.int .i64 1, .int .i64 2, .string (bs ([120] : List UInt8))] ∧ True) T.mixed (by kernel_rfl) (by intro _ _ d _ _ h; cases d <;> exact h) rfl rfl (by kernel_rfl) ?_ ?_
 all_goals have S172 := S171.drew
 all_goals generalize w157.drew = w173 at *
 · exact ⟨cellsAt.of_blk (S172.blk 5 rfl) rfl, trivial⟩
 refine WH.p rfl wants (G.move rfl) rfl ?_
 refine WH.r rfl wants (fun _ h_ => G.loada T.agg37_3 rfl (cs := [.int .i64 1, .int .i64 2, .string (bs ([120] : List UInt8))]) (cellsAt.part h_.1 0 rfl)) rfl ?_
 refine WH.r rfl wants (fun _ h_ => G.loada T.agg37_3 rfl (cs := [.int .i64 1, .int .i64 2, .string (bs ([120] : List UInt8))]) (cellsAt.part h_.1 0 rfl)) rfl ?_
 obtain ⟨t174, hc175, hF⟩ := bind_some hF
 refine WH.fork ?_ ?_
 ·
  have hP176 : PtR 133 Air.rp w173 (KS [[(p6, .cells #[.slice A166 t155.2.flying.length c167, .int .i64 t155.2.time] 133 (0, 0))], G168]) p6 t155.2 := ⟨_, S172.blk 0 rfl, KS_at 0 rfl (by simp [keys]), ⟨A166, c167, rfl, ((hO169.rd (fun b o hb => S172.grp 1 rfl hb)).mono (fun b hb => KS_at 1 rfl hb))⟩⟩
  refine WH.call rfl wants T.call24 (evs_cons rfl evs_nil) rfl ?_
  refine (ya_Flying_calls k t155.2 hP176 (St.outN (Bs := []) (As := [[(p6, .cells #[.slice A166 t155.2.flying.length c167, .int .i64 t155.2.time] 133 (0, 0))], G168]) S172) hc175).mono ?_
  rintro _ w177 ⟨A180, c181, G182, rfl, hO183, T178⟩
  have S179 := St.callN (As := []) S172 T178
  change St _ _ _ [G182, [(p6, .cells #[.slice A166 t155.2.flying.length c167, .int .i64 t155.2.time] 133 (0, 0))], G168, [(b143, .cells #[.int .i64 t126.1.From, .int .i64 t126.1.To, .string (bs t126.1.Data)] 37 (0, 0))], [(b114, .cells #[.int .i64 t97.1.From, .int .i64 t97.1.To, .string (bs t97.1.Data)] 37 (0, 0))], [(b28, .cells #[.int .i64 3, .int .i64 4, .string (bs ([121] : List UInt8))] 37 (0, 0))], [(b19, .cells #[.int .i64 1, .int .i64 2, .string (bs ([120] : List UInt8))] 37 (0, 0))]] at S179
  refine ⟨_, rfl, ?_⟩
  refine ⟨⟨cellsAt.of_blk (S179.blk 6 rfl) rfl, trivial⟩, ?_⟩
  obtain ⟨b184, w185, E186, S187, X188, L189⟩ := St.lit S179 (P := Try.prog) (t := 43) (e := 37) (n := 2) (vs := [(0, .agg #[.int .i64 1, .int .i64 2, .string (bs ([120] : List UInt8))]), (1, .agg #[.int .i64 1, .int .i64 2, .string (bs ([120] : List UInt8))])]) (cs := #[.int .i64 1, .int .i64 2, .string (bs ([120] : List UInt8)), .int .i64 1, .int .i64 2, .string (bs ([120] : List UInt8))]) (by kernel_rfl)
  change St _ _ _ [[(b184, .cells #[.int .i64 1, .int .i64 2, .string (bs ([120] : List UInt8)), .int .i64 1, .int .i64 2, .string (bs ([120] : List UInt8))] 37 (0, 0))], G182, [(p6, .cells #[.slice A166 t155.2.flying.length c167, .int .i64 t155.2.time] 133 (0, 0))], G168, [(b143, .cells #[.int .i64 t126.1.From, .int .i64 t126.1.To, .string (bs t126.1.Data)] 37 (0, 0))], [(b114, .cells #[.int .i64 t97.1.From, .int .i64 t97.1.To, .string (bs t97.1.Data)] 37 (0, 0))], [(b28, .cells #[.int .i64 3, .int .i64 4, .string (bs ([121] : List UInt8))] 37 (0, 0))], [(b19, .cells #[.int .i64 1, .int .i64 2, .string (bs ([120] : List UInt8))] 37 (0, 0))]] at S187
  refine WH.e rfl wants (E186 (evp_cons rfl (evp_cons rfl evp_nil))) rfl ⟨cellsAt.of_blk (S187.blk 7 rfl) rfl, trivial⟩ ?_
  have hO190 : SlO 37 Packet.rp (.slice (some ⟨b184, 0, none⟩) ([(⟨1, 2, ([120] : List UInt8)⟩ : Packet), (⟨1, 2, ([120] : List UInt8)⟩ : Packet)] : List Packet).length 2) ([(⟨1, 2, ([120] : List UInt8)⟩ : Packet), (⟨1, 2, ([120] : List UInt8)⟩ : Packet)] : List Packet) ([(b184, .cells #[.int .i64 1, .int .i64 2, .string (bs ([120] : List UInt8)), .int .i64 1, .int .i64 2, .string (bs ([120] : List UInt8))] 37 (0, 0))] ++ []) := SlO.lit (GM := []) ⟨_, _, [], [], rfl, rfl, ⟨rfl, rfl⟩, ⟨_, _, [], [], rfl, rfl, ⟨rfl, rfl⟩, ⟨rfl, rfl⟩⟩⟩ rfl (Nat.le_of_ble_eq_true rfl) (Nat.le_of_ble_eq_true rfl)
  rw [List.append_nil] at hO190
  obtain ⟨t191, hc192, hF⟩ := bind_some hF
  refine WH.call rfl wants T.call23 (evs_cons rfl (evs_cons rfl evs_nil)) rfl ?_
  refine (ysame_calls k (t174) ([(⟨1, 2, ([120] : List UInt8)⟩ : Packet), (⟨1, 2, ([120] : List UInt8)⟩ : Packet)] : List Packet) (hO183.rd (fun b o hb => S187.grp 1 rfl hb)) (St.outG (Bs := []) S187 1 rfl) (hO190.rd (fun b o hb => S187.grp 0 rfl hb)) (St.outG (Bs := []) S187 0 rfl) hc192).mono ?_
  rintro _ w193 ⟨rfl, T194⟩
  have S195 := St.callN (As := []) S187 T194
  change St _ _ _ [[(b184, .cells #[.int .i64 1, .int .i64 2, .string (bs ([120] : List UInt8)), .int .i64 1, .int .i64 2, .string (bs ([120] : List UInt8))] 37 (0, 0))], G182, [(p6, .cells #[.slice A166 t155.2.flying.length c167, .int .i64 t155.2.time] 133 (0, 0))], G168, [(b143, .cells #[.int .i64 t126.1.From, .int .i64 t126.1.To, .string (bs t126.1.Data)] 37 (0, 0))], [(b114, .cells #[.int .i64 t97.1.From, .int .i64 t97.1.To, .string (bs t97.1.Data)] 37 (0, 0))], [(b28, .cells #[.int .i64 3, .int .i64 4, .string (bs ([121] : List UInt8))] 37 (0, 0))], [(b19, .cells #[.int .i64 1, .int .i64 2, .string (bs ([120] : List UInt8))] 37 (0, 0))]] at S195
  refine ⟨_, rfl, ?_⟩
  refine ⟨⟨cellsAt.of_blk (S195.blk 7 rfl) rfl, trivial⟩, ?_⟩
  refine WH.p rfl wants (G.assign rfl) rfl ?_
  refine WH.nil ?_
  refine WEx.then_ ?_
  refine WCode.seq ?_
  refine WCode.region ?_
  refine WOps.p (G.move rfl) rfl ?_
  refine WOps.p (G.move rfl) rfl ?_
  rcases ite_some hF with ⟨h196, hF⟩ | ⟨h196, hF⟩
  ·
   refine WOps.on rfl (kbl (b := t191) rfl h196) ?_
   refine WOps.p (G.move rfl) rfl ?_
   refine WOps.on rfl (kbl (b := t191) rfl h196) ?_
   refine WOps.p (G.eql rfl rfl rfl) rfl ?_
   refine WOps.p (G.pick_t (kb (b := t191) rfl h196) rfl) rfl ?_
   refine WOps.p (G.move rfl) rfl ?_
   rcases ite_some hF with ⟨h197, hF⟩ | ⟨h197, hF⟩
   ·
    refine WOps.on rfl (kbl (b := decide (t40.1 = 0)) rfl (decide_eq_true h197)) ?_
    refine WOps.p (G.move rfl) rfl ?_
    refine WOps.on rfl (kbl (b := decide (t40.1 = 0)) rfl (decide_eq_true h197)) ?_
    refine WOps.p (G.eql rfl rfl rfl) rfl ?_
    refine WOps.p (G.pick_t (kb (b := decide (t40.1 = 0)) rfl (decide_eq_true h197)) rfl) rfl ?_
    refine WOps.p (G.move rfl) rfl ?_
    rcases ite_some hF with ⟨h198, hF⟩ | ⟨h198, hF⟩
    ·
     refine WOps.on rfl (kbl (b := decide (t59.1 = 0)) rfl (decide_eq_true h198)) ?_
     refine WOps.p (G.move rfl) rfl ?_
     refine WOps.on rfl (kbl (b := decide (t59.1 = 0)) rfl (decide_eq_true h198)) ?_
     refine WOps.p (G.eql rfl rfl rfl) rfl ?_
     refine WOps.p (G.pick_t (kb (b := decide (t59.1 = 0)) rfl (decide_eq_true h198)) rfl) rfl ?_
     refine WOps.p (G.move rfl) rfl ?_
     rcases ite_some hF with ⟨h199, hF⟩ | ⟨h199, hF⟩
     ·
      refine WOps.on rfl (kbl (b := decide (t78.1 = 0)) rfl (decide_eq_true h199)) ?_
      refine WOps.r (G.loada T.agg37_3 rfl (cs := [.int .i64 t97.1.From, .int .i64 t97.1.To, .string (bs t97.1.Data)]) (cellsAt.of_blk (S195.blk 5 rfl) rfl)) rfl ?_
      refine WOps.on rfl (kbl (b := decide (t78.1 = 0)) rfl (decide_eq_true h199)) ?_
      refine WOps.r (G.loada T.agg37_3 rfl (cs := [.int .i64 3, .int .i64 4, .string (bs ([121] : List UInt8))]) (cellsAt.of_blk (S195.blk 6 rfl) rfl)) rfl ?_
      refine WOps.on rfl (kbl (b := decide (t78.1 = 0)) rfl (decide_eq_true h199)) ?_
      refine WOps.p (G.eqa rfl rfl (by kernel_rfl) (Packet.eqIn37 t97.1 (⟨3, 4, ([121] : List UInt8)⟩ : Packet)) rfl) rfl ?_
      refine WOps.p (G.pick_t (kb (b := decide (t78.1 = 0)) rfl (decide_eq_true h199)) rfl) rfl ?_
      refine WOps.p (G.move rfl) rfl ?_
      rcases ite_some hF with ⟨h200, hF⟩ | ⟨h200, hF⟩
      ·
       refine WOps.on rfl (kbl (b := decide (t97.1 = (⟨3, 4, ([121] : List UInt8)⟩ : Packet))) rfl (decide_eq_true h200)) ?_
       refine WOps.p (G.move rfl) rfl ?_
       refine WOps.on rfl (kbl (b := decide (t97.1 = (⟨3, 4, ([121] : List UInt8)⟩ : Packet))) rfl (decide_eq_true h200)) ?_
       refine WOps.p (G.eql rfl rfl rfl) rfl ?_
       refine WOps.p (G.pick_t (kb (b := decide (t97.1 = (⟨3, 4, ([121] : List UInt8)⟩ : Packet))) rfl (decide_eq_true h200)) rfl) rfl ?_
       refine WOps.p (G.move rfl) rfl ?_
       rcases ite_some hF with ⟨h201, hF⟩ | ⟨h201, hF⟩
       ·
        refine WOps.on rfl (kbl (b := decide (t97.2.1 = 0)) rfl (decide_eq_true h201)) ?_
        refine WOps.p (G.move rfl) rfl ?_
        refine WOps.on rfl (kbl (b := decide (t97.2.1 = 0)) rfl (decide_eq_true h201)) ?_
        refine WOps.p (G.eql rfl rfl rfl) rfl ?_
        refine WOps.p (G.pick_t (kb (b := decide (t97.2.1 = 0)) rfl (decide_eq_true h201)) rfl) rfl ?_
        refine WOps.p (G.move rfl) rfl ?_
        rcases ite_some hF with ⟨h202, hF⟩ | ⟨h202, hF⟩
        ·
         refine WOps.on rfl (kbl (b := decide (t126.2.1 = 130)) rfl (decide_eq_true h202)) ?_
         refine WOps.p (G.move rfl) rfl ?_
         refine WOps.on rfl (kbl (b := decide (t126.2.1 = 130)) rfl (decide_eq_true h202)) ?_
         refine WOps.p (G.eql rfl rfl rfl) rfl ?_
         refine WOps.p (G.pick_t (kb (b := decide (t126.2.1 = 130)) rfl (decide_eq_true h202)) rfl) rfl ?_
         refine WOps.p (G.move rfl) rfl ?_
         rcases ite_some hF with ⟨h203, hF⟩ | ⟨h203, hF⟩
         ·
          refine WOps.on rfl (kbl (b := decide (t155.1 = 1)) rfl (decide_eq_true h203)) ?_
          refine WOps.p (G.move rfl) rfl ?_
          refine WOps.on rfl (kbl (b := decide (t155.1 = 1)) rfl (decide_eq_true h203)) ?_
          obtain ⟨t204, hc205, hF⟩ := bind_some hF
          have S206 := (S195.front 3 rfl).front 3 rfl
          change St _ _ _ [[(p6, .cells #[.slice A166 t155.2.flying.length c167, .int .i64 t155.2.time] 133 (0, 0))], G168, [(b184, .cells #[.int .i64 1, .int .i64 2, .string (bs ([120] : List UInt8)), .int .i64 1, .int .i64 2, .string (bs ([120] : List UInt8))] 37 (0, 0))], G182, [(b143, .cells #[.int .i64 t126.1.From, .int .i64 t126.1.To, .string (bs t126.1.Data)] 37 (0, 0))], [(b114, .cells #[.int .i64 t97.1.From, .int .i64 t97.1.To, .string (bs t97.1.Data)] 37 (0, 0))], [(b28, .cells #[.int .i64 3, .int .i64 4, .string (bs ([121] : List UInt8))] 37 (0, 0))], [(b19, .cells #[.int .i64 1, .int .i64 2, .string (bs ([120] : List UInt8))] 37 (0, 0))]] at S206
          have hP207 : PtR 133 Air.rp w193 (KS [[(p6, .cells #[.slice A166 t155.2.flying.length c167, .int .i64 t155.2.time] 133 (0, 0))], G168]) p6 t155.2 := ⟨_, S206.blk 0 rfl, KS_at 0 rfl (by simp [keys]), ⟨A166, c167, rfl, ((hO169.rd (fun b o hb => S206.grp 1 rfl hb)).mono (fun b hb => KS_at 1 rfl hb))⟩⟩
          refine WOps.call T.call25 (evs_cons rfl evs_nil) rfl ?_
          refine (ya_Now_calls k t155.2 hP207 (St.outN (Bs := []) (As := [[(p6, .cells #[.slice A166 t155.2.flying.length c167, .int .i64 t155.2.time] 133 (0, 0))], G168]) S206) hc205).mono ?_
          rintro _ w208 ⟨rfl, T209⟩
          have S210 := St.callN (As := []) S206 T209
          change St _ _ _ [[(p6, .cells #[.slice A166 t155.2.flying.length c167, .int .i64 t155.2.time] 133 (0, 0))], G168, [(b184, .cells #[.int .i64 1, .int .i64 2, .string (bs ([120] : List UInt8)), .int .i64 1, .int .i64 2, .string (bs ([120] : List UInt8))] 37 (0, 0))], G182, [(b143, .cells #[.int .i64 t126.1.From, .int .i64 t126.1.To, .string (bs t126.1.Data)] 37 (0, 0))], [(b114, .cells #[.int .i64 t97.1.From, .int .i64 t97.1.To, .string (bs t97.1.Data)] 37 (0, 0))], [(b28, .cells #[.int .i64 3, .int .i64 4, .string (bs ([121] : List UInt8))] 37 (0, 0))], [(b19, .cells #[.int .i64 1, .int .i64 2, .string (bs ([120] : List UInt8))] 37 (0, 0))]] at S210
          refine ⟨_, rfl, ?_⟩
          refine WOps.on rfl (kbl (b := decide (t155.1 = 1)) rfl (decide_eq_true h203)) ?_
          refine WOps.p (G.eql rfl rfl rfl) rfl ?_
          refine WOps.p (G.pick_t (kb (b := decide (t155.1 = 1)) rfl (decide_eq_true h203)) rfl) rfl ?_
          refine WOps.p (G.move rfl) rfl ?_
          rcases ite_some hF with ⟨h211, hF⟩ | ⟨h211, hF⟩
          ·
           refine WOps.on rfl (kbl (b := decide (t204 = 1)) rfl (decide_eq_true h211)) ?_
           refine WOps.p (G.move rfl) rfl ?_
           refine WOps.on rfl (kbl (b := decide (t204 = 1)) rfl (decide_eq_true h211)) ?_
           have hO212 : ObjO 133 Air.rp p6 t155.2 ([(p6, .cells #[.slice A166 t155.2.flying.length c167, .int .i64 t155.2.time] 133 (0, 0))] ++ (G168)) := ⟨_, _, ⟨A166, c167, G168, rfl, hO169, rfl⟩, rfl⟩
           have S213 : St _ _ _ [[(p6, .cells #[.slice A166 t155.2.flying.length c167, .int .i64 t155.2.time] 133 (0, 0))] ++ (G168), [(b184, .cells #[.int .i64 1, .int .i64 2, .string (bs ([120] : List UInt8)), .int .i64 1, .int .i64 2, .string (bs ([120] : List UInt8))] 37 (0, 0))], G182, [(b143, .cells #[.int .i64 t126.1.From, .int .i64 t126.1.To, .string (bs t126.1.Data)] 37 (0, 0))], [(b114, .cells #[.int .i64 t97.1.From, .int .i64 t97.1.To, .string (bs t97.1.Data)] 37 (0, 0))], [(b28, .cells #[.int .i64 3, .int .i64 4, .string (bs ([121] : List UInt8))] 37 (0, 0))], [(b19, .cells #[.int .i64 1, .int .i64 2, .string (bs ([120] : List UInt8))] 37 (0, 0))]] := S210.objs (by simp)
           obtain ⟨t214, hc215, hF⟩ := bind_some hF
           refine WOps.call T.call20 (evs_cons rfl (evs_cons rfl evs_nil)) rfl ?_
           refine (ya_Drop_calls k t155.2 0 hO212 hc215 (St.hpN (As := [[(p6, .cells #[.slice A166 t155.2.flying.length c167, .int .i64 t155.2.time] 133 (0, 0))] ++ (G168)]) S213)).mono ?_
           rintro _ w216 ⟨G219, rfl, hO220, T217⟩
           have S218 := St.callN (As := [[(p6, .cells #[.slice A166 t155.2.flying.length c167, .int .i64 t155.2.time] 133 (0, 0))] ++ (G168)]) S213 T217
           change St _ _ _ [G219, [(b184, .cells #[.int .i64 1, .int .i64 2, .string (bs ([120] : List UInt8)), .int .i64 1, .int .i64 2, .string (bs ([120] : List UInt8))] 37 (0, 0))], G182, [(b143, .cells #[.int .i64 t126.1.From, .int .i64 t126.1.To, .string (bs t126.1.Data)] 37 (0, 0))], [(b114, .cells #[.int .i64 t97.1.From, .int .i64 t97.1.To, .string (bs t97.1.Data)] 37 (0, 0))], [(b28, .cells #[.int .i64 3, .int .i64 4, .string (bs ([121] : List UInt8))] 37 (0, 0))], [(b19, .cells #[.int .i64 1, .int .i64 2, .string (bs ([120] : List UInt8))] 37 (0, 0))]] at S218
           refine ⟨_, rfl, ?_⟩
           obtain ⟨cs221, G222, ho223, hg224⟩ := hO220
           obtain ⟨A225, c226, G227, rfl, hO228, hq229⟩ := ho223
           have S230 : St _ _ _ [[(p6, .cells #[.slice A225 t214.2.flying.length c226, .int .i64 t214.2.time] 133 (0, 0))], G227, [(b184, .cells #[.int .i64 1, .int .i64 2, .string (bs ([120] : List UInt8)), .int .i64 1, .int .i64 2, .string (bs ([120] : List UInt8))] 37 (0, 0))], G182, [(b143, .cells #[.int .i64 t126.1.From, .int .i64 t126.1.To, .string (bs t126.1.Data)] 37 (0, 0))], [(b114, .cells #[.int .i64 t97.1.From, .int .i64 t97.1.To, .string (bs t97.1.Data)] 37 (0, 0))], [(b28, .cells #[.int .i64 3, .int .i64 4, .string (bs ([121] : List UInt8))] 37 (0, 0))], [(b19, .cells #[.int .i64 1, .int .i64 2, .string (bs ([120] : List UInt8))] 37 (0, 0))]] := S218.objs (by rw [hg224, hq229]; simp)
           refine WOps.on rfl (kbl (b := decide (t204 = 1)) rfl (decide_eq_true h211)) ?_
           refine WOps.p (G.eql rfl rfl rfl) rfl ?_
           refine WOps.p (G.pick_t (kb (b := decide (t204 = 1)) rfl (decide_eq_true h211)) rfl) rfl ?_
           refine WOps.p (G.assign rfl) rfl ?_
           refine WOps.nil ?_
           refine WEx.then_ ?_
           refine WCode.forget (l' := [(0, .bool (decide (t214.1 = 0)))]) ⟨rfl, trivial⟩ ?_
           refine WCode.ret ?_
           obtain rfl := some_eq hF
           refine WEx.ret1 rfl rfl ?_
           exact ⟨rfl, St.keep (As := []) S230⟩
          ·
           refine WOps.off rfl (kbl (b := decide (t204 = 1)) rfl (decide_eq_false h211)) rfl rfl ?_
           refine WOps.off rfl (kbl (b := decide (t204 = 1)) rfl (decide_eq_false h211)) rfl rfl ?_
           refine WOps.off rfl (kbl (b := decide (t204 = 1)) rfl (decide_eq_false h211)) rfl rfl ?_
           refine WOps.p (G.pick_f (kb (b := decide (t204 = 1)) rfl (decide_eq_false h211)) rfl) rfl ?_
           refine WOps.p (G.assign rfl) rfl ?_
           refine WOps.nil ?_
           refine WEx.then_ ?_
           refine WCode.forget (l' := [(0, .bool false)]) ⟨rfl, trivial⟩ ?_
           refine WCode.ret ?_
           obtain rfl := some_eq hF
           refine WEx.ret1 rfl rfl ?_
           exact ⟨rfl, St.keep (As := []) S210⟩
         ·
          refine WOps.off rfl (kbl (b := decide (t155.1 = 1)) rfl (decide_eq_false h203)) rfl rfl ?_
          refine WOps.off rfl (kbl (b := decide (t155.1 = 1)) rfl (decide_eq_false h203)) rfl rfl ?_
          refine WOps.off rfl (kbl (b := decide (t155.1 = 1)) rfl (decide_eq_false h203)) rfl rfl ?_
          refine WOps.p (G.pick_f (kb (b := decide (t155.1 = 1)) rfl (decide_eq_false h203)) rfl) rfl ?_
          refine WOps.p (G.move rfl) rfl ?_
          refine WOps.off rfl rfl rfl rfl ?_
          refine WOps.off rfl rfl rfl rfl ?_
          refine WOps.off rfl rfl rfl rfl ?_
          refine WOps.p (G.pick_f rfl rfl) rfl ?_
          refine WOps.p (G.assign rfl) rfl ?_
          refine WOps.nil ?_
          refine WEx.then_ ?_
          refine WCode.forget (l' := [(0, .bool false)]) ⟨rfl, trivial⟩ ?_
          refine WCode.ret ?_
          obtain rfl := some_eq hF
          refine WEx.ret1 rfl rfl ?_
          exact ⟨rfl, St.keep (As := []) S195⟩
        ·
         refine WOps.off rfl (kbl (b := decide (t126.2.1 = 130)) rfl (decide_eq_false h202)) rfl rfl ?_
         refine WOps.off rfl (kbl (b := decide (t126.2.1 = 130)) rfl (decide_eq_false h202)) rfl rfl ?_
         refine WOps.p (G.pick_f (kb (b := decide (t126.2.1 = 130)) rfl (decide_eq_false h202)) rfl) rfl ?_
         refine WOps.p (G.move rfl) rfl ?_
         refine WOps.off rfl rfl rfl rfl ?_
         refine WOps.off rfl rfl rfl rfl ?_
         refine WOps.off rfl rfl rfl rfl ?_
         refine WOps.p (G.pick_f rfl rfl) rfl ?_
         refine WOps.p (G.move rfl) rfl ?_
         refine WOps.off rfl rfl rfl rfl ?_
         refine WOps.off rfl rfl rfl rfl ?_
         refine WOps.off rfl rfl rfl rfl ?_
         refine WOps.p (G.pick_f rfl rfl) rfl ?_
         refine WOps.p (G.assign rfl) rfl ?_
         refine WOps.nil ?_
         refine WEx.then_ ?_
         refine WCode.forget (l' := [(0, .bool false)]) ⟨rfl, trivial⟩ ?_
         refine WCode.ret ?_
         obtain rfl := some_eq hF
         refine WEx.ret1 rfl rfl ?_
         exact ⟨rfl, St.keep (As := []) S195⟩
       ·
        refine WOps.off rfl (kbl (b := decide (t97.2.1 = 0)) rfl (decide_eq_false h201)) rfl rfl ?_
        refine WOps.off rfl (kbl (b := decide (t97.2.1 = 0)) rfl (decide_eq_false h201)) rfl rfl ?_
        refine WOps.p (G.pick_f (kb (b := decide (t97.2.1 = 0)) rfl (decide_eq_false h201)) rfl) rfl ?_
        refine WOps.p (G.move rfl) rfl ?_
        refine WOps.off rfl rfl rfl rfl ?_
        refine WOps.off rfl rfl rfl rfl ?_
        refine WOps.p (G.pick_f rfl rfl) rfl ?_
        refine WOps.p (G.move rfl) rfl ?_
        refine WOps.off rfl rfl rfl rfl ?_
        refine WOps.off rfl rfl rfl rfl ?_
        refine WOps.off rfl rfl rfl rfl ?_
        refine WOps.p (G.pick_f rfl rfl) rfl ?_
        refine WOps.p (G.move rfl) rfl ?_
        refine WOps.off rfl rfl rfl rfl ?_
        refine WOps.off rfl rfl rfl rfl ?_
        refine WOps.off rfl rfl rfl rfl ?_
        refine WOps.p (G.pick_f rfl rfl) rfl ?_
        refine WOps.p (G.assign rfl) rfl ?_
        refine WOps.nil ?_
        refine WEx.then_ ?_
        refine WCode.forget (l' := [(0, .bool false)]) ⟨rfl, trivial⟩ ?_
        refine WCode.ret ?_
        obtain rfl := some_eq hF
        refine WEx.ret1 rfl rfl ?_
        exact ⟨rfl, St.keep (As := []) S195⟩
      ·
       refine WOps.off rfl (kbl (b := decide (t97.1 = (⟨3, 4, ([121] : List UInt8)⟩ : Packet))) rfl (decide_eq_false h200)) rfl rfl ?_
       refine WOps.off rfl (kbl (b := decide (t97.1 = (⟨3, 4, ([121] : List UInt8)⟩ : Packet))) rfl (decide_eq_false h200)) rfl rfl ?_
       refine WOps.p (G.pick_f (kb (b := decide (t97.1 = (⟨3, 4, ([121] : List UInt8)⟩ : Packet))) rfl (decide_eq_false h200)) rfl) rfl ?_
       refine WOps.p (G.move rfl) rfl ?_
       refine WOps.off rfl rfl rfl rfl ?_
       refine WOps.off rfl rfl rfl rfl ?_
       refine WOps.p (G.pick_f rfl rfl) rfl ?_
       refine WOps.p (G.move rfl) rfl ?_
       refine WOps.off rfl rfl rfl rfl ?_
       refine WOps.off rfl rfl rfl rfl ?_
       refine WOps.p (G.pick_f rfl rfl) rfl ?_
       refine WOps.p (G.move rfl) rfl ?_
       refine WOps.off rfl rfl rfl rfl ?_
       refine WOps.off rfl rfl rfl rfl ?_
       refine WOps.off rfl rfl rfl rfl ?_
       refine WOps.p (G.pick_f rfl rfl) rfl ?_
       refine WOps.p (G.move rfl) rfl ?_
       refine WOps.off rfl rfl rfl rfl ?_
       refine WOps.off rfl rfl rfl rfl ?_
       refine WOps.off rfl rfl rfl rfl ?_
       refine WOps.p (G.pick_f rfl rfl) rfl ?_
       refine WOps.p (G.assign rfl) rfl ?_
       refine WOps.nil ?_
       refine WEx.then_ ?_
       refine WCode.forget (l' := [(0, .bool false)]) ⟨rfl, trivial⟩ ?_
       refine WCode.ret ?_
       obtain rfl := some_eq hF
       refine WEx.ret1 rfl rfl ?_
       exact ⟨rfl, St.keep (As := []) S195⟩
     ·
      refine WOps.off rfl (kbl (b := decide (t78.1 = 0)) rfl (decide_eq_false h199)) rfl rfl ?_
      refine WOps.off rfl (kbl (b := decide (t78.1 = 0)) rfl (decide_eq_false h199)) rfl rfl ?_
      refine WOps.off rfl (kbl (b := decide (t78.1 = 0)) rfl (decide_eq_false h199)) rfl rfl ?_
      refine WOps.p (G.pick_f (kb (b := decide (t78.1 = 0)) rfl (decide_eq_false h199)) rfl) rfl ?_
      refine WOps.p (G.move rfl) rfl ?_
      refine WOps.off rfl rfl rfl rfl ?_
      refine WOps.off rfl rfl rfl rfl ?_
      refine WOps.p (G.pick_f rfl rfl) rfl ?_
      refine WOps.p (G.move rfl) rfl ?_
      refine WOps.off rfl rfl rfl rfl ?_
      refine WOps.off rfl rfl rfl rfl ?_
      refine WOps.p (G.pick_f rfl rfl) rfl ?_
      refine WOps.p (G.move rfl) rfl ?_
      refine WOps.off rfl rfl rfl rfl ?_
      refine WOps.off rfl rfl rfl rfl ?_
      refine WOps.p (G.pick_f rfl rfl) rfl ?_
      refine WOps.p (G.move rfl) rfl ?_
      refine WOps.off rfl rfl rfl rfl ?_
      refine WOps.off rfl rfl rfl rfl ?_
      refine WOps.off rfl rfl rfl rfl ?_
      refine WOps.p (G.pick_f rfl rfl) rfl ?_
      refine WOps.p (G.move rfl) rfl ?_
      refine WOps.off rfl rfl rfl rfl ?_
      refine WOps.off rfl rfl rfl rfl ?_
      refine WOps.off rfl rfl rfl rfl ?_
      refine WOps.p (G.pick_f rfl rfl) rfl ?_
      refine WOps.p (G.assign rfl) rfl ?_
      refine WOps.nil ?_
      refine WEx.then_ ?_
      refine WCode.forget (l' := [(0, .bool false)]) ⟨rfl, trivial⟩ ?_
      refine WCode.ret ?_
      obtain rfl := some_eq hF
      refine WEx.ret1 rfl rfl ?_
      exact ⟨rfl, St.keep (As := []) S195⟩
    ·
     refine WOps.off rfl (kbl (b := decide (t59.1 = 0)) rfl (decide_eq_false h198)) rfl rfl ?_
     refine WOps.off rfl (kbl (b := decide (t59.1 = 0)) rfl (decide_eq_false h198)) rfl rfl ?_
     refine WOps.p (G.pick_f (kb (b := decide (t59.1 = 0)) rfl (decide_eq_false h198)) rfl) rfl ?_
     refine WOps.p (G.move rfl) rfl ?_
     refine WOps.off rfl rfl rfl rfl ?_
     refine WOps.off rfl rfl rfl rfl ?_
     refine WOps.off rfl rfl rfl rfl ?_
     refine WOps.p (G.pick_f rfl rfl) rfl ?_
     refine WOps.p (G.move rfl) rfl ?_
     refine WOps.off rfl rfl rfl rfl ?_
     refine WOps.off rfl rfl rfl rfl ?_
     refine WOps.p (G.pick_f rfl rfl) rfl ?_
     refine WOps.p (G.move rfl) rfl ?_
     refine WOps.off rfl rfl rfl rfl ?_
     refine WOps.off rfl rfl rfl rfl ?_
     refine WOps.p (G.pick_f rfl rfl) rfl ?_
     refine WOps.p (G.move rfl) rfl ?_
     refine WOps.off rfl rfl rfl rfl ?_
     refine WOps.off rfl rfl rfl rfl ?_
     refine WOps.p (G.pick_f rfl rfl) rfl ?_
     refine WOps.p (G.move rfl) rfl ?_
     refine WOps.off rfl rfl rfl rfl ?_
     refine WOps.off rfl rfl rfl rfl ?_
     refine WOps.off rfl rfl rfl rfl ?_
     refine WOps.p (G.pick_f rfl rfl) rfl ?_
     refine WOps.p (G.move rfl) rfl ?_
     refine WOps.off rfl rfl rfl rfl ?_
     refine WOps.off rfl rfl rfl rfl ?_
     refine WOps.off rfl rfl rfl rfl ?_
     refine WOps.p (G.pick_f rfl rfl) rfl ?_
     refine WOps.p (G.assign rfl) rfl ?_
     refine WOps.nil ?_
     refine WEx.then_ ?_
     refine WCode.forget (l' := [(0, .bool false)]) ⟨rfl, trivial⟩ ?_
     refine WCode.ret ?_
     obtain rfl := some_eq hF
     refine WEx.ret1 rfl rfl ?_
     exact ⟨rfl, St.keep (As := []) S195⟩
   ·
    refine WOps.off rfl (kbl (b := decide (t40.1 = 0)) rfl (decide_eq_false h197)) rfl rfl ?_
    refine WOps.off rfl (kbl (b := decide (t40.1 = 0)) rfl (decide_eq_false h197)) rfl rfl ?_
    refine WOps.p (G.pick_f (kb (b := decide (t40.1 = 0)) rfl (decide_eq_false h197)) rfl) rfl ?_
    refine WOps.p (G.move rfl) rfl ?_
    refine WOps.off rfl rfl rfl rfl ?_
    refine WOps.off rfl rfl rfl rfl ?_
    refine WOps.p (G.pick_f rfl rfl) rfl ?_
    refine WOps.p (G.move rfl) rfl ?_
    refine WOps.off rfl rfl rfl rfl ?_
    refine WOps.off rfl rfl rfl rfl ?_
    refine WOps.off rfl rfl rfl rfl ?_
    refine WOps.p (G.pick_f rfl rfl) rfl ?_
    refine WOps.p (G.move rfl) rfl ?_
    refine WOps.off rfl rfl rfl rfl ?_
    refine WOps.off rfl rfl rfl rfl ?_
    refine WOps.p (G.pick_f rfl rfl) rfl ?_
    refine WOps.p (G.move rfl) rfl ?_
    refine WOps.off rfl rfl rfl rfl ?_
    refine WOps.off rfl rfl rfl rfl ?_
    refine WOps.p (G.pick_f rfl rfl) rfl ?_
    refine WOps.p (G.move rfl) rfl ?_
    refine WOps.off rfl rfl rfl rfl ?_
    refine WOps.off rfl rfl rfl rfl ?_
    refine WOps.p (G.pick_f rfl rfl) rfl ?_
    refine WOps.p (G.move rfl) rfl ?_
    refine WOps.off rfl rfl rfl rfl ?_
    refine WOps.off rfl rfl rfl rfl ?_
    refine WOps.off rfl rfl rfl rfl ?_
    refine WOps.p (G.pick_f rfl rfl) rfl ?_
    refine WOps.p (G.move rfl) rfl ?_
    refine WOps.off rfl rfl rfl rfl ?_
    refine WOps.off rfl rfl rfl rfl ?_
    refine WOps.off rfl rfl rfl rfl ?_
    refine WOps.p (G.pick_f rfl rfl) rfl ?_
    refine WOps.p (G.assign rfl) rfl ?_
    refine WOps.nil ?_
    refine WEx.then_ ?_
    refine WCode.forget (l' := [(0, .bool false)]) ⟨rfl, trivial⟩ ?_
    refine WCode.ret ?_
    obtain rfl := some_eq hF
    refine WEx.ret1 rfl rfl ?_
    exact ⟨rfl, St.keep (As := []) S195⟩
  ·
   refine WOps.off rfl (kbl (b := t191) rfl (Bool.eq_false_iff.2 h196)) rfl rfl ?_
   refine WOps.off rfl (kbl (b := t191) rfl (Bool.eq_false_iff.2 h196)) rfl rfl ?_
   refine WOps.p (G.pick_f (kb (b := t191) rfl (Bool.eq_false_iff.2 h196)) rfl) rfl ?_
   refine WOps.p (G.move rfl) rfl ?_
   refine WOps.off rfl rfl rfl rfl ?_
   refine WOps.off rfl rfl rfl rfl ?_
   refine WOps.p (G.pick_f rfl rfl) rfl ?_
   refine WOps.p (G.move rfl) rfl ?_
   refine WOps.off rfl rfl rfl rfl ?_
   refine WOps.off rfl rfl rfl rfl ?_
   refine WOps.p (G.pick_f rfl rfl) rfl ?_
   refine WOps.p (G.move rfl) rfl ?_
   refine WOps.off rfl rfl rfl rfl ?_
   refine WOps.off rfl rfl rfl rfl ?_
   refine WOps.off rfl rfl rfl rfl ?_
   refine WOps.p (G.pick_f rfl rfl) rfl ?_
   refine WOps.p (G.move rfl) rfl ?_
   refine WOps.off rfl rfl rfl rfl ?_
   refine WOps.off rfl rfl rfl rfl ?_
   refine WOps.p (G.pick_f rfl rfl) rfl ?_
   refine WOps.p (G.move rfl) rfl ?_
   refine WOps.off rfl rfl rfl rfl ?_
   refine WOps.off rfl rfl rfl rfl ?_
   refine WOps.p (G.pick_f rfl rfl) rfl ?_
   refine WOps.p (G.move rfl) rfl ?_
   refine WOps.off rfl rfl rfl rfl ?_
   refine WOps.off rfl rfl rfl rfl ?_
   refine WOps.p (G.pick_f rfl rfl) rfl ?_
   refine WOps.p (G.move rfl) rfl ?_
   refine WOps.off rfl rfl rfl rfl ?_
   refine WOps.off rfl rfl rfl rfl ?_
   refine WOps.off rfl rfl rfl rfl ?_
   refine WOps.p (G.pick_f rfl rfl) rfl ?_
   refine WOps.p (G.move rfl) rfl ?_
   refine WOps.off rfl rfl rfl rfl ?_
   refine WOps.off rfl rfl rfl rfl ?_
   refine WOps.off rfl rfl rfl rfl ?_
   refine WOps.p (G.pick_f rfl rfl) rfl ?_
   refine WOps.p (G.assign rfl) rfl ?_
   refine WOps.nil ?_
   refine WEx.then_ ?_
   refine WCode.forget (l' := [(0, .bool false)]) ⟨rfl, trivial⟩ ?_
   refine WCode.ret ?_
   obtain rfl := some_eq hF
   refine WEx.ret1 rfl rfl ?_
   exact ⟨rfl, St.keep (As := []) S195⟩
 ·
  obtain ⟨b176, w177, E178, S179, X180, L181⟩ := St.lit S172 (P := Try.prog) (t := 43) (e := 37) (n := 2) (vs := [(0, .agg #[.int .i64 1, .int .i64 2, .string (bs ([120] : List UInt8))]), (1, .agg #[.int .i64 1, .int .i64 2, .string (bs ([120] : List UInt8))])]) (cs := #[.int .i64 1, .int .i64 2, .string (bs ([120] : List UInt8)), .int .i64 1, .int .i64 2, .string (bs ([120] : List UInt8))]) (by kernel_rfl)
  change St _ _ _ [[(b176, .cells #[.int .i64 1, .int .i64 2, .string (bs ([120] : List UInt8)), .int .i64 1, .int .i64 2, .string (bs ([120] : List UInt8))] 37 (0, 0))], [(p6, .cells #[.slice A166 t155.2.flying.length c167, .int .i64 t155.2.time] 133 (0, 0))], G168, [(b143, .cells #[.int .i64 t126.1.From, .int .i64 t126.1.To, .string (bs t126.1.Data)] 37 (0, 0))], [(b114, .cells #[.int .i64 t97.1.From, .int .i64 t97.1.To, .string (bs t97.1.Data)] 37 (0, 0))], [(b28, .cells #[.int .i64 3, .int .i64 4, .string (bs ([121] : List UInt8))] 37 (0, 0))], [(b19, .cells #[.int .i64 1, .int .i64 2, .string (bs ([120] : List UInt8))] 37 (0, 0))]] at S179
  refine WH.e rfl wants (E178 (evp_cons rfl (evp_cons rfl evp_nil))) rfl ⟨cellsAt.of_blk (S179.blk 6 rfl) rfl, trivial⟩ ?_
  have S182 := (S179.front 2 rfl).front 2 rfl
  change St _ _ _ [[(p6, .cells #[.slice A166 t155.2.flying.length c167, .int .i64 t155.2.time] 133 (0, 0))], G168, [(b176, .cells #[.int .i64 1, .int .i64 2, .string (bs ([120] : List UInt8)), .int .i64 1, .int .i64 2, .string (bs ([120] : List UInt8))] 37 (0, 0))], [(b143, .cells #[.int .i64 t126.1.From, .int .i64 t126.1.To, .string (bs t126.1.Data)] 37 (0, 0))], [(b114, .cells #[.int .i64 t97.1.From, .int .i64 t97.1.To, .string (bs t97.1.Data)] 37 (0, 0))], [(b28, .cells #[.int .i64 3, .int .i64 4, .string (bs ([121] : List UInt8))] 37 (0, 0))], [(b19, .cells #[.int .i64 1, .int .i64 2, .string (bs ([120] : List UInt8))] 37 (0, 0))]] at S182
  have hP183 : PtR 133 Air.rp w177 (KS [[(p6, .cells #[.slice A166 t155.2.flying.length c167, .int .i64 t155.2.time] 133 (0, 0))], G168]) p6 t155.2 := ⟨_, S182.blk 0 rfl, KS_at 0 rfl (by simp [keys]), ⟨A166, c167, rfl, ((hO169.rd (fun b o hb => S182.grp 1 rfl hb)).mono (fun b hb => KS_at 1 rfl hb))⟩⟩
  refine WH.call rfl wants T.call24 (evs_cons rfl evs_nil) rfl ?_
  refine (ya_Flying_calls k t155.2 hP183 (St.outN (Bs := []) (As := [[(p6, .cells #[.slice A166 t155.2.flying.length c167, .int .i64 t155.2.time] 133 (0, 0))], G168]) S182) hc175).mono ?_
  rintro _ w184 ⟨A187, c188, G189, rfl, hO190, T185⟩
  have S186 := St.callN (As := []) S182 T185
  change St _ _ _ [G189, [(p6, .cells #[.slice A166 t155.2.flying.length c167, .int .i64 t155.2.time] 133 (0, 0))], G168, [(b176, .cells #[.int .i64 1, .int .i64 2, .string (bs ([120] : List UInt8)), .int .i64 1, .int .i64 2, .string (bs ([120] : List UInt8))] 37 (0, 0))], [(b143, .cells #[.int .i64 t126.1.From, .int .i64 t126.1.To, .string (bs t126.1.Data)] 37 (0, 0))], [(b114, .cells #[.int .i64 t97.1.From, .int .i64 t97.1.To, .string (bs t97.1.Data)] 37 (0, 0))], [(b28, .cells #[.int .i64 3, .int .i64 4, .string (bs ([121] : List UInt8))] 37 (0, 0))], [(b19, .cells #[.int .i64 1, .int .i64 2, .string (bs ([120] : List UInt8))] 37 (0, 0))]] at S186
  refine ⟨_, rfl, ?_⟩
  refine ⟨⟨cellsAt.of_blk (S186.blk 7 rfl) rfl, trivial⟩, ?_⟩
  have hO191 : SlO 37 Packet.rp (.slice (some ⟨b176, 0, none⟩) ([(⟨1, 2, ([120] : List UInt8)⟩ : Packet), (⟨1, 2, ([120] : List UInt8)⟩ : Packet)] : List Packet).length 2) ([(⟨1, 2, ([120] : List UInt8)⟩ : Packet), (⟨1, 2, ([120] : List UInt8)⟩ : Packet)] : List Packet) ([(b176, .cells #[.int .i64 1, .int .i64 2, .string (bs ([120] : List UInt8)), .int .i64 1, .int .i64 2, .string (bs ([120] : List UInt8))] 37 (0, 0))] ++ []) := SlO.lit (GM := []) ⟨_, _, [], [], rfl, rfl, ⟨rfl, rfl⟩, ⟨_, _, [], [], rfl, rfl, ⟨rfl, rfl⟩, ⟨rfl, rfl⟩⟩⟩ rfl (Nat.le_of_ble_eq_true rfl) (Nat.le_of_ble_eq_true rfl)
  rw [List.append_nil] at hO191
  obtain ⟨t192, hc193, hF⟩ := bind_some hF
  refine WH.call rfl wants T.call23 (evs_cons rfl (evs_cons rfl evs_nil)) rfl ?_
  refine (ysame_calls k (t174) ([(⟨1, 2, ([120] : List UInt8)⟩ : Packet), (⟨1, 2, ([120] : List UInt8)⟩ : Packet)] : List Packet) (hO190.rd (fun b o hb => S186.grp 0 rfl hb)) (St.outG (Bs := []) S186 0 rfl) (hO191.rd (fun b o hb => S186.grp 3 rfl hb)) (St.outG (Bs := []) S186 3 rfl) hc193).mono ?_
  rintro _ w194 ⟨rfl, T195⟩
  have S196 := St.callN (As := []) S186 T195
  change St _ _ _ [G189, [(p6, .cells #[.slice A166 t155.2.flying.length c167, .int .i64 t155.2.time] 133 (0, 0))], G168, [(b176, .cells #[.int .i64 1, .int .i64 2, .string (bs ([120] : List UInt8)), .int .i64 1, .int .i64 2, .string (bs ([120] : List UInt8))] 37 (0, 0))], [(b143, .cells #[.int .i64 t126.1.From, .int .i64 t126.1.To, .string (bs t126.1.Data)] 37 (0, 0))], [(b114, .cells #[.int .i64 t97.1.From, .int .i64 t97.1.To, .string (bs t97.1.Data)] 37 (0, 0))], [(b28, .cells #[.int .i64 3, .int .i64 4, .string (bs ([121] : List UInt8))] 37 (0, 0))], [(b19, .cells #[.int .i64 1, .int .i64 2, .string (bs ([120] : List UInt8))] 37 (0, 0))]] at S196
  refine ⟨_, rfl, ?_⟩
  refine ⟨⟨cellsAt.of_blk (S196.blk 7 rfl) rfl, trivial⟩, ?_⟩
  refine WH.p rfl wants (G.assign rfl) rfl ?_
  refine WH.nil ?_
  refine WEx.then_ ?_
  refine WCode.seq ?_
  refine WCode.region ?_
  refine WOps.p (G.move rfl) rfl ?_
  refine WOps.p (G.move rfl) rfl ?_
  rcases ite_some hF with ⟨h197, hF⟩ | ⟨h197, hF⟩
  ·
   refine WOps.on rfl (kbl (b := t192) rfl h197) ?_
   refine WOps.p (G.move rfl) rfl ?_
   refine WOps.on rfl (kbl (b := t192) rfl h197) ?_
   refine WOps.p (G.eql rfl rfl rfl) rfl ?_
   refine WOps.p (G.pick_t (kb (b := t192) rfl h197) rfl) rfl ?_
   refine WOps.p (G.move rfl) rfl ?_
   rcases ite_some hF with ⟨h198, hF⟩ | ⟨h198, hF⟩
   ·
    refine WOps.on rfl (kbl (b := decide (t40.1 = 0)) rfl (decide_eq_true h198)) ?_
    refine WOps.p (G.move rfl) rfl ?_
    refine WOps.on rfl (kbl (b := decide (t40.1 = 0)) rfl (decide_eq_true h198)) ?_
    refine WOps.p (G.eql rfl rfl rfl) rfl ?_
    refine WOps.p (G.pick_t (kb (b := decide (t40.1 = 0)) rfl (decide_eq_true h198)) rfl) rfl ?_
    refine WOps.p (G.move rfl) rfl ?_
    rcases ite_some hF with ⟨h199, hF⟩ | ⟨h199, hF⟩
    ·
     refine WOps.on rfl (kbl (b := decide (t59.1 = 0)) rfl (decide_eq_true h199)) ?_
     refine WOps.p (G.move rfl) rfl ?_
     refine WOps.on rfl (kbl (b := decide (t59.1 = 0)) rfl (decide_eq_true h199)) ?_
     refine WOps.p (G.eql rfl rfl rfl) rfl ?_
     refine WOps.p (G.pick_t (kb (b := decide (t59.1 = 0)) rfl (decide_eq_true h199)) rfl) rfl ?_
     refine WOps.p (G.move rfl) rfl ?_
     rcases ite_some hF with ⟨h200, hF⟩ | ⟨h200, hF⟩
     ·
      refine WOps.on rfl (kbl (b := decide (t78.1 = 0)) rfl (decide_eq_true h200)) ?_
      refine WOps.r (G.loada T.agg37_3 rfl (cs := [.int .i64 t97.1.From, .int .i64 t97.1.To, .string (bs t97.1.Data)]) (cellsAt.of_blk (S196.blk 5 rfl) rfl)) rfl ?_
      refine WOps.on rfl (kbl (b := decide (t78.1 = 0)) rfl (decide_eq_true h200)) ?_
      refine WOps.r (G.loada T.agg37_3 rfl (cs := [.int .i64 3, .int .i64 4, .string (bs ([121] : List UInt8))]) (cellsAt.of_blk (S196.blk 6 rfl) rfl)) rfl ?_
      refine WOps.on rfl (kbl (b := decide (t78.1 = 0)) rfl (decide_eq_true h200)) ?_
      refine WOps.p (G.eqa rfl rfl (by kernel_rfl) (Packet.eqIn37 t97.1 (⟨3, 4, ([121] : List UInt8)⟩ : Packet)) rfl) rfl ?_
      refine WOps.p (G.pick_t (kb (b := decide (t78.1 = 0)) rfl (decide_eq_true h200)) rfl) rfl ?_
      refine WOps.p (G.move rfl) rfl ?_
      rcases ite_some hF with ⟨h201, hF⟩ | ⟨h201, hF⟩
      ·
       refine WOps.on rfl (kbl (b := decide (t97.1 = (⟨3, 4, ([121] : List UInt8)⟩ : Packet))) rfl (decide_eq_true h201)) ?_
       refine WOps.p (G.move rfl) rfl ?_
       refine WOps.on rfl (kbl (b := decide (t97.1 = (⟨3, 4, ([121] : List UInt8)⟩ : Packet))) rfl (decide_eq_true h201)) ?_
       refine WOps.p (G.eql rfl rfl rfl) rfl ?_
       refine WOps.p (G.pick_t (kb (b := decide (t97.1 = (⟨3, 4, ([121] : List UInt8)⟩ : Packet))) rfl (decide_eq_true h201)) rfl) rfl ?_
       refine WOps.p (G.move rfl) rfl ?_
       rcases ite_some hF with ⟨h202, hF⟩ | ⟨h202, hF⟩
       ·
        refine WOps.on rfl (kbl (b := decide (t97.2.1 = 0)) rfl (decide_eq_true h202)) ?_
        refine WOps.p (G.move rfl) rfl ?_
        refine WOps.on rfl (kbl (b := decide (t97.2.1 = 0)) rfl (decide_eq_true h202)) ?_
        refine WOps.p (G.eql rfl rfl rfl) rfl ?_
        refine WOps.p (G.pick_t (kb (b := decide (t97.2.1 = 0)) rfl (decide_eq_true h202)) rfl) rfl ?_
        refine WOps.p (G.move rfl) rfl ?_
        rcases ite_some hF with ⟨h203, hF⟩ | ⟨h203, hF⟩
        ·
         refine WOps.on rfl (kbl (b := decide (t126.2.1 = 130)) rfl (decide_eq_true h203)) ?_
         refine WOps.p (G.move rfl) rfl ?_
         refine WOps.on rfl (kbl (b := decide (t126.2.1 = 130)) rfl (decide_eq_true h203)) ?_
         refine WOps.p (G.eql rfl rfl rfl) rfl ?_
         refine WOps.p (G.pick_t (kb (b := decide (t126.2.1 = 130)) rfl (decide_eq_true h203)) rfl) rfl ?_
         refine WOps.p (G.move rfl) rfl ?_
         rcases ite_some hF with ⟨h204, hF⟩ | ⟨h204, hF⟩
         ·
          refine WOps.on rfl (kbl (b := decide (t155.1 = 1)) rfl (decide_eq_true h204)) ?_
          refine WOps.p (G.move rfl) rfl ?_
          refine WOps.on rfl (kbl (b := decide (t155.1 = 1)) rfl (decide_eq_true h204)) ?_
          obtain ⟨t205, hc206, hF⟩ := bind_some hF
          have S207 := (S196.front 2 rfl).front 2 rfl
          change St _ _ _ [[(p6, .cells #[.slice A166 t155.2.flying.length c167, .int .i64 t155.2.time] 133 (0, 0))], G168, G189, [(b176, .cells #[.int .i64 1, .int .i64 2, .string (bs ([120] : List UInt8)), .int .i64 1, .int .i64 2, .string (bs ([120] : List UInt8))] 37 (0, 0))], [(b143, .cells #[.int .i64 t126.1.From, .int .i64 t126.1.To, .string (bs t126.1.Data)] 37 (0, 0))], [(b114, .cells #[.int .i64 t97.1.From, .int .i64 t97.1.To, .string (bs t97.1.Data)] 37 (0, 0))], [(b28, .cells #[.int .i64 3, .int .i64 4, .string (bs ([121] : List UInt8))] 37 (0, 0))], [(b19, .cells #[.int .i64 1, .int .i64 2, .string (bs ([120] : List UInt8))] 37 (0, 0))]] at S207
          have hP208 : PtR 133 Air.rp w194 (KS [[(p6, .cells #[.slice A166 t155.2.flying.length c167, .int .i64 t155.2.time] 133 (0, 0))], G168]) p6 t155.2 := ⟨_, S207.blk 0 rfl, KS_at 0 rfl (by simp [keys]), ⟨A166, c167, rfl, ((hO169.rd (fun b o hb => S207.grp 1 rfl hb)).mono (fun b hb => KS_at 1 rfl hb))⟩⟩
          refine WOps.call T.call25 (evs_cons rfl evs_nil) rfl ?_
          refine (ya_Now_calls k t155.2 hP208 (St.outN (Bs := []) (As := [[(p6, .cells #[.slice A166 t155.2.flying.length c167, .int .i64 t155.2.time] 133 (0, 0))], G168]) S207) hc206).mono ?_
          rintro _ w209 ⟨rfl, T210⟩
          have S211 := St.callN (As := []) S207 T210
          change St _ _ _ [[(p6, .cells #[.slice A166 t155.2.flying.length c167, .int .i64 t155.2.time] 133 (0, 0))], G168, G189, [(b176, .cells #[.int .i64 1, .int .i64 2, .string (bs ([120] : List UInt8)), .int .i64 1, .int .i64 2, .string (bs ([120] : List UInt8))] 37 (0, 0))], [(b143, .cells #[.int .i64 t126.1.From, .int .i64 t126.1.To, .string (bs t126.1.Data)] 37 (0, 0))], [(b114, .cells #[.int .i64 t97.1.From, .int .i64 t97.1.To, .string (bs t97.1.Data)] 37 (0, 0))], [(b28, .cells #[.int .i64 3, .int .i64 4, .string (bs ([121] : List UInt8))] 37 (0, 0))], [(b19, .cells #[.int .i64 1, .int .i64 2, .string (bs ([120] : List UInt8))] 37 (0, 0))]] at S211
          refine ⟨_, rfl, ?_⟩
          refine WOps.on rfl (kbl (b := decide (t155.1 = 1)) rfl (decide_eq_true h204)) ?_
          refine WOps.p (G.eql rfl rfl rfl) rfl ?_
          refine WOps.p (G.pick_t (kb (b := decide (t155.1 = 1)) rfl (decide_eq_true h204)) rfl) rfl ?_
          refine WOps.p (G.move rfl) rfl ?_
          rcases ite_some hF with ⟨h212, hF⟩ | ⟨h212, hF⟩
          ·
           refine WOps.on rfl (kbl (b := decide (t205 = 1)) rfl (decide_eq_true h212)) ?_
           refine WOps.p (G.move rfl) rfl ?_
           refine WOps.on rfl (kbl (b := decide (t205 = 1)) rfl (decide_eq_true h212)) ?_
           have hO213 : ObjO 133 Air.rp p6 t155.2 ([(p6, .cells #[.slice A166 t155.2.flying.length c167, .int .i64 t155.2.time] 133 (0, 0))] ++ (G168)) := ⟨_, _, ⟨A166, c167, G168, rfl, hO169, rfl⟩, rfl⟩
           have S214 : St _ _ _ [[(p6, .cells #[.slice A166 t155.2.flying.length c167, .int .i64 t155.2.time] 133 (0, 0))] ++ (G168), G189, [(b176, .cells #[.int .i64 1, .int .i64 2, .string (bs ([120] : List UInt8)), .int .i64 1, .int .i64 2, .string (bs ([120] : List UInt8))] 37 (0, 0))], [(b143, .cells #[.int .i64 t126.1.From, .int .i64 t126.1.To, .string (bs t126.1.Data)] 37 (0, 0))], [(b114, .cells #[.int .i64 t97.1.From, .int .i64 t97.1.To, .string (bs t97.1.Data)] 37 (0, 0))], [(b28, .cells #[.int .i64 3, .int .i64 4, .string (bs ([121] : List UInt8))] 37 (0, 0))], [(b19, .cells #[.int .i64 1, .int .i64 2, .string (bs ([120] : List UInt8))] 37 (0, 0))]] := S211.objs (by simp)
           obtain ⟨t215, hc216, hF⟩ := bind_some hF
           refine WOps.call T.call20 (evs_cons rfl (evs_cons rfl evs_nil)) rfl ?_
           refine (ya_Drop_calls k t155.2 0 hO213 hc216 (St.hpN (As := [[(p6, .cells #[.slice A166 t155.2.flying.length c167, .int .i64 t155.2.time] 133 (0, 0))] ++ (G168)]) S214)).mono ?_
           rintro _ w217 ⟨G220, rfl, hO221, T218⟩
           have S219 := St.callN (As := [[(p6, .cells #[.slice A166 t155.2.flying.length c167, .int .i64 t155.2.time] 133 (0, 0))] ++ (G168)]) S214 T218
           change St _ _ _ [G220, G189, [(b176, .cells #[.int .i64 1, .int .i64 2, .string (bs ([120] : List UInt8)), .int .i64 1, .int .i64 2, .string (bs ([120] : List UInt8))] 37 (0, 0))], [(b143, .cells #[.int .i64 t126.1.From, .int .i64 t126.1.To, .string (bs t126.1.Data)] 37 (0, 0))], [(b114, .cells #[.int .i64 t97.1.From, .int .i64 t97.1.To, .string (bs t97.1.Data)] 37 (0, 0))], [(b28, .cells #[.int .i64 3, .int .i64 4, .string (bs ([121] : List UInt8))] 37 (0, 0))], [(b19, .cells #[.int .i64 1, .int .i64 2, .string (bs ([120] : List UInt8))] 37 (0, 0))]] at S219
           refine ⟨_, rfl, ?_⟩
           obtain ⟨cs222, G223, ho224, hg225⟩ := hO221
           obtain ⟨A226, c227, G228, rfl, hO229, hq230⟩ := ho224
           have S231 : St _ _ _ [[(p6, .cells #[.slice A226 t215.2.flying.length c227, .int .i64 t215.2.time] 133 (0, 0))], G228, G189, [(b176, .cells #[.int .i64 1, .int .i64 2, .string (bs ([120] : List UInt8)), .int .i64 1, .int .i64 2, .string (bs ([120] : List UInt8))] 37 (0, 0))], [(b143, .cells #[.int .i64 t126.1.From, .int .i64 t126.1.To, .string (bs t126.1.Data)] 37 (0, 0))], [(b114, .cells #[.int .i64 t97.1.From, .int .i64 t97.1.To, .string (bs t97.1.Data)] 37 (0, 0))], [(b28, .cells #[.int .i64 3, .int .i64 4, .string (bs ([121] : List UInt8))] 37 (0, 0))], [(b19, .cells #[.int .i64 1, .int .i64 2, .string (bs ([120] : List UInt8))] 37 (0, 0))]] := S219.objs (by rw [hg225, hq230]; simp)
           refine WOps.on rfl (kbl (b := decide (t205 = 1)) rfl (decide_eq_true h212)) ?_
           refine WOps.p (G.eql rfl rfl rfl) rfl ?_
           refine WOps.p (G.pick_t (kb (b := decide (t205 = 1)) rfl (decide_eq_true h212)) rfl) rfl ?_
           refine WOps.p (G.assign rfl) rfl ?_
           refine WOps.nil ?_
           refine WEx.then_ ?_
           refine WCode.forget (l' := [(0, .bool (decide (t215.1 = 0)))]) ⟨rfl, trivial⟩ ?_
           refine WCode.ret ?_
           obtain rfl := some_eq hF
           refine WEx.ret1 rfl rfl ?_
           exact ⟨rfl, St.keep (As := []) S231⟩
          ·
           refine WOps.off rfl (kbl (b := decide (t205 = 1)) rfl (decide_eq_false h212)) rfl rfl ?_
           refine WOps.off rfl (kbl (b := decide (t205 = 1)) rfl (decide_eq_false h212)) rfl rfl ?_
           refine WOps.off rfl (kbl (b := decide (t205 = 1)) rfl (decide_eq_false h212)) rfl rfl ?_
           refine WOps.p (G.pick_f (kb (b := decide (t205 = 1)) rfl (decide_eq_false h212)) rfl) rfl ?_
           refine WOps.p (G.assign rfl) rfl ?_
           refine WOps.nil ?_
           refine WEx.then_ ?_
           refine WCode.forget (l' := [(0, .bool false)]) ⟨rfl, trivial⟩ ?_
           refine WCode.ret ?_
           obtain rfl := some_eq hF
           refine WEx.ret1 rfl rfl ?_
           exact ⟨rfl, St.keep (As := []) S211⟩
         ·
          refine WOps.off rfl (kbl (b := decide (t155.1 = 1)) rfl (decide_eq_false h204)) rfl rfl ?_
          refine WOps.off rfl (kbl (b := decide (t155.1 = 1)) rfl (decide_eq_false h204)) rfl rfl ?_
          refine WOps.off rfl (kbl (b := decide (t155.1 = 1)) rfl (decide_eq_false h204)) rfl rfl ?_
          refine WOps.p (G.pick_f (kb (b := decide (t155.1 = 1)) rfl (decide_eq_false h204)) rfl) rfl ?_
          refine WOps.p (G.move rfl) rfl ?_
          refine WOps.off rfl rfl rfl rfl ?_
          refine WOps.off rfl rfl rfl rfl ?_
          refine WOps.off rfl rfl rfl rfl ?_
          refine WOps.p (G.pick_f rfl rfl) rfl ?_
          refine WOps.p (G.assign rfl) rfl ?_
          refine WOps.nil ?_
          refine WEx.then_ ?_
          refine WCode.forget (l' := [(0, .bool false)]) ⟨rfl, trivial⟩ ?_
          refine WCode.ret ?_
          obtain rfl := some_eq hF
          refine WEx.ret1 rfl rfl ?_
          exact ⟨rfl, St.keep (As := []) S196⟩
        ·
         refine WOps.off rfl (kbl (b := decide (t126.2.1 = 130)) rfl (decide_eq_false h203)) rfl rfl ?_
         refine WOps.off rfl (kbl (b := decide (t126.2.1 = 130)) rfl (decide_eq_false h203)) rfl rfl ?_
         refine WOps.p (G.pick_f (kb (b := decide (t126.2.1 = 130)) rfl (decide_eq_false h203)) rfl) rfl ?_
         refine WOps.p (G.move rfl) rfl ?_
         refine WOps.off rfl rfl rfl rfl ?_
         refine WOps.off rfl rfl rfl rfl ?_
         refine WOps.off rfl rfl rfl rfl ?_
         refine WOps.p (G.pick_f rfl rfl) rfl ?_
         refine WOps.p (G.move rfl) rfl ?_
         refine WOps.off rfl rfl rfl rfl ?_
         refine WOps.off rfl rfl rfl rfl ?_
         refine WOps.off rfl rfl rfl rfl ?_
         refine WOps.p (G.pick_f rfl rfl) rfl ?_
         refine WOps.p (G.assign rfl) rfl ?_
         refine WOps.nil ?_
         refine WEx.then_ ?_
         refine WCode.forget (l' := [(0, .bool false)]) ⟨rfl, trivial⟩ ?_
         refine WCode.ret ?_
         obtain rfl := some_eq hF
         refine WEx.ret1 rfl rfl ?_
         exact ⟨rfl, St.keep (As := []) S196⟩
       ·
        refine WOps.off rfl (kbl (b := decide (t97.2.1 = 0)) rfl (decide_eq_false h202)) rfl rfl ?_
        refine WOps.off rfl (kbl (b := decide (t97.2.1 = 0)) rfl (decide_eq_false h202)) rfl rfl ?_
        refine WOps.p (G.pick_f (kb (b := decide (t97.2.1 = 0)) rfl (decide_eq_false h202)) rfl) rfl ?_
        refine WOps.p (G.move rfl) rfl ?_
        refine WOps.off rfl rfl rfl rfl ?_
        refine WOps.off rfl rfl rfl rfl ?_
        refine WOps.p (G.pick_f rfl rfl) rfl ?_
        refine WOps.p (G.move rfl) rfl ?_
        refine WOps.off rfl rfl rfl rfl ?_
        refine WOps.off rfl rfl rfl rfl ?_
        refine WOps.off rfl rfl rfl rfl ?_
        refine WOps.p (G.pick_f rfl rfl) rfl ?_
        refine WOps.p (G.move rfl) rfl ?_
        refine WOps.off rfl rfl rfl rfl ?_
        refine WOps.off rfl rfl rfl rfl ?_
        refine WOps.off rfl rfl rfl rfl ?_
        refine WOps.p (G.pick_f rfl rfl) rfl ?_
        refine WOps.p (G.assign rfl) rfl ?_
        refine WOps.nil ?_
        refine WEx.then_ ?_
        refine WCode.forget (l' := [(0, .bool false)]) ⟨rfl, trivial⟩ ?_
        refine WCode.ret ?_
        obtain rfl := some_eq hF
        refine WEx.ret1 rfl rfl ?_
        exact ⟨rfl, St.keep (As := []) S196⟩
      ·
       refine WOps.off rfl (kbl (b := decide (t97.1 = (⟨3, 4, ([121] : List UInt8)⟩ : Packet))) rfl (decide_eq_false h201)) rfl rfl ?_
       refine WOps.off rfl (kbl (b := decide (t97.1 = (⟨3, 4, ([121] : List UInt8)⟩ : Packet))) rfl (decide_eq_false h201)) rfl rfl ?_
       refine WOps.p (G.pick_f (kb (b := decide (t97.1 = (⟨3, 4, ([121] : List UInt8)⟩ : Packet))) rfl (decide_eq_false h201)) rfl) rfl ?_
       refine WOps.p (G.move rfl) rfl ?_
       refine WOps.off rfl rfl rfl rfl ?_
       refine WOps.off rfl rfl rfl rfl ?_
       refine WOps.p (G.pick_f rfl rfl) rfl ?_
       refine WOps.p (G.move rfl) rfl ?_
       refine WOps.off rfl rfl rfl rfl ?_
       refine WOps.off rfl rfl rfl rfl ?_
       refine WOps.p (G.pick_f rfl rfl) rfl ?_
       refine WOps.p (G.move rfl) rfl ?_
       refine WOps.off rfl rfl rfl rfl ?_
       refine WOps.off rfl rfl rfl rfl ?_
       refine WOps.off rfl rfl rfl rfl ?_
       refine WOps.p (G.pick_f rfl rfl) rfl ?_
       refine WOps.p (G.move rfl) rfl ?_
       refine WOps.off rfl rfl rfl rfl ?_
       refine WOps.off rfl rfl rfl rfl ?_
       refine WOps.off rfl rfl rfl rfl ?_
       refine WOps.p (G.pick_f rfl rfl) rfl ?_
       refine WOps.p (G.assign rfl) rfl ?_
       refine WOps.nil ?_
       refine WEx.then_ ?_
       refine WCode.forget (l' := [(0, .bool false)]) ⟨rfl, trivial⟩ ?_
       refine WCode.ret ?_
       obtain rfl := some_eq hF
       refine WEx.ret1 rfl rfl ?_
       exact ⟨rfl, St.keep (As := []) S196⟩
     ·
      refine WOps.off rfl (kbl (b := decide (t78.1 = 0)) rfl (decide_eq_false h200)) rfl rfl ?_
      refine WOps.off rfl (kbl (b := decide (t78.1 = 0)) rfl (decide_eq_false h200)) rfl rfl ?_
      refine WOps.off rfl (kbl (b := decide (t78.1 = 0)) rfl (decide_eq_false h200)) rfl rfl ?_
      refine WOps.p (G.pick_f (kb (b := decide (t78.1 = 0)) rfl (decide_eq_false h200)) rfl) rfl ?_
      refine WOps.p (G.move rfl) rfl ?_
      refine WOps.off rfl rfl rfl rfl ?_
      refine WOps.off rfl rfl rfl rfl ?_
      refine WOps.p (G.pick_f rfl rfl) rfl ?_
      refine WOps.p (G.move rfl) rfl ?_
      refine WOps.off rfl rfl rfl rfl ?_
      refine WOps.off rfl rfl rfl rfl ?_
      refine WOps.p (G.pick_f rfl rfl) rfl ?_
      refine WOps.p (G.move rfl) rfl ?_
      refine WOps.off rfl rfl rfl rfl ?_
      refine WOps.off rfl rfl rfl rfl ?_
      refine WOps.p (G.pick_f rfl rfl) rfl ?_
      refine WOps.p (G.move rfl) rfl ?_
      refine WOps.off rfl rfl rfl rfl ?_
      refine WOps.off rfl rfl rfl rfl ?_
      refine WOps.off rfl rfl rfl rfl ?_
      refine WOps.p (G.pick_f rfl rfl) rfl ?_
      refine WOps.p (G.move rfl) rfl ?_
      refine WOps.off rfl rfl rfl rfl ?_
      refine WOps.off rfl rfl rfl rfl ?_
      refine WOps.off rfl rfl rfl rfl ?_
      refine WOps.p (G.pick_f rfl rfl) rfl ?_
      refine WOps.p (G.assign rfl) rfl ?_
      refine WOps.nil ?_
      refine WEx.then_ ?_
      refine WCode.forget (l' := [(0, .bool false)]) ⟨rfl, trivial⟩ ?_
      refine WCode.ret ?_
      obtain rfl := some_eq hF
      refine WEx.ret1 rfl rfl ?_
      exact ⟨rfl, St.keep (As := []) S196⟩
    ·
     refine WOps.off rfl (kbl (b := decide (t59.1 = 0)) rfl (decide_eq_false h199)) rfl rfl ?_
     refine WOps.off rfl (kbl (b := decide (t59.1 = 0)) rfl (decide_eq_false h199)) rfl rfl ?_
     refine WOps.p (G.pick_f (kb (b := decide (t59.1 = 0)) rfl (decide_eq_false h199)) rfl) rfl ?_
     refine WOps.p (G.move rfl) rfl ?_
     refine WOps.off rfl rfl rfl rfl ?_
     refine WOps.off rfl rfl rfl rfl ?_
     refine WOps.off rfl rfl rfl rfl ?_
     refine WOps.p (G.pick_f rfl rfl) rfl ?_
     refine WOps.p (G.move rfl) rfl ?_
     refine WOps.off rfl rfl rfl rfl ?_
     refine WOps.off rfl rfl rfl rfl ?_
     refine WOps.p (G.pick_f rfl rfl) rfl ?_
     refine WOps.p (G.move rfl) rfl ?_
     refine WOps.off rfl rfl rfl rfl ?_
     refine WOps.off rfl rfl rfl rfl ?_
     refine WOps.p (G.pick_f rfl rfl) rfl ?_
     refine WOps.p (G.move rfl) rfl ?_
     refine WOps.off rfl rfl rfl rfl ?_
     refine WOps.off rfl rfl rfl rfl ?_
     refine WOps.p (G.pick_f rfl rfl) rfl ?_
     refine WOps.p (G.move rfl) rfl ?_
     refine WOps.off rfl rfl rfl rfl ?_
     refine WOps.off rfl rfl rfl rfl ?_
     refine WOps.off rfl rfl rfl rfl ?_
     refine WOps.p (G.pick_f rfl rfl) rfl ?_
     refine WOps.p (G.move rfl) rfl ?_
     refine WOps.off rfl rfl rfl rfl ?_
     refine WOps.off rfl rfl rfl rfl ?_
     refine WOps.off rfl rfl rfl rfl ?_
     refine WOps.p (G.pick_f rfl rfl) rfl ?_
     refine WOps.p (G.assign rfl) rfl ?_
     refine WOps.nil ?_
     refine WEx.then_ ?_
     refine WCode.forget (l' := [(0, .bool false)]) ⟨rfl, trivial⟩ ?_
     refine WCode.ret ?_
     obtain rfl := some_eq hF
     refine WEx.ret1 rfl rfl ?_
     exact ⟨rfl, St.keep (As := []) S196⟩
   ·
    refine WOps.off rfl (kbl (b := decide (t40.1 = 0)) rfl (decide_eq_false h198)) rfl rfl ?_
    refine WOps.off rfl (kbl (b := decide (t40.1 = 0)) rfl (decide_eq_false h198)) rfl rfl ?_
    refine WOps.p (G.pick_f (kb (b := decide (t40.1 = 0)) rfl (decide_eq_false h198)) rfl) rfl ?_
    refine WOps.p (G.move rfl) rfl ?_
    refine WOps.off rfl rfl rfl rfl ?_
    refine WOps.off rfl rfl rfl rfl ?_
    refine WOps.p (G.pick_f rfl rfl) rfl ?_
    refine WOps.p (G.move rfl) rfl ?_
    refine WOps.off rfl rfl rfl rfl ?_
    refine WOps.off rfl rfl rfl rfl ?_
    refine WOps.off rfl rfl rfl rfl ?_
    refine WOps.p (G.pick_f rfl rfl) rfl ?_
    refine WOps.p (G.move rfl) rfl ?_
    refine WOps.off rfl rfl rfl rfl ?_
    refine WOps.off rfl rfl rfl rfl ?_
    refine WOps.p (G.pick_f rfl rfl) rfl ?_
    refine WOps.p (G.move rfl) rfl ?_
    refine WOps.off rfl rfl rfl rfl ?_
    refine WOps.off rfl rfl rfl rfl ?_
    refine WOps.p (G.pick_f rfl rfl) rfl ?_
    refine WOps.p (G.move rfl) rfl ?_
    refine WOps.off rfl rfl rfl rfl ?_
    refine WOps.off rfl rfl rfl rfl ?_
    refine WOps.p (G.pick_f rfl rfl) rfl ?_
    refine WOps.p (G.move rfl) rfl ?_
    refine WOps.off rfl rfl rfl rfl ?_
    refine WOps.off rfl rfl rfl rfl ?_
    refine WOps.off rfl rfl rfl rfl ?_
    refine WOps.p (G.pick_f rfl rfl) rfl ?_
    refine WOps.p (G.move rfl) rfl ?_
    refine WOps.off rfl rfl rfl rfl ?_
    refine WOps.off rfl rfl rfl rfl ?_
    refine WOps.off rfl rfl rfl rfl ?_
    refine WOps.p (G.pick_f rfl rfl) rfl ?_
    refine WOps.p (G.assign rfl) rfl ?_
    refine WOps.nil ?_
    refine WEx.then_ ?_
    refine WCode.forget (l' := [(0, .bool false)]) ⟨rfl, trivial⟩ ?_
    refine WCode.ret ?_
    obtain rfl := some_eq hF
    refine WEx.ret1 rfl rfl ?_
    exact ⟨rfl, St.keep (As := []) S196⟩
  ·
   refine WOps.off rfl (kbl (b := t192) rfl (Bool.eq_false_iff.2 h197)) rfl rfl ?_
   refine WOps.off rfl (kbl (b := t192) rfl (Bool.eq_false_iff.2 h197)) rfl rfl ?_
   refine WOps.p (G.pick_f (kb (b := t192) rfl (Bool.eq_false_iff.2 h197)) rfl) rfl ?_
   refine WOps.p (G.move rfl) rfl ?_
   refine WOps.off rfl rfl rfl rfl ?_
   refine WOps.off rfl rfl rfl rfl ?_
   refine WOps.p (G.pick_f rfl rfl) rfl ?_
   refine WOps.p (G.move rfl) rfl ?_
   refine WOps.off rfl rfl rfl rfl ?_
   refine WOps.off rfl rfl rfl rfl ?_
   refine WOps.p (G.pick_f rfl rfl) rfl ?_
   refine WOps.p (G.move rfl) rfl ?_
   refine WOps.off rfl rfl rfl rfl ?_
   refine WOps.off rfl rfl rfl rfl ?_
   refine WOps.off rfl rfl rfl rfl ?_
   refine WOps.p (G.pick_f rfl rfl) rfl ?_
   refine WOps.p (G.move rfl) rfl ?_
   refine WOps.off rfl rfl rfl rfl ?_
   refine WOps.off rfl rfl rfl rfl ?_
   refine WOps.p (G.pick_f rfl rfl) rfl ?_
   refine WOps.p (G.move rfl) rfl ?_
   refine WOps.off rfl rfl rfl rfl ?_
   refine WOps.off rfl rfl rfl rfl ?_
   refine WOps.p (G.pick_f rfl rfl) rfl ?_
   refine WOps.p (G.move rfl) rfl ?_
   refine WOps.off rfl rfl rfl rfl ?_
   refine WOps.off rfl rfl rfl rfl ?_
   refine WOps.p (G.pick_f rfl rfl) rfl ?_
   refine WOps.p (G.move rfl) rfl ?_
   refine WOps.off rfl rfl rfl rfl ?_
   refine WOps.off rfl rfl rfl rfl ?_
   refine WOps.off rfl rfl rfl rfl ?_
   refine WOps.p (G.pick_f rfl rfl) rfl ?_
   refine WOps.p (G.move rfl) rfl ?_
   refine WOps.off rfl rfl rfl rfl ?_
   refine WOps.off rfl rfl rfl rfl ?_
   refine WOps.off rfl rfl rfl rfl ?_
   refine WOps.p (G.pick_f rfl rfl) rfl ?_
   refine WOps.p (G.assign rfl) rfl ?_
   refine WOps.nil ?_
   refine WEx.then_ ?_
   refine WCode.forget (l' := [(0, .bool false)]) ⟨rfl, trivial⟩ ?_
   refine WCode.ret ?_
   obtain rfl := some_eq hF
   refine WEx.ret1 rfl rfl ?_
   exact ⟨rfl, St.keep (As := []) S196⟩

end Go.Proofs.Ytoahkjehjmbojaa
