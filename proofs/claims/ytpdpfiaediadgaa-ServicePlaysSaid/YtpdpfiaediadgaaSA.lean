/- Functions and their walks (printed by auto.py over the engine). -/
import Derived.Test.YtpdpfiaediadgaaProg
import Derived.Test.YtpdpfiaediadgaaEng3
namespace Go.Proofs.Ytpdpfiaediadgaa
open Go Go.Eng
set_option linter.unusedSimpArgs false
set_option linter.unusedVariables false
theorem T.mixed : Try.prog.follows .mixedOrders = true := by kernel_rfl
theorem T.agg85_4 : isAggT Try.prog 85 4 = true := by kernel_rfl
theorem T.call48 : Callable Try.prog 48 := Callable.mk Try.func48 (by kernel_rfl) (by kernel_rfl)
theorem T.call49 : Callable Try.prog 49 := Callable.mk Try.func49 (by kernel_rfl) (by kernel_rfl)
theorem T.call50 : Callable Try.prog 50 := Callable.mk Try.func50 (by kernel_rfl) (by kernel_rfl)
theorem T.call55 : Callable Try.prog 55 := Callable.mk Try.func55 (by kernel_rfl) (by kernel_rfl)
theorem T.call56 : Callable Try.prog 56 := Callable.mk Try.func56 (by kernel_rfl) (by kernel_rfl)
theorem T.call63 : Callable Try.prog 63 := Callable.mk Try.func63 (by kernel_rfl) (by kernel_rfl)
theorem T.call64 : Callable Try.prog 64 := Callable.mk Try.func64 (by kernel_rfl) (by kernel_rfl)
theorem T.call65 : Callable Try.prog 65 := Callable.mk Try.func65 (by kernel_rfl) (by kernel_rfl)
theorem T.call66 : Callable Try.prog 66 := Callable.mk Try.func66 (by kernel_rfl) (by kernel_rfl)
theorem T.call67 : Callable Try.prog 67 := Callable.mk Try.func67 (by kernel_rfl) (by kernel_rfl)
theorem T.call70 : Callable Try.prog 70 := Callable.mk Try.func70 (by kernel_rfl) (by kernel_rfl)
theorem T.el106 : slEl Try.prog 106 = some 4 := by kernel_rfl
theorem T.el49 : slEl Try.prog 49 = some 1 := by kernel_rfl
theorem T.elt106 : Elt Try.prog 106 85 4 48 := elt_mk (z := .agg #[.int .i64 0, .int .i64 0, .slice none 0 0, .nilFunc]) Try.underlying106 (by kernel_rfl) rfl
theorem T.elt49 : Elt Try.prog 49 3 1 8 := elt_mk (z := .int .i64 0) Try.underlying49 (by kernel_rfl) rfl
theorem T.fld108_0 : fldOff Try.prog 108 0 = some 0 := by kernel_rfl
theorem T.fld85_0 : fldOff Try.prog 85 0 = some 0 := by kernel_rfl
theorem T.fld85_1 : fldOff Try.prog 85 1 = some 1 := by kernel_rfl
theorem T.fld85_2 : fldOff Try.prog 85 2 = some 2 := by kernel_rfl
theorem T.fld85_3 : fldOff Try.prog 85 3 = some 3 := by kernel_rfl
theorem T.one106 : isOneT Try.prog 106 = true := by kernel_rfl
theorem T.one3 : isOneT Try.prog 3 = true := by kernel_rfl
theorem T.one49 : isOneT Try.prog 49 = true := by kernel_rfl
theorem T.one83 : isOneT Try.prog 83 = true := by kernel_rfl
theorem T.size106_1 : sizeT Try.prog 106 = some 1 := by kernel_rfl
theorem T.size49_1 : sizeT Try.prog 49 = some 1 := by kernel_rfl
theorem T.size85_4 : sizeT Try.prog 85 = some 4 := by kernel_rfl
theorem T.zero85 : zeroOf Try.prog 85 = some (.agg #[.int .i64 0, .int .i64 0, .slice none 0 0, .nilFunc]) := by kernel_rfl
structure Service where
  Prog : Int
  Vers : Int
  Procs : List Int
  Handle : Bool
  deriving DecidableEq
def Service.rp : Rp Service where
  sz := 4
  rd := fun w F x cs => ∃ A1 : Option Addr, ∃ c1 : Nat, cs = [.int .i64 x.Prog, .int .i64 x.Vers, .slice A1 (x.Procs).length c1, fnv 35 x.Handle] ∧ SlR (Rp.int .i64) w F A1 c1 (x.Procs)
  own := fun x cs G => ∃ A1 : Option Addr, ∃ c1 : Nat, ∃ G1 : Grp, cs = [.int .i64 x.Prog, .int .i64 x.Vers, .slice A1 (x.Procs).length c1, fnv 35 x.Handle] ∧ SlO 3 (Rp.int .i64) (.slice A1 (x.Procs).length c1) (x.Procs) G1 ∧ G = G1
  len := by rintro _ _ _ _ ⟨_, _, rfl, _⟩; rfl
  one := by rintro _ _ _ _ ⟨_, _, rfl, _⟩; exact one_of_all (by simp only [List.all_cons, fnv_one, Bool.true_and]; rfl)
  lenO := by rintro _ _ _ ⟨_, _, _, rfl, _⟩; rfl
  oneO := by rintro _ _ _ ⟨_, _, _, rfl, _⟩; exact one_of_all (by simp only [List.all_cons, fnv_one, Bool.true_and]; rfl)
  ext := by rintro _ _ _ _ _ ⟨A1, c1, rfl, h1⟩ hE; exact ⟨A1, c1, rfl, h1.ext hE⟩
  mono := by rintro _ _ _ _ _ ⟨A1, c1, rfl, h1⟩ hF; exact ⟨A1, c1, rfl, h1.mono hF⟩
  low := by
    rintro w x cs G ⟨A1, c1, G1, rfl, h1, hGe⟩ hG
    exact ⟨A1, c1, rfl, (h1.rd (fun b o hb => hG b o (by rw [hGe]; simp [hb]))).mono (fun b (hb : b ∈ keys G1) => show b ∈ keys G by rw [hGe]; simp [keys_append, hb])⟩
structure Registry where
  l : List Service
  deriving DecidableEq
def Registry.rp : Rp Registry where
  sz := 1
  rd := fun w F x cs => ∃ A1 : Option Addr, ∃ c1 : Nat, cs = [.slice A1 (x.l).length c1] ∧ SlR Service.rp w F A1 c1 (x.l)
  own := fun x cs G => ∃ A1 : Option Addr, ∃ c1 : Nat, ∃ G1 : Grp, cs = [.slice A1 (x.l).length c1] ∧ SlO 85 Service.rp (.slice A1 (x.l).length c1) (x.l) G1 ∧ G = G1
  len := by rintro _ _ _ _ ⟨_, _, rfl, _⟩; rfl
  one := by rintro _ _ _ _ ⟨_, _, rfl, _⟩; exact one_of_all rfl
  lenO := by rintro _ _ _ ⟨_, _, _, rfl, _⟩; rfl
  oneO := by rintro _ _ _ ⟨_, _, _, rfl, _⟩; exact one_of_all rfl
  ext := by rintro _ _ _ _ _ ⟨A1, c1, rfl, h1⟩ hE; exact ⟨A1, c1, rfl, h1.ext hE⟩
  mono := by rintro _ _ _ _ _ ⟨A1, c1, rfl, h1⟩ hF; exact ⟨A1, c1, rfl, h1.mono hF⟩
  low := by
    rintro w x cs G ⟨A1, c1, G1, rfl, h1, hGe⟩ hG
    exact ⟨A1, c1, rfl, (h1.rd (fun b o hb => hG b o (by rw [hGe]; simp [hb]))).mono (fun b (hb : b ∈ keys G1) => show b ∈ keys G by rw [hGe]; simp [keys_append, hb])⟩

def sv_pick (k : Nat) (a0 : Int) (a1 : Int) : Option Int := (if a0 < 0 then (if a1 = 0 then none else (some (Int.tmod (w64 (-(w64 (a0 + 1)))) a1))) else (if a1 = 0 then none else (some (Int.tmod a0 a1))))
set_option maxRecDepth 100000 in
set_option maxHeartbeats 1000000 in
theorem sv_pick_calls (k : Nat) (a0 : Int) (a1 : Int) {w : World} {r_ : Int} (h_ : sv_pick k a0 a1 = some r_) :
    Calls Try.prog 33 [.int .i64 a0, .int .i64 a1].toArray w fun e w' => e = .returned (.int .i64 r_) ∧ St w (KS []) w' [] := by
  have hF := h_
  clear h_
  unfold sv_pick at hF
  have S := St.ofFalse (As := []) (St.init0 w)
  refine enter 13 [(0, .int .i64 a0), (1, .int .i64 a1)] Try.func33 rfl rfl rfl rfl ?_
  refine WCode.seq ?_
  refine WCode.region ?_
  refine WOps.p (G.assign rfl) rfl ?_
  refine WOps.nil ?_
  refine WEx.then_ ?_
  refine WCode.seq ?_
  refine WCode.seq ?_
  refine WCode.region ?_
  refine WOps.p (G.move rfl) rfl ?_
  refine WOps.p (G.lss rfl rfl rfl) rfl ?_
  refine WOps.nil ?_
  refine WEx.then_ ?_
  rcases ite_some hF with ⟨h1, hF⟩ | ⟨h1, hF⟩
  ·
    refine WCode.cond_t (kb (b := decide (a0 < 0)) rfl (decide_eq_true h1)) ?_
    refine WCode.region ?_
    refine WOps.p (G.move rfl) rfl ?_
    refine WOps.p (G.add rfl rfl (r := (w64 (a0 + 1))) rfl) rfl ?_
    refine WOps.p (G.neg rfl (r := (w64 (-(w64 (a0 + 1))))) rfl) rfl ?_
    refine WOps.p (G.assign rfl) rfl ?_
    refine WOps.nil ?_
    refine WEx.then_ ?_
    refine WCode.seq ?_
    refine WCode.region ?_
    refine WOps.p (G.move rfl) rfl ?_
    refine WOps.p (G.move rfl) rfl ?_
    obtain ⟨h2, hF⟩ := nguard_some hF
    refine WOps.p (G.remk rfl rfl h2) rfl ?_
    refine WOps.p (G.assign rfl) rfl ?_
    refine WOps.nil ?_
    refine WEx.then_ ?_
    refine WCode.forget (l' := [(4, .int .i64 (Int.tmod (w64 (-(w64 (a0 + 1)))) a1))]) ⟨rfl, trivial⟩ ?_
    refine WCode.ret ?_
    obtain rfl := some_eq hF
    refine WEx.ret1 rfl rfl ?_
    exact ⟨rfl, St.keep (As := []) S⟩
  ·
    refine WCode.cond_f (kb (b := decide (a0 < 0)) rfl (decide_eq_false h1)) ?_
    refine WCode.skip ?_
    refine WEx.then_ ?_
    refine WCode.seq ?_
    refine WCode.region ?_
    refine WOps.p (G.move rfl) rfl ?_
    refine WOps.p (G.move rfl) rfl ?_
    obtain ⟨h3, hF⟩ := nguard_some hF
    refine WOps.p (G.remk rfl rfl h3) rfl ?_
    refine WOps.p (G.assign rfl) rfl ?_
    refine WOps.nil ?_
    refine WEx.then_ ?_
    refine WCode.ret ?_
    obtain rfl := some_eq hF
    refine WEx.ret1 rfl rfl ?_
    exact ⟨rfl, St.keep (As := []) S⟩

def sv_isWord (k : Nat) (a0 : Int) : Option Bool := (if 0 ≤ a0 then (some (decide (a0 ≤ 4294967295))) else (some false))
set_option maxRecDepth 100000 in
set_option maxHeartbeats 1000000 in
theorem sv_isWord_calls (k : Nat) (a0 : Int) {w : World} {r_ : Bool} (h_ : sv_isWord k a0 = some r_) :
    Calls Try.prog 70 [.int .i64 a0].toArray w fun e w' => e = .returned (.bool r_) ∧ St w (KS []) w' [] := by
  have hF := h_
  clear h_
  unfold sv_isWord at hF
  have S := St.ofFalse (As := []) (St.init0 w)
  refine enter 9 [(0, .int .i64 a0)] Try.func70 rfl rfl rfl rfl ?_
  refine WCode.seq ?_
  refine WCode.region ?_
  refine WOps.p (G.assign rfl) rfl ?_
  refine WOps.nil ?_
  refine WEx.then_ ?_
  refine WCode.seq ?_
  refine WCode.region ?_
  refine WOps.p (G.move rfl) rfl ?_
  refine WOps.p (G.geq rfl rfl rfl) rfl ?_
  refine WOps.p (G.move rfl) rfl ?_
  rcases ite_some hF with ⟨h1, hF⟩ | ⟨h1, hF⟩
  ·
    refine WOps.on rfl (kbl (b := decide (0 ≤ a0)) rfl (decide_eq_true h1)) ?_
    refine WOps.p (G.move rfl) rfl ?_
    refine WOps.on rfl (kbl (b := decide (0 ≤ a0)) rfl (decide_eq_true h1)) ?_
    refine WOps.p (G.leq rfl rfl rfl) rfl ?_
    refine WOps.p (G.pick_t (kb (b := decide (0 ≤ a0)) rfl (decide_eq_true h1)) rfl) rfl ?_
    refine WOps.p (G.assign rfl) rfl ?_
    refine WOps.nil ?_
    refine WEx.then_ ?_
    refine WCode.ret ?_
    obtain rfl := some_eq hF
    refine WEx.ret1 rfl rfl ?_
    exact ⟨rfl, St.keep (As := []) S⟩
  ·
    refine WOps.off rfl (kbl (b := decide (0 ≤ a0)) rfl (decide_eq_false h1)) rfl rfl ?_
    refine WOps.off rfl (kbl (b := decide (0 ≤ a0)) rfl (decide_eq_false h1)) rfl rfl ?_
    refine WOps.p (G.pick_f (kb (b := decide (0 ≤ a0)) rfl (decide_eq_false h1)) rfl) rfl ?_
    refine WOps.p (G.assign rfl) rfl ?_
    refine WOps.nil ?_
    refine WEx.then_ ?_
    refine WCode.ret ?_
    obtain rfl := some_eq hF
    refine WEx.ret1 rfl rfl ?_
    exact ⟨rfl, St.keep (As := []) S⟩

def sv_may.j1 (q9 : Nat) (a0 : Service) : Option Bool := (Option.bind (sv_isWord q9 a0.Prog) fun t40 => (if t40 = true then (Option.bind (sv_isWord q9 a0.Vers) fun t46 => (if t46 = true then (some a0.Handle) else (some false))) else (some false)))
def sv_may.l1 : Nat → Service → Int → Int → Option Bool
  | 0, _, _, _ => none
  | k15 + 1, a0, x11, x12 => (if x12 < (a0.Procs.length : Int) then (Option.bind (idx a0.Procs x12) fun x19 => (if x19 ≤ x11 then (some false) else (Option.bind (sv_isWord k15 x19) fun t34 => (if t34 = true then (sv_may.l1 k15 a0 x19 (w64 (x12 + 1))) else (some false))))) else (sv_may.j1 k15 a0))
def sv_may (k : Nat) (a0 : Service) : Option Bool := (sv_may.l1 k a0 0 0)
set_option maxRecDepth 100000 in
set_option maxHeartbeats 1000000 in
theorem sv_may_calls (k : Nat) (a0 : Service) {A0_1 : Option Addr} {c0_1 : Nat} {F0_1 : Nat → Prop} {w : World} (hR0_1 : SlR (Rp.int .i64) w F0_1 A0_1 c0_1 a0.Procs) (hF0_1 : ∀ b, F0_1 b → NK w [] b) {r_ : Bool} (h_ : sv_may k a0 = some r_) :
    Calls Try.prog 55 [.agg #[.int .i64 a0.Prog, .int .i64 a0.Vers, .slice A0_1 a0.Procs.length c0_1, fnv 35 a0.Handle]].toArray w fun e w' => e = .returned (.bool r_) ∧ St w (KS []) w' [] := by
  have hF := h_
  clear h_
  unfold sv_may at hF
  have S := St.ofFalse (As := []) (St.init0 w)
  refine enter 36 [(0, .agg #[.int .i64 a0.Prog, .int .i64 a0.Vers, .slice A0_1 a0.Procs.length c0_1, fnv 35 a0.Handle])] Try.func55 rfl rfl rfl rfl ?_
  refine WCode.seq ?_
  refine WCode.region ?_
  obtain ⟨b1, w2, E3, S4, X5, L6⟩ := St.box S Try.prog 85 (.agg #[.int .i64 a0.Prog, .int .i64 a0.Vers, .slice A0_1 a0.Procs.length c0_1, fnv 35 a0.Handle])
  change St _ _ _ [[(b1, .cells #[.int .i64 a0.Prog, .int .i64 a0.Vers, .slice A0_1 a0.Procs.length c0_1, fnv 35 a0.Handle] 85 (0, 0))]] at S4
  refine WOps.e (E3 rfl) rfl ?_
  refine WOps.p (G.assign rfl) rfl ?_
  refine WOps.nil ?_
  refine WEx.then_ ?_
  refine WCode.seq ?_
  refine WCode.region ?_
  refine WOps.p (G.assign rfl) rfl ?_
  refine WOps.nil ?_
  refine WEx.then_ ?_
  refine WCode.cutseq (fun l_ w_ => ∃ q9 : Nat, l_ = [(1, .pointer (some ⟨b1, 0, none⟩))] ∧ sv_may.j1 q9 a0 = some r_ ∧ St w (KS []) w_ [[(b1, .cells #[.int .i64 a0.Prog, .int .i64 a0.Vers, .slice A0_1 a0.Procs.length c0_1, fnv 35 a0.Handle] 85 (0, 0))]]) ?_ ?_
  ·
    refine WCode.seq ?_
    refine WCode.region ?_
    refine WOps.p (G.field T.fld85_2 rfl (show 0 + 2 = 2 from rfl)) rfl ?_
    refine WOps.r (G.load1 T.one49 rfl (cell_blk (S4.blk 0 rfl) rfl)) rfl ?_
    refine WOps.p (G.len T.el49 rfl) rfl ?_
    refine WOps.p (G.move rfl) rfl ?_
    refine WOps.nil ?_
    refine WEx.then_ ?_
    refine WCode.block ?_
    refine WCode.forget (l' := [(1, .pointer (some ⟨b1, 0, none⟩)), (3, .int .i64 0), (7, .slice A0_1 a0.Procs.length c0_1), (8, .int .i64 (a0.Procs.length : Int)), (9, .int .i64 0)]) ⟨rfl, rfl, rfl, rfl, rfl, trivial⟩ ?_
    refine WCode.loop (fun n_ l_ w_ => ∃ x11 : Int, ∃ x12 : Int, l_ = [(1, .pointer (some ⟨b1, 0, none⟩)), (3, .int .i64 x11), (7, .slice A0_1 a0.Procs.length c0_1), (8, .int .i64 (a0.Procs.length : Int)), (9, .int .i64 x12)] ∧ sv_may.l1 n_ a0 x11 x12 = some r_ ∧ St w (KS []) w_ [[(b1, .cells #[.int .i64 a0.Prog, .int .i64 a0.Vers, .slice A0_1 a0.Procs.length c0_1, fnv 35 a0.Handle] 85 (0, 0))]]) k ⟨0, 0, rfl, hF, S4⟩ ?_
    rintro n16 _ w13 ⟨x11, x12, rfl, hF, S14⟩
    obtain _ | k15 := n16
    · exact nomatch (show (none : Option Bool) = some r_ from hF)
    rw [sv_may.l1] at hF
    refine WCode.seq ?_
    refine WCode.region ?_
    refine WOps.p (G.lss rfl rfl rfl) rfl ?_
    refine WOps.nil ?_
    refine WEx.then_ ?_
    refine WCode.seq ?_
    rcases ite_some hF with ⟨h18, hF⟩ | ⟨h18, hF⟩
    ·
      refine WCode.cond_t (kb (b := decide (x12 < (a0.Procs.length : Int))) rfl (decide_eq_true h18)) ?_
      refine WCode.skip ?_
      refine WEx.then_ ?_
      refine WCode.seq ?_
      refine WCode.block ?_
      refine WCode.seq ?_
      refine WCode.region ?_
      obtain ⟨x19, hc20, hF⟩ := bind_some hF
      obtain ⟨j21, ej22, hj23, hl24⟩ := idx_spec hc20
      obtain ⟨b25, o26, cs27, eA28, hf29, hc30, hr31⟩ := SlR.at_ (hR0_1.ext (S14.keepF hF0_1)) hj23
      have hq32 : cs27 = [.int .i64 x19] := hr31
      subst hq32
      change cellsAt _ _ (o26 + j21 * 1) [.int .i64 x19] at hc30
      refine WOps.p (G.idx T.el49 rfl eA28 rfl ej22 hl24) rfl ?_
      refine WOps.r (G.load1 T.one3 rfl (cellsAt.at0 hc30)) rfl ?_
      refine WOps.p (G.assign rfl) rfl ?_
      refine WOps.nil ?_
      refine WEx.then_ ?_
      refine WCode.seq ?_
      refine WCode.seq ?_
      refine WCode.region ?_
      refine WOps.p (G.move rfl) rfl ?_
      refine WOps.p (G.move rfl) rfl ?_
      refine WOps.p (G.leq rfl rfl rfl) rfl ?_
      refine WOps.p (G.move rfl) rfl ?_
      rcases ite_some hF with ⟨h33, hF⟩ | ⟨h33, hF⟩
      ·
        refine WOps.off rfl (kbl (b := decide (x19 ≤ x11)) rfl (decide_eq_true h33)) rfl rfl ?_
        refine WOps.off rfl (kbl (b := decide (x19 ≤ x11)) rfl (decide_eq_true h33)) rfl rfl ?_
        refine WOps.off rfl (kbl (b := decide (x19 ≤ x11)) rfl (decide_eq_true h33)) rfl rfl ?_
        refine WOps.p (G.pick_t (kb (b := decide (x19 ≤ x11)) rfl (decide_eq_true h33)) rfl) rfl ?_
        refine WOps.nil ?_
        refine WEx.then_ ?_
        refine WCode.cond_t rfl ?_
        refine WCode.seq ?_
        refine WCode.region ?_
        refine WOps.p (G.assign rfl) rfl ?_
        refine WOps.nil ?_
        refine WEx.then_ ?_
        refine WCode.forget (l' := [(2, .bool false)]) ⟨rfl, trivial⟩ ?_
        refine WCode.ret ?_
        refine WEx.then_ret ?_
        refine WEx.in_ret ?_
        refine WEx.then_ret ?_
        refine WEx.then_ret ?_
        refine WEx.in_ret ?_
        refine WEx.then_ret ?_
        obtain rfl := some_eq hF
        refine WEx.ret1 rfl rfl ?_
        exact ⟨rfl, St.keep (As := []) S14⟩
      ·
        refine WOps.on rfl (kbl (b := decide (x19 ≤ x11)) rfl (decide_eq_false h33)) ?_
        refine WOps.p (G.move rfl) rfl ?_
        refine WOps.on rfl (kbl (b := decide (x19 ≤ x11)) rfl (decide_eq_false h33)) ?_
        obtain ⟨t34, hc35, hF⟩ := bind_some hF
        refine WOps.call T.call70 (evs_cons rfl evs_nil) rfl ?_
        refine (sv_isWord_calls k15 x19 hc35).mono ?_
        rintro _ w36 ⟨rfl, T37⟩
        have S38 := St.callN (As := []) S14 T37
        change St _ _ _ [[(b1, .cells #[.int .i64 a0.Prog, .int .i64 a0.Vers, .slice A0_1 a0.Procs.length c0_1, fnv 35 a0.Handle] 85 (0, 0))]] at S38
        refine ⟨_, rfl, ?_⟩
        refine WOps.on rfl (kbl (b := decide (x19 ≤ x11)) rfl (decide_eq_false h33)) ?_
        refine WOps.p (G.not rfl rfl) rfl ?_
        refine WOps.p (G.pick_f (kb (b := decide (x19 ≤ x11)) rfl (decide_eq_false h33)) rfl) rfl ?_
        refine WOps.nil ?_
        refine WEx.then_ ?_
        rcases ite_some hF with ⟨h39, hF⟩ | ⟨h39, hF⟩
        ·
          refine WCode.cond_f (kb (b := !t34) rfl (show (!t34) = false from by rw [h39]; rfl)) ?_
          refine WCode.skip ?_
          refine WEx.then_ ?_
          refine WCode.region ?_
          refine WOps.p (G.move rfl) rfl ?_
          refine WOps.p (G.assign rfl) rfl ?_
          refine WOps.nil ?_
          refine WEx.in_normal ?_
          refine WEx.then_ ?_
          refine WCode.forget (l' := [(1, .pointer (some ⟨b1, 0, none⟩)), (3, .int .i64 x19), (7, .slice A0_1 a0.Procs.length c0_1), (8, .int .i64 (a0.Procs.length : Int)), (9, .int .i64 x12), (17, .int .i64 x19), (18, .bool t34), (19, .bool (!t34))]) ⟨rfl, rfl, rfl, rfl, rfl, rfl, rfl, rfl, trivial⟩ ?_
          refine WCode.region ?_
          refine WOps.p (G.add rfl rfl (r := (w64 (x12 + 1))) rfl) rfl ?_
          refine WOps.p (G.move rfl) rfl ?_
          refine WOps.nil ?_
          refine WEx.again _ _ (by omega) ?_ ⟨x19, w64 (x12 + 1), rfl, hF, S38⟩
          exact ⟨rfl, rfl, rfl, rfl, rfl, trivial⟩
        ·
          refine WCode.cond_t (kb (b := !t34) rfl (show (!t34) = true from by rw [(Bool.eq_false_iff.2 h39)]; rfl)) ?_
          refine WCode.seq ?_
          refine WCode.region ?_
          refine WOps.p (G.assign rfl) rfl ?_
          refine WOps.nil ?_
          refine WEx.then_ ?_
          refine WCode.forget (l' := [(2, .bool false)]) ⟨rfl, trivial⟩ ?_
          refine WCode.ret ?_
          refine WEx.then_ret ?_
          refine WEx.in_ret ?_
          refine WEx.then_ret ?_
          refine WEx.then_ret ?_
          refine WEx.in_ret ?_
          refine WEx.then_ret ?_
          obtain rfl := some_eq hF
          refine WEx.ret1 rfl rfl ?_
          exact ⟨rfl, St.keep (As := []) S38⟩
    ·
      refine WCode.cond_f (kb (b := decide (x12 < (a0.Procs.length : Int))) rfl (decide_eq_false h18)) ?_
      refine WCode.exit ?_
      refine WEx.then_exit ?_
      refine WEx.then_exit ?_
      refine WEx.in_exit ?_
      refine WEx.cutend _ ?_ ⟨k15, rfl, hF, S14⟩
      exact ⟨rfl, trivial⟩
  ·
    rintro _ w7 ⟨q9, rfl, hF, S8⟩
    unfold sv_may.j1 at hF
    refine WCode.seq ?_
    refine WCode.region ?_
    refine WOps.p (G.field T.fld85_0 rfl (show 0 + 0 = 0 from rfl)) rfl ?_
    refine WOps.r (G.load1 T.one3 rfl (cell_blk (S8.blk 0 rfl) rfl)) rfl ?_
    obtain ⟨t40, hc41, hF⟩ := bind_some hF
    refine WOps.call T.call70 (evs_cons rfl evs_nil) rfl ?_
    refine (sv_isWord_calls q9 a0.Prog hc41).mono ?_
    rintro _ w42 ⟨rfl, T43⟩
    have S44 := St.callN (As := []) S8 T43
    change St _ _ _ [[(b1, .cells #[.int .i64 a0.Prog, .int .i64 a0.Vers, .slice A0_1 a0.Procs.length c0_1, fnv 35 a0.Handle] 85 (0, 0))]] at S44
    refine ⟨_, rfl, ?_⟩
    refine WOps.p (G.move rfl) rfl ?_
    rcases ite_some hF with ⟨h45, hF⟩ | ⟨h45, hF⟩
    ·
      refine WOps.on rfl (kbl (b := t40) rfl h45) ?_
      refine WOps.p (G.field T.fld85_1 rfl (show 0 + 1 = 1 from rfl)) rfl ?_
      refine WOps.on rfl (kbl (b := t40) rfl h45) ?_
      refine WOps.r (G.load1 T.one3 rfl (cell_blk (S44.blk 0 rfl) rfl)) rfl ?_
      refine WOps.on rfl (kbl (b := t40) rfl h45) ?_
      obtain ⟨t46, hc47, hF⟩ := bind_some hF
      refine WOps.call T.call70 (evs_cons rfl evs_nil) rfl ?_
      refine (sv_isWord_calls q9 a0.Vers hc47).mono ?_
      rintro _ w48 ⟨rfl, T49⟩
      have S50 := St.callN (As := []) S44 T49
      change St _ _ _ [[(b1, .cells #[.int .i64 a0.Prog, .int .i64 a0.Vers, .slice A0_1 a0.Procs.length c0_1, fnv 35 a0.Handle] 85 (0, 0))]] at S50
      refine ⟨_, rfl, ?_⟩
      refine WOps.p (G.pick_t (kb (b := t40) rfl h45) rfl) rfl ?_
      refine WOps.p (G.move rfl) rfl ?_
      rcases ite_some hF with ⟨h51, hF⟩ | ⟨h51, hF⟩
      ·
        refine WOps.on rfl (kbl (b := t46) rfl h51) ?_
        refine WOps.p (G.field T.fld85_3 rfl (show 0 + 3 = 3 from rfl)) rfl ?_
        refine WOps.on rfl (kbl (b := t46) rfl h51) ?_
        refine WOps.r (G.load1 T.one83 rfl (cell_blk (S50.blk 0 rfl) rfl)) rfl ?_
        refine WOps.on rfl (kbl (b := t46) rfl h51) ?_
        refine WOps.p (G.neqfn (k := 35) Try.underlying83 rfl rfl) rfl ?_
        refine WOps.p (G.pick_t (kb (b := t46) rfl h51) rfl) rfl ?_
        refine WOps.p (G.assign rfl) rfl ?_
        refine WOps.nil ?_
        refine WEx.then_ ?_
        refine WCode.forget (l' := [(2, .bool a0.Handle)]) ⟨rfl, trivial⟩ ?_
        refine WCode.ret ?_
        obtain rfl := some_eq hF
        refine WEx.ret1 rfl rfl ?_
        exact ⟨rfl, St.keep (As := []) S50⟩
      ·
        refine WOps.off rfl (kbl (b := t46) rfl (Bool.eq_false_iff.2 h51)) rfl rfl ?_
        refine WOps.off rfl (kbl (b := t46) rfl (Bool.eq_false_iff.2 h51)) rfl rfl ?_
        refine WOps.off rfl (kbl (b := t46) rfl (Bool.eq_false_iff.2 h51)) rfl rfl ?_
        refine WOps.p (G.pick_f (kb (b := t46) rfl (Bool.eq_false_iff.2 h51)) rfl) rfl ?_
        refine WOps.p (G.assign rfl) rfl ?_
        refine WOps.nil ?_
        refine WEx.then_ ?_
        refine WCode.forget (l' := [(2, .bool false)]) ⟨rfl, trivial⟩ ?_
        refine WCode.ret ?_
        obtain rfl := some_eq hF
        refine WEx.ret1 rfl rfl ?_
        exact ⟨rfl, St.keep (As := []) S50⟩
    ·
      refine WOps.off rfl (kbl (b := t40) rfl (Bool.eq_false_iff.2 h45)) rfl rfl ?_
      refine WOps.off rfl (kbl (b := t40) rfl (Bool.eq_false_iff.2 h45)) rfl rfl ?_
      refine WOps.off rfl (kbl (b := t40) rfl (Bool.eq_false_iff.2 h45)) rfl rfl ?_
      refine WOps.p (G.pick_f (kb (b := t40) rfl (Bool.eq_false_iff.2 h45)) rfl) rfl ?_
      refine WOps.p (G.move rfl) rfl ?_
      refine WOps.off rfl rfl rfl rfl ?_
      refine WOps.off rfl rfl rfl rfl ?_
      refine WOps.off rfl rfl rfl rfl ?_
      refine WOps.p (G.pick_f rfl rfl) rfl ?_
      refine WOps.p (G.assign rfl) rfl ?_
      refine WOps.nil ?_
      refine WEx.then_ ?_
      refine WCode.forget (l' := [(2, .bool false)]) ⟨rfl, trivial⟩ ?_
      refine WCode.ret ?_
      obtain rfl := some_eq hF
      refine WEx.ret1 rfl rfl ?_
      exact ⟨rfl, St.keep (As := []) S44⟩

def sv_New (k : Nat) : Option Registry := (some (⟨[]⟩ : Registry))
set_option maxRecDepth 100000 in
set_option maxHeartbeats 1000000 in
theorem sv_New_calls (k : Nat)  {w : World} {r_ : Registry} (h_ : sv_New k = some r_) :
    Calls Try.prog 26 [].toArray w fun e w' => ∃ p0' : Nat, ∃ G0' : Grp, e = .returned (.pointer (some ⟨p0', 0, none⟩)) ∧ ObjO 108 Registry.rp p0' (r_) G0' ∧ St w (KS []) w' [G0'] := by
  have hF := h_
  clear h_
  unfold sv_New at hF
  have S := St.ofFalse (As := []) (St.init0 w)
  refine enter 3 [] Try.func26 rfl rfl rfl rfl ?_
  refine WCode.seq ?_
  refine WCode.region ?_
  refine WOps.p (G.assign rfl) rfl ?_
  refine WOps.nil ?_
  refine WEx.then_ ?_
  refine WCode.seq ?_
  refine WCode.region ?_
  refine WOps.p (G.build (cells := #[.slice none 0 0]) (evp_spec (evp_nil)) (by kernel_rfl)) rfl ?_
  obtain ⟨b1, w2, E3, S4, X5, L6⟩ := St.box S Try.prog 108 (.agg #[.slice none 0 0])
  change St _ _ _ [[(b1, .cells #[.slice none 0 0] 108 (0, 0))]] at S4
  refine WOps.e (E3 rfl) rfl ?_
  refine WOps.p (G.assign rfl) rfl ?_
  refine WOps.nil ?_
  refine WEx.then_ ?_
  refine WCode.ret ?_
  obtain rfl := some_eq hF
  refine WEx.ret1 rfl rfl ?_
  have S7 := S4.emp
  have S9 := S7.front 1 rfl
  change St _ _ _ [[(b1, .cells #[.slice none 0 0] 108 (0, 0))], ([] : Grp)] at S9
  have hO10 : ObjO 108 Registry.rp b1 (⟨[]⟩ : Registry) ([(b1, .cells #[.slice none 0 0] 108 (0, 0))] ++ (([] : Grp))) := ⟨_, _, ⟨none, 0, ([] : Grp), rfl, (SlO.nil 85 Service.rp), rfl⟩, rfl⟩
  have S11 : St _ _ _ [[(b1, .cells #[.slice none 0 0] 108 (0, 0))] ++ (([] : Grp))] := S9.objs (by simp)
  exact ⟨b1, [(b1, .cells #[.slice none 0 0] 108 (0, 0))] ++ (([] : Grp)), rfl, hO10, St.keep (As := [[(b1, .cells #[.slice none 0 0] 108 (0, 0))] ++ (([] : Grp))]) S11⟩

def sv_Clone (k : Nat) (a0 : List Int) : Option (List Int) := (Option.bind (catN 17592186044416 ([] : List Int) a0) fun l11 => (some l11))
set_option maxRecDepth 100000 in
set_option maxHeartbeats 1000000 in
theorem sv_Clone_calls (k : Nat) (a0 : List Int) {A0 : Option Addr} {c0 : Nat} {F0 : Nat → Prop} {w : World} (hR0 : SlR (Rp.int .i64) w F0 A0 c0 a0) (hF0 : ∀ b, F0 b → NK w [] b) {r_ : (List Int)} (h_ : sv_Clone k a0 = some r_) :
    Calls Try.prog 56 [.slice A0 a0.length c0].toArray w fun e w' => ∃ A0' : Option Addr, ∃ c0' : Nat, ∃ G0' : Grp, e = .returned (.slice A0' (r_).length c0') ∧ SlO 3 (Rp.int .i64) (.slice A0' (r_).length c0') (r_) G0' ∧ St w (KS []) w' [G0'] := by
  have hF := h_
  clear h_
  unfold sv_Clone at hF
  have S := St.ofFalse (As := []) (St.init0 w)
  refine enter 8 [(0, .slice A0 a0.length c0)] Try.func56 rfl rfl rfl rfl ?_
  refine WCode.seq ?_
  refine WCode.region ?_
  refine WOps.p (G.assign rfl) rfl ?_
  refine WOps.nil ?_
  refine WEx.then_ ?_
  refine WCode.seq ?_
  refine WCode.seq ?_
  refine WCode.region ?_
  refine WOps.p (G.move rfl) rfl ?_
  by_cases hA1 : A0 = none
  ·
    have hL2 := SlR.none_nil (hR0.ext (S.keepF hF0)) hA1
    have hF : (some []) = some r_ := by simpa [catN, hL2] using hF
    refine WOps.p (G.eq_nil Try.underlying49 rfl rfl (decide_eq_true hA1)) rfl ?_
    refine WOps.nil ?_
    refine WEx.then_ ?_
    refine WCode.cond_t rfl ?_
    refine WCode.seq ?_
    refine WCode.region ?_
    refine WOps.p (G.assign rfl) rfl ?_
    refine WOps.nil ?_
    refine WEx.then_ ?_
    refine WCode.ret ?_
    refine WEx.then_ret ?_
    obtain rfl := some_eq hF
    refine WEx.ret1 rfl rfl ?_
    have S3 := S.emp
    exact ⟨none, 0, ([] : Grp), rfl, (SlO.nil 3 (Rp.int .i64)), St.keep (As := [([] : Grp)]) S3⟩
  ·
    refine WOps.p (G.eq_nil Try.underlying49 rfl rfl (decide_eq_false hA1)) rfl ?_
    refine WOps.nil ?_
    refine WEx.then_ ?_
    refine WCode.cond_f rfl ?_
    refine WCode.skip ?_
    refine WEx.then_ ?_
    refine WCode.seq ?_
    refine WCode.region ?_
    obtain ⟨b5, w6, E7, S8, X9, L10⟩ := St.lit S (P := Try.prog) (t := 49) (e := 3) (n := 0) (vs := []) (cs := #[]) (by kernel_rfl)
    change St _ _ _ [[(b5, .cells #[] 3 (0, 0))]] at S8
    refine WOps.e (E7 evp_nil) rfl ?_
    refine WOps.p (G.move rfl) rfl ?_
    obtain ⟨l11, hc12, hF⟩ := bind_some hF
    have S13 := S8.emp
    obtain ⟨xs22, he23, hd24⟩ := SlR.Rd (hR0.ext (S13.keepF hF0))
    obtain ⟨A14, c15, G16, w17, E18, hO19, S20, hk21⟩ := St.appP (P := Try.prog) (r := (Rp.int .i64)) (M := a0) S13 T.elt49 rfl (SlO.zero 3 (Rp.int .i64) (some ⟨b5, 0, none⟩)) hd24 (elems.flat plain_flat he23) rfl hc12
    change St _ _ _ [G16, [(b5, .cells #[] 3 (0, 0))]] at S20
    refine WOps.e (E18 rfl rfl) rfl ?_
    refine WOps.p (G.assign rfl) rfl ?_
    refine WOps.nil ?_
    refine WEx.then_ ?_
    refine WCode.ret ?_
    obtain rfl := some_eq hF
    refine WEx.ret1 rfl rfl ?_
    exact ⟨A14, c15, G16, rfl, hO19, St.keep (As := [G16]) S20⟩

def sv_Index.l1 : Nat → List Int → Int → Int → Option Int
  | 0, _, _, _ => none
  | k4 + 1, a0, a1, x1 => (if x1 < (a0.length : Int) then (Option.bind (idx a0 x1) fun x8 => (if a1 = x8 then (some x1) else (sv_Index.l1 k4 a0 a1 (w64 (x1 + 1))))) else (some (-1)))
def sv_Index (k : Nat) (a0 : List Int) (a1 : Int) : Option Int := (sv_Index.l1 k a0 a1 0)
set_option maxRecDepth 100000 in
set_option maxHeartbeats 1000000 in
theorem sv_Index_calls (k : Nat) (a0 : List Int) {A0 : Option Addr} {c0 : Nat} {F0 : Nat → Prop} (a1 : Int) {w : World} (hR0 : SlR (Rp.int .i64) w F0 A0 c0 a0) (hF0 : ∀ b, F0 b → NK w [] b) {r_ : Int} (h_ : sv_Index k a0 a1 = some r_) :
    Calls Try.prog 67 [.slice A0 a0.length c0, .int .i64 a1].toArray w fun e w' => e = .returned (.int .i64 r_) ∧ St w (KS []) w' [] := by
  have hF := h_
  clear h_
  unfold sv_Index at hF
  have S := St.ofFalse (As := []) (St.init0 w)
  refine enter 19 [(0, .slice A0 a0.length c0), (1, .int .i64 a1)] Try.func67 rfl rfl rfl rfl ?_
  refine WCode.seq ?_
  refine WCode.region ?_
  refine WOps.p (G.assign rfl) rfl ?_
  refine WOps.nil ?_
  refine WEx.then_ ?_
  refine WCode.seq ?_
  refine WCode.seq ?_
  refine WCode.region ?_
  refine WOps.p (G.move rfl) rfl ?_
  refine WOps.p (G.len T.el49 rfl) rfl ?_
  refine WOps.p (G.move rfl) rfl ?_
  refine WOps.nil ?_
  refine WEx.then_ ?_
  refine WCode.block ?_
  refine WCode.forget (l' := [(0, .slice A0 a0.length c0), (1, .int .i64 a1), (7, .int .i64 (a0.length : Int)), (8, .int .i64 0)]) ⟨rfl, rfl, rfl, rfl, trivial⟩ ?_
  refine WCode.loop (fun n_ l_ w_ => ∃ x1 : Int, l_ = [(0, .slice A0 a0.length c0), (1, .int .i64 a1), (7, .int .i64 (a0.length : Int)), (8, .int .i64 x1)] ∧ sv_Index.l1 n_ a0 a1 x1 = some r_ ∧ St w (KS []) w_ []) k ⟨0, rfl, hF, S⟩ ?_
  rintro n5 _ w2 ⟨x1, rfl, hF, S3⟩
  obtain _ | k4 := n5
  · exact nomatch (show (none : Option Int) = some r_ from hF)
  rw [sv_Index.l1] at hF
  refine WCode.seq ?_
  refine WCode.region ?_
  refine WOps.p (G.lss rfl rfl rfl) rfl ?_
  refine WOps.nil ?_
  refine WEx.then_ ?_
  refine WCode.seq ?_
  rcases ite_some hF with ⟨h7, hF⟩ | ⟨h7, hF⟩
  ·
    refine WCode.cond_t (kb (b := decide (x1 < (a0.length : Int))) rfl (decide_eq_true h7)) ?_
    refine WCode.skip ?_
    refine WEx.then_ ?_
    refine WCode.seq ?_
    refine WCode.block ?_
    refine WCode.seq ?_
    refine WCode.region ?_
    refine WOps.p (G.move rfl) rfl ?_
    refine WOps.p (G.assign rfl) rfl ?_
    refine WOps.nil ?_
    refine WEx.then_ ?_
    refine WCode.seq ?_
    refine WCode.region ?_
    refine WOps.p (G.move rfl) rfl ?_
    refine WOps.p (G.move rfl) rfl ?_
    refine WOps.p (G.move rfl) rfl ?_
    obtain ⟨x8, hc9, hF⟩ := bind_some hF
    obtain ⟨j10, ej11, hj12, hl13⟩ := idx_spec hc9
    obtain ⟨b14, o15, cs16, eA17, hf18, hc19, hr20⟩ := SlR.at_ (hR0.ext (S3.keepF hF0)) hj12
    have hq21 : cs16 = [.int .i64 x8] := hr20
    subst hq21
    change cellsAt _ _ (o15 + j10 * 1) [.int .i64 x8] at hc19
    refine WOps.p (G.idx T.el49 rfl eA17 rfl ej11 hl13) rfl ?_
    refine WOps.r (G.load1 T.one3 rfl (cellsAt.at0 hc19)) rfl ?_
    refine WOps.p (G.eql rfl rfl rfl) rfl ?_
    refine WOps.nil ?_
    refine WEx.then_ ?_
    rcases ite_some hF with ⟨h22, hF⟩ | ⟨h22, hF⟩
    ·
      refine WCode.cond_t (kb (b := decide (a1 = x8)) rfl (decide_eq_true h22)) ?_
      refine WCode.seq ?_
      refine WCode.region ?_
      refine WOps.p (G.move rfl) rfl ?_
      refine WOps.p (G.assign rfl) rfl ?_
      refine WOps.nil ?_
      refine WEx.then_ ?_
      refine WCode.forget (l' := [(4, .int .i64 x1)]) ⟨rfl, trivial⟩ ?_
      refine WCode.ret ?_
      refine WEx.in_ret ?_
      refine WEx.then_ret ?_
      refine WEx.then_ret ?_
      refine WEx.in_ret ?_
      refine WEx.then_ret ?_
      obtain rfl := some_eq hF
      refine WEx.ret1 rfl rfl ?_
      exact ⟨rfl, St.keep (As := []) S3⟩
    ·
      refine WCode.cond_f (kb (b := decide (a1 = x8)) rfl (decide_eq_false h22)) ?_
      refine WCode.skip ?_
      refine WEx.in_normal ?_
      refine WEx.then_ ?_
      refine WCode.region ?_
      refine WOps.p (G.add rfl rfl (r := (w64 (x1 + 1))) rfl) rfl ?_
      refine WOps.p (G.move rfl) rfl ?_
      refine WOps.nil ?_
      refine WEx.again _ _ (by omega) ?_ ⟨w64 (x1 + 1), rfl, hF, S3⟩
      exact ⟨rfl, rfl, rfl, rfl, trivial⟩
  ·
    refine WCode.cond_f (kb (b := decide (x1 < (a0.length : Int))) rfl (decide_eq_false h7)) ?_
    refine WCode.exit ?_
    refine WEx.then_exit ?_
    refine WEx.then_exit ?_
    refine WEx.in_exit ?_
    refine WEx.then_ ?_
    refine WCode.seq ?_
    refine WCode.region ?_
    refine WOps.p (G.assign rfl) rfl ?_
    refine WOps.nil ?_
    refine WEx.then_ ?_
    refine WCode.ret ?_
    obtain rfl := some_eq hF
    refine WEx.ret1 rfl rfl ?_
    exact ⟨rfl, St.keep (As := []) S3⟩

def sv_Contains (k : Nat) (a0 : List Int) (a1 : Int) : Option Bool := (Option.bind (sv_Index k a0 a1) fun t1 => (some (decide (0 ≤ t1))))
set_option maxRecDepth 100000 in
set_option maxHeartbeats 1000000 in
theorem sv_Contains_calls (k : Nat) (a0 : List Int) {A0 : Option Addr} {c0 : Nat} {F0 : Nat → Prop} (a1 : Int) {w : World} (hR0 : SlR (Rp.int .i64) w F0 A0 c0 a0) (hF0 : ∀ b, F0 b → NK w [] b) {r_ : Bool} (h_ : sv_Contains k a0 a1 = some r_) :
    Calls Try.prog 50 [.slice A0 a0.length c0, .int .i64 a1].toArray w fun e w' => e = .returned (.bool r_) ∧ St w (KS []) w' [] := by
  have hF := h_
  clear h_
  unfold sv_Contains at hF
  have S := St.ofFalse (As := []) (St.init0 w)
  refine enter 9 [(0, .slice A0 a0.length c0), (1, .int .i64 a1)] Try.func50 rfl rfl rfl rfl ?_
  refine WCode.seq ?_
  refine WCode.region ?_
  refine WOps.p (G.assign rfl) rfl ?_
  refine WOps.nil ?_
  refine WEx.then_ ?_
  refine WCode.seq ?_
  refine WCode.region ?_
  refine WOps.p (G.move rfl) rfl ?_
  refine WOps.p (G.move rfl) rfl ?_
  obtain ⟨t1, hc2, hF⟩ := bind_some hF
  refine WOps.call T.call67 (evs_cons rfl (evs_cons rfl evs_nil)) rfl ?_
  refine (sv_Index_calls k a0 a1 (hR0.ext (S.keepF hF0)) (St.outF (Bs := []) S hF0) hc2).mono ?_
  rintro _ w3 ⟨rfl, T4⟩
  have S5 := St.callN (As := []) S T4
  change St _ _ _ [] at S5
  refine ⟨_, rfl, ?_⟩
  refine WOps.p (G.geq rfl rfl rfl) rfl ?_
  refine WOps.p (G.assign rfl) rfl ?_
  refine WOps.nil ?_
  refine WEx.then_ ?_
  refine WCode.ret ?_
  obtain rfl := some_eq hF
  refine WEx.ret1 rfl rfl ?_
  exact ⟨rfl, St.keep (As := []) S5⟩

def sv_Min.l1 : Nat → List Int → Int → Int → Option Int
  | 0, _, _, _ => none
  | k20 + 1, a0, x16, x17 => (if x17 < (a0.length : Int) then (Option.bind (idx a0 x17) fun x24 => (sv_Min.l1 k20 a0 (min x16 x24) (w64 (x17 + 1)))) else (some x16))
def sv_Min (k : Nat) (a0 : List Int) : Option Int := (if (a0.length : Int) < 1 then none else (Option.bind (idx a0 0) fun x2 => (sv_Min.l1 k a0 x2 1)))
set_option maxRecDepth 100000 in
set_option maxHeartbeats 1000000 in
theorem sv_Min_calls (k : Nat) (a0 : List Int) {A0 : Option Addr} {c0 : Nat} {F0 : Nat → Prop} {w : World} (hR0 : SlR (Rp.int .i64) w F0 A0 c0 a0) (hF0 : ∀ b, F0 b → NK w [] b) {r_ : Int} (h_ : sv_Min k a0 = some r_) :
    Calls Try.prog 63 [.slice A0 a0.length c0].toArray w fun e w' => e = .returned (.int .i64 r_) ∧ St w (KS []) w' [] := by
  have hF := h_
  clear h_
  unfold sv_Min at hF
  have S := St.ofFalse (As := []) (St.init0 w)
  refine enter 25 [(0, .slice A0 a0.length c0)] Try.func63 rfl rfl rfl rfl ?_
  refine WCode.seq ?_
  refine WCode.region ?_
  refine WOps.p (G.assign rfl) rfl ?_
  refine WOps.nil ?_
  refine WEx.then_ ?_
  refine WCode.seq ?_
  refine WCode.seq ?_
  refine WCode.region ?_
  refine WOps.p (G.move rfl) rfl ?_
  refine WOps.p (G.len T.el49 rfl) rfl ?_
  refine WOps.p (G.lss rfl rfl rfl) rfl ?_
  refine WOps.nil ?_
  refine WEx.then_ ?_
  rcases ite_some hF with ⟨h1, hF⟩ | ⟨h1, hF⟩
  ·
    refine WCode.cond_t (kb (b := decide ((a0.length : Int) < 1)) rfl (decide_eq_true h1)) ?_
    refine WCode.region ?_
    exact nomatch (show (none : Option Int) = some r_ from hF)
  ·
    refine WCode.cond_f (kb (b := decide ((a0.length : Int) < 1)) rfl (decide_eq_false h1)) ?_
    refine WCode.skip ?_
    refine WEx.then_ ?_
    refine WCode.seq ?_
    refine WCode.region ?_
    refine WOps.p (G.move rfl) rfl ?_
    obtain ⟨x2, hc3, hF⟩ := bind_some hF
    obtain ⟨j4, ej5, hj6, hl7⟩ := idx_spec hc3
    obtain ⟨b8, o9, cs10, eA11, hf12, hc13, hr14⟩ := SlR.at_ (hR0.ext (S.keepF hF0)) hj6
    have hq15 : cs10 = [.int .i64 x2] := hr14
    subst hq15
    change cellsAt _ _ (o9 + j4 * 1) [.int .i64 x2] at hc13
    refine WOps.p (G.idx T.el49 rfl eA11 rfl ej5 hl7) rfl ?_
    refine WOps.r (G.load1 T.one3 rfl (cellsAt.at0 hc13)) rfl ?_
    refine WOps.p (G.assign rfl) rfl ?_
    refine WOps.nil ?_
    refine WEx.then_ ?_
    refine WCode.seq ?_
    refine WCode.seq ?_
    refine WCode.region ?_
    refine WOps.p (G.assign rfl) rfl ?_
    refine WOps.nil ?_
    refine WEx.then_ ?_
    refine WCode.block ?_
    refine WCode.forget (l' := [(0, .slice A0 a0.length c0), (3, .int .i64 x2), (4, .int .i64 1)]) ⟨rfl, rfl, rfl, trivial⟩ ?_
    refine WCode.loop (fun n_ l_ w_ => ∃ x16 : Int, ∃ x17 : Int, l_ = [(0, .slice A0 a0.length c0), (3, .int .i64 x16), (4, .int .i64 x17)] ∧ sv_Min.l1 n_ a0 x16 x17 = some r_ ∧ St w (KS []) w_ []) k ⟨x2, 1, rfl, hF, S⟩ ?_
    rintro n21 _ w18 ⟨x16, x17, rfl, hF, S19⟩
    obtain _ | k20 := n21
    · exact nomatch (show (none : Option Int) = some r_ from hF)
    rw [sv_Min.l1] at hF
    refine WCode.seq ?_
    refine WCode.seq ?_
    refine WCode.region ?_
    refine WOps.p (G.move rfl) rfl ?_
    refine WOps.p (G.move rfl) rfl ?_
    refine WOps.p (G.len T.el49 rfl) rfl ?_
    refine WOps.p (G.lss rfl rfl rfl) rfl ?_
    refine WOps.nil ?_
    refine WEx.then_ ?_
    rcases ite_some hF with ⟨h23, hF⟩ | ⟨h23, hF⟩
    ·
      refine WCode.cond_t (kb (b := decide (x17 < (a0.length : Int))) rfl (decide_eq_true h23)) ?_
      refine WCode.skip ?_
      refine WEx.then_ ?_
      refine WCode.seq ?_
      refine WCode.block ?_
      refine WCode.region ?_
      refine WOps.p (G.move rfl) rfl ?_
      refine WOps.p (G.move rfl) rfl ?_
      refine WOps.p (G.move rfl) rfl ?_
      obtain ⟨x24, hc25, hF⟩ := bind_some hF
      obtain ⟨j26, ej27, hj28, hl29⟩ := idx_spec hc25
      obtain ⟨b30, o31, cs32, eA33, hf34, hc35, hr36⟩ := SlR.at_ (hR0.ext (S19.keepF hF0)) hj28
      have hq37 : cs32 = [.int .i64 x24] := hr36
      subst hq37
      change cellsAt _ _ (o31 + j26 * 1) [.int .i64 x24] at hc35
      refine WOps.p (G.idx T.el49 rfl eA33 rfl ej27 hl29) rfl ?_
      refine WOps.r (G.load1 T.one3 rfl (cellsAt.at0 hc35)) rfl ?_
      refine WOps.p (G.min rfl rfl (int_min x16 x24)) rfl ?_
      refine WOps.p (G.assign rfl) rfl ?_
      refine WOps.nil ?_
      refine WEx.in_normal ?_
      refine WEx.then_ ?_
      refine WCode.forget (l' := [(0, .slice A0 a0.length c0), (3, .int .i64 (min x16 x24)), (4, .int .i64 x17)]) ⟨rfl, rfl, rfl, trivial⟩ ?_
      refine WCode.region ?_
      refine WOps.p (G.move rfl) rfl ?_
      refine WOps.p (G.add rfl rfl (r := (w64 (x17 + 1))) rfl) rfl ?_
      refine WOps.p (G.assign rfl) rfl ?_
      refine WOps.nil ?_
      refine WEx.again _ _ (by omega) ?_ ⟨min x16 x24, w64 (x17 + 1), rfl, hF, S19⟩
      exact ⟨rfl, rfl, rfl, trivial⟩
    ·
      refine WCode.cond_f (kb (b := decide (x17 < (a0.length : Int))) rfl (decide_eq_false h23)) ?_
      refine WCode.exit ?_
      refine WEx.then_exit ?_
      refine WEx.then_exit ?_
      refine WEx.in_exit ?_
      refine WEx.then_ ?_
      refine WCode.seq ?_
      refine WCode.region ?_
      refine WOps.p (G.move rfl) rfl ?_
      refine WOps.p (G.assign rfl) rfl ?_
      refine WOps.nil ?_
      refine WEx.then_ ?_
      refine WCode.ret ?_
      obtain rfl := some_eq hF
      refine WEx.ret1 rfl rfl ?_
      exact ⟨rfl, St.keep (As := []) S19⟩

def sv_Max.l1 : Nat → List Int → Int → Int → Option Int
  | 0, _, _, _ => none
  | k20 + 1, a0, x16, x17 => (if x17 < (a0.length : Int) then (Option.bind (idx a0 x17) fun x24 => (sv_Max.l1 k20 a0 (max x16 x24) (w64 (x17 + 1)))) else (some x16))
def sv_Max (k : Nat) (a0 : List Int) : Option Int := (if (a0.length : Int) < 1 then none else (Option.bind (idx a0 0) fun x2 => (sv_Max.l1 k a0 x2 1)))
set_option maxRecDepth 100000 in
set_option maxHeartbeats 1000000 in
theorem sv_Max_calls (k : Nat) (a0 : List Int) {A0 : Option Addr} {c0 : Nat} {F0 : Nat → Prop} {w : World} (hR0 : SlR (Rp.int .i64) w F0 A0 c0 a0) (hF0 : ∀ b, F0 b → NK w [] b) {r_ : Int} (h_ : sv_Max k a0 = some r_) :
    Calls Try.prog 64 [.slice A0 a0.length c0].toArray w fun e w' => e = .returned (.int .i64 r_) ∧ St w (KS []) w' [] := by
  have hF := h_
  clear h_
  unfold sv_Max at hF
  have S := St.ofFalse (As := []) (St.init0 w)
  refine enter 25 [(0, .slice A0 a0.length c0)] Try.func64 rfl rfl rfl rfl ?_
  refine WCode.seq ?_
  refine WCode.region ?_
  refine WOps.p (G.assign rfl) rfl ?_
  refine WOps.nil ?_
  refine WEx.then_ ?_
  refine WCode.seq ?_
  refine WCode.seq ?_
  refine WCode.region ?_
  refine WOps.p (G.move rfl) rfl ?_
  refine WOps.p (G.len T.el49 rfl) rfl ?_
  refine WOps.p (G.lss rfl rfl rfl) rfl ?_
  refine WOps.nil ?_
  refine WEx.then_ ?_
  rcases ite_some hF with ⟨h1, hF⟩ | ⟨h1, hF⟩
  ·
    refine WCode.cond_t (kb (b := decide ((a0.length : Int) < 1)) rfl (decide_eq_true h1)) ?_
    refine WCode.region ?_
    exact nomatch (show (none : Option Int) = some r_ from hF)
  ·
    refine WCode.cond_f (kb (b := decide ((a0.length : Int) < 1)) rfl (decide_eq_false h1)) ?_
    refine WCode.skip ?_
    refine WEx.then_ ?_
    refine WCode.seq ?_
    refine WCode.region ?_
    refine WOps.p (G.move rfl) rfl ?_
    obtain ⟨x2, hc3, hF⟩ := bind_some hF
    obtain ⟨j4, ej5, hj6, hl7⟩ := idx_spec hc3
    obtain ⟨b8, o9, cs10, eA11, hf12, hc13, hr14⟩ := SlR.at_ (hR0.ext (S.keepF hF0)) hj6
    have hq15 : cs10 = [.int .i64 x2] := hr14
    subst hq15
    change cellsAt _ _ (o9 + j4 * 1) [.int .i64 x2] at hc13
    refine WOps.p (G.idx T.el49 rfl eA11 rfl ej5 hl7) rfl ?_
    refine WOps.r (G.load1 T.one3 rfl (cellsAt.at0 hc13)) rfl ?_
    refine WOps.p (G.assign rfl) rfl ?_
    refine WOps.nil ?_
    refine WEx.then_ ?_
    refine WCode.seq ?_
    refine WCode.seq ?_
    refine WCode.region ?_
    refine WOps.p (G.assign rfl) rfl ?_
    refine WOps.nil ?_
    refine WEx.then_ ?_
    refine WCode.block ?_
    refine WCode.forget (l' := [(0, .slice A0 a0.length c0), (3, .int .i64 x2), (4, .int .i64 1)]) ⟨rfl, rfl, rfl, trivial⟩ ?_
    refine WCode.loop (fun n_ l_ w_ => ∃ x16 : Int, ∃ x17 : Int, l_ = [(0, .slice A0 a0.length c0), (3, .int .i64 x16), (4, .int .i64 x17)] ∧ sv_Max.l1 n_ a0 x16 x17 = some r_ ∧ St w (KS []) w_ []) k ⟨x2, 1, rfl, hF, S⟩ ?_
    rintro n21 _ w18 ⟨x16, x17, rfl, hF, S19⟩
    obtain _ | k20 := n21
    · exact nomatch (show (none : Option Int) = some r_ from hF)
    rw [sv_Max.l1] at hF
    refine WCode.seq ?_
    refine WCode.seq ?_
    refine WCode.region ?_
    refine WOps.p (G.move rfl) rfl ?_
    refine WOps.p (G.move rfl) rfl ?_
    refine WOps.p (G.len T.el49 rfl) rfl ?_
    refine WOps.p (G.lss rfl rfl rfl) rfl ?_
    refine WOps.nil ?_
    refine WEx.then_ ?_
    rcases ite_some hF with ⟨h23, hF⟩ | ⟨h23, hF⟩
    ·
      refine WCode.cond_t (kb (b := decide (x17 < (a0.length : Int))) rfl (decide_eq_true h23)) ?_
      refine WCode.skip ?_
      refine WEx.then_ ?_
      refine WCode.seq ?_
      refine WCode.block ?_
      refine WCode.region ?_
      refine WOps.p (G.move rfl) rfl ?_
      refine WOps.p (G.move rfl) rfl ?_
      refine WOps.p (G.move rfl) rfl ?_
      obtain ⟨x24, hc25, hF⟩ := bind_some hF
      obtain ⟨j26, ej27, hj28, hl29⟩ := idx_spec hc25
      obtain ⟨b30, o31, cs32, eA33, hf34, hc35, hr36⟩ := SlR.at_ (hR0.ext (S19.keepF hF0)) hj28
      have hq37 : cs32 = [.int .i64 x24] := hr36
      subst hq37
      change cellsAt _ _ (o31 + j26 * 1) [.int .i64 x24] at hc35
      refine WOps.p (G.idx T.el49 rfl eA33 rfl ej27 hl29) rfl ?_
      refine WOps.r (G.load1 T.one3 rfl (cellsAt.at0 hc35)) rfl ?_
      refine WOps.p (G.max rfl rfl (int_max x16 x24)) rfl ?_
      refine WOps.p (G.assign rfl) rfl ?_
      refine WOps.nil ?_
      refine WEx.in_normal ?_
      refine WEx.then_ ?_
      refine WCode.forget (l' := [(0, .slice A0 a0.length c0), (3, .int .i64 (max x16 x24)), (4, .int .i64 x17)]) ⟨rfl, rfl, rfl, trivial⟩ ?_
      refine WCode.region ?_
      refine WOps.p (G.move rfl) rfl ?_
      refine WOps.p (G.add rfl rfl (r := (w64 (x17 + 1))) rfl) rfl ?_
      refine WOps.p (G.assign rfl) rfl ?_
      refine WOps.nil ?_
      refine WEx.again _ _ (by omega) ?_ ⟨max x16 x24, w64 (x17 + 1), rfl, hF, S19⟩
      exact ⟨rfl, rfl, rfl, trivial⟩
    ·
      refine WCode.cond_f (kb (b := decide (x17 < (a0.length : Int))) rfl (decide_eq_false h23)) ?_
      refine WCode.exit ?_
      refine WEx.then_exit ?_
      refine WEx.then_exit ?_
      refine WEx.in_exit ?_
      refine WEx.then_ ?_
      refine WCode.seq ?_
      refine WCode.region ?_
      refine WOps.p (G.move rfl) rfl ?_
      refine WOps.p (G.assign rfl) rfl ?_
      refine WOps.nil ?_
      refine WEx.then_ ?_
      refine WCode.ret ?_
      obtain rfl := some_eq hF
      refine WEx.ret1 rfl rfl ?_
      exact ⟨rfl, St.keep (As := []) S19⟩

def sv_clo (k : Nat) (a0 : Service) (bc0 : Int) (bc1 : Int) : Option Bool := (if a0.Prog = bc0 then (some (decide (a0.Vers = bc1))) else (some false))
set_option maxRecDepth 100000 in
set_option maxHeartbeats 1000000 in
theorem sv_clo_calls (k : Nat) (a0 : Service) {A0_1 : Option Addr} {c0_1 : Nat} {F0_1 : Nat → Prop} (bc0 : Int) {qc0 : Nat} (bc1 : Int) {qc1 : Nat} {w : World} (hR0_1 : SlR (Rp.int .i64) w F0_1 A0_1 c0_1 a0.Procs) (hF0_1 : ∀ b, F0_1 b → NK w [] b) (hBc0 : w.heap[qc0]? = some (.cells #[.int .i64 bc0] 3 (0, 0))) (hNc0 : qc0 ∉ keys ([] : List Grp).flatten) (hBc1 : w.heap[qc1]? = some (.cells #[.int .i64 bc1] 3 (0, 0))) (hNc1 : qc1 ∉ keys ([] : List Grp).flatten) {r_ : Bool} (h_ : sv_clo k a0 bc0 bc1 = some r_) :
    Calls Try.prog 66 [.agg #[.int .i64 a0.Prog, .int .i64 a0.Vers, .slice A0_1 a0.Procs.length c0_1, fnv 35 a0.Handle], .pointer (some ⟨qc0, 0, none⟩), .pointer (some ⟨qc1, 0, none⟩)].toArray w fun e w' => e = .returned (.bool r_) ∧ St w (KS []) w' [] := by
  have hF := h_
  clear h_
  unfold sv_clo at hF
  have S := St.ofFalse (As := []) (St.init0 w)
  refine enter 15 [(0, .agg #[.int .i64 a0.Prog, .int .i64 a0.Vers, .slice A0_1 a0.Procs.length c0_1, fnv 35 a0.Handle]), (1, .pointer (some ⟨qc0, 0, none⟩)), (2, .pointer (some ⟨qc1, 0, none⟩))] Try.func66 rfl rfl rfl rfl ?_
  refine WCode.seq ?_
  refine WCode.region ?_
  obtain ⟨b1, w2, E3, S4, X5, L6⟩ := St.box S Try.prog 85 (.agg #[.int .i64 a0.Prog, .int .i64 a0.Vers, .slice A0_1 a0.Procs.length c0_1, fnv 35 a0.Handle])
  change St _ _ _ [[(b1, .cells #[.int .i64 a0.Prog, .int .i64 a0.Vers, .slice A0_1 a0.Procs.length c0_1, fnv 35 a0.Handle] 85 (0, 0))]] at S4
  refine WOps.e (E3 rfl) rfl ?_
  refine WOps.p (G.assign rfl) rfl ?_
  refine WOps.nil ?_
  refine WEx.then_ ?_
  refine WCode.seq ?_
  refine WCode.region ?_
  refine WOps.p (G.field T.fld85_0 rfl (show 0 + 0 = 0 from rfl)) rfl ?_
  refine WOps.r (G.load1 T.one3 rfl (cell_blk (S4.blk 0 rfl) rfl)) rfl ?_
  refine WOps.r (G.load1 T.one3 rfl (cell_blk ((S4.fr qc0 (lt_of_blk hBc0) hNc0).trans hBc0) rfl)) rfl ?_
  refine WOps.p (G.eql rfl rfl rfl) rfl ?_
  refine WOps.p (G.move rfl) rfl ?_
  rcases ite_some hF with ⟨h7, hF⟩ | ⟨h7, hF⟩
  ·
    refine WOps.on rfl (kbl (b := decide (a0.Prog = bc0)) rfl (decide_eq_true h7)) ?_
    refine WOps.p (G.field T.fld85_1 rfl (show 0 + 1 = 1 from rfl)) rfl ?_
    refine WOps.on rfl (kbl (b := decide (a0.Prog = bc0)) rfl (decide_eq_true h7)) ?_
    refine WOps.r (G.load1 T.one3 rfl (cell_blk (S4.blk 0 rfl) rfl)) rfl ?_
    refine WOps.on rfl (kbl (b := decide (a0.Prog = bc0)) rfl (decide_eq_true h7)) ?_
    refine WOps.r (G.load1 T.one3 rfl (cell_blk ((S4.fr qc1 (lt_of_blk hBc1) hNc1).trans hBc1) rfl)) rfl ?_
    refine WOps.on rfl (kbl (b := decide (a0.Prog = bc0)) rfl (decide_eq_true h7)) ?_
    refine WOps.p (G.eql rfl rfl rfl) rfl ?_
    refine WOps.p (G.pick_t (kb (b := decide (a0.Prog = bc0)) rfl (decide_eq_true h7)) rfl) rfl ?_
    refine WOps.p (G.assign rfl) rfl ?_
    refine WOps.nil ?_
    refine WEx.then_ ?_
    refine WCode.forget (l' := [(4, .bool (decide (a0.Vers = bc1)))]) ⟨rfl, trivial⟩ ?_
    refine WCode.ret ?_
    obtain rfl := some_eq hF
    refine WEx.ret1 rfl rfl ?_
    exact ⟨rfl, St.keep (As := []) S4⟩
  ·
    refine WOps.off rfl (kbl (b := decide (a0.Prog = bc0)) rfl (decide_eq_false h7)) rfl rfl ?_
    refine WOps.off rfl (kbl (b := decide (a0.Prog = bc0)) rfl (decide_eq_false h7)) rfl rfl ?_
    refine WOps.off rfl (kbl (b := decide (a0.Prog = bc0)) rfl (decide_eq_false h7)) rfl rfl ?_
    refine WOps.off rfl (kbl (b := decide (a0.Prog = bc0)) rfl (decide_eq_false h7)) rfl rfl ?_
    refine WOps.p (G.pick_f (kb (b := decide (a0.Prog = bc0)) rfl (decide_eq_false h7)) rfl) rfl ?_
    refine WOps.p (G.assign rfl) rfl ?_
    refine WOps.nil ?_
    refine WEx.then_ ?_
    refine WCode.forget (l' := [(4, .bool false)]) ⟨rfl, trivial⟩ ?_
    refine WCode.ret ?_
    obtain rfl := some_eq hF
    refine WEx.ret1 rfl rfl ?_
    exact ⟨rfl, St.keep (As := []) S4⟩

def sv_idx.l1 : Nat → List Service → Int → Int → Int → Option Int
  | 0, _, _, _, _ => none
  | k4 + 1, a0, b1_0, b1_1, x1 => (if x1 < (a0.length : Int) then (Option.bind (idx a0 x1) fun x8 => (Option.bind (sv_clo k4 x8 b1_0 b1_1) fun t25 => (if t25 = true then (some x1) else (sv_idx.l1 k4 a0 b1_0 b1_1 (w64 (x1 + 1)))))) else (some (-1)))
def sv_idx (k : Nat) (a0 : List Service) (b1_0 : Int) (b1_1 : Int) : Option Int := (sv_idx.l1 k a0 b1_0 b1_1 0)
set_option maxRecDepth 100000 in
set_option maxHeartbeats 1000000 in
theorem sv_idx_calls (k : Nat) (a0 : List Service) {A0 : Option Addr} {c0 : Nat} {F0 : Nat → Prop} (b1_0 : Int) {q1_0 : Nat} (b1_1 : Int) {q1_1 : Nat} {w : World} (hR0 : SlR Service.rp w F0 A0 c0 a0) (hF0 : ∀ b, F0 b → NK w [] b) (hB1_0 : w.heap[q1_0]? = some (.cells #[.int .i64 b1_0] 3 (0, 0))) (hN1_0 : q1_0 ∉ keys ([] : List Grp).flatten) (hB1_1 : w.heap[q1_1]? = some (.cells #[.int .i64 b1_1] 3 (0, 0))) (hN1_1 : q1_1 ∉ keys ([] : List Grp).flatten) {r_ : Int} (h_ : sv_idx k a0 b1_0 b1_1 = some r_) :
    Calls Try.prog 65 [.slice A0 a0.length c0, .func (.func 66) #[] #[.pointer (some ⟨q1_0, 0, none⟩), .pointer (some ⟨q1_1, 0, none⟩)]].toArray w fun e w' => e = .returned (.int .i64 r_) ∧ St w (KS []) w' [] := by
  have hF := h_
  clear h_
  unfold sv_idx at hF
  have S := St.ofFalse (As := []) (St.init0 w)
  refine enter 19 [(0, .slice A0 a0.length c0), (1, .func (.func 66) #[] #[.pointer (some ⟨q1_0, 0, none⟩), .pointer (some ⟨q1_1, 0, none⟩)])] Try.func65 rfl rfl rfl rfl ?_
  refine WCode.seq ?_
  refine WCode.region ?_
  refine WOps.p (G.assign rfl) rfl ?_
  refine WOps.nil ?_
  refine WEx.then_ ?_
  refine WCode.seq ?_
  refine WCode.seq ?_
  refine WCode.region ?_
  refine WOps.p (G.move rfl) rfl ?_
  refine WOps.p (G.len T.el106 rfl) rfl ?_
  refine WOps.p (G.move rfl) rfl ?_
  refine WOps.nil ?_
  refine WEx.then_ ?_
  refine WCode.block ?_
  refine WCode.forget (l' := [(0, .slice A0 a0.length c0), (1, .func (.func 66) #[] #[.pointer (some ⟨q1_0, 0, none⟩), .pointer (some ⟨q1_1, 0, none⟩)]), (7, .int .i64 (a0.length : Int)), (8, .int .i64 0)]) ⟨rfl, rfl, rfl, rfl, trivial⟩ ?_
  refine WCode.loop (fun n_ l_ w_ => ∃ x1 : Int, l_ = [(0, .slice A0 a0.length c0), (1, .func (.func 66) #[] #[.pointer (some ⟨q1_0, 0, none⟩), .pointer (some ⟨q1_1, 0, none⟩)]), (7, .int .i64 (a0.length : Int)), (8, .int .i64 x1)] ∧ sv_idx.l1 n_ a0 b1_0 b1_1 x1 = some r_ ∧ St w (KS []) w_ []) k ⟨0, rfl, hF, S⟩ ?_
  rintro n5 _ w2 ⟨x1, rfl, hF, S3⟩
  obtain _ | k4 := n5
  · exact nomatch (show (none : Option Int) = some r_ from hF)
  rw [sv_idx.l1] at hF
  refine WCode.seq ?_
  refine WCode.region ?_
  refine WOps.p (G.lss rfl rfl rfl) rfl ?_
  refine WOps.nil ?_
  refine WEx.then_ ?_
  refine WCode.seq ?_
  rcases ite_some hF with ⟨h7, hF⟩ | ⟨h7, hF⟩
  ·
    refine WCode.cond_t (kb (b := decide (x1 < (a0.length : Int))) rfl (decide_eq_true h7)) ?_
    refine WCode.skip ?_
    refine WEx.then_ ?_
    refine WCode.seq ?_
    refine WCode.block ?_
    refine WCode.seq ?_
    refine WCode.region ?_
    refine WOps.p (G.move rfl) rfl ?_
    refine WOps.p (G.assign rfl) rfl ?_
    refine WOps.nil ?_
    refine WEx.then_ ?_
    refine WCode.seq ?_
    refine WCode.region ?_
    refine WOps.p (G.move rfl) rfl ?_
    refine WOps.p (G.move rfl) rfl ?_
    refine WOps.p (G.move rfl) rfl ?_
    obtain ⟨x8, hc9, hF⟩ := bind_some hF
    obtain ⟨j10, ej11, hj12, hl13⟩ := idx_spec hc9
    obtain ⟨b14, o15, cs16, eA17, hf18, hc19, hr20⟩ := SlR.at_ hR0 hj12
    obtain ⟨A21, c22, hq24, hR23⟩ := hr20
    subst hq24
    have hc19 := hc19.move ((S3.keepF hF0) _ hf18)
    change cellsAt _ _ (o15 + j10 * 4) [.int .i64 x8.Prog, .int .i64 x8.Vers, .slice A21 x8.Procs.length c22, fnv 35 x8.Handle] at hc19
    refine WOps.p (G.idx T.el106 rfl eA17 rfl ej11 hl13) rfl ?_
    refine WOps.r (G.loada T.agg85_4 rfl (cs := [.int .i64 x8.Prog, .int .i64 x8.Vers, .slice A21 x8.Procs.length c22, fnv 35 x8.Handle]) hc19) rfl ?_
    obtain ⟨t25, hc26, hF⟩ := bind_some hF
    refine WOps.callv T.call66 rfl (evs_cons rfl evs_nil) rfl ?_
    refine (sv_clo_calls k4 x8 b1_0 b1_1 (hR23.ext (S3.keepF hF0)) (St.outF (Bs := []) S3 hF0) ((S3.fr q1_0 (lt_of_blk hB1_0) hN1_0).trans hB1_0) (by simp [keys]) ((S3.fr q1_1 (lt_of_blk hB1_1) hN1_1).trans hB1_1) (by simp [keys]) hc26).mono ?_
    rintro _ w27 ⟨rfl, T28⟩
    have S29 := St.callN (As := []) S3 T28
    change St _ _ _ [] at S29
    refine ⟨_, rfl, ?_⟩
    refine WOps.nil ?_
    refine WEx.then_ ?_
    rcases ite_some hF with ⟨h30, hF⟩ | ⟨h30, hF⟩
    ·
      refine WCode.cond_t (kb (b := t25) rfl h30) ?_
      refine WCode.seq ?_
      refine WCode.region ?_
      refine WOps.p (G.move rfl) rfl ?_
      refine WOps.p (G.assign rfl) rfl ?_
      refine WOps.nil ?_
      refine WEx.then_ ?_
      refine WCode.forget (l' := [(4, .int .i64 x1)]) ⟨rfl, trivial⟩ ?_
      refine WCode.ret ?_
      refine WEx.in_ret ?_
      refine WEx.then_ret ?_
      refine WEx.then_ret ?_
      refine WEx.in_ret ?_
      refine WEx.then_ret ?_
      obtain rfl := some_eq hF
      refine WEx.ret1 rfl rfl ?_
      exact ⟨rfl, St.keep (As := []) S29⟩
    ·
      refine WCode.cond_f (kb (b := t25) rfl (Bool.eq_false_iff.2 h30)) ?_
      refine WCode.skip ?_
      refine WEx.in_normal ?_
      refine WEx.then_ ?_
      refine WCode.region ?_
      refine WOps.p (G.add rfl rfl (r := (w64 (x1 + 1))) rfl) rfl ?_
      refine WOps.p (G.move rfl) rfl ?_
      refine WOps.nil ?_
      refine WEx.again _ _ (by omega) ?_ ⟨w64 (x1 + 1), rfl, hF, S29⟩
      exact ⟨rfl, rfl, rfl, rfl, trivial⟩
  ·
    refine WCode.cond_f (kb (b := decide (x1 < (a0.length : Int))) rfl (decide_eq_false h7)) ?_
    refine WCode.exit ?_
    refine WEx.then_exit ?_
    refine WEx.then_exit ?_
    refine WEx.in_exit ?_
    refine WEx.then_ ?_
    refine WCode.seq ?_
    refine WCode.region ?_
    refine WOps.p (G.assign rfl) rfl ?_
    refine WOps.nil ?_
    refine WEx.then_ ?_
    refine WCode.ret ?_
    obtain rfl := some_eq hF
    refine WEx.ret1 rfl rfl ?_
    exact ⟨rfl, St.keep (As := []) S3⟩

def sv_place (k : Nat) (a0 : Registry) (a1 : Int) (a2 : Int) : Option Int := (Option.bind (sv_idx k a0.l a1 a2) fun t20 => (some t20))
set_option maxRecDepth 100000 in
set_option maxHeartbeats 1000000 in
theorem sv_place_calls (k : Nat) (a0 : Registry) {p0 : Nat} {F0 : Nat → Prop} (a1 : Int) (a2 : Int) {w : World} (hP0 : PtR 108 Registry.rp w F0 p0 a0) (hF0 : ∀ b, F0 b → NK w [] b) {r_ : Int} (h_ : sv_place k a0 a1 a2 = some r_) :
    Calls Try.prog 49 [.pointer (some ⟨p0, 0, none⟩), .int .i64 a1, .int .i64 a2].toArray w fun e w' => e = .returned (.int .i64 r_) ∧ St w (KS []) w' [] := by
  have hF := h_
  clear h_
  unfold sv_place at hF
  have S := St.ofFalse (As := []) (St.init0 w)
  have hPq0 := hP0
  obtain ⟨cs1, hB2, hf3, A5, c6, hq4, hR7⟩ := hPq0
  subst hq4
  change _ = some (Obj.cells #[.slice A5 a0.l.length c6] 108 (0, 0)) at hB2
  refine enter 13 [(0, .pointer (some ⟨p0, 0, none⟩)), (1, .int .i64 a1), (2, .int .i64 a2)] Try.func49 rfl rfl rfl rfl ?_
  refine WCode.seq ?_
  refine WCode.region ?_
  obtain ⟨b8, w9, E10, S11, X12, L13⟩ := St.box S Try.prog 3 (.int .i64 a1)
  change St _ _ _ [[(b8, .cells #[.int .i64 a1] 3 (0, 0))]] at S11
  refine WOps.e (E10 rfl) rfl ?_
  obtain ⟨b14, w15, E16, S17, X18, L19⟩ := St.box S11 Try.prog 3 (.int .i64 a2)
  change St _ _ _ [[(b14, .cells #[.int .i64 a2] 3 (0, 0))], [(b8, .cells #[.int .i64 a1] 3 (0, 0))]] at S17
  refine WOps.e (E16 rfl) rfl ?_
  refine WOps.p (G.assign rfl) rfl ?_
  refine WOps.nil ?_
  refine WEx.then_ ?_
  refine WCode.seq ?_
  refine WCode.region ?_
  refine WOps.p (G.move rfl) rfl ?_
  refine WOps.p (G.nilp rfl) rfl ?_
  refine WOps.p (G.field T.fld108_0 rfl (show 0 + 0 = 0 from rfl)) rfl ?_
  refine WOps.r (G.load1 T.one106 rfl (cell_blk ((S17.fr p0 (lt_of_blk hB2) (hF0 p0 hf3).1).trans hB2) rfl)) rfl ?_
  refine WOps.p (G.makeFunc (evs_cons rfl (evs_cons rfl evs_nil))) rfl ?_
  obtain ⟨t20, hc21, hF⟩ := bind_some hF
  refine WOps.call T.call65 (evs_cons rfl (evs_cons rfl evs_nil)) rfl ?_
  refine (sv_idx_calls k a0.l a1 a2 (hR7.ext (S17.keepF hF0)) (St.outF (Bs := []) S17 hF0) (S17.blk 1 rfl) (by simp [keys]) (S17.blk 0 rfl) (by simp [keys]) hc21).mono ?_
  rintro _ w22 ⟨rfl, T23⟩
  have S24 := St.callN (As := []) S17 T23
  change St _ _ _ [[(b14, .cells #[.int .i64 a2] 3 (0, 0))], [(b8, .cells #[.int .i64 a1] 3 (0, 0))]] at S24
  refine ⟨_, rfl, ?_⟩
  refine WOps.p (G.assign rfl) rfl ?_
  refine WOps.nil ?_
  refine WEx.then_ ?_
  refine WCode.forget (l' := [(6, .int .i64 t20)]) ⟨rfl, trivial⟩ ?_
  refine WCode.ret ?_
  obtain rfl := some_eq hF
  refine WEx.ret1 rfl rfl ?_
  exact ⟨rfl, St.keep (As := []) S24⟩

def sv_versions.j1 (q15 : Nat) (a0 : Registry) (l10 : List Int) : Option (Int × Int × Bool) := (if (l10.length : Int) = 0 then (some (0, 0, false)) else (Option.bind (sv_Min q15 l10) fun t80 => (Option.bind (sv_Max q15 l10) fun t85 => (some (t80, t85, true)))))
def sv_versions.l1 : Nat → Registry → Int → List Int → Int → Option (Int × Int × Bool)
  | 0, _, _, _, _ => none
  | k25 + 1, a0, a1, l19, x22 => (if x22 < (a0.l.length : Int) then (Option.bind (idx a0.l x22) fun x31 => (if x31.Prog = a1 then (Option.bind (catN 17592186044416 l19 ([x31.Vers] : List Int)) fun l65 => (sv_versions.l1 k25 a0 a1 l65 (w64 (x22 + 1)))) else (sv_versions.l1 k25 a0 a1 l19 (w64 (x22 + 1))))) else (sv_versions.j1 k25 a0 l19))
def sv_versions (k : Nat) (a0 : Registry) (a1 : Int) : Option (Int × Int × Bool) := (sv_versions.l1 k a0 a1 [] 0)
set_option maxRecDepth 100000 in
set_option maxHeartbeats 1000000 in
theorem sv_versions_calls (k : Nat) (a0 : Registry) {p0 : Nat} {F0 : Nat → Prop} (a1 : Int) {w : World} (hP0 : PtR 108 Registry.rp w F0 p0 a0) (hF0 : ∀ b, F0 b → NK w [] b) {r_ : Int × Int × Bool} (h_ : sv_versions k a0 a1 = some r_) :
    Calls Try.prog 48 [.pointer (some ⟨p0, 0, none⟩), .int .i64 a1].toArray w fun e w' => e = .returned (.tuple #[.int .i64 r_.1, .int .i64 r_.2.1, .bool r_.2.2]) ∧ St w (KS []) w' [] := by
  have hF := h_
  clear h_
  unfold sv_versions at hF
  have S := St.ofFalse (As := []) (St.init0 w)
  have hPq0 := hP0
  obtain ⟨cs1, hB2, hf3, A5, c6, hq4, hR7⟩ := hPq0
  subst hq4
  change _ = some (Obj.cells #[.slice A5 a0.l.length c6] 108 (0, 0)) at hB2
  refine enter 36 [(0, .pointer (some ⟨p0, 0, none⟩)), (1, .int .i64 a1)] Try.func48 rfl rfl rfl rfl ?_
  refine WCode.seq ?_
  refine WCode.region ?_
  refine WOps.p (G.assign rfl) rfl ?_
  refine WOps.p (G.assign rfl) rfl ?_
  refine WOps.p (G.assign rfl) rfl ?_
  refine WOps.nil ?_
  refine WEx.then_ ?_
  refine WCode.seq ?_
  refine WCode.region ?_
  refine WOps.p (G.assign rfl) rfl ?_
  refine WOps.nil ?_
  refine WEx.then_ ?_
  refine WCode.cutseq (fun l_ w_ => ∃ q15 : Nat, ∃ A8 : Option Addr, ∃ c9 : Nat, ∃ l10 : List Int, ∃ G11 : Grp, l_ = [(7, .slice A8 l10.length c9)] ∧ sv_versions.j1 q15 a0 l10 = some r_ ∧ (SlO 3 (Rp.int .i64) (.slice A8 l10.length c9) l10 G11) ∧ St w (KS []) w_ [G11]) ?_ ?_
  ·
    refine WCode.seq ?_
    refine WCode.region ?_
    refine WOps.p (G.move rfl) rfl ?_
    refine WOps.p (G.nilp rfl) rfl ?_
    refine WOps.p (G.field T.fld108_0 rfl (show 0 + 0 = 0 from rfl)) rfl ?_
    refine WOps.r (G.load1 T.one106 rfl (cell_blk ((S.fr p0 (lt_of_blk hB2) (hF0 p0 hf3).1).trans hB2) rfl)) rfl ?_
    refine WOps.p (G.len T.el106 rfl) rfl ?_
    refine WOps.p (G.move rfl) rfl ?_
    refine WOps.nil ?_
    refine WEx.then_ ?_
    refine WCode.block ?_
    have S27 := S.emp
    refine WCode.forget (l' := [(1, .int .i64 a1), (7, .slice none 0 0), (13, .slice A5 a0.l.length c6), (14, .int .i64 (a0.l.length : Int)), (15, .int .i64 0)]) ⟨rfl, rfl, rfl, rfl, rfl, trivial⟩ ?_
    refine WCode.loop (fun n_ l_ w_ => ∃ A17 : Option Addr, ∃ c18 : Nat, ∃ l19 : List Int, ∃ G20 : Grp, ∃ x22 : Int, l_ = [(1, .int .i64 a1), (7, .slice A17 l19.length c18), (13, .slice A5 a0.l.length c6), (14, .int .i64 (a0.l.length : Int)), (15, .int .i64 x22)] ∧ sv_versions.l1 n_ a0 a1 l19 x22 = some r_ ∧ (SlO 3 (Rp.int .i64) (.slice A17 l19.length c18) l19 G20) ∧ St w (KS []) w_ [G20]) k ⟨none, 0, [], ([] : Grp), 0, rfl, hF, (SlO.nil 3 (Rp.int .i64)), S27⟩ ?_
    rintro n26 _ w23 ⟨A17, c18, l19, G20, x22, rfl, hF, hO21, S24⟩
    obtain _ | k25 := n26
    · exact nomatch (show (none : Option (Int × Int × Bool)) = some r_ from hF)
    rw [sv_versions.l1] at hF
    refine WCode.seq ?_
    refine WCode.region ?_
    refine WOps.p (G.lss rfl rfl rfl) rfl ?_
    refine WOps.nil ?_
    refine WEx.then_ ?_
    refine WCode.seq ?_
    rcases ite_some hF with ⟨h30, hF⟩ | ⟨h30, hF⟩
    ·
      refine WCode.cond_t (kb (b := decide (x22 < (a0.l.length : Int))) rfl (decide_eq_true h30)) ?_
      refine WCode.skip ?_
      refine WEx.then_ ?_
      refine WCode.seq ?_
      refine WCode.block ?_
      refine WCode.seq ?_
      refine WCode.region ?_
      obtain ⟨x31, hc32, hF⟩ := bind_some hF
      obtain ⟨j33, ej34, hj35, hl36⟩ := idx_spec hc32
      obtain ⟨b37, o38, cs39, eA40, hf41, hc42, hr43⟩ := SlR.at_ hR7 hj35
      obtain ⟨A44, c45, hq47, hR46⟩ := hr43
      subst hq47
      have hc42 := hc42.move ((S24.keepF hF0) _ hf41)
      change cellsAt _ _ (o38 + j33 * 4) [.int .i64 x31.Prog, .int .i64 x31.Vers, .slice A44 x31.Procs.length c45, fnv 35 x31.Handle] at hc42
      refine WOps.p (G.idx T.el106 rfl eA40 rfl ej34 hl36) rfl ?_
      refine WOps.r (G.loada T.agg85_4 rfl (cs := [.int .i64 x31.Prog, .int .i64 x31.Vers, .slice A44 x31.Procs.length c45, fnv 35 x31.Handle]) hc42) rfl ?_
      obtain ⟨b48, w49, E50, S51, X52, L53⟩ := St.var S24 (z := .agg #[.int .i64 0, .int .i64 0, .slice none 0 0, .nilFunc]) T.zero85
      have c54 := hc42.ext X52
      change St _ _ _ [[(b48, .cells #[.int .i64 0, .int .i64 0, .slice none 0 0, .nilFunc] 85 (0, 0))], G20] at S51
      refine WOps.e E50 rfl ?_
      obtain ⟨w55, E56, S57⟩ := St.store (P := Try.prog) S51 0 85 (.agg #[.int .i64 x31.Prog, .int .i64 x31.Vers, .slice A44 x31.Procs.length c45, fnv 35 x31.Handle]) (off := 0) (cur' := #[.int .i64 x31.Prog, .int .i64 x31.Vers, .slice A44 x31.Procs.length c45, fnv 35 x31.Handle]) rfl T.size85_4 rfl (show List.all [.int .i64 x31.Prog, .int .i64 x31.Vers, .slice A44 x31.Procs.length c45, fnv 35 x31.Handle] Value.oneCell' = true by simp only [List.all_cons, fnv_one, Bool.true_and]; rfl) rfl
      change St _ _ _ [[(b48, .cells #[.int .i64 x31.Prog, .int .i64 x31.Vers, .slice A44 x31.Procs.length c45, fnv 35 x31.Handle] 85 (0, 0))], G20] at S57
      refine WOps.u (E56 rfl rfl) ?_
      refine WOps.nil ?_
      refine WEx.then_ ?_
      refine WCode.seq ?_
      refine WCode.region ?_
      refine WOps.p (G.field T.fld85_0 rfl (show 0 + 0 = 0 from rfl)) rfl ?_
      refine WOps.r (G.load1 T.one3 rfl (cell_blk (S57.blk 0 rfl) rfl)) rfl ?_
      refine WOps.p (G.move rfl) rfl ?_
      refine WOps.p (G.eql rfl rfl rfl) rfl ?_
      refine WOps.nil ?_
      refine WEx.then_ ?_
      rcases ite_some hF with ⟨h58, hF⟩ | ⟨h58, hF⟩
      ·
        refine WCode.cond_t (kb (b := decide (x31.Prog = a1)) rfl (decide_eq_true h58)) ?_
        refine WCode.region ?_
        refine WOps.p (G.move rfl) rfl ?_
        refine WOps.p (G.field T.fld85_1 rfl (show 0 + 1 = 1 from rfl)) rfl ?_
        refine WOps.r (G.load1 T.one3 rfl (cell_blk (S57.blk 0 rfl) rfl)) rfl ?_
        obtain ⟨b59, w60, E61, S62, X63, L64⟩ := St.lit S57 (P := Try.prog) (t := 49) (e := 3) (n := 1) (vs := [(0, .int .i64 x31.Vers)]) (cs := #[.int .i64 x31.Vers]) (by kernel_rfl)
        change St _ _ _ [[(b59, .cells #[.int .i64 x31.Vers] 3 (0, 0))], [(b48, .cells #[.int .i64 x31.Prog, .int .i64 x31.Vers, .slice A44 x31.Procs.length c45, fnv 35 x31.Handle] 85 (0, 0))], G20] at S62
        refine WOps.e (E61 (evp_cons rfl evp_nil)) rfl ?_
        obtain ⟨l65, hc66, hF⟩ := bind_some hF
        have S67 := S62.front 2 rfl
        change St _ _ _ [G20, [(b59, .cells #[.int .i64 x31.Vers] 3 (0, 0))], [(b48, .cells #[.int .i64 x31.Prog, .int .i64 x31.Vers, .slice A44 x31.Procs.length c45, fnv 35 x31.Handle] 85 (0, 0))]] at S67
        obtain ⟨A68, c69, G70, w71, E72, hO73, S74, hk75⟩ := St.appP (P := Try.prog) (r := (Rp.int .i64)) (M := ([x31.Vers] : List Int)) S67 T.elt49 rfl hO21 (Rd.of_blk (S67.blk 1 rfl) (n := 1) (sz := 1) rfl) ⟨_, _, [], [], rfl, rfl, ⟨rfl, rfl⟩, ⟨rfl, rfl⟩⟩ rfl hc66
        change St _ _ _ [G70, [(b59, .cells #[.int .i64 x31.Vers] 3 (0, 0))], [(b48, .cells #[.int .i64 x31.Prog, .int .i64 x31.Vers, .slice A44 x31.Procs.length c45, fnv 35 x31.Handle] 85 (0, 0))]] at S74
        refine WOps.e (E72 rfl rfl) rfl ?_
        refine WOps.p (G.assign rfl) rfl ?_
        refine WOps.nil ?_
        refine WEx.in_normal ?_
        refine WEx.then_ ?_
        refine WCode.forget (l' := [(1, .int .i64 a1), (7, .slice A68 l65.length c69), (13, .slice A5 a0.l.length c6), (14, .int .i64 (a0.l.length : Int)), (15, .int .i64 x22)]) ⟨rfl, rfl, rfl, rfl, rfl, trivial⟩ ?_
        refine WCode.region ?_
        refine WOps.p (G.add rfl rfl (r := (w64 (x22 + 1))) rfl) rfl ?_
        refine WOps.p (G.move rfl) rfl ?_
        refine WOps.nil ?_
        have S76 := St.keep (As := [G70]) S74
        refine WEx.again _ _ (by omega) ?_ ⟨A68, c69, l65, G70, w64 (x22 + 1), rfl, hF, hO73, S76⟩
        exact ⟨rfl, rfl, rfl, rfl, rfl, trivial⟩
      ·
        refine WCode.cond_f (kb (b := decide (x31.Prog = a1)) rfl (decide_eq_false h58)) ?_
        refine WCode.skip ?_
        refine WEx.in_normal ?_
        refine WEx.then_ ?_
        refine WCode.region ?_
        refine WOps.p (G.add rfl rfl (r := (w64 (x22 + 1))) rfl) rfl ?_
        refine WOps.p (G.move rfl) rfl ?_
        refine WOps.nil ?_
        have S77 := S57.front 1 rfl
        change St _ _ _ [G20, [(b48, .cells #[.int .i64 x31.Prog, .int .i64 x31.Vers, .slice A44 x31.Procs.length c45, fnv 35 x31.Handle] 85 (0, 0))]] at S77
        have S78 := St.keep (As := [G20]) S77
        refine WEx.again _ _ (by omega) ?_ ⟨A17, c18, l19, G20, w64 (x22 + 1), rfl, hF, hO21, S78⟩
        exact ⟨rfl, rfl, rfl, rfl, rfl, trivial⟩
    ·
      refine WCode.cond_f (kb (b := decide (x22 < (a0.l.length : Int))) rfl (decide_eq_false h30)) ?_
      refine WCode.exit ?_
      refine WEx.then_exit ?_
      refine WEx.then_exit ?_
      refine WEx.in_exit ?_
      refine WEx.cutend _ ?_ ⟨k25, A17, c18, l19, G20, rfl, hF, hO21, S24⟩
      exact ⟨rfl, trivial⟩
  ·
    rintro _ w13 ⟨q15, A8, c9, l10, G11, rfl, hF, hO12, S14⟩
    unfold sv_versions.j1 at hF
    refine WCode.seq ?_
    refine WCode.seq ?_
    refine WCode.region ?_
    refine WOps.p (G.move rfl) rfl ?_
    refine WOps.p (G.len T.el49 rfl) rfl ?_
    refine WOps.p (G.eql rfl rfl rfl) rfl ?_
    refine WOps.nil ?_
    refine WEx.then_ ?_
    rcases ite_some hF with ⟨h79, hF⟩ | ⟨h79, hF⟩
    ·
      refine WCode.cond_t (kb (b := decide ((l10.length : Int) = 0)) rfl (decide_eq_true h79)) ?_
      refine WCode.seq ?_
      refine WCode.region ?_
      refine WOps.p (G.assign rfl) rfl ?_
      refine WOps.p (G.assign rfl) rfl ?_
      refine WOps.p (G.assign rfl) rfl ?_
      refine WOps.nil ?_
      refine WEx.then_ ?_
      refine WCode.ret ?_
      refine WEx.then_ret ?_
      obtain rfl := some_eq hF
      refine WEx.ret3 rfl rfl rfl rfl ?_
      exact ⟨rfl, St.keep (As := []) S14⟩
    ·
      refine WCode.cond_f (kb (b := decide ((l10.length : Int) = 0)) rfl (decide_eq_false h79)) ?_
      refine WCode.skip ?_
      refine WEx.then_ ?_
      refine WCode.seq ?_
      refine WCode.region ?_
      refine WOps.p (G.move rfl) rfl ?_
      obtain ⟨t80, hc81, hF⟩ := bind_some hF
      refine WOps.call T.call63 (evs_cons rfl evs_nil) rfl ?_
      refine (sv_Min_calls q15 l10 (hO12.rd (fun b o hb => S14.grp 0 rfl hb)) (St.outG (Bs := []) S14 0 rfl) hc81).mono ?_
      rintro _ w82 ⟨rfl, T83⟩
      have S84 := St.callN (As := []) S14 T83
      change St _ _ _ [G11] at S84
      refine ⟨_, rfl, ?_⟩
      refine WOps.p (G.move rfl) rfl ?_
      obtain ⟨t85, hc86, hF⟩ := bind_some hF
      refine WOps.call T.call64 (evs_cons rfl evs_nil) rfl ?_
      refine (sv_Max_calls q15 l10 (hO12.rd (fun b o hb => S84.grp 0 rfl hb)) (St.outG (Bs := []) S84 0 rfl) hc86).mono ?_
      rintro _ w87 ⟨rfl, T88⟩
      have S89 := St.callN (As := []) S84 T88
      change St _ _ _ [G11] at S89
      refine ⟨_, rfl, ?_⟩
      refine WOps.p (G.assign rfl) rfl ?_
      refine WOps.p (G.assign rfl) rfl ?_
      refine WOps.p (G.assign rfl) rfl ?_
      refine WOps.nil ?_
      refine WEx.then_ ?_
      refine WCode.ret ?_
      obtain rfl := some_eq hF
      refine WEx.ret3 rfl rfl rfl rfl ?_
      exact ⟨rfl, St.keep (As := []) S89⟩

def sv_Find (k : Nat) (a0 : Registry) (a1 : Int) (a2 : Int) (a3 : Int) : Option (Int × Int × Int) := (Option.bind (sv_versions k a0 a1) fun t8 => (Option.bind (sv_place k a0 a1 a2) fun t13 => (if t8.2.2 = true then (if t13 < 0 then (some (2, t8.1, t8.2.1)) else (if a3 = 0 then (some (0, 0, 0)) else (Option.bind (idx a0.l t13) fun x21 => (Option.bind (sv_Contains k x21.Procs a3) fun t38 => (if t38 = true then (some (0, 0, 0)) else (some (3, 0, 0))))))) else (some (1, 0, 0)))))
set_option maxRecDepth 100000 in
set_option maxHeartbeats 1000000 in
theorem sv_Find_calls (k : Nat) (a0 : Registry) {p0 : Nat} {F0 : Nat → Prop} (a1 : Int) (a2 : Int) (a3 : Int) {w : World} (hP0 : PtR 108 Registry.rp w F0 p0 a0) (hF0 : ∀ b, F0 b → NK w [] b) {r_ : Int × Int × Int} (h_ : sv_Find k a0 a1 a2 a3 = some r_) :
    Calls Try.prog 29 [.pointer (some ⟨p0, 0, none⟩), .int .i64 a1, .int .i64 a2, .int .i64 a3].toArray w fun e w' => e = .returned (.tuple #[.int .i64 r_.1, .int .i64 r_.2.1, .int .i64 r_.2.2]) ∧ St w (KS []) w' [] := by
  have hF := h_
  clear h_
  unfold sv_Find at hF
  have S := St.ofFalse (As := []) (St.init0 w)
  have hPq0 := hP0
  obtain ⟨cs1, hB2, hf3, A5, c6, hq4, hR7⟩ := hPq0
  subst hq4
  change _ = some (Obj.cells #[.slice A5 a0.l.length c6] 108 (0, 0)) at hB2
  refine enter 50 [(0, .pointer (some ⟨p0, 0, none⟩)), (1, .int .i64 a1), (2, .int .i64 a2), (3, .int .i64 a3)] Try.func29 rfl rfl rfl rfl ?_
  refine WCode.seq ?_
  refine WCode.region ?_
  refine WOps.p (G.assign rfl) rfl ?_
  refine WOps.p (G.assign rfl) rfl ?_
  refine WOps.p (G.assign rfl) rfl ?_
  refine WOps.nil ?_
  refine WEx.then_ ?_
  refine WCode.seq ?_
  refine WCode.region ?_
  refine WOps.p (G.move rfl) rfl ?_
  refine WOps.p (G.move rfl) rfl ?_
  obtain ⟨t8, hc9, hF⟩ := bind_some hF
  refine WOps.call T.call48 (evs_cons rfl (evs_cons rfl evs_nil)) rfl ?_
  refine (sv_versions_calls k a0 a1 (hP0.ext (S.keepF hF0)) (St.outF (Bs := []) S hF0) hc9).mono ?_
  rintro _ w10 ⟨rfl, T11⟩
  have S12 := St.callN (As := []) S T11
  change St _ _ _ [] at S12
  refine ⟨_, rfl, ?_⟩
  refine WOps.p (G.move rfl) rfl ?_
  refine WOps.p (G.extract rfl rfl) rfl ?_
  refine WOps.p (G.extract rfl rfl) rfl ?_
  refine WOps.p (G.extract rfl rfl) rfl ?_
  refine WOps.p (G.assign rfl) rfl ?_
  refine WOps.p (G.assign rfl) rfl ?_
  refine WOps.p (G.assign rfl) rfl ?_
  refine WOps.nil ?_
  refine WEx.then_ ?_
  refine WCode.forget (l' := [(0, .pointer (some ⟨p0, 0, none⟩)), (1, .int .i64 a1), (2, .int .i64 a2), (3, .int .i64 a3), (11, .int .i64 t8.1), (12, .int .i64 t8.2.1), (13, .bool t8.2.2)]) ⟨rfl, rfl, rfl, rfl, rfl, rfl, rfl, trivial⟩ ?_
  refine WCode.seq ?_
  refine WCode.region ?_
  refine WOps.p (G.move rfl) rfl ?_
  refine WOps.p (G.move rfl) rfl ?_
  refine WOps.p (G.move rfl) rfl ?_
  obtain ⟨t13, hc14, hF⟩ := bind_some hF
  refine WOps.call T.call49 (evs_cons rfl (evs_cons rfl (evs_cons rfl evs_nil))) rfl ?_
  refine (sv_place_calls k a0 a1 a2 (hP0.ext (S12.keepF hF0)) (St.outF (Bs := []) S12 hF0) hc14).mono ?_
  rintro _ w15 ⟨rfl, T16⟩
  have S17 := St.callN (As := []) S12 T16
  change St _ _ _ [] at S17
  refine ⟨_, rfl, ?_⟩
  refine WOps.p (G.assign rfl) rfl ?_
  refine WOps.nil ?_
  refine WEx.then_ ?_
  refine WCode.seq ?_
  refine WCode.block ?_
  refine WCode.seq ?_
  refine WCode.region ?_
  refine WOps.p (G.move rfl) rfl ?_
  refine WOps.p (G.not rfl rfl) rfl ?_
  refine WOps.p (G.assign rfl) rfl ?_
  refine WOps.nil ?_
  refine WEx.then_ ?_
  rcases ite_some hF with ⟨h18, hF⟩ | ⟨h18, hF⟩
  ·
    refine WCode.cond_f (kb (b := !t8.2.2) rfl (show (!t8.2.2) = false from by rw [h18]; rfl)) ?_
    refine WCode.seq ?_
    refine WCode.region ?_
    refine WOps.p (G.move rfl) rfl ?_
    refine WOps.p (G.lss rfl rfl rfl) rfl ?_
    refine WOps.p (G.assign rfl) rfl ?_
    refine WOps.nil ?_
    refine WEx.then_ ?_
    refine WCode.forget (l' := [(0, .pointer (some ⟨p0, 0, none⟩)), (3, .int .i64 a3), (11, .int .i64 t8.1), (12, .int .i64 t8.2.1), (14, .int .i64 t13), (29, .bool (decide (t13 < 0)))]) ⟨rfl, rfl, rfl, rfl, rfl, rfl, trivial⟩ ?_
    rcases ite_some hF with ⟨h19, hF⟩ | ⟨h19, hF⟩
    ·
      refine WCode.cond_t (kb (b := decide (t13 < 0)) rfl (decide_eq_true h19)) ?_
      refine WCode.seq ?_
      refine WCode.region ?_
      refine WOps.p (G.move rfl) rfl ?_
      refine WOps.p (G.move rfl) rfl ?_
      refine WOps.p (G.assign rfl) rfl ?_
      refine WOps.p (G.assign rfl) rfl ?_
      refine WOps.p (G.assign rfl) rfl ?_
      refine WOps.nil ?_
      refine WEx.then_ ?_
      refine WCode.ret ?_
      refine WEx.in_ret ?_
      refine WEx.then_ret ?_
      obtain rfl := some_eq hF
      refine WEx.ret3 rfl rfl rfl rfl ?_
      exact ⟨rfl, St.keep (As := []) S17⟩
    ·
      refine WCode.cond_f (kb (b := decide (t13 < 0)) rfl (decide_eq_false h19)) ?_
      refine WCode.seq ?_
      refine WCode.region ?_
      refine WOps.p (G.move rfl) rfl ?_
      refine WOps.p (G.neq rfl rfl rfl) rfl ?_
      refine WOps.p (G.move rfl) rfl ?_
      rcases ite_some hF with ⟨h20, hF⟩ | ⟨h20, hF⟩
      ·
        refine WOps.off rfl (kbl (b := !(decide (a3 = 0))) rfl (show (!(decide (a3 = 0))) = false from by rw [(decide_eq_true h20)]; rfl)) rfl rfl ?_
        refine WOps.off rfl (kbl (b := !(decide (a3 = 0))) rfl (show (!(decide (a3 = 0))) = false from by rw [(decide_eq_true h20)]; rfl)) rfl rfl ?_
        refine WOps.off rfl (kbl (b := !(decide (a3 = 0))) rfl (show (!(decide (a3 = 0))) = false from by rw [(decide_eq_true h20)]; rfl)) rfl rfl ?_
        refine WOps.off rfl (kbl (b := !(decide (a3 = 0))) rfl (show (!(decide (a3 = 0))) = false from by rw [(decide_eq_true h20)]; rfl)) rfl rfl ?_
        refine WOps.off rfl (kbl (b := !(decide (a3 = 0))) rfl (show (!(decide (a3 = 0))) = false from by rw [(decide_eq_true h20)]; rfl)) rfl rfl ?_
        refine WOps.off rfl (kbl (b := !(decide (a3 = 0))) rfl (show (!(decide (a3 = 0))) = false from by rw [(decide_eq_true h20)]; rfl)) rfl rfl ?_
        refine WOps.off rfl (kbl (b := !(decide (a3 = 0))) rfl (show (!(decide (a3 = 0))) = false from by rw [(decide_eq_true h20)]; rfl)) rfl rfl ?_
        refine WOps.off rfl (kbl (b := !(decide (a3 = 0))) rfl (show (!(decide (a3 = 0))) = false from by rw [(decide_eq_true h20)]; rfl)) rfl rfl ?_
        refine WOps.off rfl (kbl (b := !(decide (a3 = 0))) rfl (show (!(decide (a3 = 0))) = false from by rw [(decide_eq_true h20)]; rfl)) rfl rfl ?_
        refine WOps.off rfl (kbl (b := !(decide (a3 = 0))) rfl (show (!(decide (a3 = 0))) = false from by rw [(decide_eq_true h20)]; rfl)) rfl rfl ?_
        refine WOps.off rfl (kbl (b := !(decide (a3 = 0))) rfl (show (!(decide (a3 = 0))) = false from by rw [(decide_eq_true h20)]; rfl)) rfl rfl ?_
        refine WOps.p (G.pick_f (kb (b := !(decide (a3 = 0))) rfl (show (!(decide (a3 = 0))) = false from by rw [(decide_eq_true h20)]; rfl)) rfl) rfl ?_
        refine WOps.p (G.assign rfl) rfl ?_
        refine WOps.nil ?_
        refine WEx.then_ ?_
        refine WCode.forget (l' := [(34, .bool false)]) ⟨rfl, trivial⟩ ?_
        refine WCode.cond_f rfl ?_
        refine WCode.skip ?_
        refine WEx.in_normal ?_
        refine WEx.then_ ?_
        refine WCode.seq ?_
        refine WCode.region ?_
        refine WOps.p (G.assign rfl) rfl ?_
        refine WOps.p (G.assign rfl) rfl ?_
        refine WOps.p (G.assign rfl) rfl ?_
        refine WOps.nil ?_
        refine WEx.then_ ?_
        refine WCode.ret ?_
        obtain rfl := some_eq hF
        refine WEx.ret3 rfl rfl rfl rfl ?_
        exact ⟨rfl, St.keep (As := []) S17⟩
      ·
        refine WOps.on rfl (kbl (b := !(decide (a3 = 0))) rfl (show (!(decide (a3 = 0))) = true from by rw [(decide_eq_false h20)]; rfl)) ?_
        refine WOps.p (G.move rfl) rfl ?_
        refine WOps.on rfl (kbl (b := !(decide (a3 = 0))) rfl (show (!(decide (a3 = 0))) = true from by rw [(decide_eq_false h20)]; rfl)) ?_
        refine WOps.p (G.nilp rfl) rfl ?_
        refine WOps.on rfl (kbl (b := !(decide (a3 = 0))) rfl (show (!(decide (a3 = 0))) = true from by rw [(decide_eq_false h20)]; rfl)) ?_
        refine WOps.p (G.field T.fld108_0 rfl (show 0 + 0 = 0 from rfl)) rfl ?_
        refine WOps.on rfl (kbl (b := !(decide (a3 = 0))) rfl (show (!(decide (a3 = 0))) = true from by rw [(decide_eq_false h20)]; rfl)) ?_
        refine WOps.r (G.load1 T.one106 rfl (cell_blk ((S17.fr p0 (lt_of_blk hB2) (hF0 p0 hf3).1).trans hB2) rfl)) rfl ?_
        refine WOps.on rfl (kbl (b := !(decide (a3 = 0))) rfl (show (!(decide (a3 = 0))) = true from by rw [(decide_eq_false h20)]; rfl)) ?_
        refine WOps.p (G.move rfl) rfl ?_
        refine WOps.on rfl (kbl (b := !(decide (a3 = 0))) rfl (show (!(decide (a3 = 0))) = true from by rw [(decide_eq_false h20)]; rfl)) ?_
        obtain ⟨x21, hc22, hF⟩ := bind_some hF
        obtain ⟨j23, ej24, hj25, hl26⟩ := idx_spec hc22
        obtain ⟨b27, o28, cs29, eA30, hf31, hc32, hr33⟩ := SlR.at_ hR7 hj25
        obtain ⟨A34, c35, hq37, hR36⟩ := hr33
        subst hq37
        have hc32 := hc32.move ((S17.keepF hF0) _ hf31)
        change cellsAt _ _ (o28 + j23 * 4) [.int .i64 x21.Prog, .int .i64 x21.Vers, .slice A34 x21.Procs.length c35, fnv 35 x21.Handle] at hc32
        refine WOps.p (G.idx T.el106 rfl eA30 rfl ej24 hl26) rfl ?_
        refine WOps.on rfl (kbl (b := !(decide (a3 = 0))) rfl (show (!(decide (a3 = 0))) = true from by rw [(decide_eq_false h20)]; rfl)) ?_
        refine WOps.p (G.field T.fld85_2 rfl (show o28 + j23 * 4 + 2 = o28 + j23 * 4 + 2 from rfl)) rfl ?_
        refine WOps.on rfl (kbl (b := !(decide (a3 = 0))) rfl (show (!(decide (a3 = 0))) = true from by rw [(decide_eq_false h20)]; rfl)) ?_
        refine WOps.r (G.load1 T.one49 rfl (cellsAt.at hc32 2 rfl)) rfl ?_
        refine WOps.on rfl (kbl (b := !(decide (a3 = 0))) rfl (show (!(decide (a3 = 0))) = true from by rw [(decide_eq_false h20)]; rfl)) ?_
        refine WOps.p (G.move rfl) rfl ?_
        refine WOps.on rfl (kbl (b := !(decide (a3 = 0))) rfl (show (!(decide (a3 = 0))) = true from by rw [(decide_eq_false h20)]; rfl)) ?_
        obtain ⟨t38, hc39, hF⟩ := bind_some hF
        refine WOps.call T.call50 (evs_cons rfl (evs_cons rfl evs_nil)) rfl ?_
        refine (sv_Contains_calls k x21.Procs a3 (hR36.ext (S17.keepF hF0)) (St.outF (Bs := []) S17 hF0) hc39).mono ?_
        rintro _ w40 ⟨rfl, T41⟩
        have S42 := St.callN (As := []) S17 T41
        change St _ _ _ [] at S42
        refine ⟨_, rfl, ?_⟩
        refine WOps.on rfl (kbl (b := !(decide (a3 = 0))) rfl (show (!(decide (a3 = 0))) = true from by rw [(decide_eq_false h20)]; rfl)) ?_
        refine WOps.p (G.not rfl rfl) rfl ?_
        refine WOps.p (G.pick_t (kb (b := !(decide (a3 = 0))) rfl (show (!(decide (a3 = 0))) = true from by rw [(decide_eq_false h20)]; rfl)) rfl) rfl ?_
        refine WOps.p (G.assign rfl) rfl ?_
        refine WOps.nil ?_
        refine WEx.then_ ?_
        refine WCode.forget (l' := [(34, .bool (!t38))]) ⟨rfl, trivial⟩ ?_
        rcases ite_some hF with ⟨h43, hF⟩ | ⟨h43, hF⟩
        ·
          refine WCode.cond_f (kb (b := !t38) rfl (show (!t38) = false from by rw [h43]; rfl)) ?_
          refine WCode.skip ?_
          refine WEx.in_normal ?_
          refine WEx.then_ ?_
          refine WCode.seq ?_
          refine WCode.region ?_
          refine WOps.p (G.assign rfl) rfl ?_
          refine WOps.p (G.assign rfl) rfl ?_
          refine WOps.p (G.assign rfl) rfl ?_
          refine WOps.nil ?_
          refine WEx.then_ ?_
          refine WCode.ret ?_
          obtain rfl := some_eq hF
          refine WEx.ret3 rfl rfl rfl rfl ?_
          exact ⟨rfl, St.keep (As := []) S42⟩
        ·
          refine WCode.cond_t (kb (b := !t38) rfl (show (!t38) = true from by rw [(Bool.eq_false_iff.2 h43)]; rfl)) ?_
          refine WCode.seq ?_
          refine WCode.region ?_
          refine WOps.p (G.assign rfl) rfl ?_
          refine WOps.p (G.assign rfl) rfl ?_
          refine WOps.p (G.assign rfl) rfl ?_
          refine WOps.nil ?_
          refine WEx.then_ ?_
          refine WCode.ret ?_
          refine WEx.in_ret ?_
          refine WEx.then_ret ?_
          obtain rfl := some_eq hF
          refine WEx.ret3 rfl rfl rfl rfl ?_
          exact ⟨rfl, St.keep (As := []) S42⟩
  ·
    refine WCode.cond_t (kb (b := !t8.2.2) rfl (show (!t8.2.2) = true from by rw [(Bool.eq_false_iff.2 h18)]; rfl)) ?_
    refine WCode.seq ?_
    refine WCode.region ?_
    refine WOps.p (G.assign rfl) rfl ?_
    refine WOps.p (G.assign rfl) rfl ?_
    refine WOps.p (G.assign rfl) rfl ?_
    refine WOps.nil ?_
    refine WEx.then_ ?_
    refine WCode.forget (l' := [(8, .int .i64 1), (9, .int .i64 0), (10, .int .i64 0)]) ⟨rfl, rfl, rfl, trivial⟩ ?_
    refine WCode.ret ?_
    refine WEx.in_ret ?_
    refine WEx.then_ret ?_
    obtain rfl := some_eq hF
    refine WEx.ret3 rfl rfl rfl rfl ?_
    exact ⟨rfl, St.keep (As := []) S17⟩

def sv_Offer (k : Nat) (a0 : Registry) (a1 : Service) : Option (Int × Registry) := (Option.bind (sv_may k a1) fun t17 => (if t17 = true then (Option.bind (sv_place k a0 a1.Prog a1.Vers) fun t23 => (if 0 ≤ t23 then (some (181, a0)) else (if 16 ≤ (a0.l.length : Int) then (some (182, a0)) else (Option.bind (sv_Clone k a1.Procs) fun t41 => (Option.bind (catN 2932031007402 a0.l ([(⟨a1.Prog, a1.Vers, (t41), a1.Handle⟩ : Service)] : List Service)) fun l61 => (some (0, (⟨l61⟩ : Registry)))))))) else (some (180, a0))))
set_option maxRecDepth 100000 in
set_option maxHeartbeats 1000000 in
theorem sv_Offer_calls (k : Nat) (a0 : Registry) {p0 : Nat} {G0 : Grp} (a1 : Service) {A1_1 : Option Addr} {c1_1 : Nat} {F1_1 : Nat → Prop} {w : World} (hO0 : ObjO 108 Registry.rp p0 a0 G0) (hR1_1 : SlR (Rp.int .i64) w F1_1 A1_1 c1_1 a1.Procs) (hF1_1 : ∀ b, F1_1 b → NK w [G0] b) {r_ : Int × Registry} (h_ : sv_Offer k a0 a1 = some r_) (hp_ : Hp w ([G0]).flatten) :
    Calls Try.prog 34 [.pointer (some ⟨p0, 0, none⟩), .agg #[.int .i64 a1.Prog, .int .i64 a1.Vers, .slice A1_1 a1.Procs.length c1_1, fnv 35 a1.Handle]].toArray w fun e w' => ∃ Go0' : Grp, e = .returned (.int .i64 r_.1) ∧ ObjO 108 Registry.rp p0 (r_.2) Go0' ∧ St w (KS [G0]) w' [Go0'] := by
  have hF := h_
  clear h_
  unfold sv_Offer at hF
  have S := St.initK [G0] hp_
  obtain ⟨cs1, G2, ho3, hg4⟩ := hO0
  obtain ⟨A5, c6, G7, rfl, hO8, hq9⟩ := ho3
  have S10 : St _ _ _ [[(p0, .cells #[.slice A5 a0.l.length c6] 108 (0, 0))], G7] := S.objs (by rw [hg4, hq9]; simp)
  refine enter 38 [(0, .pointer (some ⟨p0, 0, none⟩)), (1, .agg #[.int .i64 a1.Prog, .int .i64 a1.Vers, .slice A1_1 a1.Procs.length c1_1, fnv 35 a1.Handle])] Try.func34 rfl rfl rfl rfl ?_
  refine WCode.seq ?_
  refine WCode.region ?_
  obtain ⟨b11, w12, E13, S14, X15, L16⟩ := St.box S10 Try.prog 85 (.agg #[.int .i64 a1.Prog, .int .i64 a1.Vers, .slice A1_1 a1.Procs.length c1_1, fnv 35 a1.Handle])
  change St _ _ _ [[(b11, .cells #[.int .i64 a1.Prog, .int .i64 a1.Vers, .slice A1_1 a1.Procs.length c1_1, fnv 35 a1.Handle] 85 (0, 0))], [(p0, .cells #[.slice A5 a0.l.length c6] 108 (0, 0))], G7] at S14
  refine WOps.e (E13 rfl) rfl ?_
  refine WOps.p (G.assign rfl) rfl ?_
  refine WOps.nil ?_
  refine WEx.then_ ?_
  refine WCode.seq ?_
  refine WCode.block ?_
  refine WCode.seq ?_
  refine WCode.region ?_
  refine WOps.r (G.loada T.agg85_4 rfl (cs := [.int .i64 a1.Prog, .int .i64 a1.Vers, .slice A1_1 a1.Procs.length c1_1, fnv 35 a1.Handle]) (cellsAt.of_blk (S14.blk 0 rfl) rfl)) rfl ?_
  obtain ⟨t17, hc18, hF⟩ := bind_some hF
  refine WOps.call T.call55 (evs_cons rfl evs_nil) rfl ?_
  refine (sv_may_calls k a1 (hR1_1.ext (S14.keepF hF1_1)) (St.outF (Bs := []) S14 hF1_1) hc18).mono ?_
  rintro _ w19 ⟨rfl, T20⟩
  have S21 := St.callN (As := []) S14 T20
  change St _ _ _ [[(b11, .cells #[.int .i64 a1.Prog, .int .i64 a1.Vers, .slice A1_1 a1.Procs.length c1_1, fnv 35 a1.Handle] 85 (0, 0))], [(p0, .cells #[.slice A5 a0.l.length c6] 108 (0, 0))], G7] at S21
  refine ⟨_, rfl, ?_⟩
  refine WOps.p (G.not rfl rfl) rfl ?_
  refine WOps.p (G.assign rfl) rfl ?_
  refine WOps.nil ?_
  refine WEx.then_ ?_
  rcases ite_some hF with ⟨h22, hF⟩ | ⟨h22, hF⟩
  ·
    refine WCode.cond_f (kb (b := !t17) rfl (show (!t17) = false from by rw [h22]; rfl)) ?_
    refine WCode.seq ?_
    refine WCode.region ?_
    refine WOps.p (G.move rfl) rfl ?_
    refine WOps.p (G.field T.fld85_0 rfl (show 0 + 0 = 0 from rfl)) rfl ?_
    refine WOps.r (G.load1 T.one3 rfl (cell_blk (S21.blk 0 rfl) rfl)) rfl ?_
    refine WOps.p (G.field T.fld85_1 rfl (show 0 + 1 = 1 from rfl)) rfl ?_
    refine WOps.r (G.load1 T.one3 rfl (cell_blk (S21.blk 0 rfl) rfl)) rfl ?_
    obtain ⟨t23, hc24, hF⟩ := bind_some hF
    have S25 := S21.front 2 rfl
    change St _ _ _ [G7, [(b11, .cells #[.int .i64 a1.Prog, .int .i64 a1.Vers, .slice A1_1 a1.Procs.length c1_1, fnv 35 a1.Handle] 85 (0, 0))], [(p0, .cells #[.slice A5 a0.l.length c6] 108 (0, 0))]] at S25
    have S26 := S25.front 2 rfl
    change St _ _ _ [[(p0, .cells #[.slice A5 a0.l.length c6] 108 (0, 0))], G7, [(b11, .cells #[.int .i64 a1.Prog, .int .i64 a1.Vers, .slice A1_1 a1.Procs.length c1_1, fnv 35 a1.Handle] 85 (0, 0))]] at S26
    have hP27 : PtR 108 Registry.rp w19 (KS [[(p0, .cells #[.slice A5 a0.l.length c6] 108 (0, 0))], G7]) p0 a0 := ⟨_, S26.blk 0 rfl, KS_at 0 rfl (by simp [keys]), ⟨A5, c6, rfl, ((hO8.rd (fun b o hb => S26.grp 1 rfl hb)).mono (fun b hb => KS_at 1 rfl hb))⟩⟩
    refine WOps.call T.call49 (evs_cons rfl (evs_cons rfl (evs_cons rfl evs_nil))) rfl ?_
    refine (sv_place_calls k a0 a1.Prog a1.Vers hP27 (St.outN (Bs := []) (As := [[(p0, .cells #[.slice A5 a0.l.length c6] 108 (0, 0))], G7]) S26) hc24).mono ?_
    rintro _ w28 ⟨rfl, T29⟩
    have S30 := St.callN (As := []) S26 T29
    change St _ _ _ [[(p0, .cells #[.slice A5 a0.l.length c6] 108 (0, 0))], G7, [(b11, .cells #[.int .i64 a1.Prog, .int .i64 a1.Vers, .slice A1_1 a1.Procs.length c1_1, fnv 35 a1.Handle] 85 (0, 0))]] at S30
    refine ⟨_, rfl, ?_⟩
    refine WOps.p (G.geq rfl rfl rfl) rfl ?_
    refine WOps.p (G.assign rfl) rfl ?_
    refine WOps.nil ?_
    refine WEx.then_ ?_
    refine WCode.forget (l' := [(0, .pointer (some ⟨p0, 0, none⟩)), (3, .pointer (some ⟨b11, 0, none⟩)), (9, .bool (decide (0 ≤ t23)))]) ⟨rfl, rfl, rfl, trivial⟩ ?_
    rcases ite_some hF with ⟨h31, hF⟩ | ⟨h31, hF⟩
    ·
      refine WCode.cond_t (kb (b := decide (0 ≤ t23)) rfl (decide_eq_true h31)) ?_
      refine WCode.seq ?_
      refine WCode.region ?_
      refine WOps.p (G.assign rfl) rfl ?_
      refine WOps.nil ?_
      refine WEx.then_ ?_
      refine WCode.ret ?_
      refine WEx.in_ret ?_
      refine WEx.then_ret ?_
      obtain rfl := some_eq hF
      refine WEx.ret1 rfl rfl ?_
      have S32 := S30.front 1 rfl
      change St _ _ _ [G7, [(p0, .cells #[.slice A5 a0.l.length c6] 108 (0, 0))], [(b11, .cells #[.int .i64 a1.Prog, .int .i64 a1.Vers, .slice A1_1 a1.Procs.length c1_1, fnv 35 a1.Handle] 85 (0, 0))]] at S32
      have S33 := S32.front 1 rfl
      change St _ _ _ [[(p0, .cells #[.slice A5 a0.l.length c6] 108 (0, 0))], G7, [(b11, .cells #[.int .i64 a1.Prog, .int .i64 a1.Vers, .slice A1_1 a1.Procs.length c1_1, fnv 35 a1.Handle] 85 (0, 0))]] at S33
      have hO34 : ObjO 108 Registry.rp p0 a0 ([(p0, .cells #[.slice A5 a0.l.length c6] 108 (0, 0))] ++ (G7)) := ⟨_, _, ⟨A5, c6, G7, rfl, hO8, rfl⟩, rfl⟩
      have S35 : St _ _ _ [[(p0, .cells #[.slice A5 a0.l.length c6] 108 (0, 0))] ++ (G7), [(b11, .cells #[.int .i64 a1.Prog, .int .i64 a1.Vers, .slice A1_1 a1.Procs.length c1_1, fnv 35 a1.Handle] 85 (0, 0))]] := S33.objs (by simp)
      exact ⟨[(p0, .cells #[.slice A5 a0.l.length c6] 108 (0, 0))] ++ (G7), rfl, hO34, St.keep (As := [[(p0, .cells #[.slice A5 a0.l.length c6] 108 (0, 0))] ++ (G7)]) S35⟩
    ·
      refine WCode.cond_f (kb (b := decide (0 ≤ t23)) rfl (decide_eq_false h31)) ?_
      refine WCode.seq ?_
      refine WCode.region ?_
      refine WOps.p (G.move rfl) rfl ?_
      refine WOps.p (G.nilp rfl) rfl ?_
      refine WOps.p (G.field T.fld108_0 rfl (show 0 + 0 = 0 from rfl)) rfl ?_
      refine WOps.r (G.load1 T.one106 rfl (cell_blk (S30.blk 0 rfl) rfl)) rfl ?_
      refine WOps.p (G.len T.el106 rfl) rfl ?_
      refine WOps.p (G.geq rfl rfl rfl) rfl ?_
      refine WOps.p (G.assign rfl) rfl ?_
      refine WOps.nil ?_
      refine WEx.then_ ?_
      rcases ite_some hF with ⟨h36, hF⟩ | ⟨h36, hF⟩
      ·
        refine WCode.cond_t (kb (b := decide (16 ≤ (a0.l.length : Int))) rfl (decide_eq_true h36)) ?_
        refine WCode.seq ?_
        refine WCode.region ?_
        refine WOps.p (G.assign rfl) rfl ?_
        refine WOps.nil ?_
        refine WEx.then_ ?_
        refine WCode.forget (l' := [(4, .int .i64 182)]) ⟨rfl, trivial⟩ ?_
        refine WCode.ret ?_
        refine WEx.in_ret ?_
        refine WEx.then_ret ?_
        obtain rfl := some_eq hF
        refine WEx.ret1 rfl rfl ?_
        have S37 := S30.front 1 rfl
        change St _ _ _ [G7, [(p0, .cells #[.slice A5 a0.l.length c6] 108 (0, 0))], [(b11, .cells #[.int .i64 a1.Prog, .int .i64 a1.Vers, .slice A1_1 a1.Procs.length c1_1, fnv 35 a1.Handle] 85 (0, 0))]] at S37
        have S38 := S37.front 1 rfl
        change St _ _ _ [[(p0, .cells #[.slice A5 a0.l.length c6] 108 (0, 0))], G7, [(b11, .cells #[.int .i64 a1.Prog, .int .i64 a1.Vers, .slice A1_1 a1.Procs.length c1_1, fnv 35 a1.Handle] 85 (0, 0))]] at S38
        have hO39 : ObjO 108 Registry.rp p0 a0 ([(p0, .cells #[.slice A5 a0.l.length c6] 108 (0, 0))] ++ (G7)) := ⟨_, _, ⟨A5, c6, G7, rfl, hO8, rfl⟩, rfl⟩
        have S40 : St _ _ _ [[(p0, .cells #[.slice A5 a0.l.length c6] 108 (0, 0))] ++ (G7), [(b11, .cells #[.int .i64 a1.Prog, .int .i64 a1.Vers, .slice A1_1 a1.Procs.length c1_1, fnv 35 a1.Handle] 85 (0, 0))]] := S38.objs (by simp)
        exact ⟨[(p0, .cells #[.slice A5 a0.l.length c6] 108 (0, 0))] ++ (G7), rfl, hO39, St.keep (As := [[(p0, .cells #[.slice A5 a0.l.length c6] 108 (0, 0))] ++ (G7)]) S40⟩
      ·
        refine WCode.cond_f (kb (b := decide (16 ≤ (a0.l.length : Int))) rfl (decide_eq_false h36)) ?_
        refine WCode.skip ?_
        refine WEx.in_normal ?_
        refine WEx.then_ ?_
        refine WCode.seq ?_
        refine WCode.region ?_
        refine WOps.p (G.field T.fld85_2 rfl (show 0 + 2 = 2 from rfl)) rfl ?_
        refine WOps.r (G.load1 T.one49 rfl (cell_blk (S30.blk 2 rfl) rfl)) rfl ?_
        obtain ⟨t41, hc42, hF⟩ := bind_some hF
        refine WOps.call T.call56 (evs_cons rfl evs_nil) rfl ?_
        refine (sv_Clone_calls k a1.Procs (hR1_1.ext (S30.keepF hF1_1)) (St.outF (Bs := []) S30 hF1_1) hc42).mono ?_
        rintro _ w43 ⟨A46, c47, G48, rfl, hO49, T44⟩
        have S45 := St.callN (As := []) S30 T44
        change St _ _ _ [G48, [(p0, .cells #[.slice A5 a0.l.length c6] 108 (0, 0))], G7, [(b11, .cells #[.int .i64 a1.Prog, .int .i64 a1.Vers, .slice A1_1 a1.Procs.length c1_1, fnv 35 a1.Handle] 85 (0, 0))]] at S45
        refine ⟨_, rfl, ?_⟩
        refine WOps.p (G.field T.fld85_2 rfl (show 0 + 2 = 2 from rfl)) rfl ?_
        obtain ⟨w50, E51, S52⟩ := St.store (P := Try.prog) S45 3 49 (.slice A46 (t41).length c47) (off := 2) (cur' := #[.int .i64 a1.Prog, .int .i64 a1.Vers, .slice A46 (t41).length c47, fnv 35 a1.Handle]) rfl T.size49_1 rfl rfl rfl
        change St _ _ _ [G48, [(p0, .cells #[.slice A5 a0.l.length c6] 108 (0, 0))], G7, [(b11, .cells #[.int .i64 a1.Prog, .int .i64 a1.Vers, .slice A46 (t41).length c47, fnv 35 a1.Handle] 85 (0, 0))]] at S52
        refine WOps.u (E51 rfl rfl) ?_
        refine WOps.nil ?_
        refine WEx.then_ ?_
        refine WCode.forget (l' := [(0, .pointer (some ⟨p0, 0, none⟩)), (3, .pointer (some ⟨b11, 0, none⟩))]) ⟨rfl, rfl, trivial⟩ ?_
        refine WCode.seq ?_
        refine WCode.draw [⟨0, 0, []⟩, ⟨1, 0, []⟩, ⟨2, 0, []⟩, ⟨3, 0, []⟩, ⟨4, 1, [7, 8, 9, 10]⟩, ⟨5, 1, [6, 7, 8, 9, 10]⟩, ⟨6, 2, []⟩, ⟨7, 2, []⟩, ⟨8, 0, []⟩, ⟨9, 0, []⟩, ⟨10, 2, []⟩] T.mixed (by kernel_rfl) (by intro _ _ d _ _ h; cases d <;> exact h) rfl (by kernel_rfl) ?_
        have S53 := S52.drew
        generalize w50.drew = w54 at *
        refine WD.p rfl (G.move rfl) rfl ?_
        refine WD.p rfl (G.move rfl) rfl ?_
        refine WD.p rfl (G.nilp rfl) rfl ?_
        refine WD.p rfl (G.field T.fld108_0 rfl (show 0 + 0 = 0 from rfl)) rfl ?_
        refine WD.r rfl (G.load1 T.one106 rfl (cell_blk (S53.blk 1 rfl) rfl)) rfl ?_
        refine WD.r rfl (G.loada T.agg85_4 rfl (cs := [.int .i64 a1.Prog, .int .i64 a1.Vers, .slice A46 (t41).length c47, fnv 35 a1.Handle]) (cellsAt.of_blk (S53.blk 3 rfl) rfl)) rfl ?_
        obtain ⟨b55, w56, E57, S58, X59, L60⟩ := St.lit S53 (P := Try.prog) (t := 106) (e := 85) (n := 1) (vs := [(0, .agg #[.int .i64 a1.Prog, .int .i64 a1.Vers, .slice A46 (t41).length c47, fnv 35 a1.Handle])]) (cs := #[.int .i64 a1.Prog, .int .i64 a1.Vers, .slice A46 (t41).length c47, fnv 35 a1.Handle]) (by kernel_rfl)
        change St _ _ _ [[(b55, .cells #[.int .i64 a1.Prog, .int .i64 a1.Vers, .slice A46 (t41).length c47, fnv 35 a1.Handle] 85 (0, 0))], G48, [(p0, .cells #[.slice A5 a0.l.length c6] 108 (0, 0))], G7, [(b11, .cells #[.int .i64 a1.Prog, .int .i64 a1.Vers, .slice A46 (t41).length c47, fnv 35 a1.Handle] 85 (0, 0))]] at S58
        refine WD.e rfl (E57 (evp_cons rfl evp_nil)) rfl ?_
        obtain ⟨l61, hc62, hF⟩ := bind_some hF
        have S63 := S58.front 1 rfl
        change St _ _ _ [G48, [(b55, .cells #[.int .i64 a1.Prog, .int .i64 a1.Vers, .slice A46 (t41).length c47, fnv 35 a1.Handle] 85 (0, 0))], [(p0, .cells #[.slice A5 a0.l.length c6] 108 (0, 0))], G7, [(b11, .cells #[.int .i64 a1.Prog, .int .i64 a1.Vers, .slice A46 (t41).length c47, fnv 35 a1.Handle] 85 (0, 0))]] at S63
        have S64 := S63.front 3 rfl
        change St _ _ _ [G7, G48, [(b55, .cells #[.int .i64 a1.Prog, .int .i64 a1.Vers, .slice A46 (t41).length c47, fnv 35 a1.Handle] 85 (0, 0))], [(p0, .cells #[.slice A5 a0.l.length c6] 108 (0, 0))], [(b11, .cells #[.int .i64 a1.Prog, .int .i64 a1.Vers, .slice A46 (t41).length c47, fnv 35 a1.Handle] 85 (0, 0))]] at S64
        have S65 : St _ _ _ [G7, (G48 ++ ([])), [(b55, .cells #[.int .i64 a1.Prog, .int .i64 a1.Vers, .slice A46 (t41).length c47, fnv 35 a1.Handle] 85 (0, 0))], [(p0, .cells #[.slice A5 a0.l.length c6] 108 (0, 0))], [(b11, .cells #[.int .i64 a1.Prog, .int .i64 a1.Vers, .slice A46 (t41).length c47, fnv 35 a1.Handle] 85 (0, 0))]] := S64.objs (by simp)
        obtain ⟨A66, c67, G68, w69, E70, hO71, S72, hk73⟩ := St.app (P := Try.prog) (r := Service.rp) (M := ([(⟨a1.Prog, a1.Vers, (t41), a1.Handle⟩ : Service)] : List Service)) S65 T.elt106 rfl hO8 (Rd.of_blk (S65.blk 2 rfl) (n := 1) (sz := 4) rfl) ⟨[.int .i64 a1.Prog, .int .i64 a1.Vers, .slice A46 (t41).length c47, fnv 35 a1.Handle], _, G48, _, rfl, rfl, ⟨A46, c47, G48, rfl, hO49, rfl⟩, ⟨rfl, rfl⟩⟩ rfl hc62
        change St _ _ _ [G68, [(b55, .cells #[.int .i64 a1.Prog, .int .i64 a1.Vers, .slice A46 (t41).length c47, fnv 35 a1.Handle] 85 (0, 0))], [(p0, .cells #[.slice A5 a0.l.length c6] 108 (0, 0))], [(b11, .cells #[.int .i64 a1.Prog, .int .i64 a1.Vers, .slice A46 (t41).length c47, fnv 35 a1.Handle] 85 (0, 0))]] at S72
        refine WD.e rfl (E70 rfl rfl) rfl ?_
        refine WD.p rfl (G.nilp rfl) rfl ?_
        refine WD.p rfl (G.field T.fld108_0 rfl (show 0 + 0 = 0 from rfl)) rfl ?_
        obtain ⟨w74, E75, S76⟩ := St.store (P := Try.prog) S72 2 106 (.slice A66 l61.length c67) (off := 0) (cur' := #[.slice A66 l61.length c67]) rfl T.size106_1 rfl rfl rfl
        change St _ _ _ [G68, [(b55, .cells #[.int .i64 a1.Prog, .int .i64 a1.Vers, .slice A46 (t41).length c47, fnv 35 a1.Handle] 85 (0, 0))], [(p0, .cells #[.slice A66 l61.length c67] 108 (0, 0))], [(b11, .cells #[.int .i64 a1.Prog, .int .i64 a1.Vers, .slice A46 (t41).length c47, fnv 35 a1.Handle] 85 (0, 0))]] at S76
        refine WD.u rfl (E75 rfl rfl) ?_
        refine WD.nil ?_
        refine WEx.then_ ?_
        refine WCode.forget (l' := []) trivial ?_
        refine WCode.seq ?_
        refine WCode.region ?_
        refine WOps.p (G.assign rfl) rfl ?_
        refine WOps.nil ?_
        refine WEx.then_ ?_
        refine WCode.ret ?_
        obtain rfl := some_eq hF
        refine WEx.ret1 rfl rfl ?_
        have S77 := S76.front 2 rfl
        change St _ _ _ [[(p0, .cells #[.slice A66 l61.length c67] 108 (0, 0))], G68, [(b55, .cells #[.int .i64 a1.Prog, .int .i64 a1.Vers, .slice A46 (t41).length c47, fnv 35 a1.Handle] 85 (0, 0))], [(b11, .cells #[.int .i64 a1.Prog, .int .i64 a1.Vers, .slice A46 (t41).length c47, fnv 35 a1.Handle] 85 (0, 0))]] at S77
        have hO78 : ObjO 108 Registry.rp p0 (⟨l61⟩ : Registry) ([(p0, .cells #[.slice A66 l61.length c67] 108 (0, 0))] ++ (G68)) := ⟨_, _, ⟨A66, c67, G68, rfl, hO71, rfl⟩, rfl⟩
        have S79 : St _ _ _ [[(p0, .cells #[.slice A66 l61.length c67] 108 (0, 0))] ++ (G68), [(b55, .cells #[.int .i64 a1.Prog, .int .i64 a1.Vers, .slice A46 (t41).length c47, fnv 35 a1.Handle] 85 (0, 0))], [(b11, .cells #[.int .i64 a1.Prog, .int .i64 a1.Vers, .slice A46 (t41).length c47, fnv 35 a1.Handle] 85 (0, 0))]] := S77.objs (by simp)
        exact ⟨[(p0, .cells #[.slice A66 l61.length c67] 108 (0, 0))] ++ (G68), rfl, hO78, St.keep (As := [[(p0, .cells #[.slice A66 l61.length c67] 108 (0, 0))] ++ (G68)]) S79⟩
  ·
    refine WCode.cond_t (kb (b := !t17) rfl (show (!t17) = true from by rw [(Bool.eq_false_iff.2 h22)]; rfl)) ?_
    refine WCode.seq ?_
    refine WCode.region ?_
    refine WOps.p (G.assign rfl) rfl ?_
    refine WOps.nil ?_
    refine WEx.then_ ?_
    refine WCode.ret ?_
    refine WEx.in_ret ?_
    refine WEx.then_ret ?_
    obtain rfl := some_eq hF
    refine WEx.ret1 rfl rfl ?_
    have S80 := S21.front 2 rfl
    change St _ _ _ [G7, [(b11, .cells #[.int .i64 a1.Prog, .int .i64 a1.Vers, .slice A1_1 a1.Procs.length c1_1, fnv 35 a1.Handle] 85 (0, 0))], [(p0, .cells #[.slice A5 a0.l.length c6] 108 (0, 0))]] at S80
    have S81 := S80.front 2 rfl
    change St _ _ _ [[(p0, .cells #[.slice A5 a0.l.length c6] 108 (0, 0))], G7, [(b11, .cells #[.int .i64 a1.Prog, .int .i64 a1.Vers, .slice A1_1 a1.Procs.length c1_1, fnv 35 a1.Handle] 85 (0, 0))]] at S81
    have hO82 : ObjO 108 Registry.rp p0 a0 ([(p0, .cells #[.slice A5 a0.l.length c6] 108 (0, 0))] ++ (G7)) := ⟨_, _, ⟨A5, c6, G7, rfl, hO8, rfl⟩, rfl⟩
    have S83 : St _ _ _ [[(p0, .cells #[.slice A5 a0.l.length c6] 108 (0, 0))] ++ (G7), [(b11, .cells #[.int .i64 a1.Prog, .int .i64 a1.Vers, .slice A1_1 a1.Procs.length c1_1, fnv 35 a1.Handle] 85 (0, 0))]] := S81.objs (by simp)
    exact ⟨[(p0, .cells #[.slice A5 a0.l.length c6] 108 (0, 0))] ++ (G7), rfl, hO82, St.keep (As := [[(p0, .cells #[.slice A5 a0.l.length c6] 108 (0, 0))] ++ (G7)]) S83⟩

end Go.Proofs.Ytpdpfiaediadgaa
