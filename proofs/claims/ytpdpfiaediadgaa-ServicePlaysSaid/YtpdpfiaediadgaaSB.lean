/- Functions and their walks (printed by auto.py over the engine). -/
import Derived.Test.YtpdpfiaediadgaaProg
import Derived.Test.YtpdpfiaediadgaaSA
namespace Go.Proofs.Ytpdpfiaediadgaa
open Go Go.Eng
set_option linter.unusedSimpArgs false
set_option linter.unusedVariables false

theorem T.agg111_3 : isAggT Try.prog 111 3 = true := by kernel_rfl
theorem T.agg74_9 : isAggT Try.prog 74 9 = true := by kernel_rfl
theorem T.call33 : Callable Try.prog 33 := Callable.mk Try.func33 (by kernel_rfl) (by kernel_rfl)
theorem T.call51 : Callable Try.prog 51 := Callable.mk Try.func51 (by kernel_rfl) (by kernel_rfl)
theorem T.call62 : Callable Try.prog 62 := Callable.mk Try.func62 (by kernel_rfl) (by kernel_rfl)
theorem T.el69 : slEl Try.prog 69 = some 3 := by kernel_rfl
theorem T.elt69 : Elt Try.prog 69 111 3 40 := elt_mk (z := .agg #[.int .i64 0, .int .i64 0, .slice none 0 0]) Try.underlying69 (by kernel_rfl) rfl
theorem T.fld111_0 : fldOff Try.prog 111 0 = some 0 := by kernel_rfl
theorem T.fld111_1 : fldOff Try.prog 111 1 = some 1 := by kernel_rfl
theorem T.fld111_2 : fldOff Try.prog 111 2 = some 2 := by kernel_rfl
theorem T.fld71_0 : fldOff Try.prog 71 0 = some 0 := by kernel_rfl
theorem T.fld74_4 : fldOff Try.prog 74 4 = some 4 := by kernel_rfl
theorem T.fld74_5 : fldOff Try.prog 74 5 = some 5 := by kernel_rfl
theorem T.fld74_6 : fldOff Try.prog 74 6 = some 6 := by kernel_rfl
theorem T.fld74_7 : fldOff Try.prog 74 7 = some 7 := by kernel_rfl
theorem T.one69 : isOneT Try.prog 69 = true := by kernel_rfl
theorem T.size111_3 : sizeT Try.prog 111 = some 3 := by kernel_rfl
theorem T.size3_1 : sizeT Try.prog 3 = some 1 := by kernel_rfl
theorem T.size69_1 : sizeT Try.prog 69 = some 1 := by kernel_rfl
theorem T.size74_9 : sizeT Try.prog 74 = some 9 := by kernel_rfl
theorem T.str9 : isStr Try.prog 9 = true := by kernel_rfl
theorem T.zero74 : zeroOf Try.prog 74 = some (.agg #[.bool false, .bool false, .bool false, .int .i64 0, .int .i64 0, .int .i64 0, .int .i64 0, .slice none 0 0, .string (bs ([] : List UInt8))]) := by kernel_rfl
theorem T.zero111 : zeroOf Try.prog 111 = some (.agg #[.int .i64 0, .int .i64 0, .slice none 0 0]) := by kernel_rfl
structure Service111 where
  Prog : Int
  Vers : Int
  Procs : List Int
  deriving DecidableEq
def Service111.rp : Rp Service111 where
  sz := 3
  rd := fun w F x cs => ∃ A1 : Option Addr, ∃ c1 : Nat, cs = [.int .i64 x.Prog, .int .i64 x.Vers, .slice A1 (x.Procs).length c1] ∧ SlR (Rp.int .i64) w F A1 c1 (x.Procs)
  own := fun x cs G => ∃ A1 : Option Addr, ∃ c1 : Nat, ∃ G1 : Grp, cs = [.int .i64 x.Prog, .int .i64 x.Vers, .slice A1 (x.Procs).length c1] ∧ SlO 3 (Rp.int .i64) (.slice A1 (x.Procs).length c1) (x.Procs) G1 ∧ G = G1
  len := by rintro _ _ _ _ ⟨_, _, rfl, _⟩; rfl
  one := by rintro _ _ _ _ ⟨_, _, rfl, _⟩; exact one_of_all rfl
  lenO := by rintro _ _ _ ⟨_, _, _, rfl, _⟩; rfl
  oneO := by rintro _ _ _ ⟨_, _, _, rfl, _⟩; exact one_of_all rfl
  ext := by rintro _ _ _ _ _ ⟨A1, c1, rfl, h1⟩ hE; exact ⟨A1, c1, rfl, h1.ext hE⟩
  mono := by rintro _ _ _ _ _ ⟨A1, c1, rfl, h1⟩ hF; exact ⟨A1, c1, rfl, h1.mono hF⟩
  low := by
    rintro w x cs G ⟨A1, c1, G1, rfl, h1, hGe⟩ hG
    exact ⟨A1, c1, rfl, (h1.rd (fun b o hb => hG b o (by rw [hGe]; simp [hb]))).mono (fun b (hb : b ∈ keys G1) => show b ∈ keys G by rw [hGe]; simp [keys_append, hb])⟩
structure Registry71 where
  L : List Service111
  deriving DecidableEq
def Registry71.rp : Rp Registry71 where
  sz := 1
  rd := fun w F x cs => ∃ A1 : Option Addr, ∃ c1 : Nat, cs = [.slice A1 (x.L).length c1] ∧ SlR Service111.rp w F A1 c1 (x.L)
  own := fun x cs G => ∃ A1 : Option Addr, ∃ c1 : Nat, ∃ G1 : Grp, cs = [.slice A1 (x.L).length c1] ∧ SlO 111 Service111.rp (.slice A1 (x.L).length c1) (x.L) G1 ∧ G = G1
  len := by rintro _ _ _ _ ⟨_, _, rfl, _⟩; rfl
  one := by rintro _ _ _ _ ⟨_, _, rfl, _⟩; exact one_of_all rfl
  lenO := by rintro _ _ _ ⟨_, _, _, rfl, _⟩; rfl
  oneO := by rintro _ _ _ ⟨_, _, _, rfl, _⟩; exact one_of_all rfl
  ext := by rintro _ _ _ _ _ ⟨A1, c1, rfl, h1⟩ hE; exact ⟨A1, c1, rfl, h1.ext hE⟩
  mono := by rintro _ _ _ _ _ ⟨A1, c1, rfl, h1⟩ hF; exact ⟨A1, c1, rfl, h1.mono hF⟩
  low := by
    rintro w x cs G ⟨A1, c1, G1, rfl, h1, hGe⟩ hG
    exact ⟨A1, c1, rfl, (h1.rd (fun b o hb => hG b o (by rw [hGe]; simp [hb]))).mono (fun b (hb : b ∈ keys G1) => show b ∈ keys G by rw [hGe]; simp [keys_append, hb])⟩
structure Op where
  Other : Bool
  Near : Bool
  None : Bool
  What : Int
  Prog : Int
  Vers : Int
  Proc : Int
  Procs : List Int
  Args : List UInt8
  deriving DecidableEq
def Op.rp : Rp Op where
  sz := 9
  rd := fun w F x cs => ∃ A1 : Option Addr, ∃ c1 : Nat, cs = [.bool x.Other, .bool x.Near, .bool x.None, .int .i64 x.What, .int .i64 x.Prog, .int .i64 x.Vers, .int .i64 x.Proc, .slice A1 (x.Procs).length c1, .string (bs x.Args)] ∧ SlR (Rp.int .i64) w F A1 c1 (x.Procs)
  own := fun x cs G => ∃ A1 : Option Addr, ∃ c1 : Nat, ∃ G1 : Grp, cs = [.bool x.Other, .bool x.Near, .bool x.None, .int .i64 x.What, .int .i64 x.Prog, .int .i64 x.Vers, .int .i64 x.Proc, .slice A1 (x.Procs).length c1, .string (bs x.Args)] ∧ SlO 3 (Rp.int .i64) (.slice A1 (x.Procs).length c1) (x.Procs) G1 ∧ G = G1
  len := by rintro _ _ _ _ ⟨_, _, rfl, _⟩; rfl
  one := by rintro _ _ _ _ ⟨_, _, rfl, _⟩; exact one_of_all rfl
  lenO := by rintro _ _ _ ⟨_, _, _, rfl, _⟩; rfl
  oneO := by rintro _ _ _ ⟨_, _, _, rfl, _⟩; exact one_of_all rfl
  ext := by rintro _ _ _ _ _ ⟨A1, c1, rfl, h1⟩ hE; exact ⟨A1, c1, rfl, h1.ext hE⟩
  mono := by rintro _ _ _ _ _ ⟨A1, c1, rfl, h1⟩ hF; exact ⟨A1, c1, rfl, h1.mono hF⟩
  low := by
    rintro w x cs G ⟨A1, c1, G1, rfl, h1, hGe⟩ hG
    exact ⟨A1, c1, rfl, (h1.rd (fun b o hb => hG b o (by rw [hGe]; simp [hb]))).mono (fun b (hb : b ∈ keys G1) => show b ∈ keys G by rw [hGe]; simp [keys_append, hb])⟩

def rv_May.l1 : Nat → Service111 → Int → Int → Option Bool
  | 0, _, _, _ => none
  | k20 + 1, a0, x16, x17 => (if x17 < (a0.Procs.length : Int) then (Option.bind (idx a0.Procs x17) fun x24 => (if x24 ≤ x16 then (some false) else (Option.bind (idx a0.Procs x17) fun x39 => (if 4294967295 < x39 then (some false) else (Option.bind (idx a0.Procs x17) fun x54 => (rv_May.l1 k20 a0 x54 (w64 (x17 + 1)))))))) else (some true))
def rv_May.j1 (q10 : Nat) (a0 : Service111) (b7 : Bool) : Option Bool := (if b7 = true then (some false) else (rv_May.l1 q10 a0 0 0))
def rv_May (k : Nat) (a0 : Service111) : Option Bool := (if a0.Prog < 0 then (rv_May.j1 k a0 true) else (if 4294967295 < a0.Prog then (rv_May.j1 k a0 true) else (if a0.Vers < 0 then (rv_May.j1 k a0 true) else (rv_May.j1 k a0 (decide (4294967295 < a0.Vers))))))
set_option maxRecDepth 100000 in
set_option maxHeartbeats 1000000 in
theorem rv_May_calls (k : Nat) (a0 : Service111) {A0_1 : Option Addr} {c0_1 : Nat} {F0_1 : Nat → Prop} {w : World} (hR0_1 : SlR (Rp.int .i64) w F0_1 A0_1 c0_1 a0.Procs) (hF0_1 : ∀ b, F0_1 b → NK w [] b) {r_ : Bool} (h_ : rv_May k a0 = some r_) :
    Calls Try.prog 62 [.agg #[.int .i64 a0.Prog, .int .i64 a0.Vers, .slice A0_1 a0.Procs.length c0_1]].toArray w fun e w' => e = .returned (.bool r_) ∧ St w (KS []) w' [] := by
  have hF := h_
  clear h_
  unfold rv_May at hF
  have S := St.ofFalse (As := []) (St.init0 w)
  refine enter 50 [(0, .agg #[.int .i64 a0.Prog, .int .i64 a0.Vers, .slice A0_1 a0.Procs.length c0_1])] Try.func62 rfl rfl rfl rfl ?_
  refine WCode.seq ?_
  refine WCode.region ?_
  obtain ⟨b1, w2, E3, S4, X5, L6⟩ := St.box S Try.prog 111 (.agg #[.int .i64 a0.Prog, .int .i64 a0.Vers, .slice A0_1 a0.Procs.length c0_1])
  change St _ _ _ [[(b1, .cells #[.int .i64 a0.Prog, .int .i64 a0.Vers, .slice A0_1 a0.Procs.length c0_1] 111 (0, 0))]] at S4
  refine WOps.e (E3 rfl) rfl ?_
  refine WOps.p (G.assign rfl) rfl ?_
  refine WOps.nil ?_
  refine WEx.then_ ?_
  refine WCode.seq ?_
  refine WCode.cutseq (fun l_ w_ => ∃ q10 : Nat, ∃ b7 : Bool, l_ = [(1, .pointer (some ⟨b1, 0, none⟩)), (22, .bool b7)] ∧ rv_May.j1 q10 a0 b7 = some r_ ∧ St w (KS []) w_ [[(b1, .cells #[.int .i64 a0.Prog, .int .i64 a0.Vers, .slice A0_1 a0.Procs.length c0_1] 111 (0, 0))]]) ?_ ?_
  ·
    refine WCode.region ?_
    refine WOps.p (G.field T.fld111_0 rfl (show 0 + 0 = 0 from rfl)) rfl ?_
    refine WOps.r (G.load1 T.one3 rfl (cell_blk (S4.blk 0 rfl) rfl)) rfl ?_
    refine WOps.p (G.lss rfl rfl rfl) rfl ?_
    refine WOps.p (G.move rfl) rfl ?_
    rcases ite_some hF with ⟨h12, hF⟩ | ⟨h12, hF⟩
    ·
      refine WOps.off rfl (kbl (b := decide (a0.Prog < 0)) rfl (decide_eq_true h12)) rfl rfl ?_
      refine WOps.off rfl (kbl (b := decide (a0.Prog < 0)) rfl (decide_eq_true h12)) rfl rfl ?_
      refine WOps.off rfl (kbl (b := decide (a0.Prog < 0)) rfl (decide_eq_true h12)) rfl rfl ?_
      refine WOps.p (G.pick_t (kb (b := decide (a0.Prog < 0)) rfl (decide_eq_true h12)) rfl) rfl ?_
      refine WOps.p (G.move rfl) rfl ?_
      refine WOps.off rfl rfl rfl rfl ?_
      refine WOps.off rfl rfl rfl rfl ?_
      refine WOps.off rfl rfl rfl rfl ?_
      refine WOps.p (G.pick_t rfl rfl) rfl ?_
      refine WOps.p (G.move rfl) rfl ?_
      refine WOps.off rfl rfl rfl rfl ?_
      refine WOps.off rfl rfl rfl rfl ?_
      refine WOps.off rfl rfl rfl rfl ?_
      refine WOps.p (G.pick_t rfl rfl) rfl ?_
      refine WOps.nil ?_
      refine WEx.cutend _ ?_ ⟨k, true, rfl, hF, S4⟩
      exact ⟨rfl, rfl, trivial⟩
    ·
      refine WOps.on rfl (kbl (b := decide (a0.Prog < 0)) rfl (decide_eq_false h12)) ?_
      refine WOps.p (G.field T.fld111_0 rfl (show 0 + 0 = 0 from rfl)) rfl ?_
      refine WOps.on rfl (kbl (b := decide (a0.Prog < 0)) rfl (decide_eq_false h12)) ?_
      refine WOps.r (G.load1 T.one3 rfl (cell_blk (S4.blk 0 rfl) rfl)) rfl ?_
      refine WOps.on rfl (kbl (b := decide (a0.Prog < 0)) rfl (decide_eq_false h12)) ?_
      refine WOps.p (G.gtr rfl rfl rfl) rfl ?_
      refine WOps.p (G.pick_f (kb (b := decide (a0.Prog < 0)) rfl (decide_eq_false h12)) rfl) rfl ?_
      refine WOps.p (G.move rfl) rfl ?_
      rcases ite_some hF with ⟨h13, hF⟩ | ⟨h13, hF⟩
      ·
        refine WOps.off rfl (kbl (b := decide (4294967295 < a0.Prog)) rfl (decide_eq_true h13)) rfl rfl ?_
        refine WOps.off rfl (kbl (b := decide (4294967295 < a0.Prog)) rfl (decide_eq_true h13)) rfl rfl ?_
        refine WOps.off rfl (kbl (b := decide (4294967295 < a0.Prog)) rfl (decide_eq_true h13)) rfl rfl ?_
        refine WOps.p (G.pick_t (kb (b := decide (4294967295 < a0.Prog)) rfl (decide_eq_true h13)) rfl) rfl ?_
        refine WOps.p (G.move rfl) rfl ?_
        refine WOps.off rfl rfl rfl rfl ?_
        refine WOps.off rfl rfl rfl rfl ?_
        refine WOps.off rfl rfl rfl rfl ?_
        refine WOps.p (G.pick_t rfl rfl) rfl ?_
        refine WOps.nil ?_
        refine WEx.cutend _ ?_ ⟨k, true, rfl, hF, S4⟩
        exact ⟨rfl, rfl, trivial⟩
      ·
        refine WOps.on rfl (kbl (b := decide (4294967295 < a0.Prog)) rfl (decide_eq_false h13)) ?_
        refine WOps.p (G.field T.fld111_1 rfl (show 0 + 1 = 1 from rfl)) rfl ?_
        refine WOps.on rfl (kbl (b := decide (4294967295 < a0.Prog)) rfl (decide_eq_false h13)) ?_
        refine WOps.r (G.load1 T.one3 rfl (cell_blk (S4.blk 0 rfl) rfl)) rfl ?_
        refine WOps.on rfl (kbl (b := decide (4294967295 < a0.Prog)) rfl (decide_eq_false h13)) ?_
        refine WOps.p (G.lss rfl rfl rfl) rfl ?_
        refine WOps.p (G.pick_f (kb (b := decide (4294967295 < a0.Prog)) rfl (decide_eq_false h13)) rfl) rfl ?_
        refine WOps.p (G.move rfl) rfl ?_
        rcases ite_some hF with ⟨h14, hF⟩ | ⟨h14, hF⟩
        ·
          refine WOps.off rfl (kbl (b := decide (a0.Vers < 0)) rfl (decide_eq_true h14)) rfl rfl ?_
          refine WOps.off rfl (kbl (b := decide (a0.Vers < 0)) rfl (decide_eq_true h14)) rfl rfl ?_
          refine WOps.off rfl (kbl (b := decide (a0.Vers < 0)) rfl (decide_eq_true h14)) rfl rfl ?_
          refine WOps.p (G.pick_t (kb (b := decide (a0.Vers < 0)) rfl (decide_eq_true h14)) rfl) rfl ?_
          refine WOps.nil ?_
          refine WEx.cutend _ ?_ ⟨k, true, rfl, hF, S4⟩
          exact ⟨rfl, rfl, trivial⟩
        ·
          refine WOps.on rfl (kbl (b := decide (a0.Vers < 0)) rfl (decide_eq_false h14)) ?_
          refine WOps.p (G.field T.fld111_1 rfl (show 0 + 1 = 1 from rfl)) rfl ?_
          refine WOps.on rfl (kbl (b := decide (a0.Vers < 0)) rfl (decide_eq_false h14)) ?_
          refine WOps.r (G.load1 T.one3 rfl (cell_blk (S4.blk 0 rfl) rfl)) rfl ?_
          refine WOps.on rfl (kbl (b := decide (a0.Vers < 0)) rfl (decide_eq_false h14)) ?_
          refine WOps.p (G.gtr rfl rfl rfl) rfl ?_
          refine WOps.p (G.pick_f (kb (b := decide (a0.Vers < 0)) rfl (decide_eq_false h14)) rfl) rfl ?_
          refine WOps.nil ?_
          refine WEx.cutend _ ?_ ⟨k, decide (4294967295 < a0.Vers), rfl, hF, S4⟩
          exact ⟨rfl, rfl, trivial⟩
  ·
    rintro _ w8 ⟨q10, b7, rfl, hF, S9⟩
    unfold rv_May.j1 at hF
    rcases ite_some hF with ⟨h15, hF⟩ | ⟨h15, hF⟩
    ·
      refine WCode.cond_t (kb (b := b7) rfl h15) ?_
      refine WCode.seq ?_
      refine WCode.region ?_
      refine WOps.p (G.assign rfl) rfl ?_
      refine WOps.nil ?_
      refine WEx.then_ ?_
      refine WCode.ret ?_
      refine WEx.then_ret ?_
      obtain rfl := some_eq hF
      refine WEx.ret1 rfl rfl ?_
      exact ⟨rfl, St.keep (As := []) S9⟩
    ·
      refine WCode.cond_f (kb (b := b7) rfl (Bool.eq_false_iff.2 h15)) ?_
      refine WCode.skip ?_
      refine WEx.then_ ?_
      refine WCode.seq ?_
      refine WCode.region ?_
      refine WOps.p (G.assign rfl) rfl ?_
      refine WOps.nil ?_
      refine WEx.then_ ?_
      refine WCode.seq ?_
      refine WCode.seq ?_
      refine WCode.region ?_
      refine WOps.p (G.assign rfl) rfl ?_
      refine WOps.nil ?_
      refine WEx.then_ ?_
      refine WCode.block ?_
      refine WCode.forget (l' := [(1, .pointer (some ⟨b1, 0, none⟩)), (3, .int .i64 0), (4, .int .i64 0)]) ⟨rfl, rfl, rfl, trivial⟩ ?_
      refine WCode.loop (fun n_ l_ w_ => ∃ x16 : Int, ∃ x17 : Int, l_ = [(1, .pointer (some ⟨b1, 0, none⟩)), (3, .int .i64 x16), (4, .int .i64 x17)] ∧ rv_May.l1 n_ a0 x16 x17 = some r_ ∧ St w (KS []) w_ [[(b1, .cells #[.int .i64 a0.Prog, .int .i64 a0.Vers, .slice A0_1 a0.Procs.length c0_1] 111 (0, 0))]]) q10 ⟨0, 0, rfl, hF, S9⟩ ?_
      rintro n21 _ w18 ⟨x16, x17, rfl, hF, S19⟩
      obtain _ | k20 := n21
      · exact nomatch (show (none : Option Bool) = some r_ from hF)
      rw [rv_May.l1] at hF
      refine WCode.seq ?_
      refine WCode.seq ?_
      refine WCode.region ?_
      refine WOps.p (G.move rfl) rfl ?_
      refine WOps.p (G.field T.fld111_2 rfl (show 0 + 2 = 2 from rfl)) rfl ?_
      refine WOps.r (G.load1 T.one49 rfl (cell_blk (S19.blk 0 rfl) rfl)) rfl ?_
      refine WOps.p (G.len T.el49 rfl) rfl ?_
      refine WOps.p (G.lss rfl rfl rfl) rfl ?_
      refine WOps.nil ?_
      refine WEx.then_ ?_
      rcases ite_some hF with ⟨h23, hF⟩ | ⟨h23, hF⟩
      ·
        refine WCode.cond_t (kb (b := decide (x17 < (a0.Procs.length : Int))) rfl (decide_eq_true h23)) ?_
        refine WCode.skip ?_
        refine WEx.then_ ?_
        refine WCode.seq ?_
        refine WCode.block ?_
        refine WCode.seq ?_
        refine WCode.seq ?_
        refine WCode.region ?_
        refine WOps.p (G.field T.fld111_2 rfl (show 0 + 2 = 2 from rfl)) rfl ?_
        refine WOps.r (G.load1 T.one49 rfl (cell_blk (S19.blk 0 rfl) rfl)) rfl ?_
        refine WOps.p (G.move rfl) rfl ?_
        obtain ⟨x24, hc25, hF⟩ := bind_some hF
        obtain ⟨j26, ej27, hj28, hl29⟩ := idx_spec hc25
        obtain ⟨b30, o31, cs32, eA33, hf34, hc35, hr36⟩ := SlR.at_ (hR0_1.ext (S19.keepF hF0_1)) hj28
        have hq37 : cs32 = [.int .i64 x24] := hr36
        subst hq37
        change cellsAt _ _ (o31 + j26 * 1) [.int .i64 x24] at hc35
        refine WOps.p (G.idx T.el49 rfl eA33 rfl ej27 hl29) rfl ?_
        refine WOps.r (G.load1 T.one3 rfl (cellsAt.at0 hc35)) rfl ?_
        refine WOps.p (G.move rfl) rfl ?_
        refine WOps.p (G.leq rfl rfl rfl) rfl ?_
        refine WOps.p (G.move rfl) rfl ?_
        rcases ite_some hF with ⟨h38, hF⟩ | ⟨h38, hF⟩
        ·
          refine WOps.off rfl (kbl (b := decide (x24 ≤ x16)) rfl (decide_eq_true h38)) rfl rfl ?_
          refine WOps.off rfl (kbl (b := decide (x24 ≤ x16)) rfl (decide_eq_true h38)) rfl rfl ?_
          refine WOps.off rfl (kbl (b := decide (x24 ≤ x16)) rfl (decide_eq_true h38)) rfl rfl ?_
          refine WOps.off rfl (kbl (b := decide (x24 ≤ x16)) rfl (decide_eq_true h38)) rfl rfl ?_
          refine WOps.off rfl (kbl (b := decide (x24 ≤ x16)) rfl (decide_eq_true h38)) rfl rfl ?_
          refine WOps.off rfl (kbl (b := decide (x24 ≤ x16)) rfl (decide_eq_true h38)) rfl rfl ?_
          refine WOps.p (G.pick_t (kb (b := decide (x24 ≤ x16)) rfl (decide_eq_true h38)) rfl) rfl ?_
          refine WOps.nil ?_
          refine WEx.then_ ?_
          refine WCode.forget (l' := [(1, .pointer (some ⟨b1, 0, none⟩)), (4, .int .i64 x17), (38, undef), (39, undef), (40, undef), (41, undef), (42, undef), (43, undef), (44, .bool true)]) ⟨rfl, rfl, rfl, rfl, rfl, rfl, rfl, rfl, rfl, trivial⟩ ?_
          refine WCode.cond_t rfl ?_
          refine WCode.seq ?_
          refine WCode.region ?_
          refine WOps.p (G.assign rfl) rfl ?_
          refine WOps.nil ?_
          refine WEx.then_ ?_
          refine WCode.ret ?_
          refine WEx.then_ret ?_
          refine WEx.in_ret ?_
          refine WEx.then_ret ?_
          refine WEx.then_ret ?_
          refine WEx.in_ret ?_
          refine WEx.then_ret ?_
          obtain rfl := some_eq hF
          refine WEx.ret1 rfl rfl ?_
          exact ⟨rfl, St.keep (As := []) S19⟩
        ·
          refine WOps.on rfl (kbl (b := decide (x24 ≤ x16)) rfl (decide_eq_false h38)) ?_
          refine WOps.p (G.field T.fld111_2 rfl (show 0 + 2 = 2 from rfl)) rfl ?_
          refine WOps.on rfl (kbl (b := decide (x24 ≤ x16)) rfl (decide_eq_false h38)) ?_
          refine WOps.r (G.load1 T.one49 rfl (cell_blk (S19.blk 0 rfl) rfl)) rfl ?_
          refine WOps.on rfl (kbl (b := decide (x24 ≤ x16)) rfl (decide_eq_false h38)) ?_
          refine WOps.p (G.move rfl) rfl ?_
          refine WOps.on rfl (kbl (b := decide (x24 ≤ x16)) rfl (decide_eq_false h38)) ?_
          obtain ⟨x39, hc40, hF⟩ := bind_some hF
          obtain ⟨j41, ej42, hj43, hl44⟩ := idx_spec hc40
          obtain ⟨b45, o46, cs47, eA48, hf49, hc50, hr51⟩ := SlR.at_ (hR0_1.ext (S19.keepF hF0_1)) hj43
          have hq52 : cs47 = [.int .i64 x39] := hr51
          subst hq52
          change cellsAt _ _ (o46 + j41 * 1) [.int .i64 x39] at hc50
          refine WOps.p (G.idx T.el49 rfl eA48 rfl ej42 hl44) rfl ?_
          refine WOps.on rfl (kbl (b := decide (x24 ≤ x16)) rfl (decide_eq_false h38)) ?_
          refine WOps.r (G.load1 T.one3 rfl (cellsAt.at0 hc50)) rfl ?_
          refine WOps.on rfl (kbl (b := decide (x24 ≤ x16)) rfl (decide_eq_false h38)) ?_
          refine WOps.p (G.gtr rfl rfl rfl) rfl ?_
          refine WOps.p (G.pick_f (kb (b := decide (x24 ≤ x16)) rfl (decide_eq_false h38)) rfl) rfl ?_
          refine WOps.nil ?_
          refine WEx.then_ ?_
          refine WCode.forget (l' := [(1, .pointer (some ⟨b1, 0, none⟩)), (4, .int .i64 x17), (38, .pointer (some ⟨b1, 2, none⟩)), (39, .slice A0_1 a0.Procs.length c0_1), (40, .int .i64 x17), (41, .pointer (some ⟨b45, o46 + j41 * 1, none⟩)), (42, .int .i64 x39), (43, .bool (decide (4294967295 < x39))), (44, .bool (decide (4294967295 < x39)))]) ⟨rfl, rfl, rfl, rfl, rfl, rfl, rfl, rfl, rfl, trivial⟩ ?_
          rcases ite_some hF with ⟨h53, hF⟩ | ⟨h53, hF⟩
          ·
            refine WCode.cond_t (kb (b := decide (4294967295 < x39)) rfl (decide_eq_true h53)) ?_
            refine WCode.seq ?_
            refine WCode.region ?_
            refine WOps.p (G.assign rfl) rfl ?_
            refine WOps.nil ?_
            refine WEx.then_ ?_
            refine WCode.ret ?_
            refine WEx.then_ret ?_
            refine WEx.in_ret ?_
            refine WEx.then_ret ?_
            refine WEx.then_ret ?_
            refine WEx.in_ret ?_
            refine WEx.then_ret ?_
            obtain rfl := some_eq hF
            refine WEx.ret1 rfl rfl ?_
            exact ⟨rfl, St.keep (As := []) S19⟩
          ·
            refine WCode.cond_f (kb (b := decide (4294967295 < x39)) rfl (decide_eq_false h53)) ?_
            refine WCode.skip ?_
            refine WEx.then_ ?_
            refine WCode.region ?_
            refine WOps.p (G.field T.fld111_2 rfl (show 0 + 2 = 2 from rfl)) rfl ?_
            refine WOps.r (G.load1 T.one49 rfl (cell_blk (S19.blk 0 rfl) rfl)) rfl ?_
            refine WOps.p (G.move rfl) rfl ?_
            obtain ⟨x54, hc55, hF⟩ := bind_some hF
            obtain ⟨j56, ej57, hj58, hl59⟩ := idx_spec hc55
            obtain ⟨b60, o61, cs62, eA63, hf64, hc65, hr66⟩ := SlR.at_ (hR0_1.ext (S19.keepF hF0_1)) hj58
            have hq67 : cs62 = [.int .i64 x54] := hr66
            subst hq67
            change cellsAt _ _ (o61 + j56 * 1) [.int .i64 x54] at hc65
            refine WOps.p (G.idx T.el49 rfl eA63 rfl ej57 hl59) rfl ?_
            refine WOps.r (G.load1 T.one3 rfl (cellsAt.at0 hc65)) rfl ?_
            refine WOps.p (G.assign rfl) rfl ?_
            refine WOps.nil ?_
            refine WEx.in_normal ?_
            refine WEx.then_ ?_
            refine WCode.region ?_
            refine WOps.p (G.move rfl) rfl ?_
            refine WOps.p (G.add rfl rfl (r := (w64 (x17 + 1))) rfl) rfl ?_
            refine WOps.p (G.assign rfl) rfl ?_
            refine WOps.nil ?_
            refine WEx.again _ _ (by omega) ?_ ⟨x54, w64 (x17 + 1), rfl, hF, S19⟩
            exact ⟨rfl, rfl, rfl, trivial⟩
      ·
        refine WCode.cond_f (kb (b := decide (x17 < (a0.Procs.length : Int))) rfl (decide_eq_false h23)) ?_
        refine WCode.exit ?_
        refine WEx.then_exit ?_
        refine WEx.then_exit ?_
        refine WEx.in_exit ?_
        refine WEx.then_ ?_
        refine WCode.seq ?_
        refine WCode.region ?_
        refine WOps.p (G.assign rfl) rfl ?_
        refine WOps.nil ?_
        refine WEx.then_ ?_
        refine WCode.ret ?_
        obtain rfl := some_eq hF
        refine WEx.ret1 rfl rfl ?_
        exact ⟨rfl, St.keep (As := []) S19⟩

def rv_Offer.j2 (q41 : Nat) (a0 : Registry71) (a1 : Service111) : Option (Int × Registry71) := (if (a0.L.length : Int) = 16 then (some (182, a0)) else (Option.bind (catN 17592186044416 ([] : List Int) a1.Procs) fun l103 => (Option.bind (catN 3518437208883 a0.L ([(⟨a1.Prog, a1.Vers, l103⟩ : Service111)] : List Service111)) fun l124 => (some (0, (⟨l124⟩ : Registry71))))))
def rv_Offer.l1 : Nat → Registry71 → Service111 → Int → Option (Int × Registry71)
  | 0, _, _, _ => none
  | k46 + 1, a0, a1, x43 => (if x43 < (a0.L.length : Int) then (Option.bind (idx a0.L x43) fun x55 => (if x55.Prog = a1.Prog then (Option.bind (idx a0.L x43) fun x69 => (if x69.Vers = a1.Vers then (some (181, a0)) else (rv_Offer.l1 k46 a0 a1 (w64 (x43 + 1))))) else (rv_Offer.l1 k46 a0 a1 (w64 (x43 + 1))))) else (rv_Offer.j2 k46 a0 a1))
def rv_Offer.j1 (q25 : Nat) (a0 : Registry71) (a1 : Service111) (b22 : Bool) : Option (Int × Registry71) := (if b22 = true then (some (180, a0)) else (rv_Offer.l1 q25 a0 a1 0))
def rv_Offer (k : Nat) (a0 : Registry71) (a1 : Service111) (a2 : Bool) : Option (Int × Registry71) := (Option.bind (rv_May k a1) fun t17 => (if t17 = true then (rv_Offer.j1 k a0 a1 (!a2)) else (rv_Offer.j1 k a0 a1 true)))
set_option maxRecDepth 100000 in
set_option maxHeartbeats 1000000 in
theorem rv_Offer_calls (k : Nat) (a0 : Registry71) {p0 : Nat} {G0 : Grp} (a1 : Service111) {A1_1 : Option Addr} {c1_1 : Nat} {F1_1 : Nat → Prop} (a2 : Bool) {w : World} (hO0 : ObjO 71 Registry71.rp p0 a0 G0) (hR1_1 : SlR (Rp.int .i64) w F1_1 A1_1 c1_1 a1.Procs) (hF1_1 : ∀ b, F1_1 b → NK w [G0] b) {r_ : Int × Registry71} (h_ : rv_Offer k a0 a1 a2 = some r_) (hp_ : Hp w ([G0]).flatten) :
    Calls Try.prog 47 [.pointer (some ⟨p0, 0, none⟩), .agg #[.int .i64 a1.Prog, .int .i64 a1.Vers, .slice A1_1 a1.Procs.length c1_1], .bool a2].toArray w fun e w' => ∃ Go0' : Grp, e = .returned (.int .i64 r_.1) ∧ ObjO 71 Registry71.rp p0 (r_.2) Go0' ∧ St w (KS [G0]) w' [Go0'] := by
  have hF := h_
  clear h_
  unfold rv_Offer at hF
  have S := St.initK [G0] hp_
  obtain ⟨cs1, G2, ho3, hg4⟩ := hO0
  obtain ⟨A5, c6, G7, rfl, hO8, hq9⟩ := ho3
  have S10 : St _ _ _ [[(p0, .cells #[.slice A5 a0.L.length c6] 71 (0, 0))], G7] := S.objs (by rw [hg4, hq9]; simp)
  refine enter 75 [(0, .pointer (some ⟨p0, 0, none⟩)), (1, .agg #[.int .i64 a1.Prog, .int .i64 a1.Vers, .slice A1_1 a1.Procs.length c1_1]), (2, .bool a2)] Try.func47 rfl rfl rfl rfl ?_
  refine WCode.seq ?_
  refine WCode.region ?_
  obtain ⟨b11, w12, E13, S14, X15, L16⟩ := St.box S10 Try.prog 111 (.agg #[.int .i64 a1.Prog, .int .i64 a1.Vers, .slice A1_1 a1.Procs.length c1_1])
  change St _ _ _ [[(b11, .cells #[.int .i64 a1.Prog, .int .i64 a1.Vers, .slice A1_1 a1.Procs.length c1_1] 111 (0, 0))], [(p0, .cells #[.slice A5 a0.L.length c6] 71 (0, 0))], G7] at S14
  refine WOps.e (E13 rfl) rfl ?_
  refine WOps.p (G.assign rfl) rfl ?_
  refine WOps.nil ?_
  refine WEx.then_ ?_
  refine WCode.seq ?_
  refine WCode.region ?_
  refine WOps.r (G.loada T.agg111_3 rfl (cs := [.int .i64 a1.Prog, .int .i64 a1.Vers, .slice A1_1 a1.Procs.length c1_1]) (cellsAt.of_blk (S14.blk 0 rfl) rfl)) rfl ?_
  obtain ⟨t17, hc18, hF⟩ := bind_some hF
  refine WOps.call T.call62 (evs_cons rfl evs_nil) rfl ?_
  refine (rv_May_calls k a1 (hR1_1.ext (S14.keepF hF1_1)) (St.outF (Bs := []) S14 hF1_1) hc18).mono ?_
  rintro _ w19 ⟨rfl, T20⟩
  have S21 := St.callN (As := []) S14 T20
  change St _ _ _ [[(b11, .cells #[.int .i64 a1.Prog, .int .i64 a1.Vers, .slice A1_1 a1.Procs.length c1_1] 111 (0, 0))], [(p0, .cells #[.slice A5 a0.L.length c6] 71 (0, 0))], G7] at S21
  refine ⟨_, rfl, ?_⟩
  refine WOps.p (G.assign rfl) rfl ?_
  refine WOps.nil ?_
  refine WEx.then_ ?_
  refine WCode.seq ?_
  refine WCode.cutseq (fun l_ w_ => ∃ q25 : Nat, ∃ b22 : Bool, l_ = [(0, .pointer (some ⟨p0, 0, none⟩)), (4, .pointer (some ⟨b11, 0, none⟩)), (17, .bool b22)] ∧ rv_Offer.j1 q25 a0 a1 b22 = some r_ ∧ St w (KS [G0]) w_ [[(b11, .cells #[.int .i64 a1.Prog, .int .i64 a1.Vers, .slice A1_1 a1.Procs.length c1_1] 111 (0, 0))], [(p0, .cells #[.slice A5 a0.L.length c6] 71 (0, 0))], G7]) ?_ ?_
  ·
    refine WCode.region ?_
    refine WOps.p (G.move rfl) rfl ?_
    refine WOps.p (G.not rfl rfl) rfl ?_
    refine WOps.p (G.move rfl) rfl ?_
    rcases ite_some hF with ⟨h27, hF⟩ | ⟨h27, hF⟩
    ·
      refine WOps.on rfl (kbl (b := !t17) rfl (show (!t17) = false from by rw [h27]; rfl)) ?_
      refine WOps.p (G.move rfl) rfl ?_
      refine WOps.on rfl (kbl (b := !t17) rfl (show (!t17) = false from by rw [h27]; rfl)) ?_
      refine WOps.p (G.not rfl rfl) rfl ?_
      refine WOps.p (G.pick_f (kb (b := !t17) rfl (show (!t17) = false from by rw [h27]; rfl)) rfl) rfl ?_
      refine WOps.nil ?_
      have S28 := S21.front 2 rfl
      change St _ _ _ [G7, [(b11, .cells #[.int .i64 a1.Prog, .int .i64 a1.Vers, .slice A1_1 a1.Procs.length c1_1] 111 (0, 0))], [(p0, .cells #[.slice A5 a0.L.length c6] 71 (0, 0))]] at S28
      have S29 := S28.front 2 rfl
      change St _ _ _ [[(p0, .cells #[.slice A5 a0.L.length c6] 71 (0, 0))], G7, [(b11, .cells #[.int .i64 a1.Prog, .int .i64 a1.Vers, .slice A1_1 a1.Procs.length c1_1] 111 (0, 0))]] at S29
      have S30 := S29.front 2 rfl
      change St _ _ _ [[(b11, .cells #[.int .i64 a1.Prog, .int .i64 a1.Vers, .slice A1_1 a1.Procs.length c1_1] 111 (0, 0))], [(p0, .cells #[.slice A5 a0.L.length c6] 71 (0, 0))], G7] at S30
      refine WEx.cutend _ ?_ ⟨k, !a2, rfl, hF, S30⟩
      exact ⟨rfl, rfl, rfl, trivial⟩
    ·
      refine WOps.off rfl (kbl (b := !t17) rfl (show (!t17) = true from by rw [(Bool.eq_false_iff.2 h27)]; rfl)) rfl rfl ?_
      refine WOps.off rfl (kbl (b := !t17) rfl (show (!t17) = true from by rw [(Bool.eq_false_iff.2 h27)]; rfl)) rfl rfl ?_
      refine WOps.p (G.pick_t (kb (b := !t17) rfl (show (!t17) = true from by rw [(Bool.eq_false_iff.2 h27)]; rfl)) rfl) rfl ?_
      refine WOps.nil ?_
      have S31 := S21.front 2 rfl
      change St _ _ _ [G7, [(b11, .cells #[.int .i64 a1.Prog, .int .i64 a1.Vers, .slice A1_1 a1.Procs.length c1_1] 111 (0, 0))], [(p0, .cells #[.slice A5 a0.L.length c6] 71 (0, 0))]] at S31
      have S32 := S31.front 2 rfl
      change St _ _ _ [[(p0, .cells #[.slice A5 a0.L.length c6] 71 (0, 0))], G7, [(b11, .cells #[.int .i64 a1.Prog, .int .i64 a1.Vers, .slice A1_1 a1.Procs.length c1_1] 111 (0, 0))]] at S32
      have S33 := S32.front 2 rfl
      change St _ _ _ [[(b11, .cells #[.int .i64 a1.Prog, .int .i64 a1.Vers, .slice A1_1 a1.Procs.length c1_1] 111 (0, 0))], [(p0, .cells #[.slice A5 a0.L.length c6] 71 (0, 0))], G7] at S33
      refine WEx.cutend _ ?_ ⟨k, true, rfl, hF, S33⟩
      exact ⟨rfl, rfl, rfl, trivial⟩
  ·
    rintro _ w23 ⟨q25, b22, rfl, hF, S24⟩
    unfold rv_Offer.j1 at hF
    rcases ite_some hF with ⟨h34, hF⟩ | ⟨h34, hF⟩
    ·
      refine WCode.cond_t (kb (b := b22) rfl h34) ?_
      refine WCode.seq ?_
      refine WCode.region ?_
      refine WOps.p (G.assign rfl) rfl ?_
      refine WOps.nil ?_
      refine WEx.then_ ?_
      refine WCode.ret ?_
      refine WEx.then_ret ?_
      obtain rfl := some_eq hF
      refine WEx.ret1 rfl rfl ?_
      have S35 := S24.front 2 rfl
      change St _ _ _ [G7, [(b11, .cells #[.int .i64 a1.Prog, .int .i64 a1.Vers, .slice A1_1 a1.Procs.length c1_1] 111 (0, 0))], [(p0, .cells #[.slice A5 a0.L.length c6] 71 (0, 0))]] at S35
      have S36 := S35.front 2 rfl
      change St _ _ _ [[(p0, .cells #[.slice A5 a0.L.length c6] 71 (0, 0))], G7, [(b11, .cells #[.int .i64 a1.Prog, .int .i64 a1.Vers, .slice A1_1 a1.Procs.length c1_1] 111 (0, 0))]] at S36
      have hO37 : ObjO 71 Registry71.rp p0 a0 ([(p0, .cells #[.slice A5 a0.L.length c6] 71 (0, 0))] ++ (G7)) := ⟨_, _, ⟨A5, c6, G7, rfl, hO8, rfl⟩, rfl⟩
      have S38 : St _ _ _ [[(p0, .cells #[.slice A5 a0.L.length c6] 71 (0, 0))] ++ (G7), [(b11, .cells #[.int .i64 a1.Prog, .int .i64 a1.Vers, .slice A1_1 a1.Procs.length c1_1] 111 (0, 0))]] := S36.objs (by simp)
      exact ⟨[(p0, .cells #[.slice A5 a0.L.length c6] 71 (0, 0))] ++ (G7), rfl, hO37, St.keep (As := [[(p0, .cells #[.slice A5 a0.L.length c6] 71 (0, 0))] ++ (G7)]) S38⟩
    ·
      refine WCode.cond_f (kb (b := b22) rfl (Bool.eq_false_iff.2 h34)) ?_
      refine WCode.skip ?_
      refine WEx.then_ ?_
      refine WCode.cutseq (fun l_ w_ => ∃ q41 : Nat, l_ = [(0, .pointer (some ⟨p0, 0, none⟩)), (4, .pointer (some ⟨b11, 0, none⟩))] ∧ rv_Offer.j2 q41 a0 a1 = some r_ ∧ St w (KS [G0]) w_ [[(b11, .cells #[.int .i64 a1.Prog, .int .i64 a1.Vers, .slice A1_1 a1.Procs.length c1_1] 111 (0, 0))], [(p0, .cells #[.slice A5 a0.L.length c6] 71 (0, 0))], G7]) ?_ ?_
      ·
        refine WCode.seq ?_
        refine WCode.region ?_
        refine WOps.p (G.assign rfl) rfl ?_
        refine WOps.nil ?_
        refine WEx.then_ ?_
        refine WCode.block ?_
        have S48 := S24.front 2 rfl
        change St _ _ _ [G7, [(b11, .cells #[.int .i64 a1.Prog, .int .i64 a1.Vers, .slice A1_1 a1.Procs.length c1_1] 111 (0, 0))], [(p0, .cells #[.slice A5 a0.L.length c6] 71 (0, 0))]] at S48
        have S49 := S48.front 2 rfl
        change St _ _ _ [[(p0, .cells #[.slice A5 a0.L.length c6] 71 (0, 0))], G7, [(b11, .cells #[.int .i64 a1.Prog, .int .i64 a1.Vers, .slice A1_1 a1.Procs.length c1_1] 111 (0, 0))]] at S49
        have S50 := S49.front 2 rfl
        change St _ _ _ [[(b11, .cells #[.int .i64 a1.Prog, .int .i64 a1.Vers, .slice A1_1 a1.Procs.length c1_1] 111 (0, 0))], [(p0, .cells #[.slice A5 a0.L.length c6] 71 (0, 0))], G7] at S50
        refine WCode.forget (l' := [(0, .pointer (some ⟨p0, 0, none⟩)), (4, .pointer (some ⟨b11, 0, none⟩)), (8, .int .i64 0)]) ⟨rfl, rfl, rfl, trivial⟩ ?_
        refine WCode.loop (fun n_ l_ w_ => ∃ x43 : Int, l_ = [(0, .pointer (some ⟨p0, 0, none⟩)), (4, .pointer (some ⟨b11, 0, none⟩)), (8, .int .i64 x43)] ∧ rv_Offer.l1 n_ a0 a1 x43 = some r_ ∧ St w (KS [G0]) w_ [[(b11, .cells #[.int .i64 a1.Prog, .int .i64 a1.Vers, .slice A1_1 a1.Procs.length c1_1] 111 (0, 0))], [(p0, .cells #[.slice A5 a0.L.length c6] 71 (0, 0))], G7]) q25 ⟨0, rfl, hF, S50⟩ ?_
        rintro n47 _ w44 ⟨x43, rfl, hF, S45⟩
        obtain _ | k46 := n47
        · exact nomatch (show (none : Option (Int × Registry71)) = some r_ from hF)
        rw [rv_Offer.l1] at hF
        refine WCode.seq ?_
        refine WCode.seq ?_
        refine WCode.region ?_
        refine WOps.p (G.move rfl) rfl ?_
        refine WOps.p (G.move rfl) rfl ?_
        refine WOps.p (G.nilp rfl) rfl ?_
        refine WOps.p (G.field T.fld71_0 rfl (show 0 + 0 = 0 from rfl)) rfl ?_
        refine WOps.r (G.load1 T.one69 rfl (cell_blk (S45.blk 1 rfl) rfl)) rfl ?_
        refine WOps.p (G.len T.el69 rfl) rfl ?_
        refine WOps.p (G.lss rfl rfl rfl) rfl ?_
        refine WOps.nil ?_
        refine WEx.then_ ?_
        rcases ite_some hF with ⟨h52, hF⟩ | ⟨h52, hF⟩
        ·
          refine WCode.cond_t (kb (b := decide (x43 < (a0.L.length : Int))) rfl (decide_eq_true h52)) ?_
          refine WCode.skip ?_
          refine WEx.then_ ?_
          refine WCode.seq ?_
          refine WCode.block ?_
          refine WCode.seq ?_
          refine WCode.drawH (.one 0 0 (.one 1 0 (.one 2 0 (.one 4 0 (.one 8 0 (.one 3 1 (.one 5 0 (.one 6 0 (.one 7 1 (.one 9 1 (.one 10 0 (.one 11 0 (.one 12 0 (.one 13 0 (.one 14 0 (.one 16 0 (.one 20 0 (.one 15 1 (.one 17 0 (.one 18 0 (.one 19 1 (.one 21 1 (.one 22 0 (.one 23 0 .nil)))))))))))))))))))))))) (fun W_ => cellsAt W_ p0 0 [.slice A5 a0.L.length c6] ∧ SlR Service111.rp W_ (· ∈ keys G7) A5 c6 a0.L ∧ cellsAt W_ b11 0 [.int .i64 a1.Prog, .int .i64 a1.Vers, .slice A1_1 a1.Procs.length c1_1] ∧ True) T.mixed (by kernel_rfl) (by intro _ _ d _ _ h; cases d <;> exact h) rfl rfl (by kernel_rfl) ?_ ?_
          all_goals have S53 := S45.drew
          all_goals generalize w44.drew = w54 at *
          · exact ⟨cellsAt.of_blk (S53.blk 1 rfl) rfl, (hO8.rd (fun b o hb => S53.grp 2 rfl hb)), cellsAt.of_blk (S53.blk 0 rfl) rfl, trivial⟩
          refine WH.p rfl wants (G.move rfl) rfl ?_
          refine WH.p rfl wants (G.nilp rfl) rfl ?_
          refine WH.p rfl wants (G.field T.fld71_0 rfl (show 0 + 0 = 0 from rfl)) rfl ?_
          refine WH.p rfl wants (G.move rfl) rfl ?_
          refine WH.p rfl wants (G.field T.fld111_0 rfl (show 0 + 0 = 0 from rfl)) rfl ?_
          refine WH.r rfl wants (fun _ h_ => G.load1 T.one69 rfl (cellsAt.at h_.1 0 rfl)) rfl ?_
          obtain ⟨x55, hc56, hF⟩ := bind_some hF
          obtain ⟨j57, ej58, hj59, hl60⟩ := idx_spec hc56
          obtain ⟨b61, o62, cs63, eA64, hf65, hc66, hr67⟩ := SlR.at_ (hO8.rd (fun b o hb => S53.grp 2 rfl hb)) hj59
          refine WH.p rfl wants (G.idx T.el69 rfl eA64 rfl ej58 hl60) rfl ?_
          refine WH.p rfl wants (G.field T.fld111_0 rfl (show o62 + j57 * 3 + 0 = o62 + j57 * 3 + 0 from rfl)) rfl ?_
          refine WH.r rfl wants (fun _ h_ => G.load1 T.one3 rfl (SlR.leaf h_.2.1 hj59 eA64 (q := 0) (by rintro _ _ _ ⟨_, _, rfl, _⟩; rfl))) rfl ?_
          refine WH.r rfl wants (fun _ h_ => G.load1 T.one3 rfl (cellsAt.at h_.2.2.1 0 rfl)) rfl ?_
          refine WH.p rfl wants (G.eql rfl rfl rfl) rfl ?_
          refine WH.p rfl wants (G.move rfl) rfl ?_
          rcases ite_some hF with ⟨h68, hF⟩ | ⟨h68, hF⟩
          ·
            refine WH.p rfl (wants_on rfl (kbl (b := decide (x55.Prog = a1.Prog)) rfl (decide_eq_true h68))) (G.move rfl) rfl ?_
            refine WH.p rfl (wants_on rfl (kbl (b := decide (x55.Prog = a1.Prog)) rfl (decide_eq_true h68))) (G.nilp rfl) rfl ?_
            refine WH.p rfl (wants_on rfl (kbl (b := decide (x55.Prog = a1.Prog)) rfl (decide_eq_true h68))) (G.field T.fld71_0 rfl (show 0 + 0 = 0 from rfl)) rfl ?_
            refine WH.p rfl (wants_on rfl (kbl (b := decide (x55.Prog = a1.Prog)) rfl (decide_eq_true h68))) (G.move rfl) rfl ?_
            refine WH.p rfl (wants_on rfl (kbl (b := decide (x55.Prog = a1.Prog)) rfl (decide_eq_true h68))) (G.field T.fld111_1 rfl (show 0 + 1 = 1 from rfl)) rfl ?_
            refine WH.r rfl (wants_on rfl (kbl (b := decide (x55.Prog = a1.Prog)) rfl (decide_eq_true h68))) (fun _ h_ => G.load1 T.one69 rfl (cellsAt.at h_.1 0 rfl)) rfl ?_
            obtain ⟨x69, hc70, hF⟩ := bind_some hF
            obtain ⟨j71, ej72, hj73, hl74⟩ := idx_spec hc70
            obtain ⟨b75, o76, cs77, eA78, hf79, hc80, hr81⟩ := SlR.at_ (hO8.rd (fun b o hb => S53.grp 2 rfl hb)) hj73
            refine WH.p rfl (wants_on rfl (kbl (b := decide (x55.Prog = a1.Prog)) rfl (decide_eq_true h68))) (G.idx T.el69 rfl eA78 rfl ej72 hl74) rfl ?_
            refine WH.p rfl (wants_on rfl (kbl (b := decide (x55.Prog = a1.Prog)) rfl (decide_eq_true h68))) (G.field T.fld111_1 rfl (show o76 + j71 * 3 + 1 = o76 + j71 * 3 + 1 from rfl)) rfl ?_
            refine WH.r rfl (wants_on rfl (kbl (b := decide (x55.Prog = a1.Prog)) rfl (decide_eq_true h68))) (fun _ h_ => G.load1 T.one3 rfl (SlR.leaf h_.2.1 hj73 eA78 (q := 1) (by rintro _ _ _ ⟨_, _, rfl, _⟩; rfl))) rfl ?_
            refine WH.r rfl (wants_on rfl (kbl (b := decide (x55.Prog = a1.Prog)) rfl (decide_eq_true h68))) (fun _ h_ => G.load1 T.one3 rfl (cellsAt.at h_.2.2.1 1 rfl)) rfl ?_
            refine WH.p rfl (wants_on rfl (kbl (b := decide (x55.Prog = a1.Prog)) rfl (decide_eq_true h68))) (G.eql rfl rfl rfl) rfl ?_
            refine WH.p rfl wants (G.pick_t (kb (b := decide (x55.Prog = a1.Prog)) rfl (decide_eq_true h68)) rfl) rfl ?_
            refine WH.nil ?_
            refine WEx.then_ ?_
            refine WCode.forget (l' := [(0, .pointer (some ⟨p0, 0, none⟩)), (4, .pointer (some ⟨b11, 0, none⟩)), (8, .int .i64 x43), (39, .pointer (some ⟨p0, 0, none⟩)), (40, .pointer (some ⟨p0, 0, none⟩)), (41, .pointer (some ⟨p0, 0, none⟩)), (42, .slice A5 a0.L.length c6), (43, .int .i64 x43), (44, .pointer (some ⟨b75, o76 + j71 * 3, none⟩)), (45, .pointer (some ⟨b75, o76 + j71 * 3 + 1, none⟩)), (46, .int .i64 x69.Vers), (47, .pointer (some ⟨b11, 1, none⟩)), (48, .int .i64 a1.Vers), (49, .bool (decide (x69.Vers = a1.Vers))), (50, .bool (decide (x69.Vers = a1.Vers)))]) ⟨rfl, rfl, rfl, rfl, rfl, rfl, rfl, rfl, rfl, rfl, rfl, rfl, rfl, rfl, rfl, trivial⟩ ?_
            rcases ite_some hF with ⟨h82, hF⟩ | ⟨h82, hF⟩
            ·
              refine WCode.cond_t (kb (b := decide (x69.Vers = a1.Vers)) rfl (decide_eq_true h82)) ?_
              refine WCode.seq ?_
              refine WCode.region ?_
              refine WOps.p (G.assign rfl) rfl ?_
              refine WOps.nil ?_
              refine WEx.then_ ?_
              refine WCode.forget (l' := [(6, .int .i64 181)]) ⟨rfl, trivial⟩ ?_
              refine WCode.ret ?_
              refine WEx.in_ret ?_
              refine WEx.then_ret ?_
              refine WEx.then_ret ?_
              refine WEx.in_ret ?_
              refine WEx.then_ret ?_
              obtain rfl := some_eq hF
              refine WEx.ret1 rfl rfl ?_
              have S83 := S53.front 2 rfl
              change St _ _ _ [G7, [(b11, .cells #[.int .i64 a1.Prog, .int .i64 a1.Vers, .slice A1_1 a1.Procs.length c1_1] 111 (0, 0))], [(p0, .cells #[.slice A5 a0.L.length c6] 71 (0, 0))]] at S83
              have S84 := S83.front 2 rfl
              change St _ _ _ [[(p0, .cells #[.slice A5 a0.L.length c6] 71 (0, 0))], G7, [(b11, .cells #[.int .i64 a1.Prog, .int .i64 a1.Vers, .slice A1_1 a1.Procs.length c1_1] 111 (0, 0))]] at S84
              have hO85 : ObjO 71 Registry71.rp p0 a0 ([(p0, .cells #[.slice A5 a0.L.length c6] 71 (0, 0))] ++ (G7)) := ⟨_, _, ⟨A5, c6, G7, rfl, hO8, rfl⟩, rfl⟩
              have S86 : St _ _ _ [[(p0, .cells #[.slice A5 a0.L.length c6] 71 (0, 0))] ++ (G7), [(b11, .cells #[.int .i64 a1.Prog, .int .i64 a1.Vers, .slice A1_1 a1.Procs.length c1_1] 111 (0, 0))]] := S84.objs (by simp)
              exact ⟨[(p0, .cells #[.slice A5 a0.L.length c6] 71 (0, 0))] ++ (G7), rfl, hO85, St.keep (As := [[(p0, .cells #[.slice A5 a0.L.length c6] 71 (0, 0))] ++ (G7)]) S86⟩
            ·
              refine WCode.cond_f (kb (b := decide (x69.Vers = a1.Vers)) rfl (decide_eq_false h82)) ?_
              refine WCode.skip ?_
              refine WEx.in_normal ?_
              refine WEx.then_ ?_
              refine WCode.region ?_
              refine WOps.p (G.move rfl) rfl ?_
              refine WOps.p (G.add rfl rfl (r := (w64 (x43 + 1))) rfl) rfl ?_
              refine WOps.p (G.assign rfl) rfl ?_
              refine WOps.nil ?_
              have S87 := S53.front 2 rfl
              change St _ _ _ [G7, [(b11, .cells #[.int .i64 a1.Prog, .int .i64 a1.Vers, .slice A1_1 a1.Procs.length c1_1] 111 (0, 0))], [(p0, .cells #[.slice A5 a0.L.length c6] 71 (0, 0))]] at S87
              have S88 := S87.front 2 rfl
              change St _ _ _ [[(p0, .cells #[.slice A5 a0.L.length c6] 71 (0, 0))], G7, [(b11, .cells #[.int .i64 a1.Prog, .int .i64 a1.Vers, .slice A1_1 a1.Procs.length c1_1] 111 (0, 0))]] at S88
              have S89 := S88.front 2 rfl
              change St _ _ _ [[(b11, .cells #[.int .i64 a1.Prog, .int .i64 a1.Vers, .slice A1_1 a1.Procs.length c1_1] 111 (0, 0))], [(p0, .cells #[.slice A5 a0.L.length c6] 71 (0, 0))], G7] at S89
              refine WEx.again _ _ (by omega) ?_ ⟨w64 (x43 + 1), rfl, hF, S89⟩
              exact ⟨rfl, rfl, rfl, trivial⟩
          ·
            refine WH.off rfl rfl (kbl (b := decide (x55.Prog = a1.Prog)) rfl (decide_eq_false h68)) rfl rfl rfl ?_
            refine WH.off rfl rfl (kbl (b := decide (x55.Prog = a1.Prog)) rfl (decide_eq_false h68)) rfl rfl rfl ?_
            refine WH.off rfl rfl (kbl (b := decide (x55.Prog = a1.Prog)) rfl (decide_eq_false h68)) rfl rfl rfl ?_
            refine WH.off rfl rfl (kbl (b := decide (x55.Prog = a1.Prog)) rfl (decide_eq_false h68)) rfl rfl rfl ?_
            refine WH.off rfl rfl (kbl (b := decide (x55.Prog = a1.Prog)) rfl (decide_eq_false h68)) rfl rfl rfl ?_
            refine WH.off rfl rfl (kbl (b := decide (x55.Prog = a1.Prog)) rfl (decide_eq_false h68)) rfl rfl rfl ?_
            refine WH.off rfl rfl (kbl (b := decide (x55.Prog = a1.Prog)) rfl (decide_eq_false h68)) rfl rfl rfl ?_
            refine WH.off rfl rfl (kbl (b := decide (x55.Prog = a1.Prog)) rfl (decide_eq_false h68)) rfl rfl rfl ?_
            refine WH.off rfl rfl (kbl (b := decide (x55.Prog = a1.Prog)) rfl (decide_eq_false h68)) rfl rfl rfl ?_
            refine WH.off rfl rfl (kbl (b := decide (x55.Prog = a1.Prog)) rfl (decide_eq_false h68)) rfl rfl rfl ?_
            refine WH.off rfl rfl (kbl (b := decide (x55.Prog = a1.Prog)) rfl (decide_eq_false h68)) rfl rfl rfl ?_
            refine WH.p rfl wants (G.pick_f (kb (b := decide (x55.Prog = a1.Prog)) rfl (decide_eq_false h68)) rfl) rfl ?_
            refine WH.nil ?_
            refine WEx.then_ ?_
            refine WCode.forget (l' := [(0, .pointer (some ⟨p0, 0, none⟩)), (4, .pointer (some ⟨b11, 0, none⟩)), (8, .int .i64 x43), (39, undef), (40, undef), (41, undef), (42, undef), (43, undef), (44, undef), (45, undef), (46, undef), (47, undef), (48, undef), (49, undef), (50, .bool false)]) ⟨rfl, rfl, rfl, rfl, rfl, rfl, rfl, rfl, rfl, rfl, rfl, rfl, rfl, rfl, rfl, trivial⟩ ?_
            refine WCode.cond_f rfl ?_
            refine WCode.skip ?_
            refine WEx.in_normal ?_
            refine WEx.then_ ?_
            refine WCode.region ?_
            refine WOps.p (G.move rfl) rfl ?_
            refine WOps.p (G.add rfl rfl (r := (w64 (x43 + 1))) rfl) rfl ?_
            refine WOps.p (G.assign rfl) rfl ?_
            refine WOps.nil ?_
            have S90 := S53.front 2 rfl
            change St _ _ _ [G7, [(b11, .cells #[.int .i64 a1.Prog, .int .i64 a1.Vers, .slice A1_1 a1.Procs.length c1_1] 111 (0, 0))], [(p0, .cells #[.slice A5 a0.L.length c6] 71 (0, 0))]] at S90
            have S91 := S90.front 2 rfl
            change St _ _ _ [[(p0, .cells #[.slice A5 a0.L.length c6] 71 (0, 0))], G7, [(b11, .cells #[.int .i64 a1.Prog, .int .i64 a1.Vers, .slice A1_1 a1.Procs.length c1_1] 111 (0, 0))]] at S91
            have S92 := S91.front 2 rfl
            change St _ _ _ [[(b11, .cells #[.int .i64 a1.Prog, .int .i64 a1.Vers, .slice A1_1 a1.Procs.length c1_1] 111 (0, 0))], [(p0, .cells #[.slice A5 a0.L.length c6] 71 (0, 0))], G7] at S92
            refine WEx.again _ _ (by omega) ?_ ⟨w64 (x43 + 1), rfl, hF, S92⟩
            exact ⟨rfl, rfl, rfl, trivial⟩
        ·
          refine WCode.cond_f (kb (b := decide (x43 < (a0.L.length : Int))) rfl (decide_eq_false h52)) ?_
          refine WCode.exit ?_
          refine WEx.then_exit ?_
          refine WEx.then_exit ?_
          refine WEx.in_exit ?_
          have S93 := S45.front 2 rfl
          change St _ _ _ [G7, [(b11, .cells #[.int .i64 a1.Prog, .int .i64 a1.Vers, .slice A1_1 a1.Procs.length c1_1] 111 (0, 0))], [(p0, .cells #[.slice A5 a0.L.length c6] 71 (0, 0))]] at S93
          have S94 := S93.front 2 rfl
          change St _ _ _ [[(p0, .cells #[.slice A5 a0.L.length c6] 71 (0, 0))], G7, [(b11, .cells #[.int .i64 a1.Prog, .int .i64 a1.Vers, .slice A1_1 a1.Procs.length c1_1] 111 (0, 0))]] at S94
          have S95 := S94.front 2 rfl
          change St _ _ _ [[(b11, .cells #[.int .i64 a1.Prog, .int .i64 a1.Vers, .slice A1_1 a1.Procs.length c1_1] 111 (0, 0))], [(p0, .cells #[.slice A5 a0.L.length c6] 71 (0, 0))], G7] at S95
          refine WEx.cutend _ ?_ ⟨k46, rfl, hF, S95⟩
          exact ⟨rfl, rfl, trivial⟩
      ·
        rintro _ w39 ⟨q41, rfl, hF, S40⟩
        unfold rv_Offer.j2 at hF
        refine WCode.seq ?_
        refine WCode.seq ?_
        refine WCode.region ?_
        refine WOps.p (G.move rfl) rfl ?_
        refine WOps.p (G.nilp rfl) rfl ?_
        refine WOps.p (G.field T.fld71_0 rfl (show 0 + 0 = 0 from rfl)) rfl ?_
        refine WOps.r (G.load1 T.one69 rfl (cell_blk (S40.blk 1 rfl) rfl)) rfl ?_
        refine WOps.p (G.len T.el69 rfl) rfl ?_
        refine WOps.p (G.eql rfl rfl rfl) rfl ?_
        refine WOps.nil ?_
        refine WEx.then_ ?_
        rcases ite_some hF with ⟨h96, hF⟩ | ⟨h96, hF⟩
        ·
          refine WCode.cond_t (kb (b := decide ((a0.L.length : Int) = 16)) rfl (decide_eq_true h96)) ?_
          refine WCode.seq ?_
          refine WCode.region ?_
          refine WOps.p (G.assign rfl) rfl ?_
          refine WOps.nil ?_
          refine WEx.then_ ?_
          refine WCode.ret ?_
          refine WEx.then_ret ?_
          obtain rfl := some_eq hF
          refine WEx.ret1 rfl rfl ?_
          have S97 := S40.front 2 rfl
          change St _ _ _ [G7, [(b11, .cells #[.int .i64 a1.Prog, .int .i64 a1.Vers, .slice A1_1 a1.Procs.length c1_1] 111 (0, 0))], [(p0, .cells #[.slice A5 a0.L.length c6] 71 (0, 0))]] at S97
          have S98 := S97.front 2 rfl
          change St _ _ _ [[(p0, .cells #[.slice A5 a0.L.length c6] 71 (0, 0))], G7, [(b11, .cells #[.int .i64 a1.Prog, .int .i64 a1.Vers, .slice A1_1 a1.Procs.length c1_1] 111 (0, 0))]] at S98
          have hO99 : ObjO 71 Registry71.rp p0 a0 ([(p0, .cells #[.slice A5 a0.L.length c6] 71 (0, 0))] ++ (G7)) := ⟨_, _, ⟨A5, c6, G7, rfl, hO8, rfl⟩, rfl⟩
          have S100 : St _ _ _ [[(p0, .cells #[.slice A5 a0.L.length c6] 71 (0, 0))] ++ (G7), [(b11, .cells #[.int .i64 a1.Prog, .int .i64 a1.Vers, .slice A1_1 a1.Procs.length c1_1] 111 (0, 0))]] := S98.objs (by simp)
          exact ⟨[(p0, .cells #[.slice A5 a0.L.length c6] 71 (0, 0))] ++ (G7), rfl, hO99, St.keep (As := [[(p0, .cells #[.slice A5 a0.L.length c6] 71 (0, 0))] ++ (G7)]) S100⟩
        ·
          refine WCode.cond_f (kb (b := decide ((a0.L.length : Int) = 16)) rfl (decide_eq_false h96)) ?_
          refine WCode.skip ?_
          refine WEx.then_ ?_
          refine WCode.seq ?_
          refine WCode.region ?_
          refine WOps.p (G.assign rfl) rfl ?_
          refine WOps.nil ?_
          refine WEx.then_ ?_
          refine WCode.seq ?_
          refine WCode.drawH (.one 0 0 (.one 1 0 (.one 2 0 (.one 3 0 (.one 5 0 (.one 7 0 (.one 9 0 (.one 10 0 (.one 6 1 (.one 8 1 (.one 11 1 (.fork 4 (.one 12 2 (.one 13 0 (.one 14 2 (.one 15 2 (.one 16 0 (.one 17 0 (.one 18 2 .nil))))))) 12 (.one 13 0 (.fork 4 (.one 14 2 (.one 15 2 (.one 16 0 (.one 17 0 (.one 18 2 .nil))))) 14 (.one 4 2 (.one 15 2 (.one 16 0 (.one 17 0 (.one 18 2 .nil))))))))))))))))))) (fun W_ => cellsAt W_ b11 0 [.int .i64 a1.Prog, .int .i64 a1.Vers, .slice A1_1 a1.Procs.length c1_1] ∧ True) T.mixed (by kernel_rfl) (by intro _ _ d _ _ h; cases d <;> exact h) rfl rfl (by kernel_rfl) ?_ ?_
          all_goals have S101 := S40.drew
          all_goals generalize w39.drew = w102 at *
          · exact ⟨cellsAt.of_blk (S101.blk 0 rfl) rfl, trivial⟩
          refine WH.p rfl wants (G.move rfl) rfl ?_
          refine WH.p rfl wants (G.move rfl) rfl ?_
          refine WH.p rfl wants (G.nilp rfl) rfl ?_
          refine WH.p rfl wants (G.field T.fld71_0 rfl (show 0 + 0 = 0 from rfl)) rfl ?_
          refine WH.p rfl wants (G.field T.fld111_0 rfl (show 0 + 0 = 0 from rfl)) rfl ?_
          refine WH.p rfl wants (G.field T.fld111_1 rfl (show 0 + 1 = 1 from rfl)) rfl ?_
          refine WH.p rfl wants (G.move rfl) rfl ?_
          refine WH.p rfl wants (G.field T.fld111_2 rfl (show 0 + 2 = 2 from rfl)) rfl ?_
          refine WH.r rfl wants (fun _ h_ => G.load1 T.one3 rfl (cellsAt.at h_.1 0 rfl)) rfl ?_
          refine WH.r rfl wants (fun _ h_ => G.load1 T.one3 rfl (cellsAt.at h_.1 1 rfl)) rfl ?_
          refine WH.r rfl wants (fun _ h_ => G.load1 T.one49 rfl (cellsAt.at h_.1 2 rfl)) rfl ?_
          refine WH.fork ?_ ?_
          ·
            refine WH.e rfl wants (GR.e (G.load1 T.one69 rfl (cell_blk (S101.blk 1 rfl) rfl))) rfl ⟨cellsAt.of_blk (S101.blk 0 rfl) rfl, trivial⟩ ?_
            obtain ⟨l103, hc104, hF⟩ := bind_some hF
            have S105 := S101.emp
            obtain ⟨xs115, he116, hd117⟩ := SlR.Rd (hR1_1.ext (S105.keepF hF1_1))
            obtain ⟨A107, c108, G109, w110, E111, hO112, S113, hk114⟩ := St.appP (P := Try.prog) (r := (Rp.int .i64)) (M := a1.Procs) S105 T.elt49 rfl (SlO.nil 3 (Rp.int .i64)) hd117 (elems.flat plain_flat he116) rfl hc104
            change St _ _ _ [G109, [(b11, .cells #[.int .i64 a1.Prog, .int .i64 a1.Vers, .slice A1_1 a1.Procs.length c1_1] 111 (0, 0))], [(p0, .cells #[.slice A5 a0.L.length c6] 71 (0, 0))], G7] at S113
            refine WH.e rfl wants (E111 rfl rfl) rfl ⟨cellsAt.of_blk (S113.blk 1 rfl) rfl, trivial⟩ ?_
            refine WH.p rfl wants (G.build (cells := #[.int .i64 a1.Prog, .int .i64 a1.Vers, .slice A107 l103.length c108]) (evp_spec (evp_cons rfl (evp_cons rfl (evp_cons rfl evp_nil)))) (by kernel_rfl)) rfl ?_
            obtain ⟨b118, w119, E120, S121, X122, L123⟩ := St.lit S113 (P := Try.prog) (t := 69) (e := 111) (n := 1) (vs := [(0, .agg #[.int .i64 a1.Prog, .int .i64 a1.Vers, .slice A107 l103.length c108])]) (cs := #[.int .i64 a1.Prog, .int .i64 a1.Vers, .slice A107 l103.length c108]) (by kernel_rfl)
            change St _ _ _ [[(b118, .cells #[.int .i64 a1.Prog, .int .i64 a1.Vers, .slice A107 l103.length c108] 111 (0, 0))], G109, [(b11, .cells #[.int .i64 a1.Prog, .int .i64 a1.Vers, .slice A1_1 a1.Procs.length c1_1] 111 (0, 0))], [(p0, .cells #[.slice A5 a0.L.length c6] 71 (0, 0))], G7] at S121
            refine WH.e rfl wants (E120 (evp_cons rfl evp_nil)) rfl ⟨cellsAt.of_blk (S121.blk 2 rfl) rfl, trivial⟩ ?_
            obtain ⟨l124, hc125, hF⟩ := bind_some hF
            have S126 := S121.front 1 rfl
            change St _ _ _ [G109, [(b118, .cells #[.int .i64 a1.Prog, .int .i64 a1.Vers, .slice A107 l103.length c108] 111 (0, 0))], [(b11, .cells #[.int .i64 a1.Prog, .int .i64 a1.Vers, .slice A1_1 a1.Procs.length c1_1] 111 (0, 0))], [(p0, .cells #[.slice A5 a0.L.length c6] 71 (0, 0))], G7] at S126
            have S127 := S126.front 4 rfl
            change St _ _ _ [G7, G109, [(b118, .cells #[.int .i64 a1.Prog, .int .i64 a1.Vers, .slice A107 l103.length c108] 111 (0, 0))], [(b11, .cells #[.int .i64 a1.Prog, .int .i64 a1.Vers, .slice A1_1 a1.Procs.length c1_1] 111 (0, 0))], [(p0, .cells #[.slice A5 a0.L.length c6] 71 (0, 0))]] at S127
            have S128 : St _ _ _ [G7, (G109 ++ ([])), [(b118, .cells #[.int .i64 a1.Prog, .int .i64 a1.Vers, .slice A107 l103.length c108] 111 (0, 0))], [(b11, .cells #[.int .i64 a1.Prog, .int .i64 a1.Vers, .slice A1_1 a1.Procs.length c1_1] 111 (0, 0))], [(p0, .cells #[.slice A5 a0.L.length c6] 71 (0, 0))]] := S127.objs (by simp)
            obtain ⟨A129, c130, G131, w132, E133, hO134, S135, hk136⟩ := St.app (P := Try.prog) (r := Service111.rp) (M := ([(⟨a1.Prog, a1.Vers, l103⟩ : Service111)] : List Service111)) S128 T.elt69 rfl hO8 (Rd.of_blk (S128.blk 2 rfl) (n := 1) (sz := 3) rfl) ⟨[.int .i64 a1.Prog, .int .i64 a1.Vers, .slice A107 l103.length c108], _, G109, _, rfl, rfl, ⟨A107, c108, G109, rfl, hO112, rfl⟩, ⟨rfl, rfl⟩⟩ rfl hc125
            change St _ _ _ [G131, [(b118, .cells #[.int .i64 a1.Prog, .int .i64 a1.Vers, .slice A107 l103.length c108] 111 (0, 0))], [(b11, .cells #[.int .i64 a1.Prog, .int .i64 a1.Vers, .slice A1_1 a1.Procs.length c1_1] 111 (0, 0))], [(p0, .cells #[.slice A5 a0.L.length c6] 71 (0, 0))]] at S135
            refine WH.e rfl wants (E133 rfl rfl) rfl ⟨cellsAt.of_blk (S135.blk 2 rfl) rfl, trivial⟩ ?_
            refine WH.p rfl wants (G.nilp rfl) rfl ?_
            refine WH.p rfl wants (G.field T.fld71_0 rfl (show 0 + 0 = 0 from rfl)) rfl ?_
            obtain ⟨w137, E138, S139⟩ := St.store (P := Try.prog) S135 3 69 (.slice A129 l124.length c130) (off := 0) (cur' := #[.slice A129 l124.length c130]) rfl T.size69_1 rfl rfl rfl
            change St _ _ _ [G131, [(b118, .cells #[.int .i64 a1.Prog, .int .i64 a1.Vers, .slice A107 l103.length c108] 111 (0, 0))], [(b11, .cells #[.int .i64 a1.Prog, .int .i64 a1.Vers, .slice A1_1 a1.Procs.length c1_1] 111 (0, 0))], [(p0, .cells #[.slice A129 l124.length c130] 71 (0, 0))]] at S139
            refine WH.u rfl wants (E138 rfl rfl) ⟨cellsAt.of_blk (S139.blk 2 rfl) rfl, trivial⟩ ?_
            refine WH.nil ?_
            refine WEx.then_ ?_
            refine WCode.forget (l' := []) trivial ?_
            refine WCode.seq ?_
            refine WCode.region ?_
            refine WOps.p (G.assign rfl) rfl ?_
            refine WOps.nil ?_
            refine WEx.then_ ?_
            refine WCode.ret ?_
            obtain rfl := some_eq hF
            refine WEx.ret1 rfl rfl ?_
            have S140 := S139.front 3 rfl
            change St _ _ _ [[(p0, .cells #[.slice A129 l124.length c130] 71 (0, 0))], G131, [(b118, .cells #[.int .i64 a1.Prog, .int .i64 a1.Vers, .slice A107 l103.length c108] 111 (0, 0))], [(b11, .cells #[.int .i64 a1.Prog, .int .i64 a1.Vers, .slice A1_1 a1.Procs.length c1_1] 111 (0, 0))]] at S140
            have hO141 : ObjO 71 Registry71.rp p0 (⟨l124⟩ : Registry71) ([(p0, .cells #[.slice A129 l124.length c130] 71 (0, 0))] ++ (G131)) := ⟨_, _, ⟨A129, c130, G131, rfl, hO134, rfl⟩, rfl⟩
            have S142 : St _ _ _ [[(p0, .cells #[.slice A129 l124.length c130] 71 (0, 0))] ++ (G131), [(b118, .cells #[.int .i64 a1.Prog, .int .i64 a1.Vers, .slice A107 l103.length c108] 111 (0, 0))], [(b11, .cells #[.int .i64 a1.Prog, .int .i64 a1.Vers, .slice A1_1 a1.Procs.length c1_1] 111 (0, 0))]] := S140.objs (by simp)
            exact ⟨[(p0, .cells #[.slice A129 l124.length c130] 71 (0, 0))] ++ (G131), rfl, hO141, St.keep (As := [[(p0, .cells #[.slice A129 l124.length c130] 71 (0, 0))] ++ (G131)]) S142⟩
          ·
            obtain ⟨l103, hc104, hF⟩ := bind_some hF
            have S105 := S101.emp
            obtain ⟨xs115, he116, hd117⟩ := SlR.Rd (hR1_1.ext (S105.keepF hF1_1))
            obtain ⟨A107, c108, G109, w110, E111, hO112, S113, hk114⟩ := St.appP (P := Try.prog) (r := (Rp.int .i64)) (M := a1.Procs) S105 T.elt49 rfl (SlO.nil 3 (Rp.int .i64)) hd117 (elems.flat plain_flat he116) rfl hc104
            change St _ _ _ [G109, [(b11, .cells #[.int .i64 a1.Prog, .int .i64 a1.Vers, .slice A1_1 a1.Procs.length c1_1] 111 (0, 0))], [(p0, .cells #[.slice A5 a0.L.length c6] 71 (0, 0))], G7] at S113
            refine WH.e rfl wants (E111 rfl rfl) rfl ⟨cellsAt.of_blk (S113.blk 1 rfl) rfl, trivial⟩ ?_
            refine WH.p rfl wants (G.build (cells := #[.int .i64 a1.Prog, .int .i64 a1.Vers, .slice A107 l103.length c108]) (evp_spec (evp_cons rfl (evp_cons rfl (evp_cons rfl evp_nil)))) (by kernel_rfl)) rfl ?_
            refine WH.fork ?_ ?_
            ·
              refine WH.e rfl wants (GR.e (G.load1 T.one69 rfl (cell_blk (S113.blk 2 rfl) rfl))) rfl ⟨cellsAt.of_blk (S113.blk 1 rfl) rfl, trivial⟩ ?_
              obtain ⟨b118, w119, E120, S121, X122, L123⟩ := St.lit S113 (P := Try.prog) (t := 69) (e := 111) (n := 1) (vs := [(0, .agg #[.int .i64 a1.Prog, .int .i64 a1.Vers, .slice A107 l103.length c108])]) (cs := #[.int .i64 a1.Prog, .int .i64 a1.Vers, .slice A107 l103.length c108]) (by kernel_rfl)
              change St _ _ _ [[(b118, .cells #[.int .i64 a1.Prog, .int .i64 a1.Vers, .slice A107 l103.length c108] 111 (0, 0))], G109, [(b11, .cells #[.int .i64 a1.Prog, .int .i64 a1.Vers, .slice A1_1 a1.Procs.length c1_1] 111 (0, 0))], [(p0, .cells #[.slice A5 a0.L.length c6] 71 (0, 0))], G7] at S121
              refine WH.e rfl wants (E120 (evp_cons rfl evp_nil)) rfl ⟨cellsAt.of_blk (S121.blk 2 rfl) rfl, trivial⟩ ?_
              obtain ⟨l124, hc125, hF⟩ := bind_some hF
              have S126 := S121.front 1 rfl
              change St _ _ _ [G109, [(b118, .cells #[.int .i64 a1.Prog, .int .i64 a1.Vers, .slice A107 l103.length c108] 111 (0, 0))], [(b11, .cells #[.int .i64 a1.Prog, .int .i64 a1.Vers, .slice A1_1 a1.Procs.length c1_1] 111 (0, 0))], [(p0, .cells #[.slice A5 a0.L.length c6] 71 (0, 0))], G7] at S126
              have S127 := S126.front 4 rfl
              change St _ _ _ [G7, G109, [(b118, .cells #[.int .i64 a1.Prog, .int .i64 a1.Vers, .slice A107 l103.length c108] 111 (0, 0))], [(b11, .cells #[.int .i64 a1.Prog, .int .i64 a1.Vers, .slice A1_1 a1.Procs.length c1_1] 111 (0, 0))], [(p0, .cells #[.slice A5 a0.L.length c6] 71 (0, 0))]] at S127
              have S128 : St _ _ _ [G7, (G109 ++ ([])), [(b118, .cells #[.int .i64 a1.Prog, .int .i64 a1.Vers, .slice A107 l103.length c108] 111 (0, 0))], [(b11, .cells #[.int .i64 a1.Prog, .int .i64 a1.Vers, .slice A1_1 a1.Procs.length c1_1] 111 (0, 0))], [(p0, .cells #[.slice A5 a0.L.length c6] 71 (0, 0))]] := S127.objs (by simp)
              obtain ⟨A129, c130, G131, w132, E133, hO134, S135, hk136⟩ := St.app (P := Try.prog) (r := Service111.rp) (M := ([(⟨a1.Prog, a1.Vers, l103⟩ : Service111)] : List Service111)) S128 T.elt69 rfl hO8 (Rd.of_blk (S128.blk 2 rfl) (n := 1) (sz := 3) rfl) ⟨[.int .i64 a1.Prog, .int .i64 a1.Vers, .slice A107 l103.length c108], _, G109, _, rfl, rfl, ⟨A107, c108, G109, rfl, hO112, rfl⟩, ⟨rfl, rfl⟩⟩ rfl hc125
              change St _ _ _ [G131, [(b118, .cells #[.int .i64 a1.Prog, .int .i64 a1.Vers, .slice A107 l103.length c108] 111 (0, 0))], [(b11, .cells #[.int .i64 a1.Prog, .int .i64 a1.Vers, .slice A1_1 a1.Procs.length c1_1] 111 (0, 0))], [(p0, .cells #[.slice A5 a0.L.length c6] 71 (0, 0))]] at S135
              refine WH.e rfl wants (E133 rfl rfl) rfl ⟨cellsAt.of_blk (S135.blk 2 rfl) rfl, trivial⟩ ?_
              refine WH.p rfl wants (G.nilp rfl) rfl ?_
              refine WH.p rfl wants (G.field T.fld71_0 rfl (show 0 + 0 = 0 from rfl)) rfl ?_
              obtain ⟨w137, E138, S139⟩ := St.store (P := Try.prog) S135 3 69 (.slice A129 l124.length c130) (off := 0) (cur' := #[.slice A129 l124.length c130]) rfl T.size69_1 rfl rfl rfl
              change St _ _ _ [G131, [(b118, .cells #[.int .i64 a1.Prog, .int .i64 a1.Vers, .slice A107 l103.length c108] 111 (0, 0))], [(b11, .cells #[.int .i64 a1.Prog, .int .i64 a1.Vers, .slice A1_1 a1.Procs.length c1_1] 111 (0, 0))], [(p0, .cells #[.slice A129 l124.length c130] 71 (0, 0))]] at S139
              refine WH.u rfl wants (E138 rfl rfl) ⟨cellsAt.of_blk (S139.blk 2 rfl) rfl, trivial⟩ ?_
              refine WH.nil ?_
              refine WEx.then_ ?_
              refine WCode.forget (l' := []) trivial ?_
              refine WCode.seq ?_
              refine WCode.region ?_
              refine WOps.p (G.assign rfl) rfl ?_
              refine WOps.nil ?_
              refine WEx.then_ ?_
              refine WCode.ret ?_
              obtain rfl := some_eq hF
              refine WEx.ret1 rfl rfl ?_
              have S140 := S139.front 3 rfl
              change St _ _ _ [[(p0, .cells #[.slice A129 l124.length c130] 71 (0, 0))], G131, [(b118, .cells #[.int .i64 a1.Prog, .int .i64 a1.Vers, .slice A107 l103.length c108] 111 (0, 0))], [(b11, .cells #[.int .i64 a1.Prog, .int .i64 a1.Vers, .slice A1_1 a1.Procs.length c1_1] 111 (0, 0))]] at S140
              have hO141 : ObjO 71 Registry71.rp p0 (⟨l124⟩ : Registry71) ([(p0, .cells #[.slice A129 l124.length c130] 71 (0, 0))] ++ (G131)) := ⟨_, _, ⟨A129, c130, G131, rfl, hO134, rfl⟩, rfl⟩
              have S142 : St _ _ _ [[(p0, .cells #[.slice A129 l124.length c130] 71 (0, 0))] ++ (G131), [(b118, .cells #[.int .i64 a1.Prog, .int .i64 a1.Vers, .slice A107 l103.length c108] 111 (0, 0))], [(b11, .cells #[.int .i64 a1.Prog, .int .i64 a1.Vers, .slice A1_1 a1.Procs.length c1_1] 111 (0, 0))]] := S140.objs (by simp)
              exact ⟨[(p0, .cells #[.slice A129 l124.length c130] 71 (0, 0))] ++ (G131), rfl, hO141, St.keep (As := [[(p0, .cells #[.slice A129 l124.length c130] 71 (0, 0))] ++ (G131)]) S142⟩
            ·
              obtain ⟨b118, w119, E120, S121, X122, L123⟩ := St.lit S113 (P := Try.prog) (t := 69) (e := 111) (n := 1) (vs := [(0, .agg #[.int .i64 a1.Prog, .int .i64 a1.Vers, .slice A107 l103.length c108])]) (cs := #[.int .i64 a1.Prog, .int .i64 a1.Vers, .slice A107 l103.length c108]) (by kernel_rfl)
              change St _ _ _ [[(b118, .cells #[.int .i64 a1.Prog, .int .i64 a1.Vers, .slice A107 l103.length c108] 111 (0, 0))], G109, [(b11, .cells #[.int .i64 a1.Prog, .int .i64 a1.Vers, .slice A1_1 a1.Procs.length c1_1] 111 (0, 0))], [(p0, .cells #[.slice A5 a0.L.length c6] 71 (0, 0))], G7] at S121
              refine WH.e rfl wants (E120 (evp_cons rfl evp_nil)) rfl ⟨cellsAt.of_blk (S121.blk 2 rfl) rfl, trivial⟩ ?_
              refine WH.e rfl wants (GR.e (G.load1 T.one69 rfl (cell_blk (S121.blk 3 rfl) rfl))) rfl ⟨cellsAt.of_blk (S121.blk 2 rfl) rfl, trivial⟩ ?_
              obtain ⟨l124, hc125, hF⟩ := bind_some hF
              have S126 := S121.front 1 rfl
              change St _ _ _ [G109, [(b118, .cells #[.int .i64 a1.Prog, .int .i64 a1.Vers, .slice A107 l103.length c108] 111 (0, 0))], [(b11, .cells #[.int .i64 a1.Prog, .int .i64 a1.Vers, .slice A1_1 a1.Procs.length c1_1] 111 (0, 0))], [(p0, .cells #[.slice A5 a0.L.length c6] 71 (0, 0))], G7] at S126
              have S127 := S126.front 4 rfl
              change St _ _ _ [G7, G109, [(b118, .cells #[.int .i64 a1.Prog, .int .i64 a1.Vers, .slice A107 l103.length c108] 111 (0, 0))], [(b11, .cells #[.int .i64 a1.Prog, .int .i64 a1.Vers, .slice A1_1 a1.Procs.length c1_1] 111 (0, 0))], [(p0, .cells #[.slice A5 a0.L.length c6] 71 (0, 0))]] at S127
              have S128 : St _ _ _ [G7, (G109 ++ ([])), [(b118, .cells #[.int .i64 a1.Prog, .int .i64 a1.Vers, .slice A107 l103.length c108] 111 (0, 0))], [(b11, .cells #[.int .i64 a1.Prog, .int .i64 a1.Vers, .slice A1_1 a1.Procs.length c1_1] 111 (0, 0))], [(p0, .cells #[.slice A5 a0.L.length c6] 71 (0, 0))]] := S127.objs (by simp)
              obtain ⟨A129, c130, G131, w132, E133, hO134, S135, hk136⟩ := St.app (P := Try.prog) (r := Service111.rp) (M := ([(⟨a1.Prog, a1.Vers, l103⟩ : Service111)] : List Service111)) S128 T.elt69 rfl hO8 (Rd.of_blk (S128.blk 2 rfl) (n := 1) (sz := 3) rfl) ⟨[.int .i64 a1.Prog, .int .i64 a1.Vers, .slice A107 l103.length c108], _, G109, _, rfl, rfl, ⟨A107, c108, G109, rfl, hO112, rfl⟩, ⟨rfl, rfl⟩⟩ rfl hc125
              change St _ _ _ [G131, [(b118, .cells #[.int .i64 a1.Prog, .int .i64 a1.Vers, .slice A107 l103.length c108] 111 (0, 0))], [(b11, .cells #[.int .i64 a1.Prog, .int .i64 a1.Vers, .slice A1_1 a1.Procs.length c1_1] 111 (0, 0))], [(p0, .cells #[.slice A5 a0.L.length c6] 71 (0, 0))]] at S135
              refine WH.e rfl wants (E133 rfl rfl) rfl ⟨cellsAt.of_blk (S135.blk 2 rfl) rfl, trivial⟩ ?_
              refine WH.p rfl wants (G.nilp rfl) rfl ?_
              refine WH.p rfl wants (G.field T.fld71_0 rfl (show 0 + 0 = 0 from rfl)) rfl ?_
              obtain ⟨w137, E138, S139⟩ := St.store (P := Try.prog) S135 3 69 (.slice A129 l124.length c130) (off := 0) (cur' := #[.slice A129 l124.length c130]) rfl T.size69_1 rfl rfl rfl
              change St _ _ _ [G131, [(b118, .cells #[.int .i64 a1.Prog, .int .i64 a1.Vers, .slice A107 l103.length c108] 111 (0, 0))], [(b11, .cells #[.int .i64 a1.Prog, .int .i64 a1.Vers, .slice A1_1 a1.Procs.length c1_1] 111 (0, 0))], [(p0, .cells #[.slice A129 l124.length c130] 71 (0, 0))]] at S139
              refine WH.u rfl wants (E138 rfl rfl) ⟨cellsAt.of_blk (S139.blk 2 rfl) rfl, trivial⟩ ?_
              refine WH.nil ?_
              refine WEx.then_ ?_
              refine WCode.forget (l' := []) trivial ?_
              refine WCode.seq ?_
              refine WCode.region ?_
              refine WOps.p (G.assign rfl) rfl ?_
              refine WOps.nil ?_
              refine WEx.then_ ?_
              refine WCode.ret ?_
              obtain rfl := some_eq hF
              refine WEx.ret1 rfl rfl ?_
              have S140 := S139.front 3 rfl
              change St _ _ _ [[(p0, .cells #[.slice A129 l124.length c130] 71 (0, 0))], G131, [(b118, .cells #[.int .i64 a1.Prog, .int .i64 a1.Vers, .slice A107 l103.length c108] 111 (0, 0))], [(b11, .cells #[.int .i64 a1.Prog, .int .i64 a1.Vers, .slice A1_1 a1.Procs.length c1_1] 111 (0, 0))]] at S140
              have hO141 : ObjO 71 Registry71.rp p0 (⟨l124⟩ : Registry71) ([(p0, .cells #[.slice A129 l124.length c130] 71 (0, 0))] ++ (G131)) := ⟨_, _, ⟨A129, c130, G131, rfl, hO134, rfl⟩, rfl⟩
              have S142 : St _ _ _ [[(p0, .cells #[.slice A129 l124.length c130] 71 (0, 0))] ++ (G131), [(b118, .cells #[.int .i64 a1.Prog, .int .i64 a1.Vers, .slice A107 l103.length c108] 111 (0, 0))], [(b11, .cells #[.int .i64 a1.Prog, .int .i64 a1.Vers, .slice A1_1 a1.Procs.length c1_1] 111 (0, 0))]] := S140.objs (by simp)
              exact ⟨[(p0, .cells #[.slice A129 l124.length c130] 71 (0, 0))] ++ (G131), rfl, hO141, St.keep (As := [[(p0, .cells #[.slice A129 l124.length c130] 71 (0, 0))] ++ (G131)]) S142⟩

def rv_has.l1 : Nat → Service111 → Int → Int → Option Bool
  | 0, _, _, _ => none
  | k10 + 1, a0, a1, x7 => (if x7 < (a0.Procs.length : Int) then (Option.bind (idx a0.Procs x7) fun x14 => (if x14 = a1 then (some true) else (rv_has.l1 k10 a0 a1 (w64 (x7 + 1))))) else (some (decide (a1 = 0))))
def rv_has (k : Nat) (a0 : Service111) (a1 : Int) : Option Bool := (rv_has.l1 k a0 a1 0)
set_option maxRecDepth 100000 in
set_option maxHeartbeats 1000000 in
theorem rv_has_calls (k : Nat) (a0 : Service111) {A0_1 : Option Addr} {c0_1 : Nat} {F0_1 : Nat → Prop} (a1 : Int) {w : World} (hR0_1 : SlR (Rp.int .i64) w F0_1 A0_1 c0_1 a0.Procs) (hF0_1 : ∀ b, F0_1 b → NK w [] b) {r_ : Bool} (h_ : rv_has k a0 a1 = some r_) :
    Calls Try.prog 51 [.agg #[.int .i64 a0.Prog, .int .i64 a0.Vers, .slice A0_1 a0.Procs.length c0_1], .int .i64 a1].toArray w fun e w' => e = .returned (.bool r_) ∧ St w (KS []) w' [] := by
  have hF := h_
  clear h_
  unfold rv_has at hF
  have S := St.ofFalse (As := []) (St.init0 w)
  refine enter 22 [(0, .agg #[.int .i64 a0.Prog, .int .i64 a0.Vers, .slice A0_1 a0.Procs.length c0_1]), (1, .int .i64 a1)] Try.func51 rfl rfl rfl rfl ?_
  refine WCode.seq ?_
  refine WCode.region ?_
  obtain ⟨b1, w2, E3, S4, X5, L6⟩ := St.box S Try.prog 111 (.agg #[.int .i64 a0.Prog, .int .i64 a0.Vers, .slice A0_1 a0.Procs.length c0_1])
  change St _ _ _ [[(b1, .cells #[.int .i64 a0.Prog, .int .i64 a0.Vers, .slice A0_1 a0.Procs.length c0_1] 111 (0, 0))]] at S4
  refine WOps.e (E3 rfl) rfl ?_
  refine WOps.p (G.assign rfl) rfl ?_
  refine WOps.nil ?_
  refine WEx.then_ ?_
  refine WCode.seq ?_
  refine WCode.seq ?_
  refine WCode.region ?_
  refine WOps.p (G.assign rfl) rfl ?_
  refine WOps.nil ?_
  refine WEx.then_ ?_
  refine WCode.block ?_
  refine WCode.forget (l' := [(1, .int .i64 a1), (2, .pointer (some ⟨b1, 0, none⟩)), (5, .int .i64 0)]) ⟨rfl, rfl, rfl, trivial⟩ ?_
  refine WCode.loop (fun n_ l_ w_ => ∃ x7 : Int, l_ = [(1, .int .i64 a1), (2, .pointer (some ⟨b1, 0, none⟩)), (5, .int .i64 x7)] ∧ rv_has.l1 n_ a0 a1 x7 = some r_ ∧ St w (KS []) w_ [[(b1, .cells #[.int .i64 a0.Prog, .int .i64 a0.Vers, .slice A0_1 a0.Procs.length c0_1] 111 (0, 0))]]) k ⟨0, rfl, hF, S4⟩ ?_
  rintro n11 _ w8 ⟨x7, rfl, hF, S9⟩
  obtain _ | k10 := n11
  · exact nomatch (show (none : Option Bool) = some r_ from hF)
  rw [rv_has.l1] at hF
  refine WCode.seq ?_
  refine WCode.seq ?_
  refine WCode.region ?_
  refine WOps.p (G.move rfl) rfl ?_
  refine WOps.p (G.field T.fld111_2 rfl (show 0 + 2 = 2 from rfl)) rfl ?_
  refine WOps.r (G.load1 T.one49 rfl (cell_blk (S9.blk 0 rfl) rfl)) rfl ?_
  refine WOps.p (G.len T.el49 rfl) rfl ?_
  refine WOps.p (G.lss rfl rfl rfl) rfl ?_
  refine WOps.nil ?_
  refine WEx.then_ ?_
  rcases ite_some hF with ⟨h13, hF⟩ | ⟨h13, hF⟩
  ·
    refine WCode.cond_t (kb (b := decide (x7 < (a0.Procs.length : Int))) rfl (decide_eq_true h13)) ?_
    refine WCode.skip ?_
    refine WEx.then_ ?_
    refine WCode.seq ?_
    refine WCode.block ?_
    refine WCode.seq ?_
    refine WCode.region ?_
    refine WOps.p (G.field T.fld111_2 rfl (show 0 + 2 = 2 from rfl)) rfl ?_
    refine WOps.r (G.load1 T.one49 rfl (cell_blk (S9.blk 0 rfl) rfl)) rfl ?_
    refine WOps.p (G.move rfl) rfl ?_
    obtain ⟨x14, hc15, hF⟩ := bind_some hF
    obtain ⟨j16, ej17, hj18, hl19⟩ := idx_spec hc15
    obtain ⟨b20, o21, cs22, eA23, hf24, hc25, hr26⟩ := SlR.at_ (hR0_1.ext (S9.keepF hF0_1)) hj18
    have hq27 : cs22 = [.int .i64 x14] := hr26
    subst hq27
    change cellsAt _ _ (o21 + j16 * 1) [.int .i64 x14] at hc25
    refine WOps.p (G.idx T.el49 rfl eA23 rfl ej17 hl19) rfl ?_
    refine WOps.r (G.load1 T.one3 rfl (cellsAt.at0 hc25)) rfl ?_
    refine WOps.p (G.move rfl) rfl ?_
    refine WOps.p (G.eql rfl rfl rfl) rfl ?_
    refine WOps.nil ?_
    refine WEx.then_ ?_
    refine WCode.forget (l' := [(1, .int .i64 a1), (2, .pointer (some ⟨b1, 0, none⟩)), (5, .int .i64 x7), (19, .bool (decide (x14 = a1)))]) ⟨rfl, rfl, rfl, rfl, trivial⟩ ?_
    rcases ite_some hF with ⟨h28, hF⟩ | ⟨h28, hF⟩
    ·
      refine WCode.cond_t (kb (b := decide (x14 = a1)) rfl (decide_eq_true h28)) ?_
      refine WCode.seq ?_
      refine WCode.region ?_
      refine WOps.p (G.assign rfl) rfl ?_
      refine WOps.nil ?_
      refine WEx.then_ ?_
      refine WCode.ret ?_
      refine WEx.in_ret ?_
      refine WEx.then_ret ?_
      refine WEx.then_ret ?_
      refine WEx.in_ret ?_
      refine WEx.then_ret ?_
      obtain rfl := some_eq hF
      refine WEx.ret1 rfl rfl ?_
      exact ⟨rfl, St.keep (As := []) S9⟩
    ·
      refine WCode.cond_f (kb (b := decide (x14 = a1)) rfl (decide_eq_false h28)) ?_
      refine WCode.skip ?_
      refine WEx.in_normal ?_
      refine WEx.then_ ?_
      refine WCode.region ?_
      refine WOps.p (G.move rfl) rfl ?_
      refine WOps.p (G.add rfl rfl (r := (w64 (x7 + 1))) rfl) rfl ?_
      refine WOps.p (G.assign rfl) rfl ?_
      refine WOps.nil ?_
      refine WEx.again _ _ (by omega) ?_ ⟨w64 (x7 + 1), rfl, hF, S9⟩
      exact ⟨rfl, rfl, rfl, trivial⟩
  ·
    refine WCode.cond_f (kb (b := decide (x7 < (a0.Procs.length : Int))) rfl (decide_eq_false h13)) ?_
    refine WCode.exit ?_
    refine WEx.then_exit ?_
    refine WEx.then_exit ?_
    refine WEx.in_exit ?_
    refine WEx.then_ ?_
    refine WCode.seq ?_
    refine WCode.region ?_
    refine WOps.p (G.move rfl) rfl ?_
    refine WOps.p (G.eql rfl rfl rfl) rfl ?_
    refine WOps.p (G.assign rfl) rfl ?_
    refine WOps.nil ?_
    refine WEx.then_ ?_
    refine WCode.forget (l' := [(4, .bool (decide (a1 = 0)))]) ⟨rfl, trivial⟩ ?_
    refine WCode.ret ?_
    obtain rfl := some_eq hF
    refine WEx.ret1 rfl rfl ?_
    exact ⟨rfl, St.keep (As := []) S9⟩

mutual
def rv_Find.j1 : Nat → Registry71 → Int → Int → Int → Int → Int → Int → Service111 → Bool → Option (Int × Int × Int)
  | 0, _, _, _, _, _, _, _, _, _ => none
  | k58 + 1, a0, a1, a2, a3, x8, x9, x10, x17, b52 => (if b52 = true then (rv_Find.l1 k58 a0 a1 a2 a3 x17.Vers (max x9 x17.Vers) (w64 (x10 + 1))) else (rv_Find.l1 k58 a0 a1 a2 a3 x8 (max x9 x17.Vers) (w64 (x10 + 1))))
def rv_Find.l1 : Nat → Registry71 → Int → Int → Int → Int → Int → Int → Option (Int × Int × Int)
  | 0, _, _, _, _, _, _, _ => none
  | k13 + 1, a0, a1, a2, a3, x8, x9, x10 => (if x10 < (a0.L.length : Int) then (Option.bind (idx a0.L x10) fun x17 => (if x17.Prog = a1 then (if x17.Vers = a2 then (Option.bind (rv_has k13 x17 a3) fun t46 => (if t46 = true then (some (0, 0, 0)) else (some (3, 0, 0)))) else (if x8 < 0 then (rv_Find.j1 k13 a0 a1 a2 a3 x8 x9 x10 x17 true) else (rv_Find.j1 k13 a0 a1 a2 a3 x8 x9 x10 x17 (decide (x17.Vers < x8))))) else (rv_Find.l1 k13 a0 a1 a2 a3 x8 x9 (w64 (x10 + 1))))) else (if x8 < 0 then (some (1, 0, 0)) else (some (2, x8, x9))))
end
def rv_Find (k : Nat) (a0 : Registry71) (a1 : Int) (a2 : Int) (a3 : Int) : Option (Int × Int × Int) := (rv_Find.l1 k a0 a1 a2 a3 (-1) (-1) 0)
set_option maxRecDepth 100000 in
set_option maxHeartbeats 1000000 in
theorem rv_Find_calls (k : Nat) (a0 : Registry71) {p0 : Nat} {F0 : Nat → Prop} (a1 : Int) (a2 : Int) (a3 : Int) {w : World} (hP0 : PtR 71 Registry71.rp w F0 p0 a0) (hF0 : ∀ b, F0 b → NK w [] b) {r_ : Int × Int × Int} (h_ : rv_Find k a0 a1 a2 a3 = some r_) :
    Calls Try.prog 30 [.pointer (some ⟨p0, 0, none⟩), .int .i64 a1, .int .i64 a2, .int .i64 a3].toArray w fun e w' => e = .returned (.tuple #[.int .i64 r_.1, .int .i64 r_.2.1, .int .i64 r_.2.2]) ∧ St w (KS []) w' [] := by
  have hF := h_
  clear h_
  unfold rv_Find at hF
  have S := St.ofFalse (As := []) (St.init0 w)
  have hPq0 := hP0
  obtain ⟨cs1, hB2, hf3, A5, c6, hq4, hR7⟩ := hPq0
  subst hq4
  change _ = some (Obj.cells #[.slice A5 a0.L.length c6] 71 (0, 0)) at hB2
  refine enter 63 [(0, .pointer (some ⟨p0, 0, none⟩)), (1, .int .i64 a1), (2, .int .i64 a2), (3, .int .i64 a3)] Try.func30 rfl rfl rfl rfl ?_
  refine WCode.seq ?_
  refine WCode.region ?_
  refine WOps.p (G.assign rfl) rfl ?_
  refine WOps.p (G.assign rfl) rfl ?_
  refine WOps.p (G.assign rfl) rfl ?_
  refine WOps.nil ?_
  refine WEx.then_ ?_
  refine WCode.seq ?_
  refine WCode.region ?_
  refine WOps.p (G.assign rfl) rfl ?_
  refine WOps.nil ?_
  refine WEx.then_ ?_
  refine WCode.seq ?_
  refine WCode.region ?_
  refine WOps.p (G.assign rfl) rfl ?_
  refine WOps.nil ?_
  refine WEx.then_ ?_
  refine WCode.seq ?_
  refine WCode.seq ?_
  refine WCode.region ?_
  refine WOps.p (G.assign rfl) rfl ?_
  refine WOps.nil ?_
  refine WEx.then_ ?_
  refine WCode.block ?_
  refine WCode.forget (l' := [(0, .pointer (some ⟨p0, 0, none⟩)), (1, .int .i64 a1), (2, .int .i64 a2), (3, .int .i64 a3), (11, .int .i64 (-1)), (12, .int .i64 (-1)), (13, .int .i64 0)]) ⟨rfl, rfl, rfl, rfl, rfl, rfl, rfl, trivial⟩ ?_
  refine WCode.loop (fun n_ l_ w_ => ∃ x8 : Int, ∃ x9 : Int, ∃ x10 : Int, l_ = [(0, .pointer (some ⟨p0, 0, none⟩)), (1, .int .i64 a1), (2, .int .i64 a2), (3, .int .i64 a3), (11, .int .i64 x8), (12, .int .i64 x9), (13, .int .i64 x10)] ∧ rv_Find.l1 n_ a0 a1 a2 a3 x8 x9 x10 = some r_ ∧ St w (KS []) w_ []) k ⟨-1, -1, 0, rfl, hF, S⟩ ?_
  rintro n14 _ w11 ⟨x8, x9, x10, rfl, hF, S12⟩
  obtain _ | k13 := n14
  · exact nomatch (show (none : Option (Int × Int × Int)) = some r_ from hF)
  rw [rv_Find.l1] at hF
  refine WCode.seq ?_
  refine WCode.seq ?_
  refine WCode.region ?_
  refine WOps.p (G.move rfl) rfl ?_
  refine WOps.p (G.move rfl) rfl ?_
  refine WOps.p (G.nilp rfl) rfl ?_
  refine WOps.p (G.field T.fld71_0 rfl (show 0 + 0 = 0 from rfl)) rfl ?_
  refine WOps.r (G.load1 T.one69 rfl (cell_blk ((S12.fr p0 (lt_of_blk hB2) (hF0 p0 hf3).1).trans hB2) rfl)) rfl ?_
  refine WOps.p (G.len T.el69 rfl) rfl ?_
  refine WOps.p (G.lss rfl rfl rfl) rfl ?_
  refine WOps.nil ?_
  refine WEx.then_ ?_
  rcases ite_some hF with ⟨h16, hF⟩ | ⟨h16, hF⟩
  ·
    refine WCode.cond_t (kb (b := decide (x10 < (a0.L.length : Int))) rfl (decide_eq_true h16)) ?_
    refine WCode.skip ?_
    refine WEx.then_ ?_
    refine WCode.seq ?_
    refine WCode.block ?_
    refine WCode.seq ?_
    refine WCode.region ?_
    refine WOps.p (G.move rfl) rfl ?_
    refine WOps.p (G.nilp rfl) rfl ?_
    refine WOps.p (G.field T.fld71_0 rfl (show 0 + 0 = 0 from rfl)) rfl ?_
    refine WOps.r (G.load1 T.one69 rfl (cell_blk ((S12.fr p0 (lt_of_blk hB2) (hF0 p0 hf3).1).trans hB2) rfl)) rfl ?_
    refine WOps.p (G.move rfl) rfl ?_
    obtain ⟨x17, hc18, hF⟩ := bind_some hF
    obtain ⟨j19, ej20, hj21, hl22⟩ := idx_spec hc18
    obtain ⟨b23, o24, cs25, eA26, hf27, hc28, hr29⟩ := SlR.at_ hR7 hj21
    obtain ⟨A30, c31, hq33, hR32⟩ := hr29
    subst hq33
    have hc28 := hc28.move ((S12.keepF hF0) _ hf27)
    change cellsAt _ _ (o24 + j19 * 3) [.int .i64 x17.Prog, .int .i64 x17.Vers, .slice A30 x17.Procs.length c31] at hc28
    refine WOps.p (G.idx T.el69 rfl eA26 rfl ej20 hl22) rfl ?_
    refine WOps.r (G.loada T.agg111_3 rfl (cs := [.int .i64 x17.Prog, .int .i64 x17.Vers, .slice A30 x17.Procs.length c31]) hc28) rfl ?_
    obtain ⟨b34, w35, E36, S37, X38, L39⟩ := St.var S12 (z := .agg #[.int .i64 0, .int .i64 0, .slice none 0 0]) T.zero111
    have c40 := hc28.ext X38
    change St _ _ _ [[(b34, .cells #[.int .i64 0, .int .i64 0, .slice none 0 0] 111 (0, 0))]] at S37
    refine WOps.e E36 rfl ?_
    obtain ⟨w41, E42, S43⟩ := St.store (P := Try.prog) S37 0 111 (.agg #[.int .i64 x17.Prog, .int .i64 x17.Vers, .slice A30 x17.Procs.length c31]) (off := 0) (cur' := #[.int .i64 x17.Prog, .int .i64 x17.Vers, .slice A30 x17.Procs.length c31]) rfl T.size111_3 rfl rfl rfl
    change St _ _ _ [[(b34, .cells #[.int .i64 x17.Prog, .int .i64 x17.Vers, .slice A30 x17.Procs.length c31] 111 (0, 0))]] at S43
    refine WOps.u (E42 rfl rfl) ?_
    refine WOps.nil ?_
    refine WEx.then_ ?_
    refine WCode.forget (l' := [(0, .pointer (some ⟨p0, 0, none⟩)), (1, .int .i64 a1), (2, .int .i64 a2), (3, .int .i64 a3), (11, .int .i64 x8), (12, .int .i64 x9), (13, .int .i64 x10), (14, .pointer (some ⟨b34, 0, none⟩))]) ⟨rfl, rfl, rfl, rfl, rfl, rfl, rfl, rfl, trivial⟩ ?_
    refine WCode.seq ?_
    refine WCode.seq ?_
    refine WCode.region ?_
    refine WOps.p (G.field T.fld111_0 rfl (show 0 + 0 = 0 from rfl)) rfl ?_
    refine WOps.r (G.load1 T.one3 rfl (cell_blk (S43.blk 0 rfl) rfl)) rfl ?_
    refine WOps.p (G.move rfl) rfl ?_
    refine WOps.p (G.neq rfl rfl rfl) rfl ?_
    refine WOps.nil ?_
    refine WEx.then_ ?_
    rcases ite_some hF with ⟨h44, hF⟩ | ⟨h44, hF⟩
    ·
      refine WCode.cond_f (kb (b := !(decide (x17.Prog = a1))) rfl (show (!(decide (x17.Prog = a1))) = false from by rw [(decide_eq_true h44)]; rfl)) ?_
      refine WCode.skip ?_
      refine WEx.then_ ?_
      refine WCode.seq ?_
      refine WCode.seq ?_
      refine WCode.region ?_
      refine WOps.p (G.field T.fld111_1 rfl (show 0 + 1 = 1 from rfl)) rfl ?_
      refine WOps.r (G.load1 T.one3 rfl (cell_blk (S43.blk 0 rfl) rfl)) rfl ?_
      refine WOps.p (G.move rfl) rfl ?_
      refine WOps.p (G.eql rfl rfl rfl) rfl ?_
      refine WOps.nil ?_
      refine WEx.then_ ?_
      rcases ite_some hF with ⟨h45, hF⟩ | ⟨h45, hF⟩
      ·
        refine WCode.cond_t (kb (b := decide (x17.Vers = a2)) rfl (decide_eq_true h45)) ?_
        refine WCode.seq ?_
        refine WCode.region ?_
        refine WOps.r (G.loada T.agg111_3 rfl (cs := [.int .i64 x17.Prog, .int .i64 x17.Vers, .slice A30 x17.Procs.length c31]) (cellsAt.of_blk (S43.blk 0 rfl) rfl)) rfl ?_
        refine WOps.p (G.move rfl) rfl ?_
        obtain ⟨t46, hc47, hF⟩ := bind_some hF
        refine WOps.call T.call51 (evs_cons rfl (evs_cons rfl evs_nil)) rfl ?_
        refine (rv_has_calls k13 x17 a3 (hR32.ext (S43.keepF hF0)) (St.outF (Bs := []) S43 hF0) hc47).mono ?_
        rintro _ w48 ⟨rfl, T49⟩
        have S50 := St.callN (As := []) S43 T49
        change St _ _ _ [[(b34, .cells #[.int .i64 x17.Prog, .int .i64 x17.Vers, .slice A30 x17.Procs.length c31] 111 (0, 0))]] at S50
        refine ⟨_, rfl, ?_⟩
        refine WOps.p (G.assign rfl) rfl ?_
        refine WOps.nil ?_
        refine WEx.then_ ?_
        refine WCode.forget (l' := [(15, .bool t46)]) ⟨rfl, trivial⟩ ?_
        refine WCode.seq ?_
        refine WCode.seq ?_
        refine WCode.region ?_
        refine WOps.p (G.move rfl) rfl ?_
        refine WOps.p (G.not rfl rfl) rfl ?_
        refine WOps.nil ?_
        refine WEx.then_ ?_
        rcases ite_some hF with ⟨h51, hF⟩ | ⟨h51, hF⟩
        ·
          refine WCode.cond_f (kb (b := !t46) rfl (show (!t46) = false from by rw [h51]; rfl)) ?_
          refine WCode.skip ?_
          refine WEx.then_ ?_
          refine WCode.seq ?_
          refine WCode.region ?_
          refine WOps.p (G.assign rfl) rfl ?_
          refine WOps.p (G.assign rfl) rfl ?_
          refine WOps.p (G.assign rfl) rfl ?_
          refine WOps.nil ?_
          refine WEx.then_ ?_
          refine WCode.ret ?_
          refine WEx.then_ret ?_
          refine WEx.in_ret ?_
          refine WEx.then_ret ?_
          refine WEx.then_ret ?_
          refine WEx.in_ret ?_
          refine WEx.then_ret ?_
          obtain rfl := some_eq hF
          refine WEx.ret3 rfl rfl rfl rfl ?_
          exact ⟨rfl, St.keep (As := []) S50⟩
        ·
          refine WCode.cond_t (kb (b := !t46) rfl (show (!t46) = true from by rw [(Bool.eq_false_iff.2 h51)]; rfl)) ?_
          refine WCode.seq ?_
          refine WCode.region ?_
          refine WOps.p (G.assign rfl) rfl ?_
          refine WOps.p (G.assign rfl) rfl ?_
          refine WOps.p (G.assign rfl) rfl ?_
          refine WOps.nil ?_
          refine WEx.then_ ?_
          refine WCode.ret ?_
          refine WEx.then_ret ?_
          refine WEx.then_ret ?_
          refine WEx.in_ret ?_
          refine WEx.then_ret ?_
          refine WEx.then_ret ?_
          refine WEx.in_ret ?_
          refine WEx.then_ret ?_
          obtain rfl := some_eq hF
          refine WEx.ret3 rfl rfl rfl rfl ?_
          exact ⟨rfl, St.keep (As := []) S50⟩
      ·
        refine WCode.cond_f (kb (b := decide (x17.Vers = a2)) rfl (decide_eq_false h45)) ?_
        refine WCode.skip ?_
        refine WEx.then_ ?_
        refine WCode.seq ?_
        refine WCode.cutseq (fun l_ w_ => ∃ q55 : Nat, ∃ b52 : Bool, l_ = [(0, .pointer (some ⟨p0, 0, none⟩)), (1, .int .i64 a1), (2, .int .i64 a2), (3, .int .i64 a3), (11, .int .i64 x8), (12, .int .i64 x9), (13, .int .i64 x10), (14, .pointer (some ⟨b34, 0, none⟩)), (52, .bool b52)] ∧ rv_Find.j1 q55 a0 a1 a2 a3 x8 x9 x10 x17 b52 = some r_ ∧ q55 ≤ k13 ∧ St w (KS []) w_ [[(b34, .cells #[.int .i64 x17.Prog, .int .i64 x17.Vers, .slice A30 x17.Procs.length c31] 111 (0, 0))]]) ?_ ?_
        ·
          refine WCode.region ?_
          refine WOps.p (G.move rfl) rfl ?_
          refine WOps.p (G.lss rfl rfl rfl) rfl ?_
          refine WOps.p (G.move rfl) rfl ?_
          rcases ite_some hF with ⟨h57, hF⟩ | ⟨h57, hF⟩
          ·
            refine WOps.off rfl (kbl (b := decide (x8 < 0)) rfl (decide_eq_true h57)) rfl rfl ?_
            refine WOps.off rfl (kbl (b := decide (x8 < 0)) rfl (decide_eq_true h57)) rfl rfl ?_
            refine WOps.off rfl (kbl (b := decide (x8 < 0)) rfl (decide_eq_true h57)) rfl rfl ?_
            refine WOps.off rfl (kbl (b := decide (x8 < 0)) rfl (decide_eq_true h57)) rfl rfl ?_
            refine WOps.p (G.pick_t (kb (b := decide (x8 < 0)) rfl (decide_eq_true h57)) rfl) rfl ?_
            refine WOps.nil ?_
            refine WEx.cutend _ ?_ ⟨k13, true, rfl, hF, (by omega), S43⟩
            exact ⟨rfl, rfl, rfl, rfl, rfl, rfl, rfl, rfl, rfl, trivial⟩
          ·
            refine WOps.on rfl (kbl (b := decide (x8 < 0)) rfl (decide_eq_false h57)) ?_
            refine WOps.p (G.field T.fld111_1 rfl (show 0 + 1 = 1 from rfl)) rfl ?_
            refine WOps.on rfl (kbl (b := decide (x8 < 0)) rfl (decide_eq_false h57)) ?_
            refine WOps.r (G.load1 T.one3 rfl (cell_blk (S43.blk 0 rfl) rfl)) rfl ?_
            refine WOps.on rfl (kbl (b := decide (x8 < 0)) rfl (decide_eq_false h57)) ?_
            refine WOps.p (G.move rfl) rfl ?_
            refine WOps.on rfl (kbl (b := decide (x8 < 0)) rfl (decide_eq_false h57)) ?_
            refine WOps.p (G.lss rfl rfl rfl) rfl ?_
            refine WOps.p (G.pick_f (kb (b := decide (x8 < 0)) rfl (decide_eq_false h57)) rfl) rfl ?_
            refine WOps.nil ?_
            refine WEx.cutend _ ?_ ⟨k13, decide (x17.Vers < x8), rfl, hF, (by omega), S43⟩
            exact ⟨rfl, rfl, rfl, rfl, rfl, rfl, rfl, rfl, rfl, trivial⟩
        ·
          rintro _ w53 ⟨q55, b52, rfl, hF, hq56, S54⟩
          obtain _ | k58 := q55
          · exact nomatch (show (none : Option (Int × Int × Int)) = some r_ from hF)
          rw [rv_Find.j1] at hF
          rcases ite_some hF with ⟨h59, hF⟩ | ⟨h59, hF⟩
          ·
            refine WCode.cond_t (kb (b := b52) rfl h59) ?_
            refine WCode.region ?_
            refine WOps.p (G.field T.fld111_1 rfl (show 0 + 1 = 1 from rfl)) rfl ?_
            refine WOps.r (G.load1 T.one3 rfl (cell_blk (S54.blk 0 rfl) rfl)) rfl ?_
            refine WOps.p (G.assign rfl) rfl ?_
            refine WOps.nil ?_
            refine WEx.then_ ?_
            refine WCode.region ?_
            refine WOps.p (G.move rfl) rfl ?_
            refine WOps.p (G.field T.fld111_1 rfl (show 0 + 1 = 1 from rfl)) rfl ?_
            refine WOps.r (G.load1 T.one3 rfl (cell_blk (S54.blk 0 rfl) rfl)) rfl ?_
            refine WOps.p (G.max rfl rfl (int_max x9 x17.Vers)) rfl ?_
            refine WOps.p (G.assign rfl) rfl ?_
            refine WOps.nil ?_
            refine WEx.in_normal ?_
            refine WEx.then_ ?_
            refine WCode.region ?_
            refine WOps.p (G.move rfl) rfl ?_
            refine WOps.p (G.add rfl rfl (r := (w64 (x10 + 1))) rfl) rfl ?_
            refine WOps.p (G.assign rfl) rfl ?_
            refine WOps.nil ?_
            have S60 := St.keep (As := []) S54
            refine WEx.again _ _ (by omega) ?_ ⟨x17.Vers, max x9 x17.Vers, w64 (x10 + 1), rfl, hF, S60⟩
            exact ⟨rfl, rfl, rfl, rfl, rfl, rfl, rfl, trivial⟩
          ·
            refine WCode.cond_f (kb (b := b52) rfl (Bool.eq_false_iff.2 h59)) ?_
            refine WCode.skip ?_
            refine WEx.then_ ?_
            refine WCode.region ?_
            refine WOps.p (G.move rfl) rfl ?_
            refine WOps.p (G.field T.fld111_1 rfl (show 0 + 1 = 1 from rfl)) rfl ?_
            refine WOps.r (G.load1 T.one3 rfl (cell_blk (S54.blk 0 rfl) rfl)) rfl ?_
            refine WOps.p (G.max rfl rfl (int_max x9 x17.Vers)) rfl ?_
            refine WOps.p (G.assign rfl) rfl ?_
            refine WOps.nil ?_
            refine WEx.in_normal ?_
            refine WEx.then_ ?_
            refine WCode.region ?_
            refine WOps.p (G.move rfl) rfl ?_
            refine WOps.p (G.add rfl rfl (r := (w64 (x10 + 1))) rfl) rfl ?_
            refine WOps.p (G.assign rfl) rfl ?_
            refine WOps.nil ?_
            have S61 := St.keep (As := []) S54
            refine WEx.again _ _ (by omega) ?_ ⟨x8, max x9 x17.Vers, w64 (x10 + 1), rfl, hF, S61⟩
            exact ⟨rfl, rfl, rfl, rfl, rfl, rfl, rfl, trivial⟩
    ·
      refine WCode.cond_t (kb (b := !(decide (x17.Prog = a1))) rfl (show (!(decide (x17.Prog = a1))) = true from by rw [(decide_eq_false h44)]; rfl)) ?_
      refine WCode.exit ?_
      refine WEx.then_exit ?_
      refine WEx.in_exit ?_
      refine WEx.then_ ?_
      refine WCode.region ?_
      refine WOps.p (G.move rfl) rfl ?_
      refine WOps.p (G.add rfl rfl (r := (w64 (x10 + 1))) rfl) rfl ?_
      refine WOps.p (G.assign rfl) rfl ?_
      refine WOps.nil ?_
      have S62 := St.keep (As := []) S43
      refine WEx.again _ _ (by omega) ?_ ⟨x8, x9, w64 (x10 + 1), rfl, hF, S62⟩
      exact ⟨rfl, rfl, rfl, rfl, rfl, rfl, rfl, trivial⟩
  ·
    refine WCode.cond_f (kb (b := decide (x10 < (a0.L.length : Int))) rfl (decide_eq_false h16)) ?_
    refine WCode.exit ?_
    refine WEx.then_exit ?_
    refine WEx.then_exit ?_
    refine WEx.in_exit ?_
    refine WEx.then_ ?_
    refine WCode.forget (l' := [(11, .int .i64 x8), (12, .int .i64 x9)]) ⟨rfl, rfl, trivial⟩ ?_
    refine WCode.seq ?_
    refine WCode.seq ?_
    refine WCode.region ?_
    refine WOps.p (G.move rfl) rfl ?_
    refine WOps.p (G.lss rfl rfl rfl) rfl ?_
    refine WOps.nil ?_
    refine WEx.then_ ?_
    rcases ite_some hF with ⟨h63, hF⟩ | ⟨h63, hF⟩
    ·
      refine WCode.cond_t (kb (b := decide (x8 < 0)) rfl (decide_eq_true h63)) ?_
      refine WCode.seq ?_
      refine WCode.region ?_
      refine WOps.p (G.assign rfl) rfl ?_
      refine WOps.p (G.assign rfl) rfl ?_
      refine WOps.p (G.assign rfl) rfl ?_
      refine WOps.nil ?_
      refine WEx.then_ ?_
      refine WCode.ret ?_
      refine WEx.then_ret ?_
      obtain rfl := some_eq hF
      refine WEx.ret3 rfl rfl rfl rfl ?_
      exact ⟨rfl, St.keep (As := []) S12⟩
    ·
      refine WCode.cond_f (kb (b := decide (x8 < 0)) rfl (decide_eq_false h63)) ?_
      refine WCode.skip ?_
      refine WEx.then_ ?_
      refine WCode.seq ?_
      refine WCode.region ?_
      refine WOps.p (G.move rfl) rfl ?_
      refine WOps.p (G.move rfl) rfl ?_
      refine WOps.p (G.assign rfl) rfl ?_
      refine WOps.p (G.assign rfl) rfl ?_
      refine WOps.p (G.assign rfl) rfl ?_
      refine WOps.nil ?_
      refine WEx.then_ ?_
      refine WCode.ret ?_
      obtain rfl := some_eq hF
      refine WEx.ret3 rfl rfl rfl rfl ?_
      exact ⟨rfl, St.keep (As := []) S12⟩

def rv_Null (k : Nat) (a0 : List UInt8) : Option Int := (if a0 = ([] : List UInt8) then (some 0) else (some 4))
set_option maxRecDepth 100000 in
set_option maxHeartbeats 1000000 in
theorem rv_Null_calls (k : Nat) (a0 : List UInt8) {w : World} {r_ : Int} (h_ : rv_Null k a0 = some r_) :
    Calls Try.prog 53 [.string (bs a0)].toArray w fun e w' => e = .returned (.int .i64 r_) ∧ St w (KS []) w' [] := by
  have hF := h_
  clear h_
  unfold rv_Null at hF
  have S := St.ofFalse (As := []) (St.init0 w)
  refine enter 5 [(0, .string (bs a0))] Try.func53 rfl rfl rfl rfl ?_
  refine WCode.seq ?_
  refine WCode.region ?_
  refine WOps.p (G.assign rfl) rfl ?_
  refine WOps.nil ?_
  refine WEx.then_ ?_
  refine WCode.seq ?_
  refine WCode.seq ?_
  refine WCode.region ?_
  refine WOps.p (G.move rfl) rfl ?_
  refine WOps.p (G.neqlb' rfl rfl rfl) rfl ?_
  refine WOps.nil ?_
  refine WEx.then_ ?_
  rcases ite_some hF with ⟨h1, hF⟩ | ⟨h1, hF⟩
  ·
    refine WCode.cond_f (kb (b := !(decide (a0 = ([] : List UInt8)))) rfl (show (!(decide (a0 = ([] : List UInt8)))) = false from by rw [(decide_eq_true h1)]; rfl)) ?_
    refine WCode.skip ?_
    refine WEx.then_ ?_
    refine WCode.seq ?_
    refine WCode.region ?_
    refine WOps.p (G.assign rfl) rfl ?_
    refine WOps.nil ?_
    refine WEx.then_ ?_
    refine WCode.ret ?_
    obtain rfl := some_eq hF
    refine WEx.ret1 rfl rfl ?_
    exact ⟨rfl, St.keep (As := []) S⟩
  ·
    refine WCode.cond_t (kb (b := !(decide (a0 = ([] : List UInt8)))) rfl (show (!(decide (a0 = ([] : List UInt8)))) = true from by rw [(decide_eq_false h1)]; rfl)) ?_
    refine WCode.seq ?_
    refine WCode.region ?_
    refine WOps.p (G.assign rfl) rfl ?_
    refine WOps.nil ?_
    refine WEx.then_ ?_
    refine WCode.ret ?_
    refine WEx.then_ret ?_
    obtain rfl := some_eq hF
    refine WEx.ret1 rfl rfl ?_
    exact ⟨rfl, St.keep (As := []) S⟩

def rv_Told.j1 (q4 : Nat) (a0 : Int) (a1 : List UInt8) (b1 : Bool) : Option (Int × (List UInt8)) := (if b1 = true then (some (a0, ([] : List UInt8))) else (if a0 = 0 then (if (a1.length : Int) ≤ 1000 then (if (Int.tmod (a1.length : Int) 4) = 0 then (some (a0, a1)) else (some (5, ([] : List UInt8)))) else (some (5, ([] : List UInt8)))) else (some (5, ([] : List UInt8)))))
def rv_Told (k : Nat) (a0 : Int) (a1 : List UInt8) : Option (Int × (List UInt8)) := (if a0 = 4 then (rv_Told.j1 k a0 a1 (decide (a0 = 4))) else (rv_Told.j1 k a0 a1 (decide (a0 = 5))))
set_option maxRecDepth 100000 in
set_option maxHeartbeats 1000000 in
theorem rv_Told_calls (k : Nat) (a0 : Int) (a1 : List UInt8) {w : World} {r_ : Int × (List UInt8)} (h_ : rv_Told k a0 a1 = some r_) :
    Calls Try.prog 69 [.int .i64 a0, .string (bs a1)].toArray w fun e w' => e = .returned (.tuple #[.int .i64 r_.1, .string (bs r_.2)]) ∧ St w (KS []) w' [] := by
  have hF := h_
  clear h_
  unfold rv_Told at hF
  have S := St.ofFalse (As := []) (St.init0 w)
  refine enter 24 [(0, .int .i64 a0), (1, .string (bs a1))] Try.func69 rfl rfl rfl rfl ?_
  refine WCode.seq ?_
  refine WCode.region ?_
  refine WOps.p (G.assign rfl) rfl ?_
  refine WOps.p (G.assign rfl) rfl ?_
  refine WOps.nil ?_
  refine WEx.then_ ?_
  refine WCode.seq ?_
  refine WCode.seq ?_
  refine WCode.region ?_
  refine WOps.p (G.move rfl) rfl ?_
  refine WOps.nil ?_
  refine WEx.then_ ?_
  refine WCode.block ?_
  refine WCode.cutseq (fun l_ w_ => ∃ q4 : Nat, ∃ b1 : Bool, l_ = [(0, .int .i64 a0), (1, .string (bs a1)), (6, .int .i64 a0), (7, .bool b1)] ∧ rv_Told.j1 q4 a0 a1 b1 = some r_ ∧ St w (KS []) w_ []) ?_ ?_
  ·
    refine WCode.seq ?_
    refine WCode.region ?_
    refine WOps.p (G.eql rfl rfl rfl) rfl ?_
    refine WOps.p (G.assign rfl) rfl ?_
    refine WOps.nil ?_
    refine WEx.then_ ?_
    rcases ite_some hF with ⟨h6, hF⟩ | ⟨h6, hF⟩
    ·
      refine WCode.cond_t (kb (b := decide (a0 = 4)) rfl (decide_eq_true h6)) ?_
      refine WCode.skip ?_
      refine WEx.cutend _ ?_ ⟨k, decide (a0 = 4), rfl, hF, S⟩
      exact ⟨rfl, rfl, rfl, rfl, trivial⟩
    ·
      refine WCode.cond_f (kb (b := decide (a0 = 4)) rfl (decide_eq_false h6)) ?_
      refine WCode.region ?_
      refine WOps.p (G.eql rfl rfl rfl) rfl ?_
      refine WOps.p (G.assign rfl) rfl ?_
      refine WOps.nil ?_
      refine WEx.cutend _ ?_ ⟨k, decide (a0 = 5), rfl, hF, S⟩
      exact ⟨rfl, rfl, rfl, rfl, trivial⟩
  ·
    rintro _ w2 ⟨q4, b1, rfl, hF, S3⟩
    unfold rv_Told.j1 at hF
    rcases ite_some hF with ⟨h7, hF⟩ | ⟨h7, hF⟩
    ·
      refine WCode.cond_t (kb (b := b1) rfl h7) ?_
      refine WCode.seq ?_
      refine WCode.region ?_
      refine WOps.p (G.move rfl) rfl ?_
      refine WOps.p (G.assign rfl) rfl ?_
      refine WOps.p (G.assign rfl) rfl ?_
      refine WOps.nil ?_
      refine WEx.then_ ?_
      refine WCode.ret ?_
      refine WEx.in_ret ?_
      refine WEx.then_ret ?_
      obtain rfl := some_eq hF
      refine WEx.ret2 rfl rfl rfl ?_
      exact ⟨rfl, St.keep (As := []) S3⟩
    ·
      refine WCode.cond_f (kb (b := b1) rfl (Bool.eq_false_iff.2 h7)) ?_
      refine WCode.seq ?_
      refine WCode.region ?_
      refine WOps.p (G.eql rfl rfl rfl) rfl ?_
      refine WOps.p (G.assign rfl) rfl ?_
      refine WOps.nil ?_
      refine WEx.then_ ?_
      rcases ite_some hF with ⟨h8, hF⟩ | ⟨h8, hF⟩
      ·
        refine WCode.cond_t (kb (b := decide (a0 = 0)) rfl (decide_eq_true h8)) ?_
        refine WCode.seq ?_
        refine WCode.region ?_
        refine WOps.p (G.move rfl) rfl ?_
        refine WOps.p (G.lenb T.str9 rfl) rfl ?_
        refine WOps.p (G.leq rfl rfl rfl) rfl ?_
        refine WOps.p (G.move rfl) rfl ?_
        rcases ite_some hF with ⟨h9, hF⟩ | ⟨h9, hF⟩
        ·
          refine WOps.on rfl (kbl (b := decide ((a1.length : Int) ≤ 1000)) rfl (decide_eq_true h9)) ?_
          refine WOps.p (G.move rfl) rfl ?_
          refine WOps.on rfl (kbl (b := decide ((a1.length : Int) ≤ 1000)) rfl (decide_eq_true h9)) ?_
          refine WOps.p (G.lenb T.str9 rfl) rfl ?_
          refine WOps.on rfl (kbl (b := decide ((a1.length : Int) ≤ 1000)) rfl (decide_eq_true h9)) ?_
          refine WOps.p (G.remk rfl rfl (by decide)) rfl ?_
          refine WOps.on rfl (kbl (b := decide ((a1.length : Int) ≤ 1000)) rfl (decide_eq_true h9)) ?_
          refine WOps.p (G.eql rfl rfl rfl) rfl ?_
          refine WOps.p (G.pick_t (kb (b := decide ((a1.length : Int) ≤ 1000)) rfl (decide_eq_true h9)) rfl) rfl ?_
          refine WOps.nil ?_
          refine WEx.then_ ?_
          refine WCode.forget (l' := [(0, .int .i64 a0), (1, .string (bs a1)), (21, .bool (decide ((Int.tmod (a1.length : Int) 4) = 0)))]) ⟨rfl, rfl, rfl, trivial⟩ ?_
          rcases ite_some hF with ⟨h10, hF⟩ | ⟨h10, hF⟩
          ·
            refine WCode.cond_t (kb (b := decide ((Int.tmod (a1.length : Int) 4) = 0)) rfl (decide_eq_true h10)) ?_
            refine WCode.seq ?_
            refine WCode.region ?_
            refine WOps.p (G.move rfl) rfl ?_
            refine WOps.p (G.move rfl) rfl ?_
            refine WOps.p (G.assign rfl) rfl ?_
            refine WOps.p (G.assign rfl) rfl ?_
            refine WOps.nil ?_
            refine WEx.then_ ?_
            refine WCode.ret ?_
            refine WEx.in_ret ?_
            refine WEx.then_ret ?_
            obtain rfl := some_eq hF
            refine WEx.ret2 rfl rfl rfl ?_
            exact ⟨rfl, St.keep (As := []) S3⟩
          ·
            refine WCode.cond_f (kb (b := decide ((Int.tmod (a1.length : Int) 4) = 0)) rfl (decide_eq_false h10)) ?_
            refine WCode.skip ?_
            refine WEx.in_normal ?_
            refine WEx.then_ ?_
            refine WCode.seq ?_
            refine WCode.region ?_
            refine WOps.p (G.assign rfl) rfl ?_
            refine WOps.p (G.assign rfl) rfl ?_
            refine WOps.nil ?_
            refine WEx.then_ ?_
            refine WCode.ret ?_
            obtain rfl := some_eq hF
            refine WEx.ret2 rfl rfl rfl ?_
            exact ⟨rfl, St.keep (As := []) S3⟩
        ·
          refine WOps.off rfl (kbl (b := decide ((a1.length : Int) ≤ 1000)) rfl (decide_eq_false h9)) rfl rfl ?_
          refine WOps.off rfl (kbl (b := decide ((a1.length : Int) ≤ 1000)) rfl (decide_eq_false h9)) rfl rfl ?_
          refine WOps.off rfl (kbl (b := decide ((a1.length : Int) ≤ 1000)) rfl (decide_eq_false h9)) rfl rfl ?_
          refine WOps.off rfl (kbl (b := decide ((a1.length : Int) ≤ 1000)) rfl (decide_eq_false h9)) rfl rfl ?_
          refine WOps.p (G.pick_f (kb (b := decide ((a1.length : Int) ≤ 1000)) rfl (decide_eq_false h9)) rfl) rfl ?_
          refine WOps.nil ?_
          refine WEx.then_ ?_
          refine WCode.forget (l' := [(0, .int .i64 a0), (1, .string (bs a1)), (21, .bool false)]) ⟨rfl, rfl, rfl, trivial⟩ ?_
          refine WCode.cond_f rfl ?_
          refine WCode.skip ?_
          refine WEx.in_normal ?_
          refine WEx.then_ ?_
          refine WCode.seq ?_
          refine WCode.region ?_
          refine WOps.p (G.assign rfl) rfl ?_
          refine WOps.p (G.assign rfl) rfl ?_
          refine WOps.nil ?_
          refine WEx.then_ ?_
          refine WCode.ret ?_
          obtain rfl := some_eq hF
          refine WEx.ret2 rfl rfl rfl ?_
          exact ⟨rfl, St.keep (As := []) S3⟩
      ·
        refine WCode.cond_f (kb (b := decide (a0 = 0)) rfl (decide_eq_false h8)) ?_
        refine WCode.skip ?_
        refine WEx.in_normal ?_
        refine WEx.then_ ?_
        refine WCode.seq ?_
        refine WCode.region ?_
        refine WOps.p (G.assign rfl) rfl ?_
        refine WOps.p (G.assign rfl) rfl ?_
        refine WOps.nil ?_
        refine WEx.then_ ?_
        refine WCode.ret ?_
        obtain rfl := some_eq hF
        refine WEx.ret2 rfl rfl rfl ?_
        exact ⟨rfl, St.keep (As := []) S3⟩

def sv_near.l1 : Nat → Op → Int → Int → Int → List Int → Int → Int → Option Op
  | 0, _, _, _, _, _, _, _ => none
  | k46 + 1, a0, t13, t21, t29, l39, x42, x43 => (if x43 < (a0.Procs.length : Int) then (Option.bind (idx a0.Procs x43) fun x54 => (Option.bind (sv_pick k46 x54 3) fun t68 => (Option.bind (catN 17592186044416 l39 ([w64 ((w64 (x42 + 1)) + t68)] : List Int)) fun l79 => (sv_near.l1 k46 a0 t13 t21 t29 l79 (w64 ((w64 (x42 + 1)) + t68)) (w64 (x43 + 1)))))) else (some (⟨a0.Other, a0.Near, a0.None, a0.What, t13, t21, t29, l39, a0.Args⟩ : Op)))
def sv_near (k : Nat) (a0 : Op) : Option Op := (Option.bind (sv_pick k a0.Prog 3) fun t13 => (Option.bind (sv_pick k a0.Vers 4) fun t21 => (Option.bind (sv_pick k a0.Proc 6) fun t29 => (sv_near.l1 k a0 t13 t21 t29 [] 0 0))))
set_option maxRecDepth 100000 in
set_option maxHeartbeats 1000000 in
theorem sv_near_calls (k : Nat) (a0 : Op) {A0_1 : Option Addr} {c0_1 : Nat} {F0_1 : Nat → Prop} {w : World} (hR0_1 : SlR (Rp.int .i64) w F0_1 A0_1 c0_1 a0.Procs) (hF0_1 : ∀ b, F0_1 b → NK w [] b) {r_ : Op} (h_ : sv_near k a0 = some r_) :
    Calls Try.prog 27 [.agg #[.bool a0.Other, .bool a0.Near, .bool a0.None, .int .i64 a0.What, .int .i64 a0.Prog, .int .i64 a0.Vers, .int .i64 a0.Proc, .slice A0_1 a0.Procs.length c0_1, .string (bs a0.Args)]].toArray w fun e w' => ∃ A0_1' : Option Addr, ∃ c0_1' : Nat, ∃ G0_1' : Grp, e = .returned (.agg #[.bool r_.Other, .bool r_.Near, .bool r_.None, .int .i64 r_.What, .int .i64 r_.Prog, .int .i64 r_.Vers, .int .i64 r_.Proc, .slice A0_1' (r_.Procs).length c0_1', .string (bs r_.Args)]) ∧ SlO 3 (Rp.int .i64) (.slice A0_1' (r_.Procs).length c0_1') (r_.Procs) G0_1' ∧ St w (KS []) w' [G0_1'] := by
  have hF := h_
  clear h_
  unfold sv_near at hF
  have S := St.ofFalse (As := []) (St.init0 w)
  refine enter 41 [(0, .agg #[.bool a0.Other, .bool a0.Near, .bool a0.None, .int .i64 a0.What, .int .i64 a0.Prog, .int .i64 a0.Vers, .int .i64 a0.Proc, .slice A0_1 a0.Procs.length c0_1, .string (bs a0.Args)])] Try.func27 rfl rfl rfl rfl ?_
  refine WCode.seq ?_
  refine WCode.region ?_
  obtain ⟨b1, w2, E3, S4, X5, L6⟩ := St.box S Try.prog 74 (.agg #[.bool a0.Other, .bool a0.Near, .bool a0.None, .int .i64 a0.What, .int .i64 a0.Prog, .int .i64 a0.Vers, .int .i64 a0.Proc, .slice A0_1 a0.Procs.length c0_1, .string (bs a0.Args)])
  change St _ _ _ [[(b1, .cells #[.bool a0.Other, .bool a0.Near, .bool a0.None, .int .i64 a0.What, .int .i64 a0.Prog, .int .i64 a0.Vers, .int .i64 a0.Proc, .slice A0_1 a0.Procs.length c0_1, .string (bs a0.Args)] 74 (0, 0))]] at S4
  refine WOps.e (E3 rfl) rfl ?_
  obtain ⟨b7, w8, E9, S10, X11, L12⟩ := St.var S4 (z := .agg #[.bool false, .bool false, .bool false, .int .i64 0, .int .i64 0, .int .i64 0, .int .i64 0, .slice none 0 0, .string (bs ([] : List UInt8))]) T.zero74
  change St _ _ _ [[(b7, .cells #[.bool false, .bool false, .bool false, .int .i64 0, .int .i64 0, .int .i64 0, .int .i64 0, .slice none 0 0, .string (bs ([] : List UInt8))] 74 (0, 0))], [(b1, .cells #[.bool a0.Other, .bool a0.Near, .bool a0.None, .int .i64 a0.What, .int .i64 a0.Prog, .int .i64 a0.Vers, .int .i64 a0.Proc, .slice A0_1 a0.Procs.length c0_1, .string (bs a0.Args)] 74 (0, 0))]] at S10
  refine WOps.e E9 rfl ?_
  refine WOps.nil ?_
  refine WEx.then_ ?_
  refine WCode.seq ?_
  refine WCode.region ?_
  refine WOps.p (G.field T.fld74_4 rfl (show 0 + 4 = 4 from rfl)) rfl ?_
  refine WOps.r (G.load1 T.one3 rfl (cell_blk (S10.blk 1 rfl) rfl)) rfl ?_
  obtain ⟨t13, hc14, hF⟩ := bind_some hF
  refine WOps.call T.call33 (evs_cons rfl (evs_cons rfl evs_nil)) rfl ?_
  refine (sv_pick_calls k a0.Prog 3 hc14).mono ?_
  rintro _ w15 ⟨rfl, T16⟩
  have S17 := St.callN (As := []) S10 T16
  change St _ _ _ [[(b7, .cells #[.bool false, .bool false, .bool false, .int .i64 0, .int .i64 0, .int .i64 0, .int .i64 0, .slice none 0 0, .string (bs ([] : List UInt8))] 74 (0, 0))], [(b1, .cells #[.bool a0.Other, .bool a0.Near, .bool a0.None, .int .i64 a0.What, .int .i64 a0.Prog, .int .i64 a0.Vers, .int .i64 a0.Proc, .slice A0_1 a0.Procs.length c0_1, .string (bs a0.Args)] 74 (0, 0))]] at S17
  refine ⟨_, rfl, ?_⟩
  refine WOps.p (G.field T.fld74_4 rfl (show 0 + 4 = 4 from rfl)) rfl ?_
  obtain ⟨w18, E19, S20⟩ := St.store (P := Try.prog) S17 1 3 (.int .i64 t13) (off := 4) (cur' := #[.bool a0.Other, .bool a0.Near, .bool a0.None, .int .i64 a0.What, .int .i64 t13, .int .i64 a0.Vers, .int .i64 a0.Proc, .slice A0_1 a0.Procs.length c0_1, .string (bs a0.Args)]) rfl T.size3_1 rfl rfl rfl
  change St _ _ _ [[(b7, .cells #[.bool false, .bool false, .bool false, .int .i64 0, .int .i64 0, .int .i64 0, .int .i64 0, .slice none 0 0, .string (bs ([] : List UInt8))] 74 (0, 0))], [(b1, .cells #[.bool a0.Other, .bool a0.Near, .bool a0.None, .int .i64 a0.What, .int .i64 t13, .int .i64 a0.Vers, .int .i64 a0.Proc, .slice A0_1 a0.Procs.length c0_1, .string (bs a0.Args)] 74 (0, 0))]] at S20
  refine WOps.u (E19 rfl rfl) ?_
  refine WOps.nil ?_
  refine WEx.then_ ?_
  refine WCode.seq ?_
  refine WCode.region ?_
  refine WOps.p (G.field T.fld74_5 rfl (show 0 + 5 = 5 from rfl)) rfl ?_
  refine WOps.r (G.load1 T.one3 rfl (cell_blk (S20.blk 1 rfl) rfl)) rfl ?_
  obtain ⟨t21, hc22, hF⟩ := bind_some hF
  refine WOps.call T.call33 (evs_cons rfl (evs_cons rfl evs_nil)) rfl ?_
  refine (sv_pick_calls k a0.Vers 4 hc22).mono ?_
  rintro _ w23 ⟨rfl, T24⟩
  have S25 := St.callN (As := []) S20 T24
  change St _ _ _ [[(b7, .cells #[.bool false, .bool false, .bool false, .int .i64 0, .int .i64 0, .int .i64 0, .int .i64 0, .slice none 0 0, .string (bs ([] : List UInt8))] 74 (0, 0))], [(b1, .cells #[.bool a0.Other, .bool a0.Near, .bool a0.None, .int .i64 a0.What, .int .i64 t13, .int .i64 a0.Vers, .int .i64 a0.Proc, .slice A0_1 a0.Procs.length c0_1, .string (bs a0.Args)] 74 (0, 0))]] at S25
  refine ⟨_, rfl, ?_⟩
  refine WOps.p (G.field T.fld74_5 rfl (show 0 + 5 = 5 from rfl)) rfl ?_
  obtain ⟨w26, E27, S28⟩ := St.store (P := Try.prog) S25 1 3 (.int .i64 t21) (off := 5) (cur' := #[.bool a0.Other, .bool a0.Near, .bool a0.None, .int .i64 a0.What, .int .i64 t13, .int .i64 t21, .int .i64 a0.Proc, .slice A0_1 a0.Procs.length c0_1, .string (bs a0.Args)]) rfl T.size3_1 rfl rfl rfl
  change St _ _ _ [[(b7, .cells #[.bool false, .bool false, .bool false, .int .i64 0, .int .i64 0, .int .i64 0, .int .i64 0, .slice none 0 0, .string (bs ([] : List UInt8))] 74 (0, 0))], [(b1, .cells #[.bool a0.Other, .bool a0.Near, .bool a0.None, .int .i64 a0.What, .int .i64 t13, .int .i64 t21, .int .i64 a0.Proc, .slice A0_1 a0.Procs.length c0_1, .string (bs a0.Args)] 74 (0, 0))]] at S28
  refine WOps.u (E27 rfl rfl) ?_
  refine WOps.nil ?_
  refine WEx.then_ ?_
  refine WCode.seq ?_
  refine WCode.region ?_
  refine WOps.p (G.field T.fld74_6 rfl (show 0 + 6 = 6 from rfl)) rfl ?_
  refine WOps.r (G.load1 T.one3 rfl (cell_blk (S28.blk 1 rfl) rfl)) rfl ?_
  obtain ⟨t29, hc30, hF⟩ := bind_some hF
  refine WOps.call T.call33 (evs_cons rfl (evs_cons rfl evs_nil)) rfl ?_
  refine (sv_pick_calls k a0.Proc 6 hc30).mono ?_
  rintro _ w31 ⟨rfl, T32⟩
  have S33 := St.callN (As := []) S28 T32
  change St _ _ _ [[(b7, .cells #[.bool false, .bool false, .bool false, .int .i64 0, .int .i64 0, .int .i64 0, .int .i64 0, .slice none 0 0, .string (bs ([] : List UInt8))] 74 (0, 0))], [(b1, .cells #[.bool a0.Other, .bool a0.Near, .bool a0.None, .int .i64 a0.What, .int .i64 t13, .int .i64 t21, .int .i64 a0.Proc, .slice A0_1 a0.Procs.length c0_1, .string (bs a0.Args)] 74 (0, 0))]] at S33
  refine ⟨_, rfl, ?_⟩
  refine WOps.p (G.field T.fld74_6 rfl (show 0 + 6 = 6 from rfl)) rfl ?_
  obtain ⟨w34, E35, S36⟩ := St.store (P := Try.prog) S33 1 3 (.int .i64 t29) (off := 6) (cur' := #[.bool a0.Other, .bool a0.Near, .bool a0.None, .int .i64 a0.What, .int .i64 t13, .int .i64 t21, .int .i64 t29, .slice A0_1 a0.Procs.length c0_1, .string (bs a0.Args)]) rfl T.size3_1 rfl rfl rfl
  change St _ _ _ [[(b7, .cells #[.bool false, .bool false, .bool false, .int .i64 0, .int .i64 0, .int .i64 0, .int .i64 0, .slice none 0 0, .string (bs ([] : List UInt8))] 74 (0, 0))], [(b1, .cells #[.bool a0.Other, .bool a0.Near, .bool a0.None, .int .i64 a0.What, .int .i64 t13, .int .i64 t21, .int .i64 t29, .slice A0_1 a0.Procs.length c0_1, .string (bs a0.Args)] 74 (0, 0))]] at S36
  refine WOps.u (E35 rfl rfl) ?_
  refine WOps.nil ?_
  refine WEx.then_ ?_
  refine WCode.forget (l' := [(1, .pointer (some ⟨b1, 0, none⟩)), (2, .pointer (some ⟨b7, 0, none⟩))]) ⟨rfl, rfl, trivial⟩ ?_
  refine WCode.seq ?_
  refine WCode.region ?_
  refine WOps.p (G.assign rfl) rfl ?_
  refine WOps.nil ?_
  refine WEx.then_ ?_
  refine WCode.seq ?_
  refine WCode.region ?_
  refine WOps.p (G.assign rfl) rfl ?_
  refine WOps.nil ?_
  refine WEx.then_ ?_
  refine WCode.seq ?_
  refine WCode.seq ?_
  refine WCode.region ?_
  refine WOps.p (G.assign rfl) rfl ?_
  refine WOps.nil ?_
  refine WEx.then_ ?_
  refine WCode.block ?_
  have S48 := S36.emp
  have S50 := S48.front 2 rfl
  change St _ _ _ [[(b1, .cells #[.bool a0.Other, .bool a0.Near, .bool a0.None, .int .i64 a0.What, .int .i64 t13, .int .i64 t21, .int .i64 t29, .slice A0_1 a0.Procs.length c0_1, .string (bs a0.Args)] 74 (0, 0))], ([] : Grp), [(b7, .cells #[.bool false, .bool false, .bool false, .int .i64 0, .int .i64 0, .int .i64 0, .int .i64 0, .slice none 0 0, .string (bs ([] : List UInt8))] 74 (0, 0))]] at S50
  have S51 := S50.front 2 rfl
  change St _ _ _ [[(b7, .cells #[.bool false, .bool false, .bool false, .int .i64 0, .int .i64 0, .int .i64 0, .int .i64 0, .slice none 0 0, .string (bs ([] : List UInt8))] 74 (0, 0))], [(b1, .cells #[.bool a0.Other, .bool a0.Near, .bool a0.None, .int .i64 a0.What, .int .i64 t13, .int .i64 t21, .int .i64 t29, .slice A0_1 a0.Procs.length c0_1, .string (bs a0.Args)] 74 (0, 0))], ([] : Grp)] at S51
  refine WCode.forget (l' := [(1, .pointer (some ⟨b1, 0, none⟩)), (2, .pointer (some ⟨b7, 0, none⟩)), (3, .slice none 0 0), (4, .int .i64 0), (5, .int .i64 0)]) ⟨rfl, rfl, rfl, rfl, rfl, trivial⟩ ?_
  refine WCode.loop (fun n_ l_ w_ => ∃ A37 : Option Addr, ∃ c38 : Nat, ∃ l39 : List Int, ∃ G40 : Grp, ∃ x42 : Int, ∃ x43 : Int, l_ = [(1, .pointer (some ⟨b1, 0, none⟩)), (2, .pointer (some ⟨b7, 0, none⟩)), (3, .slice A37 l39.length c38), (4, .int .i64 x42), (5, .int .i64 x43)] ∧ sv_near.l1 n_ a0 t13 t21 t29 l39 x42 x43 = some r_ ∧ (SlO 3 (Rp.int .i64) (.slice A37 l39.length c38) l39 G40) ∧ St w (KS []) w_ [[(b7, .cells #[.bool false, .bool false, .bool false, .int .i64 0, .int .i64 0, .int .i64 0, .int .i64 0, .slice none 0 0, .string (bs ([] : List UInt8))] 74 (0, 0))], [(b1, .cells #[.bool a0.Other, .bool a0.Near, .bool a0.None, .int .i64 a0.What, .int .i64 t13, .int .i64 t21, .int .i64 t29, .slice A0_1 a0.Procs.length c0_1, .string (bs a0.Args)] 74 (0, 0))], G40]) k ⟨none, 0, [], ([] : Grp), 0, 0, rfl, hF, (SlO.nil 3 (Rp.int .i64)), S51⟩ ?_
  rintro n47 _ w44 ⟨A37, c38, l39, G40, x42, x43, rfl, hF, hO41, S45⟩
  obtain _ | k46 := n47
  · exact nomatch (show (none : Option Op) = some r_ from hF)
  rw [sv_near.l1] at hF
  refine WCode.seq ?_
  refine WCode.seq ?_
  refine WCode.region ?_
  refine WOps.p (G.move rfl) rfl ?_
  refine WOps.p (G.field T.fld74_7 rfl (show 0 + 7 = 7 from rfl)) rfl ?_
  refine WOps.r (G.load1 T.one49 rfl (cell_blk (S45.blk 1 rfl) rfl)) rfl ?_
  refine WOps.p (G.len T.el49 rfl) rfl ?_
  refine WOps.p (G.lss rfl rfl rfl) rfl ?_
  refine WOps.nil ?_
  refine WEx.then_ ?_
  rcases ite_some hF with ⟨h53, hF⟩ | ⟨h53, hF⟩
  ·
    refine WCode.cond_t (kb (b := decide (x43 < (a0.Procs.length : Int))) rfl (decide_eq_true h53)) ?_
    refine WCode.skip ?_
    refine WEx.then_ ?_
    refine WCode.seq ?_
    refine WCode.block ?_
    refine WCode.seq ?_
    refine WCode.region ?_
    refine WOps.p (G.move rfl) rfl ?_
    refine WOps.p (G.add rfl rfl (r := (w64 (x42 + 1))) rfl) rfl ?_
    refine WOps.p (G.field T.fld74_7 rfl (show 0 + 7 = 7 from rfl)) rfl ?_
    refine WOps.r (G.load1 T.one49 rfl (cell_blk (S45.blk 1 rfl) rfl)) rfl ?_
    refine WOps.p (G.move rfl) rfl ?_
    obtain ⟨x54, hc55, hF⟩ := bind_some hF
    obtain ⟨j56, ej57, hj58, hl59⟩ := idx_spec hc55
    obtain ⟨b60, o61, cs62, eA63, hf64, hc65, hr66⟩ := SlR.at_ (hR0_1.ext (S45.keepF hF0_1)) hj58
    have hq67 : cs62 = [.int .i64 x54] := hr66
    subst hq67
    change cellsAt _ _ (o61 + j56 * 1) [.int .i64 x54] at hc65
    refine WOps.p (G.idx T.el49 rfl eA63 rfl ej57 hl59) rfl ?_
    refine WOps.r (G.load1 T.one3 rfl (cellsAt.at0 hc65)) rfl ?_
    obtain ⟨t68, hc69, hF⟩ := bind_some hF
    refine WOps.call T.call33 (evs_cons rfl (evs_cons rfl evs_nil)) rfl ?_
    refine (sv_pick_calls k46 x54 3 hc69).mono ?_
    rintro _ w70 ⟨rfl, T71⟩
    have S72 := St.callN (As := []) S45 T71
    change St _ _ _ [[(b7, .cells #[.bool false, .bool false, .bool false, .int .i64 0, .int .i64 0, .int .i64 0, .int .i64 0, .slice none 0 0, .string (bs ([] : List UInt8))] 74 (0, 0))], [(b1, .cells #[.bool a0.Other, .bool a0.Near, .bool a0.None, .int .i64 a0.What, .int .i64 t13, .int .i64 t21, .int .i64 t29, .slice A0_1 a0.Procs.length c0_1, .string (bs a0.Args)] 74 (0, 0))], G40] at S72
    refine ⟨_, rfl, ?_⟩
    refine WOps.p (G.add rfl rfl (r := (w64 ((w64 (x42 + 1)) + t68))) rfl) rfl ?_
    refine WOps.p (G.assign rfl) rfl ?_
    refine WOps.nil ?_
    refine WEx.then_ ?_
    refine WCode.forget (l' := [(1, .pointer (some ⟨b1, 0, none⟩)), (2, .pointer (some ⟨b7, 0, none⟩)), (3, .slice A37 l39.length c38), (4, .int .i64 (w64 ((w64 (x42 + 1)) + t68))), (5, .int .i64 x43)]) ⟨rfl, rfl, rfl, rfl, rfl, trivial⟩ ?_
    refine WCode.region ?_
    refine WOps.p (G.move rfl) rfl ?_
    refine WOps.p (G.move rfl) rfl ?_
    obtain ⟨b73, w74, E75, S76, X77, L78⟩ := St.lit S72 (P := Try.prog) (t := 49) (e := 3) (n := 1) (vs := [(0, .int .i64 (w64 ((w64 (x42 + 1)) + t68)))]) (cs := #[.int .i64 (w64 ((w64 (x42 + 1)) + t68))]) (by kernel_rfl)
    change St _ _ _ [[(b73, .cells #[.int .i64 (w64 ((w64 (x42 + 1)) + t68))] 3 (0, 0))], [(b7, .cells #[.bool false, .bool false, .bool false, .int .i64 0, .int .i64 0, .int .i64 0, .int .i64 0, .slice none 0 0, .string (bs ([] : List UInt8))] 74 (0, 0))], [(b1, .cells #[.bool a0.Other, .bool a0.Near, .bool a0.None, .int .i64 a0.What, .int .i64 t13, .int .i64 t21, .int .i64 t29, .slice A0_1 a0.Procs.length c0_1, .string (bs a0.Args)] 74 (0, 0))], G40] at S76
    refine WOps.e (E75 (evp_cons rfl evp_nil)) rfl ?_
    obtain ⟨l79, hc80, hF⟩ := bind_some hF
    have S81 := S76.front 3 rfl
    change St _ _ _ [G40, [(b73, .cells #[.int .i64 (w64 ((w64 (x42 + 1)) + t68))] 3 (0, 0))], [(b7, .cells #[.bool false, .bool false, .bool false, .int .i64 0, .int .i64 0, .int .i64 0, .int .i64 0, .slice none 0 0, .string (bs ([] : List UInt8))] 74 (0, 0))], [(b1, .cells #[.bool a0.Other, .bool a0.Near, .bool a0.None, .int .i64 a0.What, .int .i64 t13, .int .i64 t21, .int .i64 t29, .slice A0_1 a0.Procs.length c0_1, .string (bs a0.Args)] 74 (0, 0))]] at S81
    obtain ⟨A82, c83, G84, w85, E86, hO87, S88, hk89⟩ := St.appP (P := Try.prog) (r := (Rp.int .i64)) (M := ([w64 ((w64 (x42 + 1)) + t68)] : List Int)) S81 T.elt49 rfl hO41 (Rd.of_blk (S81.blk 1 rfl) (n := 1) (sz := 1) rfl) ⟨_, _, [], [], rfl, rfl, ⟨rfl, rfl⟩, ⟨rfl, rfl⟩⟩ rfl hc80
    change St _ _ _ [G84, [(b73, .cells #[.int .i64 (w64 ((w64 (x42 + 1)) + t68))] 3 (0, 0))], [(b7, .cells #[.bool false, .bool false, .bool false, .int .i64 0, .int .i64 0, .int .i64 0, .int .i64 0, .slice none 0 0, .string (bs ([] : List UInt8))] 74 (0, 0))], [(b1, .cells #[.bool a0.Other, .bool a0.Near, .bool a0.None, .int .i64 a0.What, .int .i64 t13, .int .i64 t21, .int .i64 t29, .slice A0_1 a0.Procs.length c0_1, .string (bs a0.Args)] 74 (0, 0))]] at S88
    refine WOps.e (E86 rfl rfl) rfl ?_
    refine WOps.p (G.assign rfl) rfl ?_
    refine WOps.nil ?_
    refine WEx.in_normal ?_
    refine WEx.then_ ?_
    refine WCode.region ?_
    refine WOps.p (G.move rfl) rfl ?_
    refine WOps.p (G.add rfl rfl (r := (w64 (x43 + 1))) rfl) rfl ?_
    refine WOps.p (G.assign rfl) rfl ?_
    refine WOps.nil ?_
    have S90 := S88.front 3 rfl
    change St _ _ _ [[(b1, .cells #[.bool a0.Other, .bool a0.Near, .bool a0.None, .int .i64 a0.What, .int .i64 t13, .int .i64 t21, .int .i64 t29, .slice A0_1 a0.Procs.length c0_1, .string (bs a0.Args)] 74 (0, 0))], G84, [(b73, .cells #[.int .i64 (w64 ((w64 (x42 + 1)) + t68))] 3 (0, 0))], [(b7, .cells #[.bool false, .bool false, .bool false, .int .i64 0, .int .i64 0, .int .i64 0, .int .i64 0, .slice none 0 0, .string (bs ([] : List UInt8))] 74 (0, 0))]] at S90
    have S91 := S90.front 3 rfl
    change St _ _ _ [[(b7, .cells #[.bool false, .bool false, .bool false, .int .i64 0, .int .i64 0, .int .i64 0, .int .i64 0, .slice none 0 0, .string (bs ([] : List UInt8))] 74 (0, 0))], [(b1, .cells #[.bool a0.Other, .bool a0.Near, .bool a0.None, .int .i64 a0.What, .int .i64 t13, .int .i64 t21, .int .i64 t29, .slice A0_1 a0.Procs.length c0_1, .string (bs a0.Args)] 74 (0, 0))], G84, [(b73, .cells #[.int .i64 (w64 ((w64 (x42 + 1)) + t68))] 3 (0, 0))]] at S91
    have S92 := St.keep (As := [[(b7, .cells #[.bool false, .bool false, .bool false, .int .i64 0, .int .i64 0, .int .i64 0, .int .i64 0, .slice none 0 0, .string (bs ([] : List UInt8))] 74 (0, 0))], [(b1, .cells #[.bool a0.Other, .bool a0.Near, .bool a0.None, .int .i64 a0.What, .int .i64 t13, .int .i64 t21, .int .i64 t29, .slice A0_1 a0.Procs.length c0_1, .string (bs a0.Args)] 74 (0, 0))], G84]) S91
    refine WEx.again _ _ (by omega) ?_ ⟨A82, c83, l79, G84, w64 ((w64 (x42 + 1)) + t68), w64 (x43 + 1), rfl, hF, hO87, S92⟩
    exact ⟨rfl, rfl, rfl, rfl, rfl, trivial⟩
  ·
    refine WCode.cond_f (kb (b := decide (x43 < (a0.Procs.length : Int))) rfl (decide_eq_false h53)) ?_
    refine WCode.exit ?_
    refine WEx.then_exit ?_
    refine WEx.then_exit ?_
    refine WEx.in_exit ?_
    refine WEx.then_ ?_
    refine WCode.seq ?_
    refine WCode.region ?_
    refine WOps.p (G.move rfl) rfl ?_
    refine WOps.p (G.field T.fld74_7 rfl (show 0 + 7 = 7 from rfl)) rfl ?_
    obtain ⟨w93, E94, S95⟩ := St.store (P := Try.prog) S45 1 49 (.slice A37 l39.length c38) (off := 7) (cur' := #[.bool a0.Other, .bool a0.Near, .bool a0.None, .int .i64 a0.What, .int .i64 t13, .int .i64 t21, .int .i64 t29, .slice A37 l39.length c38, .string (bs a0.Args)]) rfl T.size49_1 rfl rfl rfl
    change St _ _ _ [[(b7, .cells #[.bool false, .bool false, .bool false, .int .i64 0, .int .i64 0, .int .i64 0, .int .i64 0, .slice none 0 0, .string (bs ([] : List UInt8))] 74 (0, 0))], [(b1, .cells #[.bool a0.Other, .bool a0.Near, .bool a0.None, .int .i64 a0.What, .int .i64 t13, .int .i64 t21, .int .i64 t29, .slice A37 l39.length c38, .string (bs a0.Args)] 74 (0, 0))], G40] at S95
    refine WOps.u (E94 rfl rfl) ?_
    refine WOps.nil ?_
    refine WEx.then_ ?_
    refine WCode.forget (l' := [(1, .pointer (some ⟨b1, 0, none⟩)), (2, .pointer (some ⟨b7, 0, none⟩))]) ⟨rfl, rfl, trivial⟩ ?_
    refine WCode.seq ?_
    refine WCode.region ?_
    refine WOps.r (G.loada T.agg74_9 rfl (cs := [.bool a0.Other, .bool a0.Near, .bool a0.None, .int .i64 a0.What, .int .i64 t13, .int .i64 t21, .int .i64 t29, .slice A37 l39.length c38, .string (bs a0.Args)]) (cellsAt.of_blk (S95.blk 1 rfl) rfl)) rfl ?_
    obtain ⟨w96, E97, S98⟩ := St.store (P := Try.prog) S95 0 74 (.agg #[.bool a0.Other, .bool a0.Near, .bool a0.None, .int .i64 a0.What, .int .i64 t13, .int .i64 t21, .int .i64 t29, .slice A37 l39.length c38, .string (bs a0.Args)]) (off := 0) (cur' := #[.bool a0.Other, .bool a0.Near, .bool a0.None, .int .i64 a0.What, .int .i64 t13, .int .i64 t21, .int .i64 t29, .slice A37 l39.length c38, .string (bs a0.Args)]) rfl T.size74_9 rfl rfl rfl
    change St _ _ _ [[(b7, .cells #[.bool a0.Other, .bool a0.Near, .bool a0.None, .int .i64 a0.What, .int .i64 t13, .int .i64 t21, .int .i64 t29, .slice A37 l39.length c38, .string (bs a0.Args)] 74 (0, 0))], [(b1, .cells #[.bool a0.Other, .bool a0.Near, .bool a0.None, .int .i64 a0.What, .int .i64 t13, .int .i64 t21, .int .i64 t29, .slice A37 l39.length c38, .string (bs a0.Args)] 74 (0, 0))], G40] at S98
    refine WOps.u (E97 rfl rfl) ?_
    refine WOps.nil ?_
    refine WEx.then_ ?_
    refine WCode.ret ?_
    obtain rfl := some_eq hF
    refine WEx.retc rfl rfl (cs := [.bool a0.Other, .bool a0.Near, .bool a0.None, .int .i64 a0.What, .int .i64 t13, .int .i64 t21, .int .i64 t29, .slice A37 l39.length c38, .string (bs a0.Args)]) T.agg74_9 (cellsAt.of_blk (S98.blk 0 rfl) rfl) ?_
    have S99 := S98.front 2 rfl
    change St _ _ _ [G40, [(b7, .cells #[.bool a0.Other, .bool a0.Near, .bool a0.None, .int .i64 a0.What, .int .i64 t13, .int .i64 t21, .int .i64 t29, .slice A37 l39.length c38, .string (bs a0.Args)] 74 (0, 0))], [(b1, .cells #[.bool a0.Other, .bool a0.Near, .bool a0.None, .int .i64 a0.What, .int .i64 t13, .int .i64 t21, .int .i64 t29, .slice A37 l39.length c38, .string (bs a0.Args)] 74 (0, 0))]] at S99
    exact ⟨A37, c38, G40, rfl, hO41, St.keep (As := [G40]) S99⟩

end Go.Proofs.Ytpdpfiaediadgaa
