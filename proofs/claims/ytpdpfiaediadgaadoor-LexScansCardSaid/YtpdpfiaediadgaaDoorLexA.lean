/- Functions and their walks (printed by auto.py over the engine). -/
import Derived.Test.YtpdpfiaediadgaaDoorProg
import Derived.Test.YtpdpfiaediadgaaDoorLexG
namespace Go.Proofs.YtpdpfiaediadgaaDoor
open Go Go.Eng
set_option linter.unusedSimpArgs false
set_option linter.unusedVariables false

theorem T.agg37_4 : isAggT Tryd.prog 37 4 = true := by kernel_rfl
theorem T.call13 : Callable Tryd.prog 13 := Callable.mk Tryd.func13 (by kernel_rfl) (by kernel_rfl)
theorem T.call20 : Callable Tryd.prog 20 := Callable.mk Tryd.func20 (by kernel_rfl) (by kernel_rfl)
theorem T.call21 : Callable Tryd.prog 21 := Callable.mk Tryd.func21 (by kernel_rfl) (by kernel_rfl)
theorem T.call25 : Callable Tryd.prog 25 := Callable.mk Tryd.func25 (by kernel_rfl) (by kernel_rfl)
theorem T.call26 : Callable Tryd.prog 26 := Callable.mk Tryd.func26 (by kernel_rfl) (by kernel_rfl)
theorem T.call28 : Callable Tryd.prog 28 := Callable.mk Tryd.func28 (by kernel_rfl) (by kernel_rfl)
theorem T.call32 : Callable Tryd.prog 32 := Callable.mk Tryd.func32 (by kernel_rfl) (by kernel_rfl)
theorem T.call33 : Callable Tryd.prog 33 := Callable.mk Tryd.func33 (by kernel_rfl) (by kernel_rfl)
theorem T.call34 : Callable Tryd.prog 34 := Callable.mk Tryd.func34 (by kernel_rfl) (by kernel_rfl)
theorem T.call41 : Callable Tryd.prog 41 := Callable.mk Tryd.func41 (by kernel_rfl) (by kernel_rfl)
theorem T.call42 : Callable Tryd.prog 42 := Callable.mk Tryd.func42 (by kernel_rfl) (by kernel_rfl)
theorem T.call43 : Callable Tryd.prog 43 := Callable.mk Tryd.func43 (by kernel_rfl) (by kernel_rfl)
theorem T.call46 : Callable Tryd.prog 46 := Callable.mk Tryd.func46 (by kernel_rfl) (by kernel_rfl)
theorem T.call52 : Callable Tryd.prog 52 := Callable.mk Tryd.func52 (by kernel_rfl) (by kernel_rfl)
theorem T.el25 : slEl Tryd.prog 25 = some 4 := by kernel_rfl
theorem T.elt25 : Elt Tryd.prog 25 37 4 40 := elt_mk (z := .agg #[.int .i64 0, .string ⟨#[]⟩, .int .i64 0, .int .i64 0]) Tryd.underlying25 (by kernel_rfl) rfl
theorem T.fld37_0 : fldOff Tryd.prog 37 0 = some 0 := by kernel_rfl
theorem T.fld37_1 : fldOff Tryd.prog 37 1 = some 1 := by kernel_rfl
theorem T.one9 : isOneT Tryd.prog 9 = true := by kernel_rfl
theorem T.size3_1 : sizeT Tryd.prog 3 = some 1 := by kernel_rfl
theorem T.size37_4 : sizeT Tryd.prog 37 = some 4 := by kernel_rfl
theorem T.str9 : isStr Tryd.prog 9 = true := by kernel_rfl
theorem T.zero37 : zeroOf Tryd.prog 37 = some (.agg #[.int .i64 0, .string (bs ([] : List UInt8)), .int .i64 0, .int .i64 0]) := by kernel_rfl
structure Token where
  Kind : Int
  Text : List UInt8
  Number : Int
  At : Int
  deriving DecidableEq
def Token.cs (x : Token) : List Value := [.int .i64 x.Kind, .string (bs x.Text), .int .i64 x.Number, .int .i64 x.At]
def Token.rp : Rp Token := .plain Token.cs 4 (fun _ => rfl) (fun _ => rfl)
theorem Token.eq_iff37 (x y : Token) : x = y ↔ x.Kind = y.Kind ∧ x.Text = y.Text ∧ x.Number = y.Number ∧ x.At = y.At := by
  cases x; cases y; simp
theorem Token.eqIn37 (x y : Token) (w : World) : (Op.equalIn 10000 37 (.agg #[.int .i64 x.Kind, .string (bs x.Text), .int .i64 x.Number, .int .i64 x.At]) (.agg #[.int .i64 y.Kind, .string (bs y.Text), .int .i64 y.Number, .int .i64 y.At])).run Tryd.prog w = .ok (decide (x = y)) w := by
  rw [run_equalIn_struct w 9999 37 _ _ (by kernel_rfl) (by kernel_rfl), show (Tryd.prog.fieldsOf 37) = _ from by unfold Program.fieldsOf; rw [Tryd.underlying37]]
  simp only [Op.eqFields]
  simp only [Token.eq_iff37]
  by_cases h0 : x.Kind = y.Kind <;> by_cases h1 : x.Text = y.Text <;> by_cases h2 : x.Number = y.Number <;> by_cases h3 : x.At = y.At <;> simp [go_sem, toList_iff, bs_inj, h0, h1, h2, h3]
def lx_letter (k : Nat) (a0 : Int) : Option Bool := (if 97 ≤ a0 then (if a0 ≤ 122 then (some true) else (if 65 ≤ a0 then (some (decide (a0 ≤ 90))) else (some false))) else (if 65 ≤ a0 then (some (decide (a0 ≤ 90))) else (some false)))
set_option maxRecDepth 100000 in
set_option maxHeartbeats 1000000 in
theorem lx_letter_calls (k : Nat) (a0 : Int) {w : World} {r_ : Bool} (h_ : lx_letter k a0 = some r_) :
    Calls Tryd.prog 26 [.int .u8 a0].toArray w fun e w' => e = .returned (.bool r_) ∧ St w (KS []) w' [] := by
  have hF := h_
  clear h_
  unfold lx_letter at hF
  have S := St.ofFalse (As := []) (St.init0 w)
  refine enter 17 [(0, .int .u8 a0)] Tryd.func26 rfl rfl rfl rfl ?_
  refine WCode.seq ?_
  refine WCode.region ?_
  refine WOps.p (G.assign rfl) rfl ?_
  refine WOps.nil ?_
  refine WEx.then_ ?_
  refine WCode.seq ?_
  refine WCode.region ?_
  refine WOps.p (G.move rfl) rfl ?_
  refine WOps.p (G.geq rfl rfl rfl) rfl ?_
  refine WOps.p (G.move rfl) rfl ?_
  rcases ite_some hF with ⟨h1, hF⟩ | ⟨h1, hF⟩
  ·
    refine WOps.on rfl (kbl (b := decide (97 ≤ a0)) rfl (decide_eq_true h1)) ?_
    refine WOps.p (G.move rfl) rfl ?_
    refine WOps.on rfl (kbl (b := decide (97 ≤ a0)) rfl (decide_eq_true h1)) ?_
    refine WOps.p (G.leq rfl rfl rfl) rfl ?_
    refine WOps.p (G.pick_t (kb (b := decide (97 ≤ a0)) rfl (decide_eq_true h1)) rfl) rfl ?_
    refine WOps.p (G.move rfl) rfl ?_
    rcases ite_some hF with ⟨h2, hF⟩ | ⟨h2, hF⟩
    ·
      refine WOps.off rfl (kbl (b := decide (a0 ≤ 122)) rfl (decide_eq_true h2)) rfl rfl ?_
      refine WOps.off rfl (kbl (b := decide (a0 ≤ 122)) rfl (decide_eq_true h2)) rfl rfl ?_
      refine WOps.off rfl (kbl (b := decide (a0 ≤ 122)) rfl (decide_eq_true h2)) rfl rfl ?_
      refine WOps.off rfl rfl rfl rfl ?_
      refine WOps.off rfl rfl rfl rfl ?_
      refine WOps.off rfl (kbl (b := decide (a0 ≤ 122)) rfl (decide_eq_true h2)) rfl rfl ?_
      refine WOps.p (G.pick_t (kb (b := decide (a0 ≤ 122)) rfl (decide_eq_true h2)) rfl) rfl ?_
      refine WOps.p (G.assign rfl) rfl ?_
      refine WOps.nil ?_
      refine WEx.then_ ?_
      refine WCode.forget (l' := [(2, .bool true)]) ⟨rfl, trivial⟩ ?_
      refine WCode.ret ?_
      obtain rfl := some_eq hF
      refine WEx.ret1 rfl rfl ?_
      exact ⟨rfl, St.keep (As := []) S⟩
    ·
      refine WOps.on rfl (kbl (b := decide (a0 ≤ 122)) rfl (decide_eq_false h2)) ?_
      refine WOps.p (G.move rfl) rfl ?_
      refine WOps.on rfl (kbl (b := decide (a0 ≤ 122)) rfl (decide_eq_false h2)) ?_
      refine WOps.p (G.geq rfl rfl rfl) rfl ?_
      refine WOps.on rfl (kbl (b := decide (a0 ≤ 122)) rfl (decide_eq_false h2)) ?_
      refine WOps.p (G.move rfl) rfl ?_
      rcases ite_some hF with ⟨h3, hF⟩ | ⟨h3, hF⟩
      ·
        refine WOps.on rfl (kbl (b := decide (65 ≤ a0)) rfl (decide_eq_true h3)) ?_
        refine WOps.p (G.move rfl) rfl ?_
        refine WOps.on rfl (kbl (b := decide (65 ≤ a0)) rfl (decide_eq_true h3)) ?_
        refine WOps.p (G.leq rfl rfl rfl) rfl ?_
        refine WOps.on rfl (kbl (b := decide (a0 ≤ 122)) rfl (decide_eq_false h2)) ?_
        refine WOps.p (G.pick_t (kb (b := decide (65 ≤ a0)) rfl (decide_eq_true h3)) rfl) rfl ?_
        refine WOps.p (G.pick_f (kb (b := decide (a0 ≤ 122)) rfl (decide_eq_false h2)) rfl) rfl ?_
        refine WOps.p (G.assign rfl) rfl ?_
        refine WOps.nil ?_
        refine WEx.then_ ?_
        refine WCode.forget (l' := [(2, .bool (decide (a0 ≤ 90)))]) ⟨rfl, trivial⟩ ?_
        refine WCode.ret ?_
        obtain rfl := some_eq hF
        refine WEx.ret1 rfl rfl ?_
        exact ⟨rfl, St.keep (As := []) S⟩
      ·
        refine WOps.off rfl (kbl (b := decide (65 ≤ a0)) rfl (decide_eq_false h3)) rfl rfl ?_
        refine WOps.off rfl (kbl (b := decide (65 ≤ a0)) rfl (decide_eq_false h3)) rfl rfl ?_
        refine WOps.on rfl (kbl (b := decide (a0 ≤ 122)) rfl (decide_eq_false h2)) ?_
        refine WOps.p (G.pick_f (kb (b := decide (65 ≤ a0)) rfl (decide_eq_false h3)) rfl) rfl ?_
        refine WOps.p (G.pick_f (kb (b := decide (a0 ≤ 122)) rfl (decide_eq_false h2)) rfl) rfl ?_
        refine WOps.p (G.assign rfl) rfl ?_
        refine WOps.nil ?_
        refine WEx.then_ ?_
        refine WCode.forget (l' := [(2, .bool false)]) ⟨rfl, trivial⟩ ?_
        refine WCode.ret ?_
        obtain rfl := some_eq hF
        refine WEx.ret1 rfl rfl ?_
        exact ⟨rfl, St.keep (As := []) S⟩
  ·
    refine WOps.off rfl (kbl (b := decide (97 ≤ a0)) rfl (decide_eq_false h1)) rfl rfl ?_
    refine WOps.off rfl (kbl (b := decide (97 ≤ a0)) rfl (decide_eq_false h1)) rfl rfl ?_
    refine WOps.p (G.pick_f (kb (b := decide (97 ≤ a0)) rfl (decide_eq_false h1)) rfl) rfl ?_
    refine WOps.p (G.move rfl) rfl ?_
    refine WOps.on rfl rfl ?_
    refine WOps.p (G.move rfl) rfl ?_
    refine WOps.on rfl rfl ?_
    refine WOps.p (G.geq rfl rfl rfl) rfl ?_
    refine WOps.on rfl rfl ?_
    refine WOps.p (G.move rfl) rfl ?_
    rcases ite_some hF with ⟨h4, hF⟩ | ⟨h4, hF⟩
    ·
      refine WOps.on rfl (kbl (b := decide (65 ≤ a0)) rfl (decide_eq_true h4)) ?_
      refine WOps.p (G.move rfl) rfl ?_
      refine WOps.on rfl (kbl (b := decide (65 ≤ a0)) rfl (decide_eq_true h4)) ?_
      refine WOps.p (G.leq rfl rfl rfl) rfl ?_
      refine WOps.on rfl rfl ?_
      refine WOps.p (G.pick_t (kb (b := decide (65 ≤ a0)) rfl (decide_eq_true h4)) rfl) rfl ?_
      refine WOps.p (G.pick_f rfl rfl) rfl ?_
      refine WOps.p (G.assign rfl) rfl ?_
      refine WOps.nil ?_
      refine WEx.then_ ?_
      refine WCode.forget (l' := [(2, .bool (decide (a0 ≤ 90)))]) ⟨rfl, trivial⟩ ?_
      refine WCode.ret ?_
      obtain rfl := some_eq hF
      refine WEx.ret1 rfl rfl ?_
      exact ⟨rfl, St.keep (As := []) S⟩
    ·
      refine WOps.off rfl (kbl (b := decide (65 ≤ a0)) rfl (decide_eq_false h4)) rfl rfl ?_
      refine WOps.off rfl (kbl (b := decide (65 ≤ a0)) rfl (decide_eq_false h4)) rfl rfl ?_
      refine WOps.on rfl rfl ?_
      refine WOps.p (G.pick_f (kb (b := decide (65 ≤ a0)) rfl (decide_eq_false h4)) rfl) rfl ?_
      refine WOps.p (G.pick_f rfl rfl) rfl ?_
      refine WOps.p (G.assign rfl) rfl ?_
      refine WOps.nil ?_
      refine WEx.then_ ?_
      refine WCode.forget (l' := [(2, .bool false)]) ⟨rfl, trivial⟩ ?_
      refine WCode.ret ?_
      obtain rfl := some_eq hF
      refine WEx.ret1 rfl rfl ?_
      exact ⟨rfl, St.keep (As := []) S⟩

def lx_digit (k : Nat) (a0 : Int) : Option Bool := (if 48 ≤ a0 then (some (decide (a0 ≤ 57))) else (some false))
set_option maxRecDepth 100000 in
set_option maxHeartbeats 1000000 in
theorem lx_digit_calls (k : Nat) (a0 : Int) {w : World} {r_ : Bool} (h_ : lx_digit k a0 = some r_) :
    Calls Tryd.prog 46 [.int .u8 a0].toArray w fun e w' => e = .returned (.bool r_) ∧ St w (KS []) w' [] := by
  have hF := h_
  clear h_
  unfold lx_digit at hF
  have S := St.ofFalse (As := []) (St.init0 w)
  refine enter 9 [(0, .int .u8 a0)] Tryd.func46 rfl rfl rfl rfl ?_
  refine WCode.seq ?_
  refine WCode.region ?_
  refine WOps.p (G.assign rfl) rfl ?_
  refine WOps.nil ?_
  refine WEx.then_ ?_
  refine WCode.seq ?_
  refine WCode.region ?_
  refine WOps.p (G.move rfl) rfl ?_
  refine WOps.p (G.geq rfl rfl rfl) rfl ?_
  refine WOps.p (G.move rfl) rfl ?_
  rcases ite_some hF with ⟨h1, hF⟩ | ⟨h1, hF⟩
  ·
    refine WOps.on rfl (kbl (b := decide (48 ≤ a0)) rfl (decide_eq_true h1)) ?_
    refine WOps.p (G.move rfl) rfl ?_
    refine WOps.on rfl (kbl (b := decide (48 ≤ a0)) rfl (decide_eq_true h1)) ?_
    refine WOps.p (G.leq rfl rfl rfl) rfl ?_
    refine WOps.p (G.pick_t (kb (b := decide (48 ≤ a0)) rfl (decide_eq_true h1)) rfl) rfl ?_
    refine WOps.p (G.assign rfl) rfl ?_
    refine WOps.nil ?_
    refine WEx.then_ ?_
    refine WCode.ret ?_
    obtain rfl := some_eq hF
    refine WEx.ret1 rfl rfl ?_
    exact ⟨rfl, St.keep (As := []) S⟩
  ·
    refine WOps.off rfl (kbl (b := decide (48 ≤ a0)) rfl (decide_eq_false h1)) rfl rfl ?_
    refine WOps.off rfl (kbl (b := decide (48 ≤ a0)) rfl (decide_eq_false h1)) rfl rfl ?_
    refine WOps.p (G.pick_f (kb (b := decide (48 ≤ a0)) rfl (decide_eq_false h1)) rfl) rfl ?_
    refine WOps.p (G.assign rfl) rfl ?_
    refine WOps.nil ?_
    refine WEx.then_ ?_
    refine WCode.ret ?_
    obtain rfl := some_eq hF
    refine WEx.ret1 rfl rfl ?_
    exact ⟨rfl, St.keep (As := []) S⟩

def lx_inRun (k : Nat) (a0 : Int) : Option Bool := (Option.bind (lx_letter k a0) fun t1 => (if t1 = true then (some true) else (Option.bind (lx_digit k a0) fun t7 => (if t7 = true then (some true) else (some (decide (a0 = 95)))))))
set_option maxRecDepth 100000 in
set_option maxHeartbeats 1000000 in
theorem lx_inRun_calls (k : Nat) (a0 : Int) {w : World} {r_ : Bool} (h_ : lx_inRun k a0 = some r_) :
    Calls Tryd.prog 42 [.int .u8 a0].toArray w fun e w' => e = .returned (.bool r_) ∧ St w (KS []) w' [] := by
  have hF := h_
  clear h_
  unfold lx_inRun at hF
  have S := St.ofFalse (As := []) (St.init0 w)
  refine enter 13 [(0, .int .u8 a0)] Tryd.func42 rfl rfl rfl rfl ?_
  refine WCode.seq ?_
  refine WCode.region ?_
  refine WOps.p (G.assign rfl) rfl ?_
  refine WOps.nil ?_
  refine WEx.then_ ?_
  refine WCode.seq ?_
  refine WCode.region ?_
  refine WOps.p (G.move rfl) rfl ?_
  obtain ⟨t1, hc2, hF⟩ := bind_some hF
  refine WOps.call T.call26 (evs_cons rfl evs_nil) rfl ?_
  refine (lx_letter_calls k a0 hc2).mono ?_
  rintro _ w3 ⟨rfl, T4⟩
  have S5 := St.callN (As := []) S T4
  change St _ _ _ [] at S5
  refine ⟨_, rfl, ?_⟩
  refine WOps.p (G.move rfl) rfl ?_
  rcases ite_some hF with ⟨h6, hF⟩ | ⟨h6, hF⟩
  ·
    refine WOps.off rfl (kbl (b := t1) rfl h6) rfl rfl ?_
    refine WOps.off rfl (kbl (b := t1) rfl h6) rfl rfl ?_
    refine WOps.p (G.pick_t (kb (b := t1) rfl h6) rfl) rfl ?_
    refine WOps.p (G.move rfl) rfl ?_
    refine WOps.off rfl rfl rfl rfl ?_
    refine WOps.off rfl rfl rfl rfl ?_
    refine WOps.p (G.pick_t rfl rfl) rfl ?_
    refine WOps.p (G.assign rfl) rfl ?_
    refine WOps.nil ?_
    refine WEx.then_ ?_
    refine WCode.forget (l' := [(2, .bool true)]) ⟨rfl, trivial⟩ ?_
    refine WCode.ret ?_
    obtain rfl := some_eq hF
    refine WEx.ret1 rfl rfl ?_
    exact ⟨rfl, St.keep (As := []) S5⟩
  ·
    refine WOps.on rfl (kbl (b := t1) rfl (Bool.eq_false_iff.2 h6)) ?_
    refine WOps.p (G.move rfl) rfl ?_
    refine WOps.on rfl (kbl (b := t1) rfl (Bool.eq_false_iff.2 h6)) ?_
    obtain ⟨t7, hc8, hF⟩ := bind_some hF
    refine WOps.call T.call46 (evs_cons rfl evs_nil) rfl ?_
    refine (lx_digit_calls k a0 hc8).mono ?_
    rintro _ w9 ⟨rfl, T10⟩
    have S11 := St.callN (As := []) S5 T10
    change St _ _ _ [] at S11
    refine ⟨_, rfl, ?_⟩
    refine WOps.p (G.pick_f (kb (b := t1) rfl (Bool.eq_false_iff.2 h6)) rfl) rfl ?_
    refine WOps.p (G.move rfl) rfl ?_
    rcases ite_some hF with ⟨h12, hF⟩ | ⟨h12, hF⟩
    ·
      refine WOps.off rfl (kbl (b := t7) rfl h12) rfl rfl ?_
      refine WOps.off rfl (kbl (b := t7) rfl h12) rfl rfl ?_
      refine WOps.p (G.pick_t (kb (b := t7) rfl h12) rfl) rfl ?_
      refine WOps.p (G.assign rfl) rfl ?_
      refine WOps.nil ?_
      refine WEx.then_ ?_
      refine WCode.forget (l' := [(2, .bool true)]) ⟨rfl, trivial⟩ ?_
      refine WCode.ret ?_
      obtain rfl := some_eq hF
      refine WEx.ret1 rfl rfl ?_
      exact ⟨rfl, St.keep (As := []) S11⟩
    ·
      refine WOps.on rfl (kbl (b := t7) rfl (Bool.eq_false_iff.2 h12)) ?_
      refine WOps.p (G.move rfl) rfl ?_
      refine WOps.on rfl (kbl (b := t7) rfl (Bool.eq_false_iff.2 h12)) ?_
      refine WOps.p (G.eql rfl rfl rfl) rfl ?_
      refine WOps.p (G.pick_f (kb (b := t7) rfl (Bool.eq_false_iff.2 h12)) rfl) rfl ?_
      refine WOps.p (G.assign rfl) rfl ?_
      refine WOps.nil ?_
      refine WEx.then_ ?_
      refine WCode.forget (l' := [(2, .bool (decide (a0 = 95)))]) ⟨rfl, trivial⟩ ?_
      refine WCode.ret ?_
      obtain rfl := some_eq hF
      refine WEx.ret1 rfl rfl ?_
      exact ⟨rfl, St.keep (As := []) S11⟩

def lx_isBlank (k : Nat) (a0 : Int) : Option Bool := (if a0 = 32 then (some true) else (if a0 = 9 then (some true) else (if a0 = 10 then (some true) else (some (decide (a0 = 13))))))
set_option maxRecDepth 100000 in
set_option maxHeartbeats 1000000 in
theorem lx_isBlank_calls (k : Nat) (a0 : Int) {w : World} {r_ : Bool} (h_ : lx_isBlank k a0 = some r_) :
    Calls Tryd.prog 44 [.int .u8 a0].toArray w fun e w' => e = .returned (.bool r_) ∧ St w (KS []) w' [] := by
  have hF := h_
  clear h_
  unfold lx_isBlank at hF
  have S := St.ofFalse (As := []) (St.init0 w)
  refine enter 17 [(0, .int .u8 a0)] Tryd.func44 rfl rfl rfl rfl ?_
  refine WCode.seq ?_
  refine WCode.region ?_
  refine WOps.p (G.assign rfl) rfl ?_
  refine WOps.nil ?_
  refine WEx.then_ ?_
  refine WCode.seq ?_
  refine WCode.region ?_
  refine WOps.p (G.move rfl) rfl ?_
  refine WOps.p (G.eql rfl rfl rfl) rfl ?_
  refine WOps.p (G.move rfl) rfl ?_
  rcases ite_some hF with ⟨h1, hF⟩ | ⟨h1, hF⟩
  ·
    refine WOps.off rfl (kbl (b := decide (a0 = 32)) rfl (decide_eq_true h1)) rfl rfl ?_
    refine WOps.off rfl (kbl (b := decide (a0 = 32)) rfl (decide_eq_true h1)) rfl rfl ?_
    refine WOps.p (G.pick_t (kb (b := decide (a0 = 32)) rfl (decide_eq_true h1)) rfl) rfl ?_
    refine WOps.p (G.move rfl) rfl ?_
    refine WOps.off rfl rfl rfl rfl ?_
    refine WOps.off rfl rfl rfl rfl ?_
    refine WOps.p (G.pick_t rfl rfl) rfl ?_
    refine WOps.p (G.move rfl) rfl ?_
    refine WOps.off rfl rfl rfl rfl ?_
    refine WOps.off rfl rfl rfl rfl ?_
    refine WOps.p (G.pick_t rfl rfl) rfl ?_
    refine WOps.p (G.assign rfl) rfl ?_
    refine WOps.nil ?_
    refine WEx.then_ ?_
    refine WCode.forget (l' := [(2, .bool true)]) ⟨rfl, trivial⟩ ?_
    refine WCode.ret ?_
    obtain rfl := some_eq hF
    refine WEx.ret1 rfl rfl ?_
    exact ⟨rfl, St.keep (As := []) S⟩
  ·
    refine WOps.on rfl (kbl (b := decide (a0 = 32)) rfl (decide_eq_false h1)) ?_
    refine WOps.p (G.move rfl) rfl ?_
    refine WOps.on rfl (kbl (b := decide (a0 = 32)) rfl (decide_eq_false h1)) ?_
    refine WOps.p (G.eql rfl rfl rfl) rfl ?_
    refine WOps.p (G.pick_f (kb (b := decide (a0 = 32)) rfl (decide_eq_false h1)) rfl) rfl ?_
    refine WOps.p (G.move rfl) rfl ?_
    rcases ite_some hF with ⟨h2, hF⟩ | ⟨h2, hF⟩
    ·
      refine WOps.off rfl (kbl (b := decide (a0 = 9)) rfl (decide_eq_true h2)) rfl rfl ?_
      refine WOps.off rfl (kbl (b := decide (a0 = 9)) rfl (decide_eq_true h2)) rfl rfl ?_
      refine WOps.p (G.pick_t (kb (b := decide (a0 = 9)) rfl (decide_eq_true h2)) rfl) rfl ?_
      refine WOps.p (G.move rfl) rfl ?_
      refine WOps.off rfl rfl rfl rfl ?_
      refine WOps.off rfl rfl rfl rfl ?_
      refine WOps.p (G.pick_t rfl rfl) rfl ?_
      refine WOps.p (G.assign rfl) rfl ?_
      refine WOps.nil ?_
      refine WEx.then_ ?_
      refine WCode.forget (l' := [(2, .bool true)]) ⟨rfl, trivial⟩ ?_
      refine WCode.ret ?_
      obtain rfl := some_eq hF
      refine WEx.ret1 rfl rfl ?_
      exact ⟨rfl, St.keep (As := []) S⟩
    ·
      refine WOps.on rfl (kbl (b := decide (a0 = 9)) rfl (decide_eq_false h2)) ?_
      refine WOps.p (G.move rfl) rfl ?_
      refine WOps.on rfl (kbl (b := decide (a0 = 9)) rfl (decide_eq_false h2)) ?_
      refine WOps.p (G.eql rfl rfl rfl) rfl ?_
      refine WOps.p (G.pick_f (kb (b := decide (a0 = 9)) rfl (decide_eq_false h2)) rfl) rfl ?_
      refine WOps.p (G.move rfl) rfl ?_
      rcases ite_some hF with ⟨h3, hF⟩ | ⟨h3, hF⟩
      ·
        refine WOps.off rfl (kbl (b := decide (a0 = 10)) rfl (decide_eq_true h3)) rfl rfl ?_
        refine WOps.off rfl (kbl (b := decide (a0 = 10)) rfl (decide_eq_true h3)) rfl rfl ?_
        refine WOps.p (G.pick_t (kb (b := decide (a0 = 10)) rfl (decide_eq_true h3)) rfl) rfl ?_
        refine WOps.p (G.assign rfl) rfl ?_
        refine WOps.nil ?_
        refine WEx.then_ ?_
        refine WCode.forget (l' := [(2, .bool true)]) ⟨rfl, trivial⟩ ?_
        refine WCode.ret ?_
        obtain rfl := some_eq hF
        refine WEx.ret1 rfl rfl ?_
        exact ⟨rfl, St.keep (As := []) S⟩
      ·
        refine WOps.on rfl (kbl (b := decide (a0 = 10)) rfl (decide_eq_false h3)) ?_
        refine WOps.p (G.move rfl) rfl ?_
        refine WOps.on rfl (kbl (b := decide (a0 = 10)) rfl (decide_eq_false h3)) ?_
        refine WOps.p (G.eql rfl rfl rfl) rfl ?_
        refine WOps.p (G.pick_f (kb (b := decide (a0 = 10)) rfl (decide_eq_false h3)) rfl) rfl ?_
        refine WOps.p (G.assign rfl) rfl ?_
        refine WOps.nil ?_
        refine WEx.then_ ?_
        refine WCode.forget (l' := [(2, .bool (decide (a0 = 13)))]) ⟨rfl, trivial⟩ ?_
        refine WCode.ret ?_
        obtain rfl := some_eq hF
        refine WEx.ret1 rfl rfl ?_
        exact ⟨rfl, St.keep (As := []) S⟩

def lx_run.l1 : Nat → List UInt8 → Int → Option Int
  | 0, _, _ => none
  | k4 + 1, a0, x1 => (if x1 < (a0.length : Int) then (Option.bind (idx a0 x1) fun c8 => (Option.bind (lx_inRun k4 ((c8).toNat : Int)) fun t10 => (if t10 = true then (lx_run.l1 k4 a0 (w64 (x1 + 1))) else (some x1)))) else (some x1))
def lx_run (k : Nat) (a0 : List UInt8) : Option Int := (lx_run.l1 k a0 0)
set_option maxRecDepth 100000 in
set_option maxHeartbeats 1000000 in
theorem lx_run_calls (k : Nat) (a0 : List UInt8) {w : World} {r_ : Int} (h_ : lx_run k a0 = some r_) :
    Calls Tryd.prog 27 [.string (bs a0)].toArray w fun e w' => e = .returned (.int .i64 r_) ∧ St w (KS []) w' [] := by
  have hF := h_
  clear h_
  unfold lx_run at hF
  have S := St.ofFalse (As := []) (St.init0 w)
  refine enter 17 [(0, .string (bs a0))] Tryd.func27 rfl rfl rfl rfl ?_
  refine WCode.seq ?_
  refine WCode.region ?_
  refine WOps.p (G.assign rfl) rfl ?_
  refine WOps.nil ?_
  refine WEx.then_ ?_
  refine WCode.seq ?_
  refine WCode.region ?_
  refine WOps.p (G.assign rfl) rfl ?_
  refine WOps.nil ?_
  refine WEx.then_ ?_
  refine WCode.seq ?_
  refine WCode.block ?_
  refine WCode.forget (l' := [(0, .string (bs a0)), (3, .int .i64 0)]) ⟨rfl, rfl, trivial⟩ ?_
  refine WCode.loop (fun n_ l_ w_ => ∃ x1 : Int, l_ = [(0, .string (bs a0)), (3, .int .i64 x1)] ∧ lx_run.l1 n_ a0 x1 = some r_ ∧ St w (KS []) w_ []) k ⟨0, rfl, hF, S⟩ ?_
  rintro n5 _ w2 ⟨x1, rfl, hF, S3⟩
  obtain _ | k4 := n5
  · exact nomatch (show (none : Option Int) = some r_ from hF)
  rw [lx_run.l1] at hF
  refine WCode.seq ?_
  refine WCode.seq ?_
  refine WCode.region ?_
  refine WOps.p (G.move rfl) rfl ?_
  refine WOps.p (G.move rfl) rfl ?_
  refine WOps.p (G.lenb T.str9 rfl) rfl ?_
  refine WOps.p (G.lss rfl rfl rfl) rfl ?_
  refine WOps.p (G.move rfl) rfl ?_
  rcases ite_some hF with ⟨h7, hF⟩ | ⟨h7, hF⟩
  ·
    refine WOps.on rfl (kbl (b := decide (x1 < (a0.length : Int))) rfl (decide_eq_true h7)) ?_
    refine WOps.p (G.move rfl) rfl ?_
    refine WOps.on rfl (kbl (b := decide (x1 < (a0.length : Int))) rfl (decide_eq_true h7)) ?_
    refine WOps.p (G.move rfl) rfl ?_
    refine WOps.on rfl (kbl (b := decide (x1 < (a0.length : Int))) rfl (decide_eq_true h7)) ?_
    obtain ⟨c8, hc9, hF⟩ := bind_some hF
    refine WOps.p (G.idxb T.str9 rfl rfl hc9) rfl ?_
    refine WOps.on rfl (kbl (b := decide (x1 < (a0.length : Int))) rfl (decide_eq_true h7)) ?_
    obtain ⟨t10, hc11, hF⟩ := bind_some hF
    refine WOps.call T.call42 (evs_cons rfl evs_nil) rfl ?_
    refine (lx_inRun_calls k4 ((c8).toNat : Int) hc11).mono ?_
    rintro _ w12 ⟨rfl, T13⟩
    have S14 := St.callN (As := []) S3 T13
    change St _ _ _ [] at S14
    refine ⟨_, rfl, ?_⟩
    refine WOps.p (G.pick_t (kb (b := decide (x1 < (a0.length : Int))) rfl (decide_eq_true h7)) rfl) rfl ?_
    refine WOps.nil ?_
    refine WEx.then_ ?_
    rcases ite_some hF with ⟨h15, hF⟩ | ⟨h15, hF⟩
    ·
      refine WCode.cond_t (kb (b := t10) rfl h15) ?_
      refine WCode.skip ?_
      refine WEx.then_ ?_
      refine WCode.block ?_
      refine WCode.region ?_
      refine WOps.p (G.move rfl) rfl ?_
      refine WOps.p (G.add rfl rfl (r := (w64 (x1 + 1))) rfl) rfl ?_
      refine WOps.p (G.assign rfl) rfl ?_
      refine WOps.nil ?_
      refine WEx.in_normal ?_
      refine WEx.again _ _ (by omega) ?_ ⟨w64 (x1 + 1), rfl, hF, S14⟩
      exact ⟨rfl, rfl, trivial⟩
    ·
      refine WCode.cond_f (kb (b := t10) rfl (Bool.eq_false_iff.2 h15)) ?_
      refine WCode.exit ?_
      refine WEx.then_exit ?_
      refine WEx.then_exit ?_
      refine WEx.in_exit ?_
      refine WEx.then_ ?_
      refine WCode.forget (l' := [(3, .int .i64 x1)]) ⟨rfl, trivial⟩ ?_
      refine WCode.seq ?_
      refine WCode.region ?_
      refine WOps.p (G.move rfl) rfl ?_
      refine WOps.p (G.assign rfl) rfl ?_
      refine WOps.nil ?_
      refine WEx.then_ ?_
      refine WCode.ret ?_
      obtain rfl := some_eq hF
      refine WEx.ret1 rfl rfl ?_
      exact ⟨rfl, St.keep (As := []) S14⟩
  ·
    refine WOps.off rfl (kbl (b := decide (x1 < (a0.length : Int))) rfl (decide_eq_false h7)) rfl rfl ?_
    refine WOps.off rfl (kbl (b := decide (x1 < (a0.length : Int))) rfl (decide_eq_false h7)) rfl rfl ?_
    refine WOps.off rfl (kbl (b := decide (x1 < (a0.length : Int))) rfl (decide_eq_false h7)) rfl rfl ?_
    refine WOps.off rfl (kbl (b := decide (x1 < (a0.length : Int))) rfl (decide_eq_false h7)) rfl rfl ?_
    refine WOps.p (G.pick_f (kb (b := decide (x1 < (a0.length : Int))) rfl (decide_eq_false h7)) rfl) rfl ?_
    refine WOps.nil ?_
    refine WEx.then_ ?_
    refine WCode.cond_f rfl ?_
    refine WCode.exit ?_
    refine WEx.then_exit ?_
    refine WEx.then_exit ?_
    refine WEx.in_exit ?_
    refine WEx.then_ ?_
    refine WCode.forget (l' := [(3, .int .i64 x1)]) ⟨rfl, trivial⟩ ?_
    refine WCode.seq ?_
    refine WCode.region ?_
    refine WOps.p (G.move rfl) rfl ?_
    refine WOps.p (G.assign rfl) rfl ?_
    refine WOps.nil ?_
    refine WEx.then_ ?_
    refine WCode.ret ?_
    obtain rfl := some_eq hF
    refine WEx.ret1 rfl rfl ?_
    exact ⟨rfl, St.keep (As := []) S3⟩

def rf_letter (k : Nat) (a0 : Int) : Option Bool := (if 97 ≤ a0 then (if a0 ≤ 122 then (some true) else (if 65 ≤ a0 then (some (decide (a0 ≤ 90))) else (some false))) else (if 65 ≤ a0 then (some (decide (a0 ≤ 90))) else (some false)))
set_option maxRecDepth 100000 in
set_option maxHeartbeats 1000000 in
theorem rf_letter_calls (k : Nat) (a0 : Int) {w : World} {r_ : Bool} (h_ : rf_letter k a0 = some r_) :
    Calls Tryd.prog 28 [.int .u8 a0].toArray w fun e w' => e = .returned (.bool r_) ∧ St w (KS []) w' [] := by
  have hF := h_
  clear h_
  unfold rf_letter at hF
  have S := St.ofFalse (As := []) (St.init0 w)
  refine enter 17 [(0, .int .u8 a0)] Tryd.func28 rfl rfl rfl rfl ?_
  refine WCode.seq ?_
  refine WCode.region ?_
  refine WOps.p (G.assign rfl) rfl ?_
  refine WOps.nil ?_
  refine WEx.then_ ?_
  refine WCode.seq ?_
  refine WCode.region ?_
  refine WOps.p (G.move rfl) rfl ?_
  refine WOps.p (G.geq rfl rfl rfl) rfl ?_
  refine WOps.p (G.move rfl) rfl ?_
  rcases ite_some hF with ⟨h1, hF⟩ | ⟨h1, hF⟩
  ·
    refine WOps.on rfl (kbl (b := decide (97 ≤ a0)) rfl (decide_eq_true h1)) ?_
    refine WOps.p (G.move rfl) rfl ?_
    refine WOps.on rfl (kbl (b := decide (97 ≤ a0)) rfl (decide_eq_true h1)) ?_
    refine WOps.p (G.leq rfl rfl rfl) rfl ?_
    refine WOps.p (G.pick_t (kb (b := decide (97 ≤ a0)) rfl (decide_eq_true h1)) rfl) rfl ?_
    refine WOps.p (G.move rfl) rfl ?_
    rcases ite_some hF with ⟨h2, hF⟩ | ⟨h2, hF⟩
    ·
      refine WOps.off rfl (kbl (b := decide (a0 ≤ 122)) rfl (decide_eq_true h2)) rfl rfl ?_
      refine WOps.off rfl (kbl (b := decide (a0 ≤ 122)) rfl (decide_eq_true h2)) rfl rfl ?_
      refine WOps.off rfl (kbl (b := decide (a0 ≤ 122)) rfl (decide_eq_true h2)) rfl rfl ?_
      refine WOps.off rfl rfl rfl rfl ?_
      refine WOps.off rfl rfl rfl rfl ?_
      refine WOps.off rfl (kbl (b := decide (a0 ≤ 122)) rfl (decide_eq_true h2)) rfl rfl ?_
      refine WOps.p (G.pick_t (kb (b := decide (a0 ≤ 122)) rfl (decide_eq_true h2)) rfl) rfl ?_
      refine WOps.p (G.assign rfl) rfl ?_
      refine WOps.nil ?_
      refine WEx.then_ ?_
      refine WCode.forget (l' := [(2, .bool true)]) ⟨rfl, trivial⟩ ?_
      refine WCode.ret ?_
      obtain rfl := some_eq hF
      refine WEx.ret1 rfl rfl ?_
      exact ⟨rfl, St.keep (As := []) S⟩
    ·
      refine WOps.on rfl (kbl (b := decide (a0 ≤ 122)) rfl (decide_eq_false h2)) ?_
      refine WOps.p (G.move rfl) rfl ?_
      refine WOps.on rfl (kbl (b := decide (a0 ≤ 122)) rfl (decide_eq_false h2)) ?_
      refine WOps.p (G.geq rfl rfl rfl) rfl ?_
      refine WOps.on rfl (kbl (b := decide (a0 ≤ 122)) rfl (decide_eq_false h2)) ?_
      refine WOps.p (G.move rfl) rfl ?_
      rcases ite_some hF with ⟨h3, hF⟩ | ⟨h3, hF⟩
      ·
        refine WOps.on rfl (kbl (b := decide (65 ≤ a0)) rfl (decide_eq_true h3)) ?_
        refine WOps.p (G.move rfl) rfl ?_
        refine WOps.on rfl (kbl (b := decide (65 ≤ a0)) rfl (decide_eq_true h3)) ?_
        refine WOps.p (G.leq rfl rfl rfl) rfl ?_
        refine WOps.on rfl (kbl (b := decide (a0 ≤ 122)) rfl (decide_eq_false h2)) ?_
        refine WOps.p (G.pick_t (kb (b := decide (65 ≤ a0)) rfl (decide_eq_true h3)) rfl) rfl ?_
        refine WOps.p (G.pick_f (kb (b := decide (a0 ≤ 122)) rfl (decide_eq_false h2)) rfl) rfl ?_
        refine WOps.p (G.assign rfl) rfl ?_
        refine WOps.nil ?_
        refine WEx.then_ ?_
        refine WCode.forget (l' := [(2, .bool (decide (a0 ≤ 90)))]) ⟨rfl, trivial⟩ ?_
        refine WCode.ret ?_
        obtain rfl := some_eq hF
        refine WEx.ret1 rfl rfl ?_
        exact ⟨rfl, St.keep (As := []) S⟩
      ·
        refine WOps.off rfl (kbl (b := decide (65 ≤ a0)) rfl (decide_eq_false h3)) rfl rfl ?_
        refine WOps.off rfl (kbl (b := decide (65 ≤ a0)) rfl (decide_eq_false h3)) rfl rfl ?_
        refine WOps.on rfl (kbl (b := decide (a0 ≤ 122)) rfl (decide_eq_false h2)) ?_
        refine WOps.p (G.pick_f (kb (b := decide (65 ≤ a0)) rfl (decide_eq_false h3)) rfl) rfl ?_
        refine WOps.p (G.pick_f (kb (b := decide (a0 ≤ 122)) rfl (decide_eq_false h2)) rfl) rfl ?_
        refine WOps.p (G.assign rfl) rfl ?_
        refine WOps.nil ?_
        refine WEx.then_ ?_
        refine WCode.forget (l' := [(2, .bool false)]) ⟨rfl, trivial⟩ ?_
        refine WCode.ret ?_
        obtain rfl := some_eq hF
        refine WEx.ret1 rfl rfl ?_
        exact ⟨rfl, St.keep (As := []) S⟩
  ·
    refine WOps.off rfl (kbl (b := decide (97 ≤ a0)) rfl (decide_eq_false h1)) rfl rfl ?_
    refine WOps.off rfl (kbl (b := decide (97 ≤ a0)) rfl (decide_eq_false h1)) rfl rfl ?_
    refine WOps.p (G.pick_f (kb (b := decide (97 ≤ a0)) rfl (decide_eq_false h1)) rfl) rfl ?_
    refine WOps.p (G.move rfl) rfl ?_
    refine WOps.on rfl rfl ?_
    refine WOps.p (G.move rfl) rfl ?_
    refine WOps.on rfl rfl ?_
    refine WOps.p (G.geq rfl rfl rfl) rfl ?_
    refine WOps.on rfl rfl ?_
    refine WOps.p (G.move rfl) rfl ?_
    rcases ite_some hF with ⟨h4, hF⟩ | ⟨h4, hF⟩
    ·
      refine WOps.on rfl (kbl (b := decide (65 ≤ a0)) rfl (decide_eq_true h4)) ?_
      refine WOps.p (G.move rfl) rfl ?_
      refine WOps.on rfl (kbl (b := decide (65 ≤ a0)) rfl (decide_eq_true h4)) ?_
      refine WOps.p (G.leq rfl rfl rfl) rfl ?_
      refine WOps.on rfl rfl ?_
      refine WOps.p (G.pick_t (kb (b := decide (65 ≤ a0)) rfl (decide_eq_true h4)) rfl) rfl ?_
      refine WOps.p (G.pick_f rfl rfl) rfl ?_
      refine WOps.p (G.assign rfl) rfl ?_
      refine WOps.nil ?_
      refine WEx.then_ ?_
      refine WCode.forget (l' := [(2, .bool (decide (a0 ≤ 90)))]) ⟨rfl, trivial⟩ ?_
      refine WCode.ret ?_
      obtain rfl := some_eq hF
      refine WEx.ret1 rfl rfl ?_
      exact ⟨rfl, St.keep (As := []) S⟩
    ·
      refine WOps.off rfl (kbl (b := decide (65 ≤ a0)) rfl (decide_eq_false h4)) rfl rfl ?_
      refine WOps.off rfl (kbl (b := decide (65 ≤ a0)) rfl (decide_eq_false h4)) rfl rfl ?_
      refine WOps.on rfl rfl ?_
      refine WOps.p (G.pick_f (kb (b := decide (65 ≤ a0)) rfl (decide_eq_false h4)) rfl) rfl ?_
      refine WOps.p (G.pick_f rfl rfl) rfl ?_
      refine WOps.p (G.assign rfl) rfl ?_
      refine WOps.nil ?_
      refine WEx.then_ ?_
      refine WCode.forget (l' := [(2, .bool false)]) ⟨rfl, trivial⟩ ?_
      refine WCode.ret ?_
      obtain rfl := some_eq hF
      refine WEx.ret1 rfl rfl ?_
      exact ⟨rfl, St.keep (As := []) S⟩

def rf_digit (k : Nat) (a0 : Int) : Option Bool := (if 48 ≤ a0 then (some (decide (a0 ≤ 57))) else (some false))
set_option maxRecDepth 100000 in
set_option maxHeartbeats 1000000 in
theorem rf_digit_calls (k : Nat) (a0 : Int) {w : World} {r_ : Bool} (h_ : rf_digit k a0 = some r_) :
    Calls Tryd.prog 32 [.int .u8 a0].toArray w fun e w' => e = .returned (.bool r_) ∧ St w (KS []) w' [] := by
  have hF := h_
  clear h_
  unfold rf_digit at hF
  have S := St.ofFalse (As := []) (St.init0 w)
  refine enter 9 [(0, .int .u8 a0)] Tryd.func32 rfl rfl rfl rfl ?_
  refine WCode.seq ?_
  refine WCode.region ?_
  refine WOps.p (G.assign rfl) rfl ?_
  refine WOps.nil ?_
  refine WEx.then_ ?_
  refine WCode.seq ?_
  refine WCode.region ?_
  refine WOps.p (G.move rfl) rfl ?_
  refine WOps.p (G.geq rfl rfl rfl) rfl ?_
  refine WOps.p (G.move rfl) rfl ?_
  rcases ite_some hF with ⟨h1, hF⟩ | ⟨h1, hF⟩
  ·
    refine WOps.on rfl (kbl (b := decide (48 ≤ a0)) rfl (decide_eq_true h1)) ?_
    refine WOps.p (G.move rfl) rfl ?_
    refine WOps.on rfl (kbl (b := decide (48 ≤ a0)) rfl (decide_eq_true h1)) ?_
    refine WOps.p (G.leq rfl rfl rfl) rfl ?_
    refine WOps.p (G.pick_t (kb (b := decide (48 ≤ a0)) rfl (decide_eq_true h1)) rfl) rfl ?_
    refine WOps.p (G.assign rfl) rfl ?_
    refine WOps.nil ?_
    refine WEx.then_ ?_
    refine WCode.ret ?_
    obtain rfl := some_eq hF
    refine WEx.ret1 rfl rfl ?_
    exact ⟨rfl, St.keep (As := []) S⟩
  ·
    refine WOps.off rfl (kbl (b := decide (48 ≤ a0)) rfl (decide_eq_false h1)) rfl rfl ?_
    refine WOps.off rfl (kbl (b := decide (48 ≤ a0)) rfl (decide_eq_false h1)) rfl rfl ?_
    refine WOps.p (G.pick_f (kb (b := decide (48 ≤ a0)) rfl (decide_eq_false h1)) rfl) rfl ?_
    refine WOps.p (G.assign rfl) rfl ?_
    refine WOps.nil ?_
    refine WEx.then_ ?_
    refine WCode.ret ?_
    obtain rfl := some_eq hF
    refine WEx.ret1 rfl rfl ?_
    exact ⟨rfl, St.keep (As := []) S⟩

def rf_within (k : Nat) (a0 : Int) : Option Bool := (Option.bind (rf_digit k a0) fun t1 => (Option.bind (rf_letter k a0) fun t6 => (if t1 = true then (some true) else (if t6 = true then (some true) else (some (decide (a0 = 95)))))))
set_option maxRecDepth 100000 in
set_option maxHeartbeats 1000000 in
theorem rf_within_calls (k : Nat) (a0 : Int) {w : World} {r_ : Bool} (h_ : rf_within k a0 = some r_) :
    Calls Tryd.prog 41 [.int .u8 a0].toArray w fun e w' => e = .returned (.bool r_) ∧ St w (KS []) w' [] := by
  have hF := h_
  clear h_
  unfold rf_within at hF
  have S := St.ofFalse (As := []) (St.init0 w)
  refine enter 17 [(0, .int .u8 a0)] Tryd.func41 rfl rfl rfl rfl ?_
  refine WCode.seq ?_
  refine WCode.region ?_
  refine WOps.p (G.assign rfl) rfl ?_
  refine WOps.nil ?_
  refine WEx.then_ ?_
  refine WCode.seq ?_
  refine WCode.region ?_
  refine WOps.p (G.move rfl) rfl ?_
  obtain ⟨t1, hc2, hF⟩ := bind_some hF
  refine WOps.call T.call32 (evs_cons rfl evs_nil) rfl ?_
  refine (rf_digit_calls k a0 hc2).mono ?_
  rintro _ w3 ⟨rfl, T4⟩
  have S5 := St.callN (As := []) S T4
  change St _ _ _ [] at S5
  refine ⟨_, rfl, ?_⟩
  refine WOps.p (G.assign rfl) rfl ?_
  refine WOps.nil ?_
  refine WEx.then_ ?_
  refine WCode.seq ?_
  refine WCode.region ?_
  refine WOps.p (G.move rfl) rfl ?_
  obtain ⟨t6, hc7, hF⟩ := bind_some hF
  refine WOps.call T.call28 (evs_cons rfl evs_nil) rfl ?_
  refine (rf_letter_calls k a0 hc7).mono ?_
  rintro _ w8 ⟨rfl, T9⟩
  have S10 := St.callN (As := []) S5 T9
  change St _ _ _ [] at S10
  refine ⟨_, rfl, ?_⟩
  refine WOps.p (G.assign rfl) rfl ?_
  refine WOps.nil ?_
  refine WEx.then_ ?_
  refine WCode.seq ?_
  refine WCode.region ?_
  refine WOps.p (G.move rfl) rfl ?_
  refine WOps.p (G.move rfl) rfl ?_
  rcases ite_some hF with ⟨h11, hF⟩ | ⟨h11, hF⟩
  ·
    refine WOps.off rfl (kbl (b := t1) rfl h11) rfl rfl ?_
    refine WOps.p (G.pick_t (kb (b := t1) rfl h11) rfl) rfl ?_
    refine WOps.p (G.move rfl) rfl ?_
    refine WOps.off rfl rfl rfl rfl ?_
    refine WOps.off rfl rfl rfl rfl ?_
    refine WOps.p (G.pick_t rfl rfl) rfl ?_
    refine WOps.p (G.assign rfl) rfl ?_
    refine WOps.nil ?_
    refine WEx.then_ ?_
    refine WCode.forget (l' := [(2, .bool true)]) ⟨rfl, trivial⟩ ?_
    refine WCode.ret ?_
    obtain rfl := some_eq hF
    refine WEx.ret1 rfl rfl ?_
    exact ⟨rfl, St.keep (As := []) S10⟩
  ·
    refine WOps.on rfl (kbl (b := t1) rfl (Bool.eq_false_iff.2 h11)) ?_
    refine WOps.p (G.move rfl) rfl ?_
    refine WOps.p (G.pick_f (kb (b := t1) rfl (Bool.eq_false_iff.2 h11)) rfl) rfl ?_
    refine WOps.p (G.move rfl) rfl ?_
    rcases ite_some hF with ⟨h12, hF⟩ | ⟨h12, hF⟩
    ·
      refine WOps.off rfl (kbl (b := t6) rfl h12) rfl rfl ?_
      refine WOps.off rfl (kbl (b := t6) rfl h12) rfl rfl ?_
      refine WOps.p (G.pick_t (kb (b := t6) rfl h12) rfl) rfl ?_
      refine WOps.p (G.assign rfl) rfl ?_
      refine WOps.nil ?_
      refine WEx.then_ ?_
      refine WCode.forget (l' := [(2, .bool true)]) ⟨rfl, trivial⟩ ?_
      refine WCode.ret ?_
      obtain rfl := some_eq hF
      refine WEx.ret1 rfl rfl ?_
      exact ⟨rfl, St.keep (As := []) S10⟩
    ·
      refine WOps.on rfl (kbl (b := t6) rfl (Bool.eq_false_iff.2 h12)) ?_
      refine WOps.p (G.move rfl) rfl ?_
      refine WOps.on rfl (kbl (b := t6) rfl (Bool.eq_false_iff.2 h12)) ?_
      refine WOps.p (G.eql rfl rfl rfl) rfl ?_
      refine WOps.p (G.pick_f (kb (b := t6) rfl (Bool.eq_false_iff.2 h12)) rfl) rfl ?_
      refine WOps.p (G.assign rfl) rfl ?_
      refine WOps.nil ?_
      refine WEx.then_ ?_
      refine WCode.forget (l' := [(2, .bool (decide (a0 = 95)))]) ⟨rfl, trivial⟩ ?_
      refine WCode.ret ?_
      obtain rfl := some_eq hF
      refine WEx.ret1 rfl rfl ?_
      exact ⟨rfl, St.keep (As := []) S10⟩

def rf_run.l1 : Nat → List UInt8 → Int → Option Int
  | 0, _, _ => none
  | k4 + 1, a0, x1 => (if x1 < (a0.length : Int) then (Option.bind (idx a0 x1) fun c8 => (Option.bind (rf_within k4 ((c8).toNat : Int)) fun t10 => (if t10 = true then (rf_run.l1 k4 a0 (w64 (x1 + 1))) else (some x1)))) else (some x1))
def rf_run (k : Nat) (a0 : List UInt8) (a1 : Int) : Option Int := (rf_run.l1 k a0 a1)
set_option maxRecDepth 100000 in
set_option maxHeartbeats 1000000 in
theorem rf_run_calls (k : Nat) (a0 : List UInt8) (a1 : Int) {w : World} {r_ : Int} (h_ : rf_run k a0 a1 = some r_) :
    Calls Tryd.prog 25 [.string (bs a0), .int .i64 a1].toArray w fun e w' => e = .returned (.int .i64 r_) ∧ St w (KS []) w' [] := by
  have hF := h_
  clear h_
  unfold rf_run at hF
  have S := St.ofFalse (As := []) (St.init0 w)
  refine enter 20 [(0, .string (bs a0)), (1, .int .i64 a1)] Tryd.func25 rfl rfl rfl rfl ?_
  refine WCode.seq ?_
  refine WCode.region ?_
  refine WOps.p (G.assign rfl) rfl ?_
  refine WOps.nil ?_
  refine WEx.then_ ?_
  refine WCode.seq ?_
  refine WCode.block ?_
  refine WCode.forget (l' := [(0, .string (bs a0)), (1, .int .i64 a1)]) ⟨rfl, rfl, trivial⟩ ?_
  refine WCode.loop (fun n_ l_ w_ => ∃ x1 : Int, l_ = [(0, .string (bs a0)), (1, .int .i64 x1)] ∧ rf_run.l1 n_ a0 x1 = some r_ ∧ St w (KS []) w_ []) k ⟨a1, rfl, hF, S⟩ ?_
  rintro n5 _ w2 ⟨x1, rfl, hF, S3⟩
  obtain _ | k4 := n5
  · exact nomatch (show (none : Option Int) = some r_ from hF)
  rw [rf_run.l1] at hF
  refine WCode.seq ?_
  refine WCode.seq ?_
  refine WCode.region ?_
  refine WOps.p (G.move rfl) rfl ?_
  refine WOps.p (G.move rfl) rfl ?_
  refine WOps.p (G.lenb T.str9 rfl) rfl ?_
  refine WOps.p (G.lss rfl rfl rfl) rfl ?_
  refine WOps.nil ?_
  refine WEx.then_ ?_
  rcases ite_some hF with ⟨h7, hF⟩ | ⟨h7, hF⟩
  ·
    refine WCode.cond_t (kb (b := decide (x1 < (a0.length : Int))) rfl (decide_eq_true h7)) ?_
    refine WCode.skip ?_
    refine WEx.then_ ?_
    refine WCode.block ?_
    refine WCode.seq ?_
    refine WCode.region ?_
    refine WOps.p (G.move rfl) rfl ?_
    refine WOps.p (G.move rfl) rfl ?_
    obtain ⟨c8, hc9, hF⟩ := bind_some hF
    refine WOps.p (G.idxb T.str9 rfl rfl hc9) rfl ?_
    obtain ⟨t10, hc11, hF⟩ := bind_some hF
    refine WOps.call T.call41 (evs_cons rfl evs_nil) rfl ?_
    refine (rf_within_calls k4 ((c8).toNat : Int) hc11).mono ?_
    rintro _ w12 ⟨rfl, T13⟩
    have S14 := St.callN (As := []) S3 T13
    change St _ _ _ [] at S14
    refine ⟨_, rfl, ?_⟩
    refine WOps.p (G.assign rfl) rfl ?_
    refine WOps.nil ?_
    refine WEx.then_ ?_
    refine WCode.seq ?_
    refine WCode.seq ?_
    refine WCode.region ?_
    refine WOps.p (G.move rfl) rfl ?_
    refine WOps.p (G.not rfl rfl) rfl ?_
    refine WOps.nil ?_
    refine WEx.then_ ?_
    refine WCode.forget (l' := [(0, .string (bs a0)), (1, .int .i64 x1), (15, .bool (!t10))]) ⟨rfl, rfl, rfl, trivial⟩ ?_
    rcases ite_some hF with ⟨h15, hF⟩ | ⟨h15, hF⟩
    ·
      refine WCode.cond_f (kb (b := !t10) rfl (show (!t10) = false from by rw [h15]; rfl)) ?_
      refine WCode.skip ?_
      refine WEx.then_ ?_
      refine WCode.region ?_
      refine WOps.p (G.move rfl) rfl ?_
      refine WOps.p (G.add rfl rfl (r := (w64 (x1 + 1))) rfl) rfl ?_
      refine WOps.p (G.assign rfl) rfl ?_
      refine WOps.nil ?_
      refine WEx.in_normal ?_
      refine WEx.again _ _ (by omega) ?_ ⟨w64 (x1 + 1), rfl, hF, S14⟩
      exact ⟨rfl, rfl, trivial⟩
    ·
      refine WCode.cond_t (kb (b := !t10) rfl (show (!t10) = true from by rw [(Bool.eq_false_iff.2 h15)]; rfl)) ?_
      refine WCode.seq ?_
      refine WCode.region ?_
      refine WOps.p (G.move rfl) rfl ?_
      refine WOps.p (G.assign rfl) rfl ?_
      refine WOps.nil ?_
      refine WEx.then_ ?_
      refine WCode.ret ?_
      refine WEx.then_ret ?_
      refine WEx.in_ret ?_
      refine WEx.then_ret ?_
      refine WEx.in_ret ?_
      refine WEx.then_ret ?_
      obtain rfl := some_eq hF
      refine WEx.ret1 rfl rfl ?_
      exact ⟨rfl, St.keep (As := []) S14⟩
  ·
    refine WCode.cond_f (kb (b := decide (x1 < (a0.length : Int))) rfl (decide_eq_false h7)) ?_
    refine WCode.exit ?_
    refine WEx.then_exit ?_
    refine WEx.then_exit ?_
    refine WEx.in_exit ?_
    refine WEx.then_ ?_
    refine WCode.seq ?_
    refine WCode.region ?_
    refine WOps.p (G.move rfl) rfl ?_
    refine WOps.p (G.assign rfl) rfl ?_
    refine WOps.nil ?_
    refine WEx.then_ ?_
    refine WCode.ret ?_
    obtain rfl := some_eq hF
    refine WEx.ret1 rfl rfl ?_
    exact ⟨rfl, St.keep (As := []) S3⟩

def rf_sign.l1 : Nat → Int → Int → Option Bool
  | 0, _, _ => none
  | k4 + 1, a0, x1 => (if x1 < 13 then (Option.bind (idx ([123, 125, 40, 41, 91, 93, 60, 62, 61, 59, 58, 44, 42] : List UInt8) x1) fun c8 => (if ((c8).toNat : Int) = a0 then (some true) else (rf_sign.l1 k4 a0 (w64 (x1 + 1))))) else (some false))
def rf_sign (k : Nat) (a0 : Int) : Option Bool := (rf_sign.l1 k a0 0)
set_option maxRecDepth 100000 in
set_option maxHeartbeats 1000000 in
theorem rf_sign_calls (k : Nat) (a0 : Int) {w : World} {r_ : Bool} (h_ : rf_sign k a0 = some r_) :
    Calls Tryd.prog 34 [.int .u8 a0].toArray w fun e w' => e = .returned (.bool r_) ∧ St w (KS []) w' [] := by
  have hF := h_
  clear h_
  unfold rf_sign at hF
  have S := St.ofFalse (As := []) (St.init0 w)
  refine enter 12 [(0, .int .u8 a0)] Tryd.func34 rfl rfl rfl rfl ?_
  refine WCode.seq ?_
  refine WCode.region ?_
  refine WOps.p (G.assign rfl) rfl ?_
  refine WOps.nil ?_
  refine WEx.then_ ?_
  refine WCode.seq ?_
  refine WCode.seq ?_
  refine WCode.region ?_
  refine WOps.p (G.assign rfl) rfl ?_
  refine WOps.nil ?_
  refine WEx.then_ ?_
  refine WCode.block ?_
  refine WCode.forget (l' := [(0, .int .u8 a0), (3, .int .i64 0)]) ⟨rfl, rfl, trivial⟩ ?_
  refine WCode.loop (fun n_ l_ w_ => ∃ x1 : Int, l_ = [(0, .int .u8 a0), (3, .int .i64 x1)] ∧ rf_sign.l1 n_ a0 x1 = some r_ ∧ St w (KS []) w_ []) k ⟨0, rfl, hF, S⟩ ?_
  rintro n5 _ w2 ⟨x1, rfl, hF, S3⟩
  obtain _ | k4 := n5
  · exact nomatch (show (none : Option Bool) = some r_ from hF)
  rw [rf_sign.l1] at hF
  refine WCode.seq ?_
  refine WCode.seq ?_
  refine WCode.region ?_
  refine WOps.p (G.move rfl) rfl ?_
  refine WOps.p (G.lss rfl rfl rfl) rfl ?_
  refine WOps.nil ?_
  refine WEx.then_ ?_
  rcases ite_some hF with ⟨h7, hF⟩ | ⟨h7, hF⟩
  ·
    refine WCode.cond_t (kb (b := decide (x1 < 13)) rfl (decide_eq_true h7)) ?_
    refine WCode.skip ?_
    refine WEx.then_ ?_
    refine WCode.seq ?_
    refine WCode.block ?_
    refine WCode.seq ?_
    refine WCode.region ?_
    refine WOps.p (G.move rfl) rfl ?_
    obtain ⟨c8, hc9, hF⟩ := bind_some hF
    refine WOps.p (G.idxb T.str9 rfl rfl hc9) rfl ?_
    refine WOps.p (G.move rfl) rfl ?_
    refine WOps.p (G.eql rfl rfl rfl) rfl ?_
    refine WOps.nil ?_
    refine WEx.then_ ?_
    rcases ite_some hF with ⟨h10, hF⟩ | ⟨h10, hF⟩
    ·
      refine WCode.cond_t (kb (b := decide (((c8).toNat : Int) = a0)) rfl (decide_eq_true h10)) ?_
      refine WCode.seq ?_
      refine WCode.region ?_
      refine WOps.p (G.assign rfl) rfl ?_
      refine WOps.nil ?_
      refine WEx.then_ ?_
      refine WCode.ret ?_
      refine WEx.in_ret ?_
      refine WEx.then_ret ?_
      refine WEx.then_ret ?_
      refine WEx.in_ret ?_
      refine WEx.then_ret ?_
      obtain rfl := some_eq hF
      refine WEx.ret1 rfl rfl ?_
      exact ⟨rfl, St.keep (As := []) S3⟩
    ·
      refine WCode.cond_f (kb (b := decide (((c8).toNat : Int) = a0)) rfl (decide_eq_false h10)) ?_
      refine WCode.skip ?_
      refine WEx.in_normal ?_
      refine WEx.then_ ?_
      refine WCode.region ?_
      refine WOps.p (G.move rfl) rfl ?_
      refine WOps.p (G.add rfl rfl (r := (w64 (x1 + 1))) rfl) rfl ?_
      refine WOps.p (G.assign rfl) rfl ?_
      refine WOps.nil ?_
      refine WEx.again _ _ (by omega) ?_ ⟨w64 (x1 + 1), rfl, hF, S3⟩
      exact ⟨rfl, rfl, trivial⟩
  ·
    refine WCode.cond_f (kb (b := decide (x1 < 13)) rfl (decide_eq_false h7)) ?_
    refine WCode.exit ?_
    refine WEx.then_exit ?_
    refine WEx.then_exit ?_
    refine WEx.in_exit ?_
    refine WEx.then_ ?_
    refine WCode.seq ?_
    refine WCode.region ?_
    refine WOps.p (G.assign rfl) rfl ?_
    refine WOps.nil ?_
    refine WEx.then_ ?_
    refine WCode.ret ?_
    obtain rfl := some_eq hF
    refine WEx.ret1 rfl rfl ?_
    exact ⟨rfl, St.keep (As := []) S3⟩

def rf_comment.l1 : Nat → List UInt8 → Int → Option Int
  | 0, _, _ => none
  | k4 + 1, a0, x1 => (if (w64 (x1 + 1)) < (a0.length : Int) then (Option.bind (idx a0 x1) fun c8 => (if ((c8).toNat : Int) = 42 then (Option.bind (idx a0 (w64 (x1 + 1))) fun c11 => (if ((c11).toNat : Int) = 47 then (some (w64 (x1 + 2))) else (rf_comment.l1 k4 a0 (w64 (x1 + 1))))) else (rf_comment.l1 k4 a0 (w64 (x1 + 1))))) else (some 0))
def rf_comment (k : Nat) (a0 : List UInt8) (a1 : Int) : Option Int := (rf_comment.l1 k a0 (w64 (a1 + 2)))
set_option maxRecDepth 100000 in
set_option maxHeartbeats 1000000 in
theorem rf_comment_calls (k : Nat) (a0 : List UInt8) (a1 : Int) {w : World} {r_ : Int} (h_ : rf_comment k a0 a1 = some r_) :
    Calls Tryd.prog 20 [.string (bs a0), .int .i64 a1].toArray w fun e w' => e = .returned (.int .i64 r_) ∧ St w (KS []) w' [] := by
  have hF := h_
  clear h_
  unfold rf_comment at hF
  have S := St.ofFalse (As := []) (St.init0 w)
  refine enter 28 [(0, .string (bs a0)), (1, .int .i64 a1)] Tryd.func20 rfl rfl rfl rfl ?_
  refine WCode.seq ?_
  refine WCode.region ?_
  refine WOps.p (G.assign rfl) rfl ?_
  refine WOps.nil ?_
  refine WEx.then_ ?_
  refine WCode.seq ?_
  refine WCode.seq ?_
  refine WCode.region ?_
  refine WOps.p (G.move rfl) rfl ?_
  refine WOps.p (G.add rfl rfl (r := (w64 (a1 + 2))) rfl) rfl ?_
  refine WOps.p (G.assign rfl) rfl ?_
  refine WOps.nil ?_
  refine WEx.then_ ?_
  refine WCode.block ?_
  refine WCode.forget (l' := [(0, .string (bs a0)), (5, .int .i64 (w64 (a1 + 2)))]) ⟨rfl, rfl, trivial⟩ ?_
  refine WCode.loop (fun n_ l_ w_ => ∃ x1 : Int, l_ = [(0, .string (bs a0)), (5, .int .i64 x1)] ∧ rf_comment.l1 n_ a0 x1 = some r_ ∧ St w (KS []) w_ []) k ⟨w64 (a1 + 2), rfl, hF, S⟩ ?_
  rintro n5 _ w2 ⟨x1, rfl, hF, S3⟩
  obtain _ | k4 := n5
  · exact nomatch (show (none : Option Int) = some r_ from hF)
  rw [rf_comment.l1] at hF
  refine WCode.seq ?_
  refine WCode.seq ?_
  refine WCode.region ?_
  refine WOps.p (G.move rfl) rfl ?_
  refine WOps.p (G.add rfl rfl (r := (w64 (x1 + 1))) rfl) rfl ?_
  refine WOps.p (G.move rfl) rfl ?_
  refine WOps.p (G.lenb T.str9 rfl) rfl ?_
  refine WOps.p (G.lss rfl rfl rfl) rfl ?_
  refine WOps.nil ?_
  refine WEx.then_ ?_
  rcases ite_some hF with ⟨h7, hF⟩ | ⟨h7, hF⟩
  ·
    refine WCode.cond_t (kb (b := decide ((w64 (x1 + 1)) < (a0.length : Int))) rfl (decide_eq_true h7)) ?_
    refine WCode.skip ?_
    refine WEx.then_ ?_
    refine WCode.seq ?_
    refine WCode.block ?_
    refine WCode.seq ?_
    refine WCode.region ?_
    refine WOps.p (G.move rfl) rfl ?_
    refine WOps.p (G.move rfl) rfl ?_
    obtain ⟨c8, hc9, hF⟩ := bind_some hF
    refine WOps.p (G.idxb T.str9 rfl rfl hc9) rfl ?_
    refine WOps.p (G.eql rfl rfl rfl) rfl ?_
    refine WOps.p (G.move rfl) rfl ?_
    rcases ite_some hF with ⟨h10, hF⟩ | ⟨h10, hF⟩
    ·
      refine WOps.on rfl (kbl (b := decide (((c8).toNat : Int) = 42)) rfl (decide_eq_true h10)) ?_
      refine WOps.p (G.move rfl) rfl ?_
      refine WOps.on rfl (kbl (b := decide (((c8).toNat : Int) = 42)) rfl (decide_eq_true h10)) ?_
      refine WOps.p (G.move rfl) rfl ?_
      refine WOps.on rfl (kbl (b := decide (((c8).toNat : Int) = 42)) rfl (decide_eq_true h10)) ?_
      refine WOps.p (G.add rfl rfl (r := (w64 (x1 + 1))) rfl) rfl ?_
      refine WOps.on rfl (kbl (b := decide (((c8).toNat : Int) = 42)) rfl (decide_eq_true h10)) ?_
      obtain ⟨c11, hc12, hF⟩ := bind_some hF
      refine WOps.p (G.idxb T.str9 rfl rfl hc12) rfl ?_
      refine WOps.on rfl (kbl (b := decide (((c8).toNat : Int) = 42)) rfl (decide_eq_true h10)) ?_
      refine WOps.p (G.eql rfl rfl rfl) rfl ?_
      refine WOps.p (G.pick_t (kb (b := decide (((c8).toNat : Int) = 42)) rfl (decide_eq_true h10)) rfl) rfl ?_
      refine WOps.nil ?_
      refine WEx.then_ ?_
      refine WCode.forget (l' := [(0, .string (bs a0)), (5, .int .i64 x1), (20, .string (bs a0)), (21, .int .i64 x1), (22, .int .i64 (w64 (x1 + 1))), (23, .int .u8 ((c11).toNat : Int)), (24, .bool (decide (((c11).toNat : Int) = 47))), (25, .bool (decide (((c11).toNat : Int) = 47)))]) ⟨rfl, rfl, rfl, rfl, rfl, rfl, rfl, rfl, trivial⟩ ?_
      rcases ite_some hF with ⟨h13, hF⟩ | ⟨h13, hF⟩
      ·
        refine WCode.cond_t (kb (b := decide (((c11).toNat : Int) = 47)) rfl (decide_eq_true h13)) ?_
        refine WCode.seq ?_
        refine WCode.region ?_
        refine WOps.p (G.move rfl) rfl ?_
        refine WOps.p (G.add rfl rfl (r := (w64 (x1 + 2))) rfl) rfl ?_
        refine WOps.p (G.assign rfl) rfl ?_
        refine WOps.nil ?_
        refine WEx.then_ ?_
        refine WCode.forget (l' := [(4, .int .i64 (w64 (x1 + 2)))]) ⟨rfl, trivial⟩ ?_
        refine WCode.ret ?_
        refine WEx.in_ret ?_
        refine WEx.then_ret ?_
        refine WEx.then_ret ?_
        refine WEx.in_ret ?_
        refine WEx.then_ret ?_
        obtain rfl := some_eq hF
        refine WEx.ret1 rfl rfl ?_
        exact ⟨rfl, St.keep (As := []) S3⟩
      ·
        refine WCode.cond_f (kb (b := decide (((c11).toNat : Int) = 47)) rfl (decide_eq_false h13)) ?_
        refine WCode.skip ?_
        refine WEx.in_normal ?_
        refine WEx.then_ ?_
        refine WCode.region ?_
        refine WOps.p (G.move rfl) rfl ?_
        refine WOps.p (G.add rfl rfl (r := (w64 (x1 + 1))) rfl) rfl ?_
        refine WOps.p (G.assign rfl) rfl ?_
        refine WOps.nil ?_
        refine WEx.again _ _ (by omega) ?_ ⟨w64 (x1 + 1), rfl, hF, S3⟩
        exact ⟨rfl, rfl, trivial⟩
    ·
      refine WOps.off rfl (kbl (b := decide (((c8).toNat : Int) = 42)) rfl (decide_eq_false h10)) rfl rfl ?_
      refine WOps.off rfl (kbl (b := decide (((c8).toNat : Int) = 42)) rfl (decide_eq_false h10)) rfl rfl ?_
      refine WOps.off rfl (kbl (b := decide (((c8).toNat : Int) = 42)) rfl (decide_eq_false h10)) rfl rfl ?_
      refine WOps.off rfl (kbl (b := decide (((c8).toNat : Int) = 42)) rfl (decide_eq_false h10)) rfl rfl ?_
      refine WOps.off rfl (kbl (b := decide (((c8).toNat : Int) = 42)) rfl (decide_eq_false h10)) rfl rfl ?_
      refine WOps.p (G.pick_f (kb (b := decide (((c8).toNat : Int) = 42)) rfl (decide_eq_false h10)) rfl) rfl ?_
      refine WOps.nil ?_
      refine WEx.then_ ?_
      refine WCode.forget (l' := [(0, .string (bs a0)), (5, .int .i64 x1), (20, undef), (21, undef), (22, undef), (23, undef), (24, undef), (25, .bool false)]) ⟨rfl, rfl, rfl, rfl, rfl, rfl, rfl, rfl, trivial⟩ ?_
      refine WCode.cond_f rfl ?_
      refine WCode.skip ?_
      refine WEx.in_normal ?_
      refine WEx.then_ ?_
      refine WCode.region ?_
      refine WOps.p (G.move rfl) rfl ?_
      refine WOps.p (G.add rfl rfl (r := (w64 (x1 + 1))) rfl) rfl ?_
      refine WOps.p (G.assign rfl) rfl ?_
      refine WOps.nil ?_
      refine WEx.again _ _ (by omega) ?_ ⟨w64 (x1 + 1), rfl, hF, S3⟩
      exact ⟨rfl, rfl, trivial⟩
  ·
    refine WCode.cond_f (kb (b := decide ((w64 (x1 + 1)) < (a0.length : Int))) rfl (decide_eq_false h7)) ?_
    refine WCode.exit ?_
    refine WEx.then_exit ?_
    refine WEx.then_exit ?_
    refine WEx.in_exit ?_
    refine WEx.then_ ?_
    refine WCode.seq ?_
    refine WCode.region ?_
    refine WOps.p (G.assign rfl) rfl ?_
    refine WOps.nil ?_
    refine WEx.then_ ?_
    refine WCode.ret ?_
    obtain rfl := some_eq hF
    refine WEx.ret1 rfl rfl ?_
    exact ⟨rfl, St.keep (As := []) S3⟩

def rf_value.j2 (q12 : Nat) (a0 : Int) (a1 : Int) (b9 : Bool) : Option Int := (if b9 = true then (if a1 ≤ (w64 ((w64 (IntKind.u8.wrap (a0 - 97))) + 10)) then (some (-1)) else (some (w64 ((w64 (IntKind.u8.wrap (a0 - 97))) + 10)))) else (if 65 ≤ a0 then (if a0 ≤ 70 then (if a1 ≤ (w64 ((w64 (IntKind.u8.wrap (a0 - 65))) + 10)) then (some (-1)) else (some (w64 ((w64 (IntKind.u8.wrap (a0 - 65))) + 10)))) else (if a1 ≤ (-1) then (some (-1)) else (some (-1)))) else (if a1 ≤ (-1) then (some (-1)) else (some (-1)))))
def rf_value.j1 (q4 : Nat) (a0 : Int) (a1 : Int) (b1 : Bool) : Option Int := (if b1 = true then (if a1 ≤ (w64 (IntKind.u8.wrap (a0 - 48))) then (some (-1)) else (some (w64 (IntKind.u8.wrap (a0 - 48))))) else (if 97 ≤ a0 then (rf_value.j2 q4 a0 a1 (decide (a0 ≤ 102))) else (rf_value.j2 q4 a0 a1 false)))
def rf_value (k : Nat) (a0 : Int) (a1 : Int) : Option Int := (if 48 ≤ a0 then (rf_value.j1 k a0 a1 (decide (a0 ≤ 57))) else (rf_value.j1 k a0 a1 false))
set_option maxRecDepth 100000 in
set_option maxHeartbeats 1000000 in
theorem rf_value_calls (k : Nat) (a0 : Int) (a1 : Int) {w : World} {r_ : Int} (h_ : rf_value k a0 a1 = some r_) :
    Calls Tryd.prog 52 [.int .u8 a0, .int .i64 a1].toArray w fun e w' => e = .returned (.int .i64 r_) ∧ St w (KS []) w' [] := by
  have hF := h_
  clear h_
  unfold rf_value at hF
  have S := St.ofFalse (As := []) (St.init0 w)
  refine enter 42 [(0, .int .u8 a0), (1, .int .i64 a1)] Tryd.func52 rfl rfl rfl rfl ?_
  refine WCode.seq ?_
  refine WCode.region ?_
  refine WOps.p (G.assign rfl) rfl ?_
  refine WOps.nil ?_
  refine WEx.then_ ?_
  refine WCode.seq ?_
  refine WCode.region ?_
  refine WOps.p (G.assign rfl) rfl ?_
  refine WOps.nil ?_
  refine WEx.then_ ?_
  refine WCode.seq ?_
  refine WCode.block ?_
  refine WCode.cutseq (fun l_ w_ => ∃ q4 : Nat, ∃ b1 : Bool, l_ = [(0, .int .u8 a0), (1, .int .i64 a1), (5, .int .i64 (-1)), (6, .bool b1)] ∧ rf_value.j1 q4 a0 a1 b1 = some r_ ∧ St w (KS []) w_ []) ?_ ?_
  ·
    refine WCode.region ?_
    refine WOps.p (G.move rfl) rfl ?_
    refine WOps.p (G.geq rfl rfl rfl) rfl ?_
    refine WOps.p (G.move rfl) rfl ?_
    rcases ite_some hF with ⟨h6, hF⟩ | ⟨h6, hF⟩
    ·
      refine WOps.on rfl (kbl (b := decide (48 ≤ a0)) rfl (decide_eq_true h6)) ?_
      refine WOps.p (G.move rfl) rfl ?_
      refine WOps.on rfl (kbl (b := decide (48 ≤ a0)) rfl (decide_eq_true h6)) ?_
      refine WOps.p (G.leq rfl rfl rfl) rfl ?_
      refine WOps.p (G.pick_t (kb (b := decide (48 ≤ a0)) rfl (decide_eq_true h6)) rfl) rfl ?_
      refine WOps.p (G.assign rfl) rfl ?_
      refine WOps.nil ?_
      refine WEx.cutend _ ?_ ⟨k, decide (a0 ≤ 57), rfl, hF, S⟩
      exact ⟨rfl, rfl, rfl, rfl, trivial⟩
    ·
      refine WOps.off rfl (kbl (b := decide (48 ≤ a0)) rfl (decide_eq_false h6)) rfl rfl ?_
      refine WOps.off rfl (kbl (b := decide (48 ≤ a0)) rfl (decide_eq_false h6)) rfl rfl ?_
      refine WOps.p (G.pick_f (kb (b := decide (48 ≤ a0)) rfl (decide_eq_false h6)) rfl) rfl ?_
      refine WOps.p (G.assign rfl) rfl ?_
      refine WOps.nil ?_
      refine WEx.cutend _ ?_ ⟨k, false, rfl, hF, S⟩
      exact ⟨rfl, rfl, rfl, rfl, trivial⟩
  ·
    rintro _ w2 ⟨q4, b1, rfl, hF, S3⟩
    unfold rf_value.j1 at hF
    rcases ite_some hF with ⟨h7, hF⟩ | ⟨h7, hF⟩
    ·
      refine WCode.cond_t (kb (b := b1) rfl h7) ?_
      refine WCode.region ?_
      refine WOps.p (G.move rfl) rfl ?_
      refine WOps.p (G.sub rfl rfl (r := (IntKind.u8.wrap (a0 - 48))) rfl) rfl ?_
      refine WOps.p (G.convi (by kernel_rfl) Tryd.underlying3 rfl (r := (w64 (IntKind.u8.wrap (a0 - 48)))) rfl) rfl ?_
      refine WOps.p (G.assign rfl) rfl ?_
      refine WOps.nil ?_
      refine WEx.in_normal ?_
      refine WEx.then_ ?_
      refine WCode.seq ?_
      refine WCode.seq ?_
      refine WCode.region ?_
      refine WOps.p (G.move rfl) rfl ?_
      refine WOps.p (G.move rfl) rfl ?_
      refine WOps.p (G.geq rfl rfl rfl) rfl ?_
      refine WOps.nil ?_
      refine WEx.then_ ?_
      rcases ite_some hF with ⟨h8, hF⟩ | ⟨h8, hF⟩
      ·
        refine WCode.cond_t (kb (b := decide (a1 ≤ (w64 (IntKind.u8.wrap (a0 - 48))))) rfl (decide_eq_true h8)) ?_
        refine WCode.seq ?_
        refine WCode.region ?_
        refine WOps.p (G.assign rfl) rfl ?_
        refine WOps.nil ?_
        refine WEx.then_ ?_
        refine WCode.forget (l' := [(4, .int .i64 (-1))]) ⟨rfl, trivial⟩ ?_
        refine WCode.ret ?_
        refine WEx.then_ret ?_
        obtain rfl := some_eq hF
        refine WEx.ret1 rfl rfl ?_
        exact ⟨rfl, St.keep (As := []) S3⟩
      ·
        refine WCode.cond_f (kb (b := decide (a1 ≤ (w64 (IntKind.u8.wrap (a0 - 48))))) rfl (decide_eq_false h8)) ?_
        refine WCode.skip ?_
        refine WEx.then_ ?_
        refine WCode.seq ?_
        refine WCode.region ?_
        refine WOps.p (G.move rfl) rfl ?_
        refine WOps.p (G.assign rfl) rfl ?_
        refine WOps.nil ?_
        refine WEx.then_ ?_
        refine WCode.forget (l' := [(4, .int .i64 (w64 (IntKind.u8.wrap (a0 - 48))))]) ⟨rfl, trivial⟩ ?_
        refine WCode.ret ?_
        obtain rfl := some_eq hF
        refine WEx.ret1 rfl rfl ?_
        exact ⟨rfl, St.keep (As := []) S3⟩
    ·
      refine WCode.cond_f (kb (b := b1) rfl (Bool.eq_false_iff.2 h7)) ?_
      refine WCode.cutseq (fun l_ w_ => ∃ q12 : Nat, ∃ b9 : Bool, l_ = [(0, .int .u8 a0), (1, .int .i64 a1), (5, .int .i64 (-1)), (16, .bool b9)] ∧ rf_value.j2 q12 a0 a1 b9 = some r_ ∧ St w (KS []) w_ []) ?_ ?_
      ·
        refine WCode.region ?_
        refine WOps.p (G.move rfl) rfl ?_
        refine WOps.p (G.geq rfl rfl rfl) rfl ?_
        refine WOps.p (G.move rfl) rfl ?_
        rcases ite_some hF with ⟨h14, hF⟩ | ⟨h14, hF⟩
        ·
          refine WOps.on rfl (kbl (b := decide (97 ≤ a0)) rfl (decide_eq_true h14)) ?_
          refine WOps.p (G.move rfl) rfl ?_
          refine WOps.on rfl (kbl (b := decide (97 ≤ a0)) rfl (decide_eq_true h14)) ?_
          refine WOps.p (G.leq rfl rfl rfl) rfl ?_
          refine WOps.p (G.pick_t (kb (b := decide (97 ≤ a0)) rfl (decide_eq_true h14)) rfl) rfl ?_
          refine WOps.p (G.assign rfl) rfl ?_
          refine WOps.nil ?_
          refine WEx.cutend _ ?_ ⟨q4, decide (a0 ≤ 102), rfl, hF, S3⟩
          exact ⟨rfl, rfl, rfl, rfl, trivial⟩
        ·
          refine WOps.off rfl (kbl (b := decide (97 ≤ a0)) rfl (decide_eq_false h14)) rfl rfl ?_
          refine WOps.off rfl (kbl (b := decide (97 ≤ a0)) rfl (decide_eq_false h14)) rfl rfl ?_
          refine WOps.p (G.pick_f (kb (b := decide (97 ≤ a0)) rfl (decide_eq_false h14)) rfl) rfl ?_
          refine WOps.p (G.assign rfl) rfl ?_
          refine WOps.nil ?_
          refine WEx.cutend _ ?_ ⟨q4, false, rfl, hF, S3⟩
          exact ⟨rfl, rfl, rfl, rfl, trivial⟩
      ·
        rintro _ w10 ⟨q12, b9, rfl, hF, S11⟩
        unfold rf_value.j2 at hF
        rcases ite_some hF with ⟨h15, hF⟩ | ⟨h15, hF⟩
        ·
          refine WCode.cond_t (kb (b := b9) rfl h15) ?_
          refine WCode.region ?_
          refine WOps.p (G.move rfl) rfl ?_
          refine WOps.p (G.sub rfl rfl (r := (IntKind.u8.wrap (a0 - 97))) rfl) rfl ?_
          refine WOps.p (G.convi (by kernel_rfl) Tryd.underlying3 rfl (r := (w64 (IntKind.u8.wrap (a0 - 97)))) rfl) rfl ?_
          refine WOps.p (G.add rfl rfl (r := (w64 ((w64 (IntKind.u8.wrap (a0 - 97))) + 10))) rfl) rfl ?_
          refine WOps.p (G.assign rfl) rfl ?_
          refine WOps.nil ?_
          refine WEx.in_normal ?_
          refine WEx.then_ ?_
          refine WCode.seq ?_
          refine WCode.seq ?_
          refine WCode.region ?_
          refine WOps.p (G.move rfl) rfl ?_
          refine WOps.p (G.move rfl) rfl ?_
          refine WOps.p (G.geq rfl rfl rfl) rfl ?_
          refine WOps.nil ?_
          refine WEx.then_ ?_
          rcases ite_some hF with ⟨h16, hF⟩ | ⟨h16, hF⟩
          ·
            refine WCode.cond_t (kb (b := decide (a1 ≤ (w64 ((w64 (IntKind.u8.wrap (a0 - 97))) + 10)))) rfl (decide_eq_true h16)) ?_
            refine WCode.seq ?_
            refine WCode.region ?_
            refine WOps.p (G.assign rfl) rfl ?_
            refine WOps.nil ?_
            refine WEx.then_ ?_
            refine WCode.forget (l' := [(4, .int .i64 (-1))]) ⟨rfl, trivial⟩ ?_
            refine WCode.ret ?_
            refine WEx.then_ret ?_
            obtain rfl := some_eq hF
            refine WEx.ret1 rfl rfl ?_
            exact ⟨rfl, St.keep (As := []) S11⟩
          ·
            refine WCode.cond_f (kb (b := decide (a1 ≤ (w64 ((w64 (IntKind.u8.wrap (a0 - 97))) + 10)))) rfl (decide_eq_false h16)) ?_
            refine WCode.skip ?_
            refine WEx.then_ ?_
            refine WCode.forget (l' := [(5, .int .i64 (w64 ((w64 (IntKind.u8.wrap (a0 - 97))) + 10)))]) ⟨rfl, trivial⟩ ?_
            refine WCode.seq ?_
            refine WCode.region ?_
            refine WOps.p (G.move rfl) rfl ?_
            refine WOps.p (G.assign rfl) rfl ?_
            refine WOps.nil ?_
            refine WEx.then_ ?_
            refine WCode.ret ?_
            obtain rfl := some_eq hF
            refine WEx.ret1 rfl rfl ?_
            exact ⟨rfl, St.keep (As := []) S11⟩
        ·
          refine WCode.cond_f (kb (b := b9) rfl (Bool.eq_false_iff.2 h15)) ?_
          refine WCode.seq ?_
          refine WCode.region ?_
          refine WOps.p (G.move rfl) rfl ?_
          refine WOps.p (G.geq rfl rfl rfl) rfl ?_
          refine WOps.p (G.move rfl) rfl ?_
          rcases ite_some hF with ⟨h17, hF⟩ | ⟨h17, hF⟩
          ·
            refine WOps.on rfl (kbl (b := decide (65 ≤ a0)) rfl (decide_eq_true h17)) ?_
            refine WOps.p (G.move rfl) rfl ?_
            refine WOps.on rfl (kbl (b := decide (65 ≤ a0)) rfl (decide_eq_true h17)) ?_
            refine WOps.p (G.leq rfl rfl rfl) rfl ?_
            refine WOps.p (G.pick_t (kb (b := decide (65 ≤ a0)) rfl (decide_eq_true h17)) rfl) rfl ?_
            refine WOps.p (G.assign rfl) rfl ?_
            refine WOps.nil ?_
            refine WEx.then_ ?_
            rcases ite_some hF with ⟨h18, hF⟩ | ⟨h18, hF⟩
            ·
              refine WCode.cond_t (kb (b := decide (a0 ≤ 70)) rfl (decide_eq_true h18)) ?_
              refine WCode.region ?_
              refine WOps.p (G.move rfl) rfl ?_
              refine WOps.p (G.sub rfl rfl (r := (IntKind.u8.wrap (a0 - 65))) rfl) rfl ?_
              refine WOps.p (G.convi (by kernel_rfl) Tryd.underlying3 rfl (r := (w64 (IntKind.u8.wrap (a0 - 65)))) rfl) rfl ?_
              refine WOps.p (G.add rfl rfl (r := (w64 ((w64 (IntKind.u8.wrap (a0 - 65))) + 10))) rfl) rfl ?_
              refine WOps.p (G.assign rfl) rfl ?_
              refine WOps.nil ?_
              refine WEx.in_normal ?_
              refine WEx.then_ ?_
              refine WCode.forget (l' := [(1, .int .i64 a1), (5, .int .i64 (w64 ((w64 (IntKind.u8.wrap (a0 - 65))) + 10)))]) ⟨rfl, rfl, trivial⟩ ?_
              refine WCode.seq ?_
              refine WCode.seq ?_
              refine WCode.region ?_
              refine WOps.p (G.move rfl) rfl ?_
              refine WOps.p (G.move rfl) rfl ?_
              refine WOps.p (G.geq rfl rfl rfl) rfl ?_
              refine WOps.nil ?_
              refine WEx.then_ ?_
              rcases ite_some hF with ⟨h19, hF⟩ | ⟨h19, hF⟩
              ·
                refine WCode.cond_t (kb (b := decide (a1 ≤ (w64 ((w64 (IntKind.u8.wrap (a0 - 65))) + 10)))) rfl (decide_eq_true h19)) ?_
                refine WCode.seq ?_
                refine WCode.region ?_
                refine WOps.p (G.assign rfl) rfl ?_
                refine WOps.nil ?_
                refine WEx.then_ ?_
                refine WCode.ret ?_
                refine WEx.then_ret ?_
                obtain rfl := some_eq hF
                refine WEx.ret1 rfl rfl ?_
                exact ⟨rfl, St.keep (As := []) S11⟩
              ·
                refine WCode.cond_f (kb (b := decide (a1 ≤ (w64 ((w64 (IntKind.u8.wrap (a0 - 65))) + 10)))) rfl (decide_eq_false h19)) ?_
                refine WCode.skip ?_
                refine WEx.then_ ?_
                refine WCode.seq ?_
                refine WCode.region ?_
                refine WOps.p (G.move rfl) rfl ?_
                refine WOps.p (G.assign rfl) rfl ?_
                refine WOps.nil ?_
                refine WEx.then_ ?_
                refine WCode.ret ?_
                obtain rfl := some_eq hF
                refine WEx.ret1 rfl rfl ?_
                exact ⟨rfl, St.keep (As := []) S11⟩
            ·
              refine WCode.cond_f (kb (b := decide (a0 ≤ 70)) rfl (decide_eq_false h18)) ?_
              refine WCode.skip ?_
              refine WEx.in_normal ?_
              refine WEx.then_ ?_
              refine WCode.seq ?_
              refine WCode.seq ?_
              refine WCode.region ?_
              refine WOps.p (G.move rfl) rfl ?_
              refine WOps.p (G.move rfl) rfl ?_
              refine WOps.p (G.geq rfl rfl rfl) rfl ?_
              refine WOps.nil ?_
              refine WEx.then_ ?_
              refine WCode.forget (l' := [(5, .int .i64 (-1)), (40, .bool (decide (a1 ≤ (-1))))]) ⟨rfl, rfl, trivial⟩ ?_
              rcases ite_some hF with ⟨h20, hF⟩ | ⟨h20, hF⟩
              ·
                refine WCode.cond_t (kb (b := decide (a1 ≤ (-1))) rfl (decide_eq_true h20)) ?_
                refine WCode.seq ?_
                refine WCode.region ?_
                refine WOps.p (G.assign rfl) rfl ?_
                refine WOps.nil ?_
                refine WEx.then_ ?_
                refine WCode.ret ?_
                refine WEx.then_ret ?_
                obtain rfl := some_eq hF
                refine WEx.ret1 rfl rfl ?_
                exact ⟨rfl, St.keep (As := []) S11⟩
              ·
                refine WCode.cond_f (kb (b := decide (a1 ≤ (-1))) rfl (decide_eq_false h20)) ?_
                refine WCode.skip ?_
                refine WEx.then_ ?_
                refine WCode.seq ?_
                refine WCode.region ?_
                refine WOps.p (G.move rfl) rfl ?_
                refine WOps.p (G.assign rfl) rfl ?_
                refine WOps.nil ?_
                refine WEx.then_ ?_
                refine WCode.ret ?_
                obtain rfl := some_eq hF
                refine WEx.ret1 rfl rfl ?_
                exact ⟨rfl, St.keep (As := []) S11⟩
          ·
            refine WOps.off rfl (kbl (b := decide (65 ≤ a0)) rfl (decide_eq_false h17)) rfl rfl ?_
            refine WOps.off rfl (kbl (b := decide (65 ≤ a0)) rfl (decide_eq_false h17)) rfl rfl ?_
            refine WOps.p (G.pick_f (kb (b := decide (65 ≤ a0)) rfl (decide_eq_false h17)) rfl) rfl ?_
            refine WOps.p (G.assign rfl) rfl ?_
            refine WOps.nil ?_
            refine WEx.then_ ?_
            refine WCode.cond_f rfl ?_
            refine WCode.skip ?_
            refine WEx.in_normal ?_
            refine WEx.then_ ?_
            refine WCode.seq ?_
            refine WCode.seq ?_
            refine WCode.region ?_
            refine WOps.p (G.move rfl) rfl ?_
            refine WOps.p (G.move rfl) rfl ?_
            refine WOps.p (G.geq rfl rfl rfl) rfl ?_
            refine WOps.nil ?_
            refine WEx.then_ ?_
            refine WCode.forget (l' := [(5, .int .i64 (-1)), (40, .bool (decide (a1 ≤ (-1))))]) ⟨rfl, rfl, trivial⟩ ?_
            rcases ite_some hF with ⟨h21, hF⟩ | ⟨h21, hF⟩
            ·
              refine WCode.cond_t (kb (b := decide (a1 ≤ (-1))) rfl (decide_eq_true h21)) ?_
              refine WCode.seq ?_
              refine WCode.region ?_
              refine WOps.p (G.assign rfl) rfl ?_
              refine WOps.nil ?_
              refine WEx.then_ ?_
              refine WCode.ret ?_
              refine WEx.then_ret ?_
              obtain rfl := some_eq hF
              refine WEx.ret1 rfl rfl ?_
              exact ⟨rfl, St.keep (As := []) S11⟩
            ·
              refine WCode.cond_f (kb (b := decide (a1 ≤ (-1))) rfl (decide_eq_false h21)) ?_
              refine WCode.skip ?_
              refine WEx.then_ ?_
              refine WCode.seq ?_
              refine WCode.region ?_
              refine WOps.p (G.move rfl) rfl ?_
              refine WOps.p (G.assign rfl) rfl ?_
              refine WOps.nil ?_
              refine WEx.then_ ?_
              refine WCode.ret ?_
              obtain rfl := some_eq hF
              refine WEx.ret1 rfl rfl ?_
              exact ⟨rfl, St.keep (As := []) S11⟩

def rf_digits.l1 : Nat → List UInt8 → Int → Int → Int → Option (Int × Bool)
  | 0, _, _, _, _ => none
  | k5 + 1, a0, a1, x1, x2 => (if x2 < (a0.length : Int) then (Option.bind (idx a0 x2) fun c9 => (Option.bind (rf_value k5 ((c9).toNat : Int) a1) fun t11 => (if t11 < 0 then (some (0, false)) else (if 4294967295 < (w64 ((w64 (x1 * a1)) + t11)) then (some (0, false)) else (rf_digits.l1 k5 a0 a1 (w64 ((w64 (x1 * a1)) + t11)) (w64 (x2 + 1))))))) else (some (x1, !(decide (a0 = ([] : List UInt8))))))
def rf_digits (k : Nat) (a0 : List UInt8) (a1 : Int) : Option (Int × Bool) := (rf_digits.l1 k a0 a1 0 0)
set_option maxRecDepth 100000 in
set_option maxHeartbeats 1000000 in
theorem rf_digits_calls (k : Nat) (a0 : List UInt8) (a1 : Int) {w : World} {r_ : Int × Bool} (h_ : rf_digits k a0 a1 = some r_) :
    Calls Tryd.prog 43 [.string (bs a0), .int .i64 a1].toArray w fun e w' => e = .returned (.tuple #[.int .i64 r_.1, .bool r_.2]) ∧ St w (KS []) w' [] := by
  have hF := h_
  clear h_
  unfold rf_digits at hF
  have S := St.ofFalse (As := []) (St.init0 w)
  refine enter 32 [(0, .string (bs a0)), (1, .int .i64 a1)] Tryd.func43 rfl rfl rfl rfl ?_
  refine WCode.seq ?_
  refine WCode.region ?_
  refine WOps.p (G.assign rfl) rfl ?_
  refine WOps.p (G.assign rfl) rfl ?_
  refine WOps.nil ?_
  refine WEx.then_ ?_
  refine WCode.seq ?_
  refine WCode.region ?_
  refine WOps.p (G.assign rfl) rfl ?_
  refine WOps.nil ?_
  refine WEx.then_ ?_
  refine WCode.seq ?_
  refine WCode.seq ?_
  refine WCode.region ?_
  refine WOps.p (G.assign rfl) rfl ?_
  refine WOps.nil ?_
  refine WEx.then_ ?_
  refine WCode.block ?_
  refine WCode.forget (l' := [(0, .string (bs a0)), (1, .int .i64 a1), (6, .int .i64 0), (7, .int .i64 0)]) ⟨rfl, rfl, rfl, rfl, trivial⟩ ?_
  refine WCode.loop (fun n_ l_ w_ => ∃ x1 : Int, ∃ x2 : Int, l_ = [(0, .string (bs a0)), (1, .int .i64 a1), (6, .int .i64 x1), (7, .int .i64 x2)] ∧ rf_digits.l1 n_ a0 a1 x1 x2 = some r_ ∧ St w (KS []) w_ []) k ⟨0, 0, rfl, hF, S⟩ ?_
  rintro n6 _ w3 ⟨x1, x2, rfl, hF, S4⟩
  obtain _ | k5 := n6
  · exact nomatch (show (none : Option (Int × Bool)) = some r_ from hF)
  rw [rf_digits.l1] at hF
  refine WCode.seq ?_
  refine WCode.seq ?_
  refine WCode.region ?_
  refine WOps.p (G.move rfl) rfl ?_
  refine WOps.p (G.move rfl) rfl ?_
  refine WOps.p (G.lenb T.str9 rfl) rfl ?_
  refine WOps.p (G.lss rfl rfl rfl) rfl ?_
  refine WOps.nil ?_
  refine WEx.then_ ?_
  rcases ite_some hF with ⟨h8, hF⟩ | ⟨h8, hF⟩
  ·
    refine WCode.cond_t (kb (b := decide (x2 < (a0.length : Int))) rfl (decide_eq_true h8)) ?_
    refine WCode.skip ?_
    refine WEx.then_ ?_
    refine WCode.seq ?_
    refine WCode.block ?_
    refine WCode.seq ?_
    refine WCode.region ?_
    refine WOps.p (G.move rfl) rfl ?_
    refine WOps.p (G.move rfl) rfl ?_
    obtain ⟨c9, hc10, hF⟩ := bind_some hF
    refine WOps.p (G.idxb T.str9 rfl rfl hc10) rfl ?_
    refine WOps.p (G.move rfl) rfl ?_
    obtain ⟨t11, hc12, hF⟩ := bind_some hF
    refine WOps.call T.call52 (evs_cons rfl (evs_cons rfl evs_nil)) rfl ?_
    refine (rf_value_calls k5 ((c9).toNat : Int) a1 hc12).mono ?_
    rintro _ w13 ⟨rfl, T14⟩
    have S15 := St.callN (As := []) S4 T14
    change St _ _ _ [] at S15
    refine ⟨_, rfl, ?_⟩
    refine WOps.p (G.assign rfl) rfl ?_
    refine WOps.nil ?_
    refine WEx.then_ ?_
    refine WCode.seq ?_
    refine WCode.seq ?_
    refine WCode.region ?_
    refine WOps.p (G.move rfl) rfl ?_
    refine WOps.p (G.lss rfl rfl rfl) rfl ?_
    refine WOps.nil ?_
    refine WEx.then_ ?_
    refine WCode.forget (l' := [(0, .string (bs a0)), (1, .int .i64 a1), (6, .int .i64 x1), (7, .int .i64 x2), (8, .int .i64 t11), (21, .bool (decide (t11 < 0)))]) ⟨rfl, rfl, rfl, rfl, rfl, rfl, trivial⟩ ?_
    rcases ite_some hF with ⟨h16, hF⟩ | ⟨h16, hF⟩
    ·
      refine WCode.cond_t (kb (b := decide (t11 < 0)) rfl (decide_eq_true h16)) ?_
      refine WCode.seq ?_
      refine WCode.region ?_
      refine WOps.p (G.assign rfl) rfl ?_
      refine WOps.p (G.assign rfl) rfl ?_
      refine WOps.nil ?_
      refine WEx.then_ ?_
      refine WCode.ret ?_
      refine WEx.then_ret ?_
      refine WEx.in_ret ?_
      refine WEx.then_ret ?_
      refine WEx.then_ret ?_
      refine WEx.in_ret ?_
      refine WEx.then_ret ?_
      obtain rfl := some_eq hF
      refine WEx.ret2 rfl rfl rfl ?_
      exact ⟨rfl, St.keep (As := []) S15⟩
    ·
      refine WCode.cond_f (kb (b := decide (t11 < 0)) rfl (decide_eq_false h16)) ?_
      refine WCode.skip ?_
      refine WEx.then_ ?_
      refine WCode.seq ?_
      refine WCode.region ?_
      refine WOps.p (G.move rfl) rfl ?_
      refine WOps.p (G.move rfl) rfl ?_
      refine WOps.p (G.mul rfl rfl (r := (w64 (x1 * a1))) rfl) rfl ?_
      refine WOps.p (G.move rfl) rfl ?_
      refine WOps.p (G.add rfl rfl (r := (w64 ((w64 (x1 * a1)) + t11))) rfl) rfl ?_
      refine WOps.p (G.assign rfl) rfl ?_
      refine WOps.nil ?_
      refine WEx.then_ ?_
      refine WCode.seq ?_
      refine WCode.region ?_
      refine WOps.p (G.move rfl) rfl ?_
      refine WOps.p (G.gtr rfl rfl rfl) rfl ?_
      refine WOps.nil ?_
      refine WEx.then_ ?_
      rcases ite_some hF with ⟨h17, hF⟩ | ⟨h17, hF⟩
      ·
        refine WCode.cond_t (kb (b := decide (4294967295 < (w64 ((w64 (x1 * a1)) + t11)))) rfl (decide_eq_true h17)) ?_
        refine WCode.seq ?_
        refine WCode.region ?_
        refine WOps.p (G.assign rfl) rfl ?_
        refine WOps.p (G.assign rfl) rfl ?_
        refine WOps.nil ?_
        refine WEx.then_ ?_
        refine WCode.forget (l' := [(4, .int .i64 0), (5, .bool false)]) ⟨rfl, rfl, trivial⟩ ?_
        refine WCode.ret ?_
        refine WEx.in_ret ?_
        refine WEx.then_ret ?_
        refine WEx.then_ret ?_
        refine WEx.in_ret ?_
        refine WEx.then_ret ?_
        obtain rfl := some_eq hF
        refine WEx.ret2 rfl rfl rfl ?_
        exact ⟨rfl, St.keep (As := []) S15⟩
      ·
        refine WCode.cond_f (kb (b := decide (4294967295 < (w64 ((w64 (x1 * a1)) + t11)))) rfl (decide_eq_false h17)) ?_
        refine WCode.skip ?_
        refine WEx.in_normal ?_
        refine WEx.then_ ?_
        refine WCode.region ?_
        refine WOps.p (G.move rfl) rfl ?_
        refine WOps.p (G.add rfl rfl (r := (w64 (x2 + 1))) rfl) rfl ?_
        refine WOps.p (G.assign rfl) rfl ?_
        refine WOps.nil ?_
        refine WEx.again _ _ (by omega) ?_ ⟨w64 ((w64 (x1 * a1)) + t11), w64 (x2 + 1), rfl, hF, S15⟩
        exact ⟨rfl, rfl, rfl, rfl, trivial⟩
  ·
    refine WCode.cond_f (kb (b := decide (x2 < (a0.length : Int))) rfl (decide_eq_false h8)) ?_
    refine WCode.exit ?_
    refine WEx.then_exit ?_
    refine WEx.then_exit ?_
    refine WEx.in_exit ?_
    refine WEx.then_ ?_
    refine WCode.seq ?_
    refine WCode.region ?_
    refine WOps.p (G.move rfl) rfl ?_
    refine WOps.p (G.move rfl) rfl ?_
    refine WOps.p (G.neqlb' rfl rfl rfl) rfl ?_
    refine WOps.p (G.assign rfl) rfl ?_
    refine WOps.p (G.assign rfl) rfl ?_
    refine WOps.nil ?_
    refine WEx.then_ ?_
    refine WCode.forget (l' := [(4, .int .i64 x1), (5, .bool (!(decide (a0 = ([] : List UInt8)))))]) ⟨rfl, rfl, trivial⟩ ?_
    refine WCode.ret ?_
    obtain rfl := some_eq hF
    refine WEx.ret2 rfl rfl rfl ?_
    exact ⟨rfl, St.keep (As := []) S4⟩

def rf_number.j1 (q15 : Nat) (a0 : List UInt8) (b12 : Bool) : Option (Int × Bool) := (if b12 = true then (Option.bind (cut a0 2 (a0.length : Int)) fun m21 => (Option.bind (rf_digits q15 m21 16) fun t23 => (some (t23.1, t23.2)))) else (Option.bind (idx a0 0) fun c28 => (if ((c28).toNat : Int) = 48 then (Option.bind (cut a0 1 (a0.length : Int)) fun m31 => (Option.bind (rf_digits q15 m31 8) fun t33 => (some (t33.1, t33.2)))) else (Option.bind (rf_digits q15 a0 10) fun t38 => (some (t38.1, t38.2))))))
def rf_number (k : Nat) (a0 : List UInt8) (a1 : Bool) : Option (Int × Bool) := (if a1 = true then (Option.bind (rf_digits k a0 10) fun t2 => (if t2.2 = true then (Option.bind (idx a0 0) fun c8 => (if ((c8).toNat : Int) = 48 then (some (w64 (-t2.1), false)) else (some (w64 (-t2.1), decide (t2.1 ≤ 2147483648))))) else (some (w64 (-t2.1), false)))) else (if a0 = ([48] : List UInt8) then (some (0, true)) else (if 2 < (a0.length : Int) then (Option.bind (cut a0 0 2) fun m18 => (rf_number.j1 k a0 (decide (m18 = ([48, 120] : List UInt8))))) else (rf_number.j1 k a0 false))))
set_option maxRecDepth 100000 in
set_option maxHeartbeats 1000000 in
theorem rf_number_calls (k : Nat) (a0 : List UInt8) (a1 : Bool) {w : World} {r_ : Int × Bool} (h_ : rf_number k a0 a1 = some r_) :
    Calls Tryd.prog 33 [.string (bs a0), .bool a1].toArray w fun e w' => e = .returned (.tuple #[.int .i64 r_.1, .bool r_.2]) ∧ St w (KS []) w' [] := by
  have hF := h_
  clear h_
  unfold rf_number at hF
  have S := St.ofFalse (As := []) (St.init0 w)
  refine enter 57 [(0, .string (bs a0)), (1, .bool a1)] Tryd.func33 rfl rfl rfl rfl ?_
  refine WCode.seq ?_
  refine WCode.region ?_
  refine WOps.p (G.assign rfl) rfl ?_
  refine WOps.p (G.assign rfl) rfl ?_
  refine WOps.nil ?_
  refine WEx.then_ ?_
  refine WCode.seq ?_
  refine WCode.block ?_
  refine WCode.seq ?_
  refine WCode.region ?_
  refine WOps.p (G.move rfl) rfl ?_
  refine WOps.p (G.assign rfl) rfl ?_
  refine WOps.nil ?_
  refine WEx.then_ ?_
  rcases ite_some hF with ⟨h1, hF⟩ | ⟨h1, hF⟩
  ·
    refine WCode.cond_t (kb (b := a1) rfl h1) ?_
    refine WCode.seq ?_
    refine WCode.region ?_
    refine WOps.p (G.move rfl) rfl ?_
    obtain ⟨t2, hc3, hF⟩ := bind_some hF
    refine WOps.call T.call43 (evs_cons rfl (evs_cons rfl evs_nil)) rfl ?_
    refine (rf_digits_calls k a0 10 hc3).mono ?_
    rintro _ w4 ⟨rfl, T5⟩
    have S6 := St.callN (As := []) S T5
    change St _ _ _ [] at S6
    refine ⟨_, rfl, ?_⟩
    refine WOps.p (G.move rfl) rfl ?_
    refine WOps.p (G.extract rfl rfl) rfl ?_
    refine WOps.p (G.extract rfl rfl) rfl ?_
    refine WOps.p (G.assign rfl) rfl ?_
    refine WOps.p (G.assign rfl) rfl ?_
    refine WOps.nil ?_
    refine WEx.then_ ?_
    refine WCode.forget (l' := [(0, .string (bs a0)), (6, .int .i64 t2.1), (7, .bool t2.2)]) ⟨rfl, rfl, rfl, trivial⟩ ?_
    refine WCode.seq ?_
    refine WCode.region ?_
    refine WOps.p (G.move rfl) rfl ?_
    refine WOps.p (G.neg rfl (r := (w64 (-t2.1))) rfl) rfl ?_
    refine WOps.p (G.move rfl) rfl ?_
    refine WOps.p (G.move rfl) rfl ?_
    rcases ite_some hF with ⟨h7, hF⟩ | ⟨h7, hF⟩
    ·
      refine WOps.on rfl (kbl (b := t2.2) rfl h7) ?_
      refine WOps.p (G.move rfl) rfl ?_
      refine WOps.on rfl (kbl (b := t2.2) rfl h7) ?_
      obtain ⟨c8, hc9, hF⟩ := bind_some hF
      refine WOps.p (G.idxb T.str9 rfl rfl hc9) rfl ?_
      refine WOps.on rfl (kbl (b := t2.2) rfl h7) ?_
      refine WOps.p (G.neq rfl rfl rfl) rfl ?_
      refine WOps.p (G.pick_t (kb (b := t2.2) rfl h7) rfl) rfl ?_
      refine WOps.p (G.move rfl) rfl ?_
      rcases ite_some hF with ⟨h10, hF⟩ | ⟨h10, hF⟩
      ·
        refine WOps.off rfl (kbl (b := !(decide (((c8).toNat : Int) = 48))) rfl (show (!(decide (((c8).toNat : Int) = 48))) = false from by rw [(decide_eq_true h10)]; rfl)) rfl rfl ?_
        refine WOps.off rfl (kbl (b := !(decide (((c8).toNat : Int) = 48))) rfl (show (!(decide (((c8).toNat : Int) = 48))) = false from by rw [(decide_eq_true h10)]; rfl)) rfl rfl ?_
        refine WOps.p (G.pick_f (kb (b := !(decide (((c8).toNat : Int) = 48))) rfl (show (!(decide (((c8).toNat : Int) = 48))) = false from by rw [(decide_eq_true h10)]; rfl)) rfl) rfl ?_
        refine WOps.p (G.assign rfl) rfl ?_
        refine WOps.p (G.assign rfl) rfl ?_
        refine WOps.nil ?_
        refine WEx.then_ ?_
        refine WCode.forget (l' := [(4, .int .i64 (w64 (-t2.1))), (5, .bool false)]) ⟨rfl, rfl, trivial⟩ ?_
        refine WCode.ret ?_
        refine WEx.in_ret ?_
        refine WEx.then_ret ?_
        obtain rfl := some_eq hF
        refine WEx.ret2 rfl rfl rfl ?_
        exact ⟨rfl, St.keep (As := []) S6⟩
      ·
        refine WOps.on rfl (kbl (b := !(decide (((c8).toNat : Int) = 48))) rfl (show (!(decide (((c8).toNat : Int) = 48))) = true from by rw [(decide_eq_false h10)]; rfl)) ?_
        refine WOps.p (G.move rfl) rfl ?_
        refine WOps.on rfl (kbl (b := !(decide (((c8).toNat : Int) = 48))) rfl (show (!(decide (((c8).toNat : Int) = 48))) = true from by rw [(decide_eq_false h10)]; rfl)) ?_
        refine WOps.p (G.leq rfl rfl rfl) rfl ?_
        refine WOps.p (G.pick_t (kb (b := !(decide (((c8).toNat : Int) = 48))) rfl (show (!(decide (((c8).toNat : Int) = 48))) = true from by rw [(decide_eq_false h10)]; rfl)) rfl) rfl ?_
        refine WOps.p (G.assign rfl) rfl ?_
        refine WOps.p (G.assign rfl) rfl ?_
        refine WOps.nil ?_
        refine WEx.then_ ?_
        refine WCode.forget (l' := [(4, .int .i64 (w64 (-t2.1))), (5, .bool (decide (t2.1 ≤ 2147483648)))]) ⟨rfl, rfl, trivial⟩ ?_
        refine WCode.ret ?_
        refine WEx.in_ret ?_
        refine WEx.then_ret ?_
        obtain rfl := some_eq hF
        refine WEx.ret2 rfl rfl rfl ?_
        exact ⟨rfl, St.keep (As := []) S6⟩
    ·
      refine WOps.off rfl (kbl (b := t2.2) rfl (Bool.eq_false_iff.2 h7)) rfl rfl ?_
      refine WOps.off rfl (kbl (b := t2.2) rfl (Bool.eq_false_iff.2 h7)) rfl rfl ?_
      refine WOps.off rfl (kbl (b := t2.2) rfl (Bool.eq_false_iff.2 h7)) rfl rfl ?_
      refine WOps.p (G.pick_f (kb (b := t2.2) rfl (Bool.eq_false_iff.2 h7)) rfl) rfl ?_
      refine WOps.p (G.move rfl) rfl ?_
      refine WOps.off rfl rfl rfl rfl ?_
      refine WOps.off rfl rfl rfl rfl ?_
      refine WOps.p (G.pick_f rfl rfl) rfl ?_
      refine WOps.p (G.assign rfl) rfl ?_
      refine WOps.p (G.assign rfl) rfl ?_
      refine WOps.nil ?_
      refine WEx.then_ ?_
      refine WCode.forget (l' := [(4, .int .i64 (w64 (-t2.1))), (5, .bool false)]) ⟨rfl, rfl, trivial⟩ ?_
      refine WCode.ret ?_
      refine WEx.in_ret ?_
      refine WEx.then_ret ?_
      obtain rfl := some_eq hF
      refine WEx.ret2 rfl rfl rfl ?_
      exact ⟨rfl, St.keep (As := []) S6⟩
  ·
    refine WCode.cond_f (kb (b := a1) rfl (Bool.eq_false_iff.2 h1)) ?_
    refine WCode.seq ?_
    refine WCode.region ?_
    refine WOps.p (G.move rfl) rfl ?_
    refine WOps.p (G.eqlb' rfl rfl rfl) rfl ?_
    refine WOps.p (G.assign rfl) rfl ?_
    refine WOps.nil ?_
    refine WEx.then_ ?_
    rcases ite_some hF with ⟨h11, hF⟩ | ⟨h11, hF⟩
    ·
      refine WCode.cond_t (kb (b := decide (a0 = ([48] : List UInt8))) rfl (decide_eq_true h11)) ?_
      refine WCode.seq ?_
      refine WCode.region ?_
      refine WOps.p (G.assign rfl) rfl ?_
      refine WOps.p (G.assign rfl) rfl ?_
      refine WOps.nil ?_
      refine WEx.then_ ?_
      refine WCode.ret ?_
      refine WEx.in_ret ?_
      refine WEx.then_ret ?_
      obtain rfl := some_eq hF
      refine WEx.ret2 rfl rfl rfl ?_
      exact ⟨rfl, St.keep (As := []) S⟩
    ·
      refine WCode.cond_f (kb (b := decide (a0 = ([48] : List UInt8))) rfl (decide_eq_false h11)) ?_
      refine WCode.cutseq (fun l_ w_ => ∃ q15 : Nat, ∃ b12 : Bool, l_ = [(0, .string (bs a0)), (30, .bool b12)] ∧ rf_number.j1 q15 a0 b12 = some r_ ∧ St w (KS []) w_ []) ?_ ?_
      ·
        refine WCode.region ?_
        refine WOps.p (G.move rfl) rfl ?_
        refine WOps.p (G.lenb T.str9 rfl) rfl ?_
        refine WOps.p (G.gtr rfl rfl rfl) rfl ?_
        refine WOps.p (G.move rfl) rfl ?_
        rcases ite_some hF with ⟨h17, hF⟩ | ⟨h17, hF⟩
        ·
          refine WOps.on rfl (kbl (b := decide (2 < (a0.length : Int))) rfl (decide_eq_true h17)) ?_
          refine WOps.p (G.move rfl) rfl ?_
          refine WOps.on rfl (kbl (b := decide (2 < (a0.length : Int))) rfl (decide_eq_true h17)) ?_
          obtain ⟨m18, hc19, hF⟩ := bind_some hF
          refine WOps.p (G.cutb_h T.str9 rfl rfl hc19) rfl ?_
          refine WOps.on rfl (kbl (b := decide (2 < (a0.length : Int))) rfl (decide_eq_true h17)) ?_
          refine WOps.p (G.eqlb' rfl rfl rfl) rfl ?_
          refine WOps.p (G.pick_t (kb (b := decide (2 < (a0.length : Int))) rfl (decide_eq_true h17)) rfl) rfl ?_
          refine WOps.p (G.assign rfl) rfl ?_
          refine WOps.nil ?_
          refine WEx.cutend _ ?_ ⟨k, decide (m18 = ([48, 120] : List UInt8)), rfl, hF, S⟩
          exact ⟨rfl, rfl, trivial⟩
        ·
          refine WOps.off rfl (kbl (b := decide (2 < (a0.length : Int))) rfl (decide_eq_false h17)) rfl rfl ?_
          refine WOps.off rfl (kbl (b := decide (2 < (a0.length : Int))) rfl (decide_eq_false h17)) rfl rfl ?_
          refine WOps.off rfl (kbl (b := decide (2 < (a0.length : Int))) rfl (decide_eq_false h17)) rfl rfl ?_
          refine WOps.p (G.pick_f (kb (b := decide (2 < (a0.length : Int))) rfl (decide_eq_false h17)) rfl) rfl ?_
          refine WOps.p (G.assign rfl) rfl ?_
          refine WOps.nil ?_
          refine WEx.cutend _ ?_ ⟨k, false, rfl, hF, S⟩
          exact ⟨rfl, rfl, trivial⟩
      ·
        rintro _ w13 ⟨q15, b12, rfl, hF, S14⟩
        unfold rf_number.j1 at hF
        rcases ite_some hF with ⟨h20, hF⟩ | ⟨h20, hF⟩
        ·
          refine WCode.cond_t (kb (b := b12) rfl h20) ?_
          refine WCode.seq ?_
          refine WCode.region ?_
          refine WOps.p (G.move rfl) rfl ?_
          obtain ⟨m21, hc22, hF⟩ := bind_some hF
          refine WOps.p (G.cutb_l T.str9 rfl rfl hc22) rfl ?_
          obtain ⟨t23, hc24, hF⟩ := bind_some hF
          refine WOps.call T.call43 (evs_cons rfl (evs_cons rfl evs_nil)) rfl ?_
          refine (rf_digits_calls q15 m21 16 hc24).mono ?_
          rintro _ w25 ⟨rfl, T26⟩
          have S27 := St.callN (As := []) S14 T26
          change St _ _ _ [] at S27
          refine ⟨_, rfl, ?_⟩
          refine WOps.p (G.extract rfl rfl) rfl ?_
          refine WOps.p (G.extract rfl rfl) rfl ?_
          refine WOps.p (G.assign rfl) rfl ?_
          refine WOps.p (G.assign rfl) rfl ?_
          refine WOps.nil ?_
          refine WEx.then_ ?_
          refine WCode.ret ?_
          refine WEx.in_ret ?_
          refine WEx.then_ret ?_
          obtain rfl := some_eq hF
          refine WEx.ret2 rfl rfl rfl ?_
          exact ⟨rfl, St.keep (As := []) S27⟩
        ·
          refine WCode.cond_f (kb (b := b12) rfl (Bool.eq_false_iff.2 h20)) ?_
          refine WCode.seq ?_
          refine WCode.region ?_
          refine WOps.p (G.move rfl) rfl ?_
          obtain ⟨c28, hc29, hF⟩ := bind_some hF
          refine WOps.p (G.idxb T.str9 rfl rfl hc29) rfl ?_
          refine WOps.p (G.eql rfl rfl rfl) rfl ?_
          refine WOps.p (G.assign rfl) rfl ?_
          refine WOps.nil ?_
          refine WEx.then_ ?_
          rcases ite_some hF with ⟨h30, hF⟩ | ⟨h30, hF⟩
          ·
            refine WCode.cond_t (kb (b := decide (((c28).toNat : Int) = 48)) rfl (decide_eq_true h30)) ?_
            refine WCode.seq ?_
            refine WCode.region ?_
            refine WOps.p (G.move rfl) rfl ?_
            obtain ⟨m31, hc32, hF⟩ := bind_some hF
            refine WOps.p (G.cutb_l T.str9 rfl rfl hc32) rfl ?_
            obtain ⟨t33, hc34, hF⟩ := bind_some hF
            refine WOps.call T.call43 (evs_cons rfl (evs_cons rfl evs_nil)) rfl ?_
            refine (rf_digits_calls q15 m31 8 hc34).mono ?_
            rintro _ w35 ⟨rfl, T36⟩
            have S37 := St.callN (As := []) S14 T36
            change St _ _ _ [] at S37
            refine ⟨_, rfl, ?_⟩
            refine WOps.p (G.extract rfl rfl) rfl ?_
            refine WOps.p (G.extract rfl rfl) rfl ?_
            refine WOps.p (G.assign rfl) rfl ?_
            refine WOps.p (G.assign rfl) rfl ?_
            refine WOps.nil ?_
            refine WEx.then_ ?_
            refine WCode.forget (l' := [(4, .int .i64 t33.1), (5, .bool t33.2)]) ⟨rfl, rfl, trivial⟩ ?_
            refine WCode.ret ?_
            refine WEx.in_ret ?_
            refine WEx.then_ret ?_
            obtain rfl := some_eq hF
            refine WEx.ret2 rfl rfl rfl ?_
            exact ⟨rfl, St.keep (As := []) S37⟩
          ·
            refine WCode.cond_f (kb (b := decide (((c28).toNat : Int) = 48)) rfl (decide_eq_false h30)) ?_
            refine WCode.skip ?_
            refine WEx.in_normal ?_
            refine WEx.then_ ?_
            refine WCode.seq ?_
            refine WCode.region ?_
            refine WOps.p (G.move rfl) rfl ?_
            obtain ⟨t38, hc39, hF⟩ := bind_some hF
            refine WOps.call T.call43 (evs_cons rfl (evs_cons rfl evs_nil)) rfl ?_
            refine (rf_digits_calls q15 a0 10 hc39).mono ?_
            rintro _ w40 ⟨rfl, T41⟩
            have S42 := St.callN (As := []) S14 T41
            change St _ _ _ [] at S42
            refine ⟨_, rfl, ?_⟩
            refine WOps.p (G.extract rfl rfl) rfl ?_
            refine WOps.p (G.extract rfl rfl) rfl ?_
            refine WOps.p (G.assign rfl) rfl ?_
            refine WOps.p (G.assign rfl) rfl ?_
            refine WOps.nil ?_
            refine WEx.then_ ?_
            refine WCode.forget (l' := [(4, .int .i64 t38.1), (5, .bool t38.2)]) ⟨rfl, rfl, trivial⟩ ?_
            refine WCode.ret ?_
            obtain rfl := some_eq hF
            refine WEx.ret2 rfl rfl rfl ?_
            exact ⟨rfl, St.keep (As := []) S42⟩

mutual
def rf_IsWord.j1 : Nat → List UInt8 → Int → Int → Bool → Option Bool
  | 0, _, _, _, _ => none
  | k19 + 1, a0, t1, x6, b12 => (if b12 = true then (Option.bind (cut ([32, 98, 111, 111, 108, 32, 99, 97, 115, 101, 32, 99, 111, 110, 115, 116, 32, 100, 101, 102, 97, 117, 108, 116, 32, 100, 111, 117, 98, 108, 101, 32, 101, 110, 117, 109, 32, 102, 108, 111, 97, 116, 32, 104, 121, 112, 101, 114, 32, 105, 110, 116, 32, 111, 112, 97, 113, 117, 101, 32, 112, 114, 111, 103, 114, 97, 109, 32, 113, 117, 97, 100, 114, 117, 112, 108, 101, 32, 115, 116, 114, 105, 110, 103, 32, 115, 116, 114, 117, 99, 116, 32, 115, 119, 105, 116, 99, 104, 32, 116, 121, 112, 101, 100, 101, 102, 32, 117, 110, 105, 111, 110, 32, 117, 110, 115, 105, 103, 110, 101, 100, 32, 118, 101, 114, 115, 105, 111, 110, 32, 118, 111, 105, 100, 32] : List UInt8) x6 (w64 (x6 + (w64 ((a0.length : Int) + 2))))) fun m21 => (Option.bind (cat ([32] : List UInt8) a0) fun m23 => (Option.bind (cat m23 ([32] : List UInt8)) fun m25 => (if m21 = m25 then (some true) else (rf_IsWord.l1 k19 a0 t1 (w64 (x6 + 1))))))) else (some false))
def rf_IsWord.l1 : Nat → List UInt8 → Int → Int → Option Bool
  | 0, _, _, _ => none
  | k9 + 1, a0, t1, x6 => (if (w64 (x6 + (w64 ((a0.length : Int) + 2)))) ≤ 135 then (if a0 = ([] : List UInt8) then (rf_IsWord.j1 k9 a0 t1 x6 false) else (rf_IsWord.j1 k9 a0 t1 x6 (decide (t1 = (a0.length : Int))))) else (rf_IsWord.j1 k9 a0 t1 x6 false))
end
def rf_IsWord (k : Nat) (a0 : List UInt8) : Option Bool := (Option.bind (rf_run k a0 0) fun t1 => (rf_IsWord.l1 k a0 t1 0))
set_option maxRecDepth 100000 in
set_option maxHeartbeats 1000000 in
theorem rf_IsWord_calls (k : Nat) (a0 : List UInt8) {w : World} {r_ : Bool} (h_ : rf_IsWord k a0 = some r_) :
    Calls Tryd.prog 13 [.string (bs a0)].toArray w fun e w' => e = .returned (.bool r_) ∧ St w (KS []) w' [] := by
  have hF := h_
  clear h_
  unfold rf_IsWord at hF
  have S := St.ofFalse (As := []) (St.init0 w)
  refine enter 36 [(0, .string (bs a0))] Tryd.func13 rfl rfl rfl rfl ?_
  refine WCode.seq ?_
  refine WCode.region ?_
  refine WOps.p (G.assign rfl) rfl ?_
  refine WOps.nil ?_
  refine WEx.then_ ?_
  refine WCode.seq ?_
  refine WCode.region ?_
  refine WOps.p (G.move rfl) rfl ?_
  refine WOps.p (G.lenb T.str9 rfl) rfl ?_
  refine WOps.p (G.add rfl rfl (r := (w64 ((a0.length : Int) + 2))) rfl) rfl ?_
  refine WOps.p (G.assign rfl) rfl ?_
  refine WOps.nil ?_
  refine WEx.then_ ?_
  refine WCode.seq ?_
  refine WCode.region ?_
  refine WOps.p (G.move rfl) rfl ?_
  obtain ⟨t1, hc2, hF⟩ := bind_some hF
  refine WOps.call T.call25 (evs_cons rfl (evs_cons rfl evs_nil)) rfl ?_
  refine (rf_run_calls k a0 0 hc2).mono ?_
  rintro _ w3 ⟨rfl, T4⟩
  have S5 := St.callN (As := []) S T4
  change St _ _ _ [] at S5
  refine ⟨_, rfl, ?_⟩
  refine WOps.p (G.move rfl) rfl ?_
  refine WOps.p (G.lenb T.str9 rfl) rfl ?_
  refine WOps.p (G.eql rfl rfl rfl) rfl ?_
  refine WOps.p (G.assign rfl) rfl ?_
  refine WOps.nil ?_
  refine WEx.then_ ?_
  refine WCode.seq ?_
  refine WCode.seq ?_
  refine WCode.region ?_
  refine WOps.p (G.assign rfl) rfl ?_
  refine WOps.nil ?_
  refine WEx.then_ ?_
  refine WCode.block ?_
  refine WCode.forget (l' := [(0, .string (bs a0)), (3, .int .i64 (w64 ((a0.length : Int) + 2))), (4, .bool (decide (t1 = (a0.length : Int)))), (5, .int .i64 0)]) ⟨rfl, rfl, rfl, rfl, trivial⟩ ?_
  refine WCode.loop (fun n_ l_ w_ => ∃ x6 : Int, l_ = [(0, .string (bs a0)), (3, .int .i64 (w64 ((a0.length : Int) + 2))), (4, .bool (decide (t1 = (a0.length : Int)))), (5, .int .i64 x6)] ∧ rf_IsWord.l1 n_ a0 t1 x6 = some r_ ∧ St w (KS []) w_ []) k ⟨0, rfl, hF, S5⟩ ?_
  rintro n10 _ w7 ⟨x6, rfl, hF, S8⟩
  obtain _ | k9 := n10
  · exact nomatch (show (none : Option Bool) = some r_ from hF)
  rw [rf_IsWord.l1] at hF
  refine WCode.seq ?_
  refine WCode.cutseq (fun l_ w_ => ∃ q15 : Nat, ∃ b12 : Bool, l_ = [(0, .string (bs a0)), (3, .int .i64 (w64 ((a0.length : Int) + 2))), (4, .bool (decide (t1 = (a0.length : Int)))), (5, .int .i64 x6), (24, .bool b12)] ∧ rf_IsWord.j1 q15 a0 t1 x6 b12 = some r_ ∧ q15 ≤ k9 ∧ St w (KS []) w_ []) ?_ ?_
  ·
    refine WCode.region ?_
    refine WOps.p (G.move rfl) rfl ?_
    refine WOps.p (G.move rfl) rfl ?_
    refine WOps.p (G.add rfl rfl (r := (w64 (x6 + (w64 ((a0.length : Int) + 2))))) rfl) rfl ?_
    refine WOps.p (G.leq rfl rfl rfl) rfl ?_
    refine WOps.p (G.move rfl) rfl ?_
    rcases ite_some hF with ⟨h17, hF⟩ | ⟨h17, hF⟩
    ·
      refine WOps.on rfl (kbl (b := decide ((w64 (x6 + (w64 ((a0.length : Int) + 2)))) ≤ 135)) rfl (decide_eq_true h17)) ?_
      refine WOps.p (G.move rfl) rfl ?_
      refine WOps.on rfl (kbl (b := decide ((w64 (x6 + (w64 ((a0.length : Int) + 2)))) ≤ 135)) rfl (decide_eq_true h17)) ?_
      refine WOps.p (G.neqlb' rfl rfl rfl) rfl ?_
      refine WOps.p (G.pick_t (kb (b := decide ((w64 (x6 + (w64 ((a0.length : Int) + 2)))) ≤ 135)) rfl (decide_eq_true h17)) rfl) rfl ?_
      refine WOps.p (G.move rfl) rfl ?_
      rcases ite_some hF with ⟨h18, hF⟩ | ⟨h18, hF⟩
      ·
        refine WOps.off rfl (kbl (b := !(decide (a0 = ([] : List UInt8)))) rfl (show (!(decide (a0 = ([] : List UInt8)))) = false from by rw [(decide_eq_true h18)]; rfl)) rfl rfl ?_
        refine WOps.p (G.pick_f (kb (b := !(decide (a0 = ([] : List UInt8)))) rfl (show (!(decide (a0 = ([] : List UInt8)))) = false from by rw [(decide_eq_true h18)]; rfl)) rfl) rfl ?_
        refine WOps.nil ?_
        refine WEx.cutend _ ?_ ⟨k9, false, rfl, hF, (by omega), S8⟩
        exact ⟨rfl, rfl, rfl, rfl, rfl, trivial⟩
      ·
        refine WOps.on rfl (kbl (b := !(decide (a0 = ([] : List UInt8)))) rfl (show (!(decide (a0 = ([] : List UInt8)))) = true from by rw [(decide_eq_false h18)]; rfl)) ?_
        refine WOps.p (G.move rfl) rfl ?_
        refine WOps.p (G.pick_t (kb (b := !(decide (a0 = ([] : List UInt8)))) rfl (show (!(decide (a0 = ([] : List UInt8)))) = true from by rw [(decide_eq_false h18)]; rfl)) rfl) rfl ?_
        refine WOps.nil ?_
        refine WEx.cutend _ ?_ ⟨k9, decide (t1 = (a0.length : Int)), rfl, hF, (by omega), S8⟩
        exact ⟨rfl, rfl, rfl, rfl, rfl, trivial⟩
    ·
      refine WOps.off rfl (kbl (b := decide ((w64 (x6 + (w64 ((a0.length : Int) + 2)))) ≤ 135)) rfl (decide_eq_false h17)) rfl rfl ?_
      refine WOps.off rfl (kbl (b := decide ((w64 (x6 + (w64 ((a0.length : Int) + 2)))) ≤ 135)) rfl (decide_eq_false h17)) rfl rfl ?_
      refine WOps.p (G.pick_f (kb (b := decide ((w64 (x6 + (w64 ((a0.length : Int) + 2)))) ≤ 135)) rfl (decide_eq_false h17)) rfl) rfl ?_
      refine WOps.p (G.move rfl) rfl ?_
      refine WOps.off rfl rfl rfl rfl ?_
      refine WOps.p (G.pick_f rfl rfl) rfl ?_
      refine WOps.nil ?_
      refine WEx.cutend _ ?_ ⟨k9, false, rfl, hF, (by omega), S8⟩
      exact ⟨rfl, rfl, rfl, rfl, rfl, trivial⟩
  ·
    rintro _ w13 ⟨q15, b12, rfl, hF, hq16, S14⟩
    obtain _ | k19 := q15
    · exact nomatch (show (none : Option Bool) = some r_ from hF)
    rw [rf_IsWord.j1] at hF
    rcases ite_some hF with ⟨h20, hF⟩ | ⟨h20, hF⟩
    ·
      refine WCode.cond_t (kb (b := b12) rfl h20) ?_
      refine WCode.skip ?_
      refine WEx.then_ ?_
      refine WCode.seq ?_
      refine WCode.block ?_
      refine WCode.seq ?_
      refine WCode.region ?_
      refine WOps.p (G.move rfl) rfl ?_
      refine WOps.p (G.move rfl) rfl ?_
      refine WOps.p (G.move rfl) rfl ?_
      refine WOps.p (G.add rfl rfl (r := (w64 (x6 + (w64 ((a0.length : Int) + 2))))) rfl) rfl ?_
      obtain ⟨m21, hc22, hF⟩ := bind_some hF
      refine WOps.p (G.cutb_lh T.str9 rfl rfl rfl hc22) rfl ?_
      refine WOps.p (G.move rfl) rfl ?_
      obtain ⟨m23, hc24, hF⟩ := bind_some hF
      refine WOps.p (G.catb rfl rfl hc24) rfl ?_
      obtain ⟨m25, hc26, hF⟩ := bind_some hF
      refine WOps.p (G.catb rfl rfl hc26) rfl ?_
      refine WOps.p (G.eqlb' rfl rfl rfl) rfl ?_
      refine WOps.nil ?_
      refine WEx.then_ ?_
      rcases ite_some hF with ⟨h27, hF⟩ | ⟨h27, hF⟩
      ·
        refine WCode.cond_t (kb (b := decide (m21 = m25)) rfl (decide_eq_true h27)) ?_
        refine WCode.seq ?_
        refine WCode.region ?_
        refine WOps.p (G.assign rfl) rfl ?_
        refine WOps.nil ?_
        refine WEx.then_ ?_
        refine WCode.forget (l' := [(2, .bool true)]) ⟨rfl, trivial⟩ ?_
        refine WCode.ret ?_
        refine WEx.in_ret ?_
        refine WEx.then_ret ?_
        refine WEx.then_ret ?_
        refine WEx.in_ret ?_
        refine WEx.then_ret ?_
        obtain rfl := some_eq hF
        refine WEx.ret1 rfl rfl ?_
        exact ⟨rfl, St.keep (As := []) S14⟩
      ·
        refine WCode.cond_f (kb (b := decide (m21 = m25)) rfl (decide_eq_false h27)) ?_
        refine WCode.skip ?_
        refine WEx.in_normal ?_
        refine WEx.then_ ?_
        refine WCode.forget (l' := [(0, .string (bs a0)), (3, .int .i64 (w64 ((a0.length : Int) + 2))), (4, .bool (decide (t1 = (a0.length : Int)))), (5, .int .i64 x6)]) ⟨rfl, rfl, rfl, rfl, trivial⟩ ?_
        refine WCode.region ?_
        refine WOps.p (G.move rfl) rfl ?_
        refine WOps.p (G.add rfl rfl (r := (w64 (x6 + 1))) rfl) rfl ?_
        refine WOps.p (G.assign rfl) rfl ?_
        refine WOps.nil ?_
        refine WEx.again _ _ (by omega) ?_ ⟨w64 (x6 + 1), rfl, hF, S14⟩
        exact ⟨rfl, rfl, rfl, rfl, trivial⟩
    ·
      refine WCode.cond_f (kb (b := b12) rfl (Bool.eq_false_iff.2 h20)) ?_
      refine WCode.exit ?_
      refine WEx.then_exit ?_
      refine WEx.then_exit ?_
      refine WEx.in_exit ?_
      refine WEx.then_ ?_
      refine WCode.seq ?_
      refine WCode.region ?_
      refine WOps.p (G.assign rfl) rfl ?_
      refine WOps.nil ?_
      refine WEx.then_ ?_
      refine WCode.ret ?_
      obtain rfl := some_eq hF
      refine WEx.ret1 rfl rfl ?_
      exact ⟨rfl, St.keep (As := []) S14⟩

def rf_IsName.j1 (q4 : Nat) (a0 : List UInt8) (b1 : Bool) : Option Bool := (if b1 = true then (some false) else (Option.bind (idx a0 0) fun c8 => (Option.bind (rf_letter q4 ((c8).toNat : Int)) fun t10 => (Option.bind (rf_IsWord q4 a0) fun t15 => (if t10 = true then (if t15 = true then (some false) else (Option.bind (rf_run q4 a0 0) fun t22 => (some (decide (t22 = (a0.length : Int)))))) else (some false))))))
def rf_IsName (k : Nat) (a0 : List UInt8) : Option Bool := (if a0 = ([] : List UInt8) then (rf_IsName.j1 k a0 true) else (rf_IsName.j1 k a0 (decide (32 < (a0.length : Int)))))
set_option maxRecDepth 100000 in
set_option maxHeartbeats 1000000 in
theorem rf_IsName_calls (k : Nat) (a0 : List UInt8) {w : World} {r_ : Bool} (h_ : rf_IsName k a0 = some r_) :
    Calls Tryd.prog 15 [.string (bs a0)].toArray w fun e w' => e = .returned (.bool r_) ∧ St w (KS []) w' [] := by
  have hF := h_
  clear h_
  unfold rf_IsName at hF
  have S := St.ofFalse (As := []) (St.init0 w)
  refine enter 29 [(0, .string (bs a0))] Tryd.func15 rfl rfl rfl rfl ?_
  refine WCode.seq ?_
  refine WCode.region ?_
  refine WOps.p (G.assign rfl) rfl ?_
  refine WOps.nil ?_
  refine WEx.then_ ?_
  refine WCode.seq ?_
  refine WCode.cutseq (fun l_ w_ => ∃ q4 : Nat, ∃ b1 : Bool, l_ = [(0, .string (bs a0)), (11, .bool b1)] ∧ rf_IsName.j1 q4 a0 b1 = some r_ ∧ St w (KS []) w_ []) ?_ ?_
  ·
    refine WCode.region ?_
    refine WOps.p (G.move rfl) rfl ?_
    refine WOps.p (G.eqlb' rfl rfl rfl) rfl ?_
    refine WOps.p (G.move rfl) rfl ?_
    rcases ite_some hF with ⟨h6, hF⟩ | ⟨h6, hF⟩
    ·
      refine WOps.off rfl (kbl (b := decide (a0 = ([] : List UInt8))) rfl (decide_eq_true h6)) rfl rfl ?_
      refine WOps.off rfl (kbl (b := decide (a0 = ([] : List UInt8))) rfl (decide_eq_true h6)) rfl rfl ?_
      refine WOps.off rfl (kbl (b := decide (a0 = ([] : List UInt8))) rfl (decide_eq_true h6)) rfl rfl ?_
      refine WOps.p (G.pick_t (kb (b := decide (a0 = ([] : List UInt8))) rfl (decide_eq_true h6)) rfl) rfl ?_
      refine WOps.nil ?_
      refine WEx.cutend _ ?_ ⟨k, true, rfl, hF, S⟩
      exact ⟨rfl, rfl, trivial⟩
    ·
      refine WOps.on rfl (kbl (b := decide (a0 = ([] : List UInt8))) rfl (decide_eq_false h6)) ?_
      refine WOps.p (G.move rfl) rfl ?_
      refine WOps.on rfl (kbl (b := decide (a0 = ([] : List UInt8))) rfl (decide_eq_false h6)) ?_
      refine WOps.p (G.lenb T.str9 rfl) rfl ?_
      refine WOps.on rfl (kbl (b := decide (a0 = ([] : List UInt8))) rfl (decide_eq_false h6)) ?_
      refine WOps.p (G.gtr rfl rfl rfl) rfl ?_
      refine WOps.p (G.pick_f (kb (b := decide (a0 = ([] : List UInt8))) rfl (decide_eq_false h6)) rfl) rfl ?_
      refine WOps.nil ?_
      refine WEx.cutend _ ?_ ⟨k, decide (32 < (a0.length : Int)), rfl, hF, S⟩
      exact ⟨rfl, rfl, trivial⟩
  ·
    rintro _ w2 ⟨q4, b1, rfl, hF, S3⟩
    unfold rf_IsName.j1 at hF
    rcases ite_some hF with ⟨h7, hF⟩ | ⟨h7, hF⟩
    ·
      refine WCode.cond_t (kb (b := b1) rfl h7) ?_
      refine WCode.seq ?_
      refine WCode.region ?_
      refine WOps.p (G.assign rfl) rfl ?_
      refine WOps.nil ?_
      refine WEx.then_ ?_
      refine WCode.ret ?_
      refine WEx.then_ret ?_
      obtain rfl := some_eq hF
      refine WEx.ret1 rfl rfl ?_
      exact ⟨rfl, St.keep (As := []) S3⟩
    ·
      refine WCode.cond_f (kb (b := b1) rfl (Bool.eq_false_iff.2 h7)) ?_
      refine WCode.skip ?_
      refine WEx.then_ ?_
      refine WCode.seq ?_
      refine WCode.region ?_
      refine WOps.p (G.move rfl) rfl ?_
      obtain ⟨c8, hc9, hF⟩ := bind_some hF
      refine WOps.p (G.idxb T.str9 rfl rfl hc9) rfl ?_
      obtain ⟨t10, hc11, hF⟩ := bind_some hF
      refine WOps.call T.call28 (evs_cons rfl evs_nil) rfl ?_
      refine (rf_letter_calls q4 ((c8).toNat : Int) hc11).mono ?_
      rintro _ w12 ⟨rfl, T13⟩
      have S14 := St.callN (As := []) S3 T13
      change St _ _ _ [] at S14
      refine ⟨_, rfl, ?_⟩
      refine WOps.p (G.assign rfl) rfl ?_
      refine WOps.nil ?_
      refine WEx.then_ ?_
      refine WCode.seq ?_
      refine WCode.region ?_
      refine WOps.p (G.move rfl) rfl ?_
      obtain ⟨t15, hc16, hF⟩ := bind_some hF
      refine WOps.call T.call13 (evs_cons rfl evs_nil) rfl ?_
      refine (rf_IsWord_calls q4 a0 hc16).mono ?_
      rintro _ w17 ⟨rfl, T18⟩
      have S19 := St.callN (As := []) S14 T18
      change St _ _ _ [] at S19
      refine ⟨_, rfl, ?_⟩
      refine WOps.p (G.assign rfl) rfl ?_
      refine WOps.nil ?_
      refine WEx.then_ ?_
      refine WCode.seq ?_
      refine WCode.region ?_
      refine WOps.p (G.move rfl) rfl ?_
      refine WOps.p (G.move rfl) rfl ?_
      rcases ite_some hF with ⟨h20, hF⟩ | ⟨h20, hF⟩
      ·
        refine WOps.on rfl (kbl (b := t10) rfl h20) ?_
        refine WOps.p (G.move rfl) rfl ?_
        refine WOps.on rfl (kbl (b := t10) rfl h20) ?_
        refine WOps.p (G.not rfl rfl) rfl ?_
        refine WOps.p (G.pick_t (kb (b := t10) rfl h20) rfl) rfl ?_
        refine WOps.p (G.move rfl) rfl ?_
        rcases ite_some hF with ⟨h21, hF⟩ | ⟨h21, hF⟩
        ·
          refine WOps.off rfl (kbl (b := !t15) rfl (show (!t15) = false from by rw [h21]; rfl)) rfl rfl ?_
          refine WOps.off rfl (kbl (b := !t15) rfl (show (!t15) = false from by rw [h21]; rfl)) rfl rfl ?_
          refine WOps.off rfl (kbl (b := !t15) rfl (show (!t15) = false from by rw [h21]; rfl)) rfl rfl ?_
          refine WOps.off rfl (kbl (b := !t15) rfl (show (!t15) = false from by rw [h21]; rfl)) rfl rfl ?_
          refine WOps.off rfl (kbl (b := !t15) rfl (show (!t15) = false from by rw [h21]; rfl)) rfl rfl ?_
          refine WOps.p (G.pick_f (kb (b := !t15) rfl (show (!t15) = false from by rw [h21]; rfl)) rfl) rfl ?_
          refine WOps.p (G.assign rfl) rfl ?_
          refine WOps.nil ?_
          refine WEx.then_ ?_
          refine WCode.forget (l' := [(2, .bool false)]) ⟨rfl, trivial⟩ ?_
          refine WCode.ret ?_
          obtain rfl := some_eq hF
          refine WEx.ret1 rfl rfl ?_
          exact ⟨rfl, St.keep (As := []) S19⟩
        ·
          refine WOps.on rfl (kbl (b := !t15) rfl (show (!t15) = true from by rw [(Bool.eq_false_iff.2 h21)]; rfl)) ?_
          refine WOps.p (G.move rfl) rfl ?_
          refine WOps.on rfl (kbl (b := !t15) rfl (show (!t15) = true from by rw [(Bool.eq_false_iff.2 h21)]; rfl)) ?_
          obtain ⟨t22, hc23, hF⟩ := bind_some hF
          refine WOps.call T.call25 (evs_cons rfl (evs_cons rfl evs_nil)) rfl ?_
          refine (rf_run_calls q4 a0 0 hc23).mono ?_
          rintro _ w24 ⟨rfl, T25⟩
          have S26 := St.callN (As := []) S19 T25
          change St _ _ _ [] at S26
          refine ⟨_, rfl, ?_⟩
          refine WOps.on rfl (kbl (b := !t15) rfl (show (!t15) = true from by rw [(Bool.eq_false_iff.2 h21)]; rfl)) ?_
          refine WOps.p (G.move rfl) rfl ?_
          refine WOps.on rfl (kbl (b := !t15) rfl (show (!t15) = true from by rw [(Bool.eq_false_iff.2 h21)]; rfl)) ?_
          refine WOps.p (G.lenb T.str9 rfl) rfl ?_
          refine WOps.on rfl (kbl (b := !t15) rfl (show (!t15) = true from by rw [(Bool.eq_false_iff.2 h21)]; rfl)) ?_
          refine WOps.p (G.eql rfl rfl rfl) rfl ?_
          refine WOps.p (G.pick_t (kb (b := !t15) rfl (show (!t15) = true from by rw [(Bool.eq_false_iff.2 h21)]; rfl)) rfl) rfl ?_
          refine WOps.p (G.assign rfl) rfl ?_
          refine WOps.nil ?_
          refine WEx.then_ ?_
          refine WCode.forget (l' := [(2, .bool (decide (t22 = (a0.length : Int))))]) ⟨rfl, trivial⟩ ?_
          refine WCode.ret ?_
          obtain rfl := some_eq hF
          refine WEx.ret1 rfl rfl ?_
          exact ⟨rfl, St.keep (As := []) S26⟩
      ·
        refine WOps.off rfl (kbl (b := t10) rfl (Bool.eq_false_iff.2 h20)) rfl rfl ?_
        refine WOps.off rfl (kbl (b := t10) rfl (Bool.eq_false_iff.2 h20)) rfl rfl ?_
        refine WOps.p (G.pick_f (kb (b := t10) rfl (Bool.eq_false_iff.2 h20)) rfl) rfl ?_
        refine WOps.p (G.move rfl) rfl ?_
        refine WOps.off rfl rfl rfl rfl ?_
        refine WOps.off rfl rfl rfl rfl ?_
        refine WOps.off rfl rfl rfl rfl ?_
        refine WOps.off rfl rfl rfl rfl ?_
        refine WOps.off rfl rfl rfl rfl ?_
        refine WOps.p (G.pick_f rfl rfl) rfl ?_
        refine WOps.p (G.assign rfl) rfl ?_
        refine WOps.nil ?_
        refine WEx.then_ ?_
        refine WCode.forget (l' := [(2, .bool false)]) ⟨rfl, trivial⟩ ?_
        refine WCode.ret ?_
        obtain rfl := some_eq hF
        refine WEx.ret1 rfl rfl ?_
        exact ⟨rfl, St.keep (As := []) S19⟩

def rf_one.j1 (q39 : Nat) (a1 : Int) (t15 : Int) (m20 : List UInt8) (x36 : Int) : Option (Token × Int × Int) := (if 32 < (m20.length : Int) then (some ((⟨0, ([] : List UInt8), 0, 0⟩ : Token), 0, 32)) else (some ((⟨x36, m20, 0, a1⟩ : Token), t15, 0)))
def rf_one.j3 (q65 : Nat) (a0 : List UInt8) (a1 : Int) (c7 : UInt8) (x56 : Int) (b62 : Bool) : Option (Token × Int × Int) := (if b62 = true then (Option.bind (rf_run q65 a0 x56) fun t76 => (Option.bind (cut a0 x56 t76) fun m81 => (Option.bind (rf_number q65 m81 (decide (((c7).toNat : Int) = 45))) fun t83 => (if t83.2 = true then (some ((⟨3, ([] : List UInt8), t83.1, a1⟩ : Token), t76, 0)) else (some ((⟨0, ([] : List UInt8), 0, 0⟩ : Token), 0, 31)))))) else (Option.bind (rf_sign q65 ((c7).toNat : Int)) fun t95 => (if t95 = true then (Option.bind (cut a0 a1 (w64 (a1 + 1))) fun m101 => (some ((⟨4, m101, 0, a1⟩ : Token), w64 (a1 + 1), 0))) else (some ((⟨0, ([] : List UInt8), 0, 0⟩ : Token), 0, 30)))))
def rf_one.j2 (q59 : Nat) (a0 : List UInt8) (a1 : Int) (c7 : UInt8) (x56 : Int) : Option (Token × Int × Int) := (if x56 < (a0.length : Int) then (Option.bind (idx a0 x56) fun c68 => (Option.bind (rf_digit q59 ((c68).toNat : Int)) fun t70 => (rf_one.j3 q59 a0 a1 c7 x56 t70))) else (rf_one.j3 q59 a0 a1 c7 x56 false))
def rf_one (k : Nat) (a0 : List UInt8) (a1 : Int) : Option (Token × Int × Int) := (Option.bind (idx a0 a1) fun c7 => (Option.bind (rf_letter k ((c7).toNat : Int)) fun t9 => (if t9 = true then (Option.bind (rf_run k a0 a1) fun t15 => (Option.bind (cut a0 a1 t15) fun m20 => (Option.bind (rf_IsWord k m20) fun t31 => (if t31 = true then (rf_one.j1 k a1 t15 m20 2) else (rf_one.j1 k a1 t15 m20 1))))) else (if ((c7).toNat : Int) = 45 then (rf_one.j2 k a0 a1 c7 (w64 (a1 + 1))) else (rf_one.j2 k a0 a1 c7 a1)))))
set_option maxRecDepth 100000 in
set_option maxHeartbeats 1000000 in
theorem rf_one_calls (k : Nat) (a0 : List UInt8) (a1 : Int) {w : World} {r_ : Token × Int × Int} (h_ : rf_one k a0 a1 = some r_) :
    Calls Tryd.prog 21 [.string (bs a0), .int .i64 a1].toArray w fun e w' => e = .returned (.tuple #[.agg #[.int .i64 r_.1.Kind, .string (bs r_.1.Text), .int .i64 r_.1.Number, .int .i64 r_.1.At], .int .i64 r_.2.1, .int .i64 r_.2.2]) ∧ St w (KS []) w' [] := by
  have hF := h_
  clear h_
  unfold rf_one at hF
  have S := St.ofFalse (As := []) (St.init0 w)
  refine enter 94 [(0, .string (bs a0)), (1, .int .i64 a1)] Tryd.func21 rfl rfl rfl rfl ?_
  refine WCode.seq ?_
  refine WCode.region ?_
  obtain ⟨b1, w2, E3, S4, X5, L6⟩ := St.var S (z := .agg #[.int .i64 0, .string (bs ([] : List UInt8)), .int .i64 0, .int .i64 0]) T.zero37
  change St _ _ _ [[(b1, .cells #[.int .i64 0, .string (bs ([] : List UInt8)), .int .i64 0, .int .i64 0] 37 (0, 0))]] at S4
  refine WOps.e E3 rfl ?_
  refine WOps.p (G.assign rfl) rfl ?_
  refine WOps.p (G.assign rfl) rfl ?_
  refine WOps.nil ?_
  refine WEx.then_ ?_
  refine WCode.seq ?_
  refine WCode.region ?_
  refine WOps.p (G.move rfl) rfl ?_
  refine WOps.p (G.move rfl) rfl ?_
  obtain ⟨c7, hc8, hF⟩ := bind_some hF
  refine WOps.p (G.idxb T.str9 rfl rfl hc8) rfl ?_
  refine WOps.p (G.assign rfl) rfl ?_
  refine WOps.nil ?_
  refine WEx.then_ ?_
  refine WCode.seq ?_
  refine WCode.region ?_
  refine WOps.p (G.move rfl) rfl ?_
  obtain ⟨t9, hc10, hF⟩ := bind_some hF
  refine WOps.call T.call28 (evs_cons rfl evs_nil) rfl ?_
  refine (rf_letter_calls k ((c7).toNat : Int) hc10).mono ?_
  rintro _ w11 ⟨rfl, T12⟩
  have S13 := St.callN (As := []) S4 T12
  change St _ _ _ [[(b1, .cells #[.int .i64 0, .string (bs ([] : List UInt8)), .int .i64 0, .int .i64 0] 37 (0, 0))]] at S13
  refine ⟨_, rfl, ?_⟩
  refine WOps.p (G.assign rfl) rfl ?_
  refine WOps.nil ?_
  refine WEx.then_ ?_
  refine WCode.seq ?_
  refine WCode.seq ?_
  refine WCode.region ?_
  refine WOps.p (G.move rfl) rfl ?_
  refine WOps.nil ?_
  refine WEx.then_ ?_
  rcases ite_some hF with ⟨h14, hF⟩ | ⟨h14, hF⟩
  ·
    refine WCode.cond_t (kb (b := t9) rfl h14) ?_
    refine WCode.seq ?_
    refine WCode.region ?_
    refine WOps.p (G.move rfl) rfl ?_
    refine WOps.p (G.move rfl) rfl ?_
    obtain ⟨t15, hc16, hF⟩ := bind_some hF
    refine WOps.call T.call25 (evs_cons rfl (evs_cons rfl evs_nil)) rfl ?_
    refine (rf_run_calls k a0 a1 hc16).mono ?_
    rintro _ w17 ⟨rfl, T18⟩
    have S19 := St.callN (As := []) S13 T18
    change St _ _ _ [[(b1, .cells #[.int .i64 0, .string (bs ([] : List UInt8)), .int .i64 0, .int .i64 0] 37 (0, 0))]] at S19
    refine ⟨_, rfl, ?_⟩
    refine WOps.p (G.assign rfl) rfl ?_
    refine WOps.nil ?_
    refine WEx.then_ ?_
    refine WCode.forget (l' := [(0, .string (bs a0)), (1, .int .i64 a1), (4, .pointer (some ⟨b1, 0, none⟩)), (9, .int .i64 t15)]) ⟨rfl, rfl, rfl, rfl, trivial⟩ ?_
    refine WCode.seq ?_
    refine WCode.region ?_
    refine WOps.p (G.move rfl) rfl ?_
    refine WOps.p (G.move rfl) rfl ?_
    refine WOps.p (G.move rfl) rfl ?_
    obtain ⟨m20, hc21, hF⟩ := bind_some hF
    refine WOps.p (G.cutb_lh T.str9 rfl rfl rfl hc21) rfl ?_
    refine WOps.p (G.move rfl) rfl ?_
    refine WOps.p (G.build (cells := #[.int .i64 1, .string (bs m20), .int .i64 0, .int .i64 a1]) (evp_spec (evp_cons rfl (evp_cons rfl (evp_cons rfl evp_nil)))) (by kernel_rfl)) rfl ?_
    obtain ⟨b22, w23, E24, S25, X26, L27⟩ := St.var S19 (z := .agg #[.int .i64 0, .string (bs ([] : List UInt8)), .int .i64 0, .int .i64 0]) T.zero37
    change St _ _ _ [[(b22, .cells #[.int .i64 0, .string (bs ([] : List UInt8)), .int .i64 0, .int .i64 0] 37 (0, 0))], [(b1, .cells #[.int .i64 0, .string (bs ([] : List UInt8)), .int .i64 0, .int .i64 0] 37 (0, 0))]] at S25
    refine WOps.e E24 rfl ?_
    obtain ⟨w28, E29, S30⟩ := St.store (P := Tryd.prog) S25 0 37 (.agg #[.int .i64 1, .string (bs m20), .int .i64 0, .int .i64 a1]) (off := 0) (cur' := #[.int .i64 1, .string (bs m20), .int .i64 0, .int .i64 a1]) rfl T.size37_4 rfl rfl rfl
    change St _ _ _ [[(b22, .cells #[.int .i64 1, .string (bs m20), .int .i64 0, .int .i64 a1] 37 (0, 0))], [(b1, .cells #[.int .i64 0, .string (bs ([] : List UInt8)), .int .i64 0, .int .i64 0] 37 (0, 0))]] at S30
    refine WOps.u (E29 rfl rfl) ?_
    refine WOps.nil ?_
    refine WEx.then_ ?_
    refine WCode.seq ?_
    refine WCode.region ?_
    refine WOps.p (G.field T.fld37_1 rfl (show 0 + 1 = 1 from rfl)) rfl ?_
    refine WOps.r (G.load1 T.one9 rfl (cell_blk (S30.blk 0 rfl) rfl)) rfl ?_
    obtain ⟨t31, hc32, hF⟩ := bind_some hF
    refine WOps.call T.call13 (evs_cons rfl evs_nil) rfl ?_
    refine (rf_IsWord_calls k m20 hc32).mono ?_
    rintro _ w33 ⟨rfl, T34⟩
    have S35 := St.callN (As := []) S30 T34
    change St _ _ _ [[(b22, .cells #[.int .i64 1, .string (bs m20), .int .i64 0, .int .i64 a1] 37 (0, 0))], [(b1, .cells #[.int .i64 0, .string (bs ([] : List UInt8)), .int .i64 0, .int .i64 0] 37 (0, 0))]] at S35
    refine ⟨_, rfl, ?_⟩
    refine WOps.p (G.assign rfl) rfl ?_
    refine WOps.nil ?_
    refine WEx.then_ ?_
    refine WCode.forget (l' := [(4, .pointer (some ⟨b1, 0, none⟩)), (9, .int .i64 t15), (10, .pointer (some ⟨b22, 0, none⟩)), (11, .bool t31)]) ⟨rfl, rfl, rfl, rfl, trivial⟩ ?_
    refine WCode.cutseq (fun l_ w_ => ∃ q39 : Nat, ∃ x36 : Int, l_ = [(4, .pointer (some ⟨b1, 0, none⟩)), (9, .int .i64 t15), (10, .pointer (some ⟨b22, 0, none⟩))] ∧ rf_one.j1 q39 a1 t15 m20 x36 = some r_ ∧ St w (KS []) w_ [[(b22, .cells #[.int .i64 x36, .string (bs m20), .int .i64 0, .int .i64 a1] 37 (0, 0))], [(b1, .cells #[.int .i64 0, .string (bs ([] : List UInt8)), .int .i64 0, .int .i64 0] 37 (0, 0))]]) ?_ ?_
    ·
      refine WCode.seq ?_
      refine WCode.region ?_
      refine WOps.p (G.move rfl) rfl ?_
      refine WOps.nil ?_
      refine WEx.then_ ?_
      rcases ite_some hF with ⟨h41, hF⟩ | ⟨h41, hF⟩
      ·
        refine WCode.cond_t (kb (b := t31) rfl h41) ?_
        refine WCode.region ?_
        refine WOps.p (G.field T.fld37_0 rfl (show 0 + 0 = 0 from rfl)) rfl ?_
        obtain ⟨w42, E43, S44⟩ := St.store (P := Tryd.prog) S35 0 3 (.int .i64 2) (off := 0) (cur' := #[.int .i64 2, .string (bs m20), .int .i64 0, .int .i64 a1]) rfl T.size3_1 rfl rfl rfl
        change St _ _ _ [[(b22, .cells #[.int .i64 2, .string (bs m20), .int .i64 0, .int .i64 a1] 37 (0, 0))], [(b1, .cells #[.int .i64 0, .string (bs ([] : List UInt8)), .int .i64 0, .int .i64 0] 37 (0, 0))]] at S44
        refine WOps.u (E43 rfl rfl) ?_
        refine WOps.nil ?_
        have S45 := S44.front 1 rfl
        change St _ _ _ [[(b1, .cells #[.int .i64 0, .string (bs ([] : List UInt8)), .int .i64 0, .int .i64 0] 37 (0, 0))], [(b22, .cells #[.int .i64 2, .string (bs m20), .int .i64 0, .int .i64 a1] 37 (0, 0))]] at S45
        have S46 := S45.front 1 rfl
        change St _ _ _ [[(b22, .cells #[.int .i64 2, .string (bs m20), .int .i64 0, .int .i64 a1] 37 (0, 0))], [(b1, .cells #[.int .i64 0, .string (bs ([] : List UInt8)), .int .i64 0, .int .i64 0] 37 (0, 0))]] at S46
        refine WEx.cutend _ ?_ ⟨k, 2, rfl, hF, S46⟩
        exact ⟨rfl, rfl, rfl, trivial⟩
      ·
        refine WCode.cond_f (kb (b := t31) rfl (Bool.eq_false_iff.2 h41)) ?_
        refine WCode.skip ?_
        have S47 := S35.front 1 rfl
        change St _ _ _ [[(b1, .cells #[.int .i64 0, .string (bs ([] : List UInt8)), .int .i64 0, .int .i64 0] 37 (0, 0))], [(b22, .cells #[.int .i64 1, .string (bs m20), .int .i64 0, .int .i64 a1] 37 (0, 0))]] at S47
        have S48 := S47.front 1 rfl
        change St _ _ _ [[(b22, .cells #[.int .i64 1, .string (bs m20), .int .i64 0, .int .i64 a1] 37 (0, 0))], [(b1, .cells #[.int .i64 0, .string (bs ([] : List UInt8)), .int .i64 0, .int .i64 0] 37 (0, 0))]] at S48
        refine WEx.cutend _ ?_ ⟨k, 1, rfl, hF, S48⟩
        exact ⟨rfl, rfl, rfl, trivial⟩
    ·
      rintro _ w37 ⟨q39, x36, rfl, hF, S38⟩
      unfold rf_one.j1 at hF
      refine WCode.seq ?_
      refine WCode.seq ?_
      refine WCode.region ?_
      refine WOps.p (G.field T.fld37_1 rfl (show 0 + 1 = 1 from rfl)) rfl ?_
      refine WOps.r (G.load1 T.one9 rfl (cell_blk (S38.blk 0 rfl) rfl)) rfl ?_
      refine WOps.p (G.lenb T.str9 rfl) rfl ?_
      refine WOps.p (G.gtr rfl rfl rfl) rfl ?_
      refine WOps.nil ?_
      refine WEx.then_ ?_
      rcases ite_some hF with ⟨h49, hF⟩ | ⟨h49, hF⟩
      ·
        refine WCode.cond_t (kb (b := decide (32 < (m20.length : Int))) rfl (decide_eq_true h49)) ?_
        refine WCode.seq ?_
        refine WCode.region ?_
        refine WOps.p (G.build (cells := #[.int .i64 0, .string (bs ([] : List UInt8)), .int .i64 0, .int .i64 0]) (evp_spec (evp_nil)) (by kernel_rfl)) rfl ?_
        obtain ⟨w50, E51, S52⟩ := St.store (P := Tryd.prog) S38 1 37 (.agg #[.int .i64 0, .string (bs ([] : List UInt8)), .int .i64 0, .int .i64 0]) (off := 0) (cur' := #[.int .i64 0, .string (bs ([] : List UInt8)), .int .i64 0, .int .i64 0]) rfl T.size37_4 rfl rfl rfl
        change St _ _ _ [[(b22, .cells #[.int .i64 x36, .string (bs m20), .int .i64 0, .int .i64 a1] 37 (0, 0))], [(b1, .cells #[.int .i64 0, .string (bs ([] : List UInt8)), .int .i64 0, .int .i64 0] 37 (0, 0))]] at S52
        refine WOps.u (E51 rfl rfl) ?_
        refine WOps.p (G.assign rfl) rfl ?_
        refine WOps.p (G.assign rfl) rfl ?_
        refine WOps.nil ?_
        refine WEx.then_ ?_
        refine WCode.ret ?_
        refine WEx.then_ret ?_
        refine WEx.then_ret ?_
        obtain rfl := some_eq hF
        refine WEx.retc2 rfl rfl (cs := [.int .i64 0, .string (bs ([] : List UInt8)), .int .i64 0, .int .i64 0]) T.agg37_4 (cellsAt.of_blk (S52.blk 1 rfl) rfl) rfl rfl ?_
        exact ⟨rfl, St.keep (As := []) S52⟩
      ·
        refine WCode.cond_f (kb (b := decide (32 < (m20.length : Int))) rfl (decide_eq_false h49)) ?_
        refine WCode.skip ?_
        refine WEx.then_ ?_
        refine WCode.seq ?_
        refine WCode.region ?_
        refine WOps.r (G.loada T.agg37_4 rfl (cs := [.int .i64 x36, .string (bs m20), .int .i64 0, .int .i64 a1]) (cellsAt.of_blk (S38.blk 0 rfl) rfl)) rfl ?_
        refine WOps.p (G.move rfl) rfl ?_
        obtain ⟨w53, E54, S55⟩ := St.store (P := Tryd.prog) S38 1 37 (.agg #[.int .i64 x36, .string (bs m20), .int .i64 0, .int .i64 a1]) (off := 0) (cur' := #[.int .i64 x36, .string (bs m20), .int .i64 0, .int .i64 a1]) rfl T.size37_4 rfl rfl rfl
        change St _ _ _ [[(b22, .cells #[.int .i64 x36, .string (bs m20), .int .i64 0, .int .i64 a1] 37 (0, 0))], [(b1, .cells #[.int .i64 x36, .string (bs m20), .int .i64 0, .int .i64 a1] 37 (0, 0))]] at S55
        refine WOps.u (E54 rfl rfl) ?_
        refine WOps.p (G.assign rfl) rfl ?_
        refine WOps.p (G.assign rfl) rfl ?_
        refine WOps.nil ?_
        refine WEx.then_ ?_
        refine WCode.ret ?_
        refine WEx.then_ret ?_
        obtain rfl := some_eq hF
        refine WEx.retc2 rfl rfl (cs := [.int .i64 x36, .string (bs m20), .int .i64 0, .int .i64 a1]) T.agg37_4 (cellsAt.of_blk (S55.blk 1 rfl) rfl) rfl rfl ?_
        exact ⟨rfl, St.keep (As := []) S55⟩
  ·
    refine WCode.cond_f (kb (b := t9) rfl (Bool.eq_false_iff.2 h14)) ?_
    refine WCode.skip ?_
    refine WEx.then_ ?_
    refine WCode.seq ?_
    refine WCode.region ?_
    refine WOps.p (G.move rfl) rfl ?_
    refine WOps.p (G.eql rfl rfl rfl) rfl ?_
    refine WOps.p (G.assign rfl) rfl ?_
    refine WOps.nil ?_
    refine WEx.then_ ?_
    refine WCode.forget (l' := [(0, .string (bs a0)), (1, .int .i64 a1), (4, .pointer (some ⟨b1, 0, none⟩)), (7, .int .u8 ((c7).toNat : Int)), (12, .bool (decide (((c7).toNat : Int) = 45)))]) ⟨rfl, rfl, rfl, rfl, rfl, trivial⟩ ?_
    refine WCode.seq ?_
    refine WCode.region ?_
    refine WOps.p (G.move rfl) rfl ?_
    refine WOps.p (G.assign rfl) rfl ?_
    refine WOps.nil ?_
    refine WEx.then_ ?_
    refine WCode.cutseq (fun l_ w_ => ∃ q59 : Nat, ∃ x56 : Int, l_ = [(0, .string (bs a0)), (1, .int .i64 a1), (4, .pointer (some ⟨b1, 0, none⟩)), (7, .int .u8 ((c7).toNat : Int)), (12, .bool (decide (((c7).toNat : Int) = 45))), (13, .int .i64 x56)] ∧ rf_one.j2 q59 a0 a1 c7 x56 = some r_ ∧ St w (KS []) w_ [[(b1, .cells #[.int .i64 0, .string (bs ([] : List UInt8)), .int .i64 0, .int .i64 0] 37 (0, 0))]]) ?_ ?_
    ·
      refine WCode.seq ?_
      refine WCode.region ?_
      refine WOps.p (G.move rfl) rfl ?_
      refine WOps.nil ?_
      refine WEx.then_ ?_
      rcases ite_some hF with ⟨h61, hF⟩ | ⟨h61, hF⟩
      ·
        refine WCode.cond_t (kb (b := decide (((c7).toNat : Int) = 45)) rfl (decide_eq_true h61)) ?_
        refine WCode.region ?_
        refine WOps.p (G.move rfl) rfl ?_
        refine WOps.p (G.add rfl rfl (r := (w64 (a1 + 1))) rfl) rfl ?_
        refine WOps.p (G.assign rfl) rfl ?_
        refine WOps.nil ?_
        refine WEx.cutend _ ?_ ⟨k, w64 (a1 + 1), rfl, hF, S13⟩
        exact ⟨rfl, rfl, rfl, rfl, rfl, rfl, trivial⟩
      ·
        refine WCode.cond_f (kb (b := decide (((c7).toNat : Int) = 45)) rfl (decide_eq_false h61)) ?_
        refine WCode.skip ?_
        refine WEx.cutend _ ?_ ⟨k, a1, rfl, hF, S13⟩
        exact ⟨rfl, rfl, rfl, rfl, rfl, rfl, trivial⟩
    ·
      rintro _ w57 ⟨q59, x56, rfl, hF, S58⟩
      unfold rf_one.j2 at hF
      refine WCode.seq ?_
      refine WCode.region ?_
      refine WOps.p (G.assign rfl) rfl ?_
      refine WOps.nil ?_
      refine WEx.then_ ?_
      refine WCode.cutseq (fun l_ w_ => ∃ q65 : Nat, ∃ b62 : Bool, l_ = [(0, .string (bs a0)), (1, .int .i64 a1), (4, .pointer (some ⟨b1, 0, none⟩)), (7, .int .u8 ((c7).toNat : Int)), (12, .bool (decide (((c7).toNat : Int) = 45))), (13, .int .i64 x56), (14, .bool b62)] ∧ rf_one.j3 q65 a0 a1 c7 x56 b62 = some r_ ∧ St w (KS []) w_ [[(b1, .cells #[.int .i64 0, .string (bs ([] : List UInt8)), .int .i64 0, .int .i64 0] 37 (0, 0))]]) ?_ ?_
      ·
        refine WCode.seq ?_
        refine WCode.region ?_
        refine WOps.p (G.move rfl) rfl ?_
        refine WOps.p (G.move rfl) rfl ?_
        refine WOps.p (G.lenb T.str9 rfl) rfl ?_
        refine WOps.p (G.lss rfl rfl rfl) rfl ?_
        refine WOps.nil ?_
        refine WEx.then_ ?_
        rcases ite_some hF with ⟨h67, hF⟩ | ⟨h67, hF⟩
        ·
          refine WCode.cond_t (kb (b := decide (x56 < (a0.length : Int))) rfl (decide_eq_true h67)) ?_
          refine WCode.region ?_
          refine WOps.p (G.move rfl) rfl ?_
          refine WOps.p (G.move rfl) rfl ?_
          obtain ⟨c68, hc69, hF⟩ := bind_some hF
          refine WOps.p (G.idxb T.str9 rfl rfl hc69) rfl ?_
          obtain ⟨t70, hc71, hF⟩ := bind_some hF
          refine WOps.call T.call32 (evs_cons rfl evs_nil) rfl ?_
          refine (rf_digit_calls q59 ((c68).toNat : Int) hc71).mono ?_
          rintro _ w72 ⟨rfl, T73⟩
          have S74 := St.callN (As := []) S58 T73
          change St _ _ _ [[(b1, .cells #[.int .i64 0, .string (bs ([] : List UInt8)), .int .i64 0, .int .i64 0] 37 (0, 0))]] at S74
          refine ⟨_, rfl, ?_⟩
          refine WOps.p (G.assign rfl) rfl ?_
          refine WOps.nil ?_
          refine WEx.cutend _ ?_ ⟨q59, t70, rfl, hF, S74⟩
          exact ⟨rfl, rfl, rfl, rfl, rfl, rfl, rfl, trivial⟩
        ·
          refine WCode.cond_f (kb (b := decide (x56 < (a0.length : Int))) rfl (decide_eq_false h67)) ?_
          refine WCode.skip ?_
          refine WEx.cutend _ ?_ ⟨q59, false, rfl, hF, S58⟩
          exact ⟨rfl, rfl, rfl, rfl, rfl, rfl, rfl, trivial⟩
      ·
        rintro _ w63 ⟨q65, b62, rfl, hF, S64⟩
        unfold rf_one.j3 at hF
        refine WCode.seq ?_
        refine WCode.seq ?_
        refine WCode.region ?_
        refine WOps.p (G.move rfl) rfl ?_
        refine WOps.nil ?_
        refine WEx.then_ ?_
        rcases ite_some hF with ⟨h75, hF⟩ | ⟨h75, hF⟩
        ·
          refine WCode.cond_t (kb (b := b62) rfl h75) ?_
          refine WCode.seq ?_
          refine WCode.region ?_
          refine WOps.p (G.move rfl) rfl ?_
          refine WOps.p (G.move rfl) rfl ?_
          obtain ⟨t76, hc77, hF⟩ := bind_some hF
          refine WOps.call T.call25 (evs_cons rfl (evs_cons rfl evs_nil)) rfl ?_
          refine (rf_run_calls q65 a0 x56 hc77).mono ?_
          rintro _ w78 ⟨rfl, T79⟩
          have S80 := St.callN (As := []) S64 T79
          change St _ _ _ [[(b1, .cells #[.int .i64 0, .string (bs ([] : List UInt8)), .int .i64 0, .int .i64 0] 37 (0, 0))]] at S80
          refine ⟨_, rfl, ?_⟩
          refine WOps.p (G.assign rfl) rfl ?_
          refine WOps.nil ?_
          refine WEx.then_ ?_
          refine WCode.seq ?_
          refine WCode.region ?_
          refine WOps.p (G.move rfl) rfl ?_
          refine WOps.p (G.move rfl) rfl ?_
          refine WOps.p (G.move rfl) rfl ?_
          obtain ⟨m81, hc82, hF⟩ := bind_some hF
          refine WOps.p (G.cutb_lh T.str9 rfl rfl rfl hc82) rfl ?_
          refine WOps.p (G.move rfl) rfl ?_
          obtain ⟨t83, hc84, hF⟩ := bind_some hF
          refine WOps.call T.call33 (evs_cons rfl (evs_cons rfl evs_nil)) rfl ?_
          refine (rf_number_calls q65 m81 (decide (((c7).toNat : Int) = 45)) hc84).mono ?_
          rintro _ w85 ⟨rfl, T86⟩
          have S87 := St.callN (As := []) S80 T86
          change St _ _ _ [[(b1, .cells #[.int .i64 0, .string (bs ([] : List UInt8)), .int .i64 0, .int .i64 0] 37 (0, 0))]] at S87
          refine ⟨_, rfl, ?_⟩
          refine WOps.p (G.move rfl) rfl ?_
          refine WOps.p (G.extract rfl rfl) rfl ?_
          refine WOps.p (G.extract rfl rfl) rfl ?_
          refine WOps.p (G.assign rfl) rfl ?_
          refine WOps.p (G.assign rfl) rfl ?_
          refine WOps.nil ?_
          refine WEx.then_ ?_
          refine WCode.forget (l' := [(1, .int .i64 a1), (4, .pointer (some ⟨b1, 0, none⟩)), (15, .int .i64 t76), (16, .int .i64 t83.1), (17, .bool t83.2)]) ⟨rfl, rfl, rfl, rfl, rfl, trivial⟩ ?_
          refine WCode.seq ?_
          refine WCode.seq ?_
          refine WCode.region ?_
          refine WOps.p (G.move rfl) rfl ?_
          refine WOps.p (G.not rfl rfl) rfl ?_
          refine WOps.nil ?_
          refine WEx.then_ ?_
          rcases ite_some hF with ⟨h88, hF⟩ | ⟨h88, hF⟩
          ·
            refine WCode.cond_f (kb (b := !t83.2) rfl (show (!t83.2) = false from by rw [h88]; rfl)) ?_
            refine WCode.skip ?_
            refine WEx.then_ ?_
            refine WCode.seq ?_
            refine WCode.region ?_
            refine WOps.p (G.move rfl) rfl ?_
            refine WOps.p (G.move rfl) rfl ?_
            refine WOps.p (G.build (cells := #[.int .i64 3, .string (bs ([] : List UInt8)), .int .i64 t83.1, .int .i64 a1]) (evp_spec (evp_cons rfl (evp_cons rfl (evp_cons rfl evp_nil)))) (by kernel_rfl)) rfl ?_
            refine WOps.p (G.move rfl) rfl ?_
            obtain ⟨w89, E90, S91⟩ := St.store (P := Tryd.prog) S87 0 37 (.agg #[.int .i64 3, .string (bs ([] : List UInt8)), .int .i64 t83.1, .int .i64 a1]) (off := 0) (cur' := #[.int .i64 3, .string (bs ([] : List UInt8)), .int .i64 t83.1, .int .i64 a1]) rfl T.size37_4 rfl rfl rfl
            change St _ _ _ [[(b1, .cells #[.int .i64 3, .string (bs ([] : List UInt8)), .int .i64 t83.1, .int .i64 a1] 37 (0, 0))]] at S91
            refine WOps.u (E90 rfl rfl) ?_
            refine WOps.p (G.assign rfl) rfl ?_
            refine WOps.p (G.assign rfl) rfl ?_
            refine WOps.nil ?_
            refine WEx.then_ ?_
            refine WCode.forget (l' := [(4, .pointer (some ⟨b1, 0, none⟩)), (5, .int .i64 t76), (6, .int .i64 0)]) ⟨rfl, rfl, rfl, trivial⟩ ?_
            refine WCode.ret ?_
            refine WEx.then_ret ?_
            obtain rfl := some_eq hF
            refine WEx.retc2 rfl rfl (cs := [.int .i64 3, .string (bs ([] : List UInt8)), .int .i64 t83.1, .int .i64 a1]) T.agg37_4 (cellsAt.of_blk (S91.blk 0 rfl) rfl) rfl rfl ?_
            exact ⟨rfl, St.keep (As := []) S91⟩
          ·
            refine WCode.cond_t (kb (b := !t83.2) rfl (show (!t83.2) = true from by rw [(Bool.eq_false_iff.2 h88)]; rfl)) ?_
            refine WCode.seq ?_
            refine WCode.region ?_
            refine WOps.p (G.build (cells := #[.int .i64 0, .string (bs ([] : List UInt8)), .int .i64 0, .int .i64 0]) (evp_spec (evp_nil)) (by kernel_rfl)) rfl ?_
            obtain ⟨w92, E93, S94⟩ := St.store (P := Tryd.prog) S87 0 37 (.agg #[.int .i64 0, .string (bs ([] : List UInt8)), .int .i64 0, .int .i64 0]) (off := 0) (cur' := #[.int .i64 0, .string (bs ([] : List UInt8)), .int .i64 0, .int .i64 0]) rfl T.size37_4 rfl rfl rfl
            change St _ _ _ [[(b1, .cells #[.int .i64 0, .string (bs ([] : List UInt8)), .int .i64 0, .int .i64 0] 37 (0, 0))]] at S94
            refine WOps.u (E93 rfl rfl) ?_
            refine WOps.p (G.assign rfl) rfl ?_
            refine WOps.p (G.assign rfl) rfl ?_
            refine WOps.nil ?_
            refine WEx.then_ ?_
            refine WCode.ret ?_
            refine WEx.then_ret ?_
            refine WEx.then_ret ?_
            obtain rfl := some_eq hF
            refine WEx.retc2 rfl rfl (cs := [.int .i64 0, .string (bs ([] : List UInt8)), .int .i64 0, .int .i64 0]) T.agg37_4 (cellsAt.of_blk (S94.blk 0 rfl) rfl) rfl rfl ?_
            exact ⟨rfl, St.keep (As := []) S94⟩
        ·
          refine WCode.cond_f (kb (b := b62) rfl (Bool.eq_false_iff.2 h75)) ?_
          refine WCode.skip ?_
          refine WEx.then_ ?_
          refine WCode.seq ?_
          refine WCode.region ?_
          refine WOps.p (G.move rfl) rfl ?_
          obtain ⟨t95, hc96, hF⟩ := bind_some hF
          refine WOps.call T.call34 (evs_cons rfl evs_nil) rfl ?_
          refine (rf_sign_calls q65 ((c7).toNat : Int) hc96).mono ?_
          rintro _ w97 ⟨rfl, T98⟩
          have S99 := St.callN (As := []) S64 T98
          change St _ _ _ [[(b1, .cells #[.int .i64 0, .string (bs ([] : List UInt8)), .int .i64 0, .int .i64 0] 37 (0, 0))]] at S99
          refine ⟨_, rfl, ?_⟩
          refine WOps.p (G.assign rfl) rfl ?_
          refine WOps.nil ?_
          refine WEx.then_ ?_
          refine WCode.seq ?_
          refine WCode.seq ?_
          refine WCode.region ?_
          refine WOps.p (G.move rfl) rfl ?_
          refine WOps.p (G.not rfl rfl) rfl ?_
          refine WOps.nil ?_
          refine WEx.then_ ?_
          rcases ite_some hF with ⟨h100, hF⟩ | ⟨h100, hF⟩
          ·
            refine WCode.cond_f (kb (b := !t95) rfl (show (!t95) = false from by rw [h100]; rfl)) ?_
            refine WCode.skip ?_
            refine WEx.then_ ?_
            refine WCode.forget (l' := [(0, .string (bs a0)), (1, .int .i64 a1), (4, .pointer (some ⟨b1, 0, none⟩))]) ⟨rfl, rfl, rfl, trivial⟩ ?_
            refine WCode.seq ?_
            refine WCode.region ?_
            refine WOps.p (G.move rfl) rfl ?_
            refine WOps.p (G.move rfl) rfl ?_
            refine WOps.p (G.move rfl) rfl ?_
            refine WOps.p (G.add rfl rfl (r := (w64 (a1 + 1))) rfl) rfl ?_
            obtain ⟨m101, hc102, hF⟩ := bind_some hF
            refine WOps.p (G.cutb_lh T.str9 rfl rfl rfl hc102) rfl ?_
            refine WOps.p (G.move rfl) rfl ?_
            refine WOps.p (G.build (cells := #[.int .i64 4, .string (bs m101), .int .i64 0, .int .i64 a1]) (evp_spec (evp_cons rfl (evp_cons rfl (evp_cons rfl evp_nil)))) (by kernel_rfl)) rfl ?_
            refine WOps.p (G.move rfl) rfl ?_
            refine WOps.p (G.add rfl rfl (r := (w64 (a1 + 1))) rfl) rfl ?_
            obtain ⟨w103, E104, S105⟩ := St.store (P := Tryd.prog) S99 0 37 (.agg #[.int .i64 4, .string (bs m101), .int .i64 0, .int .i64 a1]) (off := 0) (cur' := #[.int .i64 4, .string (bs m101), .int .i64 0, .int .i64 a1]) rfl T.size37_4 rfl rfl rfl
            change St _ _ _ [[(b1, .cells #[.int .i64 4, .string (bs m101), .int .i64 0, .int .i64 a1] 37 (0, 0))]] at S105
            refine WOps.u (E104 rfl rfl) ?_
            refine WOps.p (G.assign rfl) rfl ?_
            refine WOps.p (G.assign rfl) rfl ?_
            refine WOps.nil ?_
            refine WEx.then_ ?_
            refine WCode.forget (l' := [(4, .pointer (some ⟨b1, 0, none⟩)), (5, .int .i64 (w64 (a1 + 1))), (6, .int .i64 0)]) ⟨rfl, rfl, rfl, trivial⟩ ?_
            refine WCode.ret ?_
            obtain rfl := some_eq hF
            refine WEx.retc2 rfl rfl (cs := [.int .i64 4, .string (bs m101), .int .i64 0, .int .i64 a1]) T.agg37_4 (cellsAt.of_blk (S105.blk 0 rfl) rfl) rfl rfl ?_
            exact ⟨rfl, St.keep (As := []) S105⟩
          ·
            refine WCode.cond_t (kb (b := !t95) rfl (show (!t95) = true from by rw [(Bool.eq_false_iff.2 h100)]; rfl)) ?_
            refine WCode.seq ?_
            refine WCode.region ?_
            refine WOps.p (G.build (cells := #[.int .i64 0, .string (bs ([] : List UInt8)), .int .i64 0, .int .i64 0]) (evp_spec (evp_nil)) (by kernel_rfl)) rfl ?_
            obtain ⟨w106, E107, S108⟩ := St.store (P := Tryd.prog) S99 0 37 (.agg #[.int .i64 0, .string (bs ([] : List UInt8)), .int .i64 0, .int .i64 0]) (off := 0) (cur' := #[.int .i64 0, .string (bs ([] : List UInt8)), .int .i64 0, .int .i64 0]) rfl T.size37_4 rfl rfl rfl
            change St _ _ _ [[(b1, .cells #[.int .i64 0, .string (bs ([] : List UInt8)), .int .i64 0, .int .i64 0] 37 (0, 0))]] at S108
            refine WOps.u (E107 rfl rfl) ?_
            refine WOps.p (G.assign rfl) rfl ?_
            refine WOps.p (G.assign rfl) rfl ?_
            refine WOps.nil ?_
            refine WEx.then_ ?_
            refine WCode.forget (l' := [(4, .pointer (some ⟨b1, 0, none⟩)), (5, .int .i64 0), (6, .int .i64 30)]) ⟨rfl, rfl, rfl, trivial⟩ ?_
            refine WCode.ret ?_
            refine WEx.then_ret ?_
            obtain rfl := some_eq hF
            refine WEx.retc2 rfl rfl (cs := [.int .i64 0, .string (bs ([] : List UInt8)), .int .i64 0, .int .i64 0]) T.agg37_4 (cellsAt.of_blk (S108.blk 0 rfl) rfl) rfl rfl ?_
            exact ⟨rfl, St.keep (As := []) S108⟩

mutual
def rf_Scan.j2 : Nat → List UInt8 → List Token → Int → Option ((List Token) × Int × Int)
  | 0, _, _, _ => none
  | k47 + 1, a0, l6, x9 => (Option.bind (rf_one k47 a0 x9) fun t48 => (if t48.2.2 = 0 then (Option.bind (cat l6 ([t48.1] : List Token)) fun l69 => (rf_Scan.l1 k47 a0 l69 t48.2.1)) else (some ([], t48.2.2, x9))))
def rf_Scan.j1 : Nat → List UInt8 → List Token → Int → UInt8 → Bool → Option ((List Token) × Int × Int)
  | 0, _, _, _, _, _ => none
  | k28 + 1, a0, l6, x9, c18, b20 => (if b20 = true then (rf_Scan.l1 k28 a0 l6 (w64 (x9 + 1))) else (if ((c18).toNat : Int) = 47 then (if (w64 (x9 + 1)) < (a0.length : Int) then (Option.bind (idx a0 (w64 (x9 + 1))) fun c36 => (if ((c36).toNat : Int) = 42 then (Option.bind (rf_comment k28 a0 x9) fun t39 => (if t39 = 0 then (some ([], 33, x9)) else (rf_Scan.l1 k28 a0 l6 t39))) else (rf_Scan.j2 k28 a0 l6 x9))) else (rf_Scan.j2 k28 a0 l6 x9)) else (rf_Scan.j2 k28 a0 l6 x9)))
def rf_Scan.l1 : Nat → List UInt8 → List Token → Int → Option ((List Token) × Int × Int)
  | 0, _, _, _ => none
  | k12 + 1, a0, l6, x9 => (if x9 < (a0.length : Int) then (Option.bind (idx a0 x9) fun c18 => (if ((c18).toNat : Int) = 32 then (rf_Scan.j1 k12 a0 l6 x9 c18 true) else (if ((c18).toNat : Int) = 9 then (rf_Scan.j1 k12 a0 l6 x9 c18 true) else (if ((c18).toNat : Int) = 10 then (rf_Scan.j1 k12 a0 l6 x9 c18 true) else (rf_Scan.j1 k12 a0 l6 x9 c18 (decide (((c18).toNat : Int) = 13))))))) else (Option.bind (cat l6 ([(⟨5, ([] : List UInt8), 0, (a0.length : Int)⟩ : Token)] : List Token)) fun l89 => (some (l89, 0, 0))))
end
def rf_Scan (k : Nat) (a0 : List UInt8) : Option ((List Token) × Int × Int) := (if 16000 < (a0.length : Int) then (some ([], 34, 16000)) else (rf_Scan.l1 k a0 [] 0))
set_option maxRecDepth 100000 in
set_option maxHeartbeats 1000000 in
theorem rf_Scan_calls (k : Nat) (a0 : List UInt8) {w : World} {r_ : (List Token) × Int × Int} (h_ : rf_Scan k a0 = some r_) :
    Calls Tryd.prog 8 [.string (bs a0)].toArray w fun e w' => ∃ A0' : Option Addr, ∃ c0' : Nat, ∃ G0' : Grp, e = .returned (.tuple #[.slice A0' (r_.1).length c0', .int .i64 r_.2.1, .int .i64 r_.2.2]) ∧ SlO 37 Token.rp (.slice A0' (r_.1).length c0') (r_.1) G0' ∧ St w (KS []) w' [G0'] := by
  have hF := h_
  clear h_
  unfold rf_Scan at hF
  have S := St.ofFalse (As := []) (St.init0 w)
  refine enter 83 [(0, .string (bs a0))] Tryd.func8 rfl rfl rfl rfl ?_
  refine WCode.seq ?_
  refine WCode.region ?_
  refine WOps.p (G.assign rfl) rfl ?_
  refine WOps.p (G.assign rfl) rfl ?_
  refine WOps.p (G.assign rfl) rfl ?_
  refine WOps.nil ?_
  refine WEx.then_ ?_
  refine WCode.seq ?_
  refine WCode.seq ?_
  refine WCode.region ?_
  refine WOps.p (G.move rfl) rfl ?_
  refine WOps.p (G.lenb T.str9 rfl) rfl ?_
  refine WOps.p (G.gtr rfl rfl rfl) rfl ?_
  refine WOps.nil ?_
  refine WEx.then_ ?_
  rcases ite_some hF with ⟨h1, hF⟩ | ⟨h1, hF⟩
  ·
    refine WCode.cond_t (kb (b := decide (16000 < (a0.length : Int))) rfl (decide_eq_true h1)) ?_
    refine WCode.seq ?_
    refine WCode.region ?_
    refine WOps.p (G.assign rfl) rfl ?_
    refine WOps.p (G.assign rfl) rfl ?_
    refine WOps.p (G.assign rfl) rfl ?_
    refine WOps.nil ?_
    refine WEx.then_ ?_
    refine WCode.ret ?_
    refine WEx.then_ret ?_
    obtain rfl := some_eq hF
    refine WEx.ret3 rfl rfl rfl rfl ?_
    have S2 := S.emp
    exact ⟨none, 0, ([] : Grp), rfl, (SlO.nil 37 Token.rp), St.keep (As := [([] : Grp)]) S2⟩
  ·
    refine WCode.cond_f (kb (b := decide (16000 < (a0.length : Int))) rfl (decide_eq_false h1)) ?_
    refine WCode.skip ?_
    refine WEx.then_ ?_
    refine WCode.seq ?_
    refine WCode.region ?_
    refine WOps.p (G.assign rfl) rfl ?_
    refine WOps.nil ?_
    refine WEx.then_ ?_
    refine WCode.seq ?_
    refine WCode.region ?_
    refine WOps.p (G.assign rfl) rfl ?_
    refine WOps.nil ?_
    refine WEx.then_ ?_
    refine WCode.seq ?_
    refine WCode.block ?_
    have S14 := S.emp
    refine WCode.forget (l' := [(0, .string (bs a0)), (5, .slice none 0 0), (6, .int .i64 0)]) ⟨rfl, rfl, rfl, trivial⟩ ?_
    refine WCode.loop (fun n_ l_ w_ => ∃ A4 : Option Addr, ∃ c5 : Nat, ∃ l6 : List Token, ∃ G7 : Grp, ∃ x9 : Int, l_ = [(0, .string (bs a0)), (5, .slice A4 l6.length c5), (6, .int .i64 x9)] ∧ rf_Scan.l1 n_ a0 l6 x9 = some r_ ∧ (SlO 37 Token.rp (.slice A4 l6.length c5) l6 G7) ∧ St w (KS []) w_ [G7]) k ⟨none, 0, [], ([] : Grp), 0, rfl, hF, (SlO.nil 37 Token.rp), S14⟩ ?_
    rintro n13 _ w10 ⟨A4, c5, l6, G7, x9, rfl, hF, hO8, S11⟩
    obtain _ | k12 := n13
    · exact nomatch (show (none : Option ((List Token) × Int × Int)) = some r_ from hF)
    rw [rf_Scan.l1] at hF
    refine WCode.seq ?_
    refine WCode.seq ?_
    refine WCode.region ?_
    refine WOps.p (G.move rfl) rfl ?_
    refine WOps.p (G.move rfl) rfl ?_
    refine WOps.p (G.lenb T.str9 rfl) rfl ?_
    refine WOps.p (G.lss rfl rfl rfl) rfl ?_
    refine WOps.nil ?_
    refine WEx.then_ ?_
    rcases ite_some hF with ⟨h17, hF⟩ | ⟨h17, hF⟩
    ·
      refine WCode.cond_t (kb (b := decide (x9 < (a0.length : Int))) rfl (decide_eq_true h17)) ?_
      refine WCode.skip ?_
      refine WEx.then_ ?_
      refine WCode.block ?_
      refine WCode.seq ?_
      refine WCode.region ?_
      refine WOps.p (G.move rfl) rfl ?_
      refine WOps.p (G.move rfl) rfl ?_
      obtain ⟨c18, hc19, hF⟩ := bind_some hF
      refine WOps.p (G.idxb T.str9 rfl rfl hc19) rfl ?_
      refine WOps.p (G.assign rfl) rfl ?_
      refine WOps.nil ?_
      refine WEx.then_ ?_
      refine WCode.seq ?_
      refine WCode.cutseq (fun l_ w_ => ∃ q23 : Nat, ∃ b20 : Bool, l_ = [(0, .string (bs a0)), (5, .slice A4 l6.length c5), (6, .int .i64 x9), (7, .int .u8 ((c18).toNat : Int)), (35, .bool b20)] ∧ rf_Scan.j1 q23 a0 l6 x9 c18 b20 = some r_ ∧ q23 ≤ k12 ∧ St w (KS []) w_ [G7]) ?_ ?_
      ·
        refine WCode.region ?_
        refine WOps.p (G.move rfl) rfl ?_
        refine WOps.p (G.eql rfl rfl rfl) rfl ?_
        refine WOps.p (G.move rfl) rfl ?_
        rcases ite_some hF with ⟨h25, hF⟩ | ⟨h25, hF⟩
        ·
          refine WOps.off rfl (kbl (b := decide (((c18).toNat : Int) = 32)) rfl (decide_eq_true h25)) rfl rfl ?_
          refine WOps.off rfl (kbl (b := decide (((c18).toNat : Int) = 32)) rfl (decide_eq_true h25)) rfl rfl ?_
          refine WOps.p (G.pick_t (kb (b := decide (((c18).toNat : Int) = 32)) rfl (decide_eq_true h25)) rfl) rfl ?_
          refine WOps.p (G.move rfl) rfl ?_
          refine WOps.off rfl rfl rfl rfl ?_
          refine WOps.off rfl rfl rfl rfl ?_
          refine WOps.p (G.pick_t rfl rfl) rfl ?_
          refine WOps.p (G.move rfl) rfl ?_
          refine WOps.off rfl rfl rfl rfl ?_
          refine WOps.off rfl rfl rfl rfl ?_
          refine WOps.p (G.pick_t rfl rfl) rfl ?_
          refine WOps.nil ?_
          refine WEx.cutend _ ?_ ⟨k12, true, rfl, hF, (by omega), S11⟩
          exact ⟨rfl, rfl, rfl, rfl, rfl, trivial⟩
        ·
          refine WOps.on rfl (kbl (b := decide (((c18).toNat : Int) = 32)) rfl (decide_eq_false h25)) ?_
          refine WOps.p (G.move rfl) rfl ?_
          refine WOps.on rfl (kbl (b := decide (((c18).toNat : Int) = 32)) rfl (decide_eq_false h25)) ?_
          refine WOps.p (G.eql rfl rfl rfl) rfl ?_
          refine WOps.p (G.pick_f (kb (b := decide (((c18).toNat : Int) = 32)) rfl (decide_eq_false h25)) rfl) rfl ?_
          refine WOps.p (G.move rfl) rfl ?_
          rcases ite_some hF with ⟨h26, hF⟩ | ⟨h26, hF⟩
          ·
            refine WOps.off rfl (kbl (b := decide (((c18).toNat : Int) = 9)) rfl (decide_eq_true h26)) rfl rfl ?_
            refine WOps.off rfl (kbl (b := decide (((c18).toNat : Int) = 9)) rfl (decide_eq_true h26)) rfl rfl ?_
            refine WOps.p (G.pick_t (kb (b := decide (((c18).toNat : Int) = 9)) rfl (decide_eq_true h26)) rfl) rfl ?_
            refine WOps.p (G.move rfl) rfl ?_
            refine WOps.off rfl rfl rfl rfl ?_
            refine WOps.off rfl rfl rfl rfl ?_
            refine WOps.p (G.pick_t rfl rfl) rfl ?_
            refine WOps.nil ?_
            refine WEx.cutend _ ?_ ⟨k12, true, rfl, hF, (by omega), S11⟩
            exact ⟨rfl, rfl, rfl, rfl, rfl, trivial⟩
          ·
            refine WOps.on rfl (kbl (b := decide (((c18).toNat : Int) = 9)) rfl (decide_eq_false h26)) ?_
            refine WOps.p (G.move rfl) rfl ?_
            refine WOps.on rfl (kbl (b := decide (((c18).toNat : Int) = 9)) rfl (decide_eq_false h26)) ?_
            refine WOps.p (G.eql rfl rfl rfl) rfl ?_
            refine WOps.p (G.pick_f (kb (b := decide (((c18).toNat : Int) = 9)) rfl (decide_eq_false h26)) rfl) rfl ?_
            refine WOps.p (G.move rfl) rfl ?_
            rcases ite_some hF with ⟨h27, hF⟩ | ⟨h27, hF⟩
            ·
              refine WOps.off rfl (kbl (b := decide (((c18).toNat : Int) = 10)) rfl (decide_eq_true h27)) rfl rfl ?_
              refine WOps.off rfl (kbl (b := decide (((c18).toNat : Int) = 10)) rfl (decide_eq_true h27)) rfl rfl ?_
              refine WOps.p (G.pick_t (kb (b := decide (((c18).toNat : Int) = 10)) rfl (decide_eq_true h27)) rfl) rfl ?_
              refine WOps.nil ?_
              refine WEx.cutend _ ?_ ⟨k12, true, rfl, hF, (by omega), S11⟩
              exact ⟨rfl, rfl, rfl, rfl, rfl, trivial⟩
            ·
              refine WOps.on rfl (kbl (b := decide (((c18).toNat : Int) = 10)) rfl (decide_eq_false h27)) ?_
              refine WOps.p (G.move rfl) rfl ?_
              refine WOps.on rfl (kbl (b := decide (((c18).toNat : Int) = 10)) rfl (decide_eq_false h27)) ?_
              refine WOps.p (G.eql rfl rfl rfl) rfl ?_
              refine WOps.p (G.pick_f (kb (b := decide (((c18).toNat : Int) = 10)) rfl (decide_eq_false h27)) rfl) rfl ?_
              refine WOps.nil ?_
              refine WEx.cutend _ ?_ ⟨k12, decide (((c18).toNat : Int) = 13), rfl, hF, (by omega), S11⟩
              exact ⟨rfl, rfl, rfl, rfl, rfl, trivial⟩
      ·
        rintro _ w21 ⟨q23, b20, rfl, hF, hq24, S22⟩
        obtain _ | k28 := q23
        · exact nomatch (show (none : Option ((List Token) × Int × Int)) = some r_ from hF)
        rw [rf_Scan.j1] at hF
        rcases ite_some hF with ⟨h29, hF⟩ | ⟨h29, hF⟩
        ·
          refine WCode.cond_t (kb (b := b20) rfl h29) ?_
          refine WCode.seq ?_
          refine WCode.region ?_
          refine WOps.p (G.move rfl) rfl ?_
          refine WOps.p (G.add rfl rfl (r := (w64 (x9 + 1))) rfl) rfl ?_
          refine WOps.p (G.assign rfl) rfl ?_
          refine WOps.nil ?_
          refine WEx.then_ ?_
          refine WCode.exit ?_
          refine WEx.then_exit ?_
          refine WEx.in_exit ?_
          refine WEx.again _ _ (by omega) ?_ ⟨A4, c5, l6, G7, w64 (x9 + 1), rfl, hF, hO8, S22⟩
          exact ⟨rfl, rfl, rfl, trivial⟩
        ·
          refine WCode.cond_f (kb (b := b20) rfl (Bool.eq_false_iff.2 h29)) ?_
          refine WCode.skip ?_
          refine WEx.then_ ?_
          refine WCode.cutseq (fun l_ w_ => ∃ q32 : Nat, l_ = [(0, .string (bs a0)), (5, .slice A4 l6.length c5), (6, .int .i64 x9)] ∧ rf_Scan.j2 q32 a0 l6 x9 = some r_ ∧ q32 ≤ k28 ∧ St w (KS []) w_ [G7]) ?_ ?_
          ·
            refine WCode.seq ?_
            refine WCode.region ?_
            refine WOps.p (G.move rfl) rfl ?_
            refine WOps.p (G.eql rfl rfl rfl) rfl ?_
            refine WOps.p (G.move rfl) rfl ?_
            rcases ite_some hF with ⟨h34, hF⟩ | ⟨h34, hF⟩
            ·
              refine WOps.on rfl (kbl (b := decide (((c18).toNat : Int) = 47)) rfl (decide_eq_true h34)) ?_
              refine WOps.p (G.move rfl) rfl ?_
              refine WOps.on rfl (kbl (b := decide (((c18).toNat : Int) = 47)) rfl (decide_eq_true h34)) ?_
              refine WOps.p (G.add rfl rfl (r := (w64 (x9 + 1))) rfl) rfl ?_
              refine WOps.on rfl (kbl (b := decide (((c18).toNat : Int) = 47)) rfl (decide_eq_true h34)) ?_
              refine WOps.p (G.move rfl) rfl ?_
              refine WOps.on rfl (kbl (b := decide (((c18).toNat : Int) = 47)) rfl (decide_eq_true h34)) ?_
              refine WOps.p (G.lenb T.str9 rfl) rfl ?_
              refine WOps.on rfl (kbl (b := decide (((c18).toNat : Int) = 47)) rfl (decide_eq_true h34)) ?_
              refine WOps.p (G.lss rfl rfl rfl) rfl ?_
              refine WOps.p (G.pick_t (kb (b := decide (((c18).toNat : Int) = 47)) rfl (decide_eq_true h34)) rfl) rfl ?_
              refine WOps.p (G.move rfl) rfl ?_
              rcases ite_some hF with ⟨h35, hF⟩ | ⟨h35, hF⟩
              ·
                refine WOps.on rfl (kbl (b := decide ((w64 (x9 + 1)) < (a0.length : Int))) rfl (decide_eq_true h35)) ?_
                refine WOps.p (G.move rfl) rfl ?_
                refine WOps.on rfl (kbl (b := decide ((w64 (x9 + 1)) < (a0.length : Int))) rfl (decide_eq_true h35)) ?_
                refine WOps.p (G.move rfl) rfl ?_
                refine WOps.on rfl (kbl (b := decide ((w64 (x9 + 1)) < (a0.length : Int))) rfl (decide_eq_true h35)) ?_
                refine WOps.p (G.add rfl rfl (r := (w64 (x9 + 1))) rfl) rfl ?_
                refine WOps.on rfl (kbl (b := decide ((w64 (x9 + 1)) < (a0.length : Int))) rfl (decide_eq_true h35)) ?_
                obtain ⟨c36, hc37, hF⟩ := bind_some hF
                refine WOps.p (G.idxb T.str9 rfl rfl hc37) rfl ?_
                refine WOps.on rfl (kbl (b := decide ((w64 (x9 + 1)) < (a0.length : Int))) rfl (decide_eq_true h35)) ?_
                refine WOps.p (G.eql rfl rfl rfl) rfl ?_
                refine WOps.p (G.pick_t (kb (b := decide ((w64 (x9 + 1)) < (a0.length : Int))) rfl (decide_eq_true h35)) rfl) rfl ?_
                refine WOps.nil ?_
                refine WEx.then_ ?_
                rcases ite_some hF with ⟨h38, hF⟩ | ⟨h38, hF⟩
                ·
                  refine WCode.cond_t (kb (b := decide (((c36).toNat : Int) = 42)) rfl (decide_eq_true h38)) ?_
                  refine WCode.seq ?_
                  refine WCode.region ?_
                  refine WOps.p (G.move rfl) rfl ?_
                  refine WOps.p (G.move rfl) rfl ?_
                  obtain ⟨t39, hc40, hF⟩ := bind_some hF
                  refine WOps.call T.call20 (evs_cons rfl (evs_cons rfl evs_nil)) rfl ?_
                  refine (rf_comment_calls k28 a0 x9 hc40).mono ?_
                  rintro _ w41 ⟨rfl, T42⟩
                  have S43 := St.callN (As := []) S22 T42
                  change St _ _ _ [G7] at S43
                  refine ⟨_, rfl, ?_⟩
                  refine WOps.p (G.assign rfl) rfl ?_
                  refine WOps.nil ?_
                  refine WEx.then_ ?_
                  refine WCode.forget (l' := [(0, .string (bs a0)), (5, .slice A4 l6.length c5), (6, .int .i64 x9), (8, .int .i64 t39), (41, .int .i64 x9), (42, .int .i64 (w64 (x9 + 1))), (43, .string (bs a0)), (44, .int .i64 (a0.length : Int)), (45, .bool (decide ((w64 (x9 + 1)) < (a0.length : Int)))), (48, .string (bs a0)), (49, .int .i64 x9), (50, .int .i64 (w64 (x9 + 1))), (51, .int .u8 ((c36).toNat : Int)), (52, .bool (decide (((c36).toNat : Int) = 42)))]) ⟨rfl, rfl, rfl, rfl, rfl, rfl, rfl, rfl, rfl, rfl, rfl, rfl, rfl, rfl, trivial⟩ ?_
                  refine WCode.seq ?_
                  refine WCode.seq ?_
                  refine WCode.region ?_
                  refine WOps.p (G.move rfl) rfl ?_
                  refine WOps.p (G.eql rfl rfl rfl) rfl ?_
                  refine WOps.nil ?_
                  refine WEx.then_ ?_
                  rcases ite_some hF with ⟨h44, hF⟩ | ⟨h44, hF⟩
                  ·
                    refine WCode.cond_t (kb (b := decide (t39 = 0)) rfl (decide_eq_true h44)) ?_
                    refine WCode.seq ?_
                    refine WCode.region ?_
                    refine WOps.p (G.move rfl) rfl ?_
                    refine WOps.p (G.assign rfl) rfl ?_
                    refine WOps.p (G.assign rfl) rfl ?_
                    refine WOps.p (G.assign rfl) rfl ?_
                    refine WOps.nil ?_
                    refine WEx.then_ ?_
                    refine WCode.forget (l' := [(2, .slice none 0 0), (3, .int .i64 33), (4, .int .i64 x9)]) ⟨rfl, rfl, rfl, trivial⟩ ?_
                    refine WCode.ret ?_
                    refine WEx.then_ret ?_
                    refine WEx.then_ret ?_
                    refine WEx.in_ret ?_
                    refine WEx.then_ret ?_
                    refine WEx.in_ret ?_
                    refine WEx.then_ret ?_
                    obtain rfl := some_eq hF
                    refine WEx.ret3 rfl rfl rfl rfl ?_
                    have S45 := S43.emp
                    exact ⟨none, 0, ([] : Grp), rfl, (SlO.nil 37 Token.rp), St.keep (As := [([] : Grp)]) S45⟩
                  ·
                    refine WCode.cond_f (kb (b := decide (t39 = 0)) rfl (decide_eq_false h44)) ?_
                    refine WCode.skip ?_
                    refine WEx.then_ ?_
                    refine WCode.seq ?_
                    refine WCode.region ?_
                    refine WOps.p (G.move rfl) rfl ?_
                    refine WOps.p (G.assign rfl) rfl ?_
                    refine WOps.nil ?_
                    refine WEx.then_ ?_
                    refine WCode.exit ?_
                    refine WEx.then_exit ?_
                    refine WEx.in_exit ?_
                    refine WEx.again _ _ (by omega) ?_ ⟨A4, c5, l6, G7, t39, rfl, hF, hO8, S43⟩
                    exact ⟨rfl, rfl, rfl, trivial⟩
                ·
                  refine WCode.cond_f (kb (b := decide (((c36).toNat : Int) = 42)) rfl (decide_eq_false h38)) ?_
                  refine WCode.skip ?_
                  refine WEx.cutend _ ?_ ⟨k28, rfl, hF, (by omega), S22⟩
                  exact ⟨rfl, rfl, rfl, trivial⟩
              ·
                refine WOps.off rfl (kbl (b := decide ((w64 (x9 + 1)) < (a0.length : Int))) rfl (decide_eq_false h35)) rfl rfl ?_
                refine WOps.off rfl (kbl (b := decide ((w64 (x9 + 1)) < (a0.length : Int))) rfl (decide_eq_false h35)) rfl rfl ?_
                refine WOps.off rfl (kbl (b := decide ((w64 (x9 + 1)) < (a0.length : Int))) rfl (decide_eq_false h35)) rfl rfl ?_
                refine WOps.off rfl (kbl (b := decide ((w64 (x9 + 1)) < (a0.length : Int))) rfl (decide_eq_false h35)) rfl rfl ?_
                refine WOps.off rfl (kbl (b := decide ((w64 (x9 + 1)) < (a0.length : Int))) rfl (decide_eq_false h35)) rfl rfl ?_
                refine WOps.p (G.pick_f (kb (b := decide ((w64 (x9 + 1)) < (a0.length : Int))) rfl (decide_eq_false h35)) rfl) rfl ?_
                refine WOps.nil ?_
                refine WEx.then_ ?_
                refine WCode.cond_f rfl ?_
                refine WCode.skip ?_
                refine WEx.cutend _ ?_ ⟨k28, rfl, hF, (by omega), S22⟩
                exact ⟨rfl, rfl, rfl, trivial⟩
            ·
              refine WOps.off rfl (kbl (b := decide (((c18).toNat : Int) = 47)) rfl (decide_eq_false h34)) rfl rfl ?_
              refine WOps.off rfl (kbl (b := decide (((c18).toNat : Int) = 47)) rfl (decide_eq_false h34)) rfl rfl ?_
              refine WOps.off rfl (kbl (b := decide (((c18).toNat : Int) = 47)) rfl (decide_eq_false h34)) rfl rfl ?_
              refine WOps.off rfl (kbl (b := decide (((c18).toNat : Int) = 47)) rfl (decide_eq_false h34)) rfl rfl ?_
              refine WOps.off rfl (kbl (b := decide (((c18).toNat : Int) = 47)) rfl (decide_eq_false h34)) rfl rfl ?_
              refine WOps.p (G.pick_f (kb (b := decide (((c18).toNat : Int) = 47)) rfl (decide_eq_false h34)) rfl) rfl ?_
              refine WOps.p (G.move rfl) rfl ?_
              refine WOps.off rfl rfl rfl rfl ?_
              refine WOps.off rfl rfl rfl rfl ?_
              refine WOps.off rfl rfl rfl rfl ?_
              refine WOps.off rfl rfl rfl rfl ?_
              refine WOps.off rfl rfl rfl rfl ?_
              refine WOps.p (G.pick_f rfl rfl) rfl ?_
              refine WOps.nil ?_
              refine WEx.then_ ?_
              refine WCode.cond_f rfl ?_
              refine WCode.skip ?_
              refine WEx.cutend _ ?_ ⟨k28, rfl, hF, (by omega), S22⟩
              exact ⟨rfl, rfl, rfl, trivial⟩
          ·
            rintro _ w30 ⟨q32, rfl, hF, hq33, S31⟩
            obtain _ | k47 := q32
            · exact nomatch (show (none : Option ((List Token) × Int × Int)) = some r_ from hF)
            rw [rf_Scan.j2] at hF
            refine WCode.seq ?_
            refine WCode.region ?_
            refine WOps.p (G.move rfl) rfl ?_
            refine WOps.p (G.move rfl) rfl ?_
            obtain ⟨t48, hc49, hF⟩ := bind_some hF
            refine WOps.call T.call21 (evs_cons rfl (evs_cons rfl evs_nil)) rfl ?_
            refine (rf_one_calls k47 a0 x9 hc49).mono ?_
            rintro _ w50 ⟨rfl, T51⟩
            have S52 := St.callN (As := []) S31 T51
            change St _ _ _ [G7] at S52
            refine ⟨_, rfl, ?_⟩
            refine WOps.p (G.move rfl) rfl ?_
            refine WOps.p (G.extract rfl rfl) rfl ?_
            refine WOps.p (G.extract rfl rfl) rfl ?_
            refine WOps.p (G.extract rfl rfl) rfl ?_
            obtain ⟨b53, w54, E55, S56, X57, L58⟩ := St.var S52 (z := .agg #[.int .i64 0, .string (bs ([] : List UInt8)), .int .i64 0, .int .i64 0]) T.zero37
            change St _ _ _ [[(b53, .cells #[.int .i64 0, .string (bs ([] : List UInt8)), .int .i64 0, .int .i64 0] 37 (0, 0))], G7] at S56
            refine WOps.e E55 rfl ?_
            obtain ⟨w59, E60, S61⟩ := St.store (P := Tryd.prog) S56 0 37 (.agg #[.int .i64 t48.1.Kind, .string (bs t48.1.Text), .int .i64 t48.1.Number, .int .i64 t48.1.At]) (off := 0) (cur' := #[.int .i64 t48.1.Kind, .string (bs t48.1.Text), .int .i64 t48.1.Number, .int .i64 t48.1.At]) rfl T.size37_4 rfl rfl rfl
            change St _ _ _ [[(b53, .cells #[.int .i64 t48.1.Kind, .string (bs t48.1.Text), .int .i64 t48.1.Number, .int .i64 t48.1.At] 37 (0, 0))], G7] at S61
            refine WOps.u (E60 rfl rfl) ?_
            refine WOps.p (G.assign rfl) rfl ?_
            refine WOps.p (G.assign rfl) rfl ?_
            refine WOps.nil ?_
            refine WEx.then_ ?_
            refine WCode.seq ?_
            refine WCode.seq ?_
            refine WCode.region ?_
            refine WOps.p (G.move rfl) rfl ?_
            refine WOps.p (G.neq rfl rfl rfl) rfl ?_
            refine WOps.nil ?_
            refine WEx.then_ ?_
            rcases ite_some hF with ⟨h62, hF⟩ | ⟨h62, hF⟩
            ·
              refine WCode.cond_f (kb (b := !(decide (t48.2.2 = 0))) rfl (show (!(decide (t48.2.2 = 0))) = false from by rw [(decide_eq_true h62)]; rfl)) ?_
              refine WCode.skip ?_
              refine WEx.then_ ?_
              refine WCode.forget (l' := [(0, .string (bs a0)), (5, .slice A4 l6.length c5), (9, .pointer (some ⟨b53, 0, none⟩)), (10, .int .i64 t48.2.1)]) ⟨rfl, rfl, rfl, rfl, trivial⟩ ?_
              refine WCode.seq ?_
              refine WCode.region ?_
              refine WOps.p (G.move rfl) rfl ?_
              refine WOps.r (G.loada T.agg37_4 rfl (cs := [.int .i64 t48.1.Kind, .string (bs t48.1.Text), .int .i64 t48.1.Number, .int .i64 t48.1.At]) (cellsAt.of_blk (S61.blk 0 rfl) rfl)) rfl ?_
              obtain ⟨b63, w64, E65, S66, X67, L68⟩ := St.lit S61 (P := Tryd.prog) (t := 25) (e := 37) (n := 1) (vs := [(0, .agg #[.int .i64 t48.1.Kind, .string (bs t48.1.Text), .int .i64 t48.1.Number, .int .i64 t48.1.At])]) (cs := #[.int .i64 t48.1.Kind, .string (bs t48.1.Text), .int .i64 t48.1.Number, .int .i64 t48.1.At]) (by kernel_rfl)
              change St _ _ _ [[(b63, .cells #[.int .i64 t48.1.Kind, .string (bs t48.1.Text), .int .i64 t48.1.Number, .int .i64 t48.1.At] 37 (0, 0))], [(b53, .cells #[.int .i64 t48.1.Kind, .string (bs t48.1.Text), .int .i64 t48.1.Number, .int .i64 t48.1.At] 37 (0, 0))], G7] at S66
              refine WOps.e (E65 (evp_cons rfl evp_nil)) rfl ?_
              obtain ⟨l69, hc70, hF⟩ := bind_some hF
              have S71 := S66.front 2 rfl
              change St _ _ _ [G7, [(b63, .cells #[.int .i64 t48.1.Kind, .string (bs t48.1.Text), .int .i64 t48.1.Number, .int .i64 t48.1.At] 37 (0, 0))], [(b53, .cells #[.int .i64 t48.1.Kind, .string (bs t48.1.Text), .int .i64 t48.1.Number, .int .i64 t48.1.At] 37 (0, 0))]] at S71
              obtain ⟨A72, c73, G74, w75, E76, hO77, S78, hk79⟩ := St.appP (P := Tryd.prog) (r := Token.rp) (M := ([t48.1] : List Token)) S71 T.elt25 rfl hO8 (Rd.of_blk (S71.blk 1 rfl) (n := 1) (sz := 4) rfl) ⟨_, _, [], [], rfl, rfl, ⟨rfl, rfl⟩, ⟨rfl, rfl⟩⟩ rfl hc70
              change St _ _ _ [G74, [(b63, .cells #[.int .i64 t48.1.Kind, .string (bs t48.1.Text), .int .i64 t48.1.Number, .int .i64 t48.1.At] 37 (0, 0))], [(b53, .cells #[.int .i64 t48.1.Kind, .string (bs t48.1.Text), .int .i64 t48.1.Number, .int .i64 t48.1.At] 37 (0, 0))]] at S78
              refine WOps.e (E76 rfl rfl) rfl ?_
              refine WOps.p (G.assign rfl) rfl ?_
              refine WOps.nil ?_
              refine WEx.then_ ?_
              refine WCode.region ?_
              refine WOps.p (G.move rfl) rfl ?_
              refine WOps.p (G.assign rfl) rfl ?_
              refine WOps.nil ?_
              refine WEx.in_normal ?_
              have S80 := St.keep (As := [G74]) S78
              refine WEx.again _ _ (by omega) ?_ ⟨A72, c73, l69, G74, t48.2.1, rfl, hF, hO77, S80⟩
              exact ⟨rfl, rfl, rfl, trivial⟩
            ·
              refine WCode.cond_t (kb (b := !(decide (t48.2.2 = 0))) rfl (show (!(decide (t48.2.2 = 0))) = true from by rw [(decide_eq_false h62)]; rfl)) ?_
              refine WCode.seq ?_
              refine WCode.region ?_
              refine WOps.p (G.move rfl) rfl ?_
              refine WOps.p (G.move rfl) rfl ?_
              refine WOps.p (G.assign rfl) rfl ?_
              refine WOps.p (G.assign rfl) rfl ?_
              refine WOps.p (G.assign rfl) rfl ?_
              refine WOps.nil ?_
              refine WEx.then_ ?_
              refine WCode.forget (l' := [(2, .slice none 0 0), (3, .int .i64 t48.2.2), (4, .int .i64 x9)]) ⟨rfl, rfl, rfl, trivial⟩ ?_
              refine WCode.ret ?_
              refine WEx.then_ret ?_
              refine WEx.in_ret ?_
              refine WEx.then_ret ?_
              refine WEx.in_ret ?_
              refine WEx.then_ret ?_
              obtain rfl := some_eq hF
              refine WEx.ret3 rfl rfl rfl rfl ?_
              have S81 := S61.emp
              exact ⟨none, 0, ([] : Grp), rfl, (SlO.nil 37 Token.rp), St.keep (As := [([] : Grp)]) S81⟩
    ·
      refine WCode.cond_f (kb (b := decide (x9 < (a0.length : Int))) rfl (decide_eq_false h17)) ?_
      refine WCode.exit ?_
      refine WEx.then_exit ?_
      refine WEx.then_exit ?_
      refine WEx.in_exit ?_
      refine WEx.then_ ?_
      refine WCode.seq ?_
      refine WCode.region ?_
      refine WOps.p (G.move rfl) rfl ?_
      refine WOps.p (G.move rfl) rfl ?_
      refine WOps.p (G.lenb T.str9 rfl) rfl ?_
      refine WOps.p (G.build (cells := #[.int .i64 5, .string (bs ([] : List UInt8)), .int .i64 0, .int .i64 (a0.length : Int)]) (evp_spec (evp_cons rfl (evp_cons rfl evp_nil))) (by kernel_rfl)) rfl ?_
      obtain ⟨b83, w84, E85, S86, X87, L88⟩ := St.lit S11 (P := Tryd.prog) (t := 25) (e := 37) (n := 1) (vs := [(0, .agg #[.int .i64 5, .string (bs ([] : List UInt8)), .int .i64 0, .int .i64 (a0.length : Int)])]) (cs := #[.int .i64 5, .string (bs ([] : List UInt8)), .int .i64 0, .int .i64 (a0.length : Int)]) (by kernel_rfl)
      change St _ _ _ [[(b83, .cells #[.int .i64 5, .string (bs ([] : List UInt8)), .int .i64 0, .int .i64 (a0.length : Int)] 37 (0, 0))], G7] at S86
      refine WOps.e (E85 (evp_cons rfl evp_nil)) rfl ?_
      obtain ⟨l89, hc90, hF⟩ := bind_some hF
      have S91 := S86.front 1 rfl
      change St _ _ _ [G7, [(b83, .cells #[.int .i64 5, .string (bs ([] : List UInt8)), .int .i64 0, .int .i64 (a0.length : Int)] 37 (0, 0))]] at S91
      obtain ⟨A92, c93, G94, w95, E96, hO97, S98, hk99⟩ := St.appP (P := Tryd.prog) (r := Token.rp) (M := ([(⟨5, ([] : List UInt8), 0, (a0.length : Int)⟩ : Token)] : List Token)) S91 T.elt25 rfl hO8 (Rd.of_blk (S91.blk 1 rfl) (n := 1) (sz := 4) rfl) ⟨_, _, [], [], rfl, rfl, ⟨rfl, rfl⟩, ⟨rfl, rfl⟩⟩ rfl hc90
      change St _ _ _ [G94, [(b83, .cells #[.int .i64 5, .string (bs ([] : List UInt8)), .int .i64 0, .int .i64 (a0.length : Int)] 37 (0, 0))]] at S98
      refine WOps.e (E96 rfl rfl) rfl ?_
      refine WOps.p (G.assign rfl) rfl ?_
      refine WOps.p (G.assign rfl) rfl ?_
      refine WOps.p (G.assign rfl) rfl ?_
      refine WOps.nil ?_
      refine WEx.then_ ?_
      refine WCode.forget (l' := [(2, .slice A92 l89.length c93), (3, .int .i64 0), (4, .int .i64 0)]) ⟨rfl, rfl, rfl, trivial⟩ ?_
      refine WCode.ret ?_
      obtain rfl := some_eq hF
      refine WEx.ret3 rfl rfl rfl rfl ?_
      exact ⟨A92, c93, G94, rfl, hO97, St.keep (As := [G94]) S98⟩

def lw_same.l1 : Nat → List Token → List Token → Int → Option Bool
  | 0, _, _, _ => none
  | k5 + 1, a0, a1, x2 => (if x2 < (a0.length : Int) then (Option.bind (idx a0 x2) fun x11 => (Option.bind (idx a1 x2) fun x25 => (if x11 = x25 then (lw_same.l1 k5 a0 a1 (w64 (x2 + 1))) else (some false)))) else (some true))
def lw_same (k : Nat) (a0 : List Token) (a1 : List Token) : Option Bool := (if (a0.length : Int) = (a1.length : Int) then (lw_same.l1 k a0 a1 0) else (some false))
set_option maxRecDepth 100000 in
set_option maxHeartbeats 1000000 in
theorem lw_same_calls (k : Nat) (a0 : List Token) {A0 : Option Addr} {c0 : Nat} {F0 : Nat → Prop} (a1 : List Token) {A1 : Option Addr} {c1 : Nat} {F1 : Nat → Prop} {w : World} (hR0 : SlR Token.rp w F0 A0 c0 a0) (hF0 : ∀ b, F0 b → NK w [] b) (hR1 : SlR Token.rp w F1 A1 c1 a1) (hF1 : ∀ b, F1 b → NK w [] b) {r_ : Bool} (h_ : lw_same k a0 a1 = some r_) :
    Calls Tryd.prog 10 [.slice A0 a0.length c0, .slice A1 a1.length c1].toArray w fun e w' => e = .returned (.bool r_) ∧ St w (KS []) w' [] := by
  have hF := h_
  clear h_
  unfold lw_same at hF
  have S := St.ofFalse (As := []) (St.init0 w)
  refine enter 26 [(0, .slice A0 a0.length c0), (1, .slice A1 a1.length c1)] Tryd.func10 rfl rfl rfl rfl ?_
  refine WCode.seq ?_
  refine WCode.region ?_
  refine WOps.p (G.assign rfl) rfl ?_
  refine WOps.nil ?_
  refine WEx.then_ ?_
  refine WCode.seq ?_
  refine WCode.seq ?_
  refine WCode.region ?_
  refine WOps.p (G.move rfl) rfl ?_
  refine WOps.p (G.len T.el25 rfl) rfl ?_
  refine WOps.p (G.move rfl) rfl ?_
  refine WOps.p (G.len T.el25 rfl) rfl ?_
  refine WOps.p (G.neq rfl rfl rfl) rfl ?_
  refine WOps.nil ?_
  refine WEx.then_ ?_
  rcases ite_some hF with ⟨h1, hF⟩ | ⟨h1, hF⟩
  ·
    refine WCode.cond_f (kb (b := !(decide ((a0.length : Int) = (a1.length : Int)))) rfl (show (!(decide ((a0.length : Int) = (a1.length : Int)))) = false from by rw [(decide_eq_true h1)]; rfl)) ?_
    refine WCode.skip ?_
    refine WEx.then_ ?_
    refine WCode.seq ?_
    refine WCode.seq ?_
    refine WCode.region ?_
    refine WOps.p (G.assign rfl) rfl ?_
    refine WOps.nil ?_
    refine WEx.then_ ?_
    refine WCode.block ?_
    refine WCode.forget (l' := [(0, .slice A0 a0.length c0), (1, .slice A1 a1.length c1), (5, .int .i64 0)]) ⟨rfl, rfl, rfl, trivial⟩ ?_
    refine WCode.loop (fun n_ l_ w_ => ∃ x2 : Int, l_ = [(0, .slice A0 a0.length c0), (1, .slice A1 a1.length c1), (5, .int .i64 x2)] ∧ lw_same.l1 n_ a0 a1 x2 = some r_ ∧ St w (KS []) w_ []) k ⟨0, rfl, hF, S⟩ ?_
    rintro n6 _ w3 ⟨x2, rfl, hF, S4⟩
    obtain _ | k5 := n6
    · exact nomatch (show (none : Option Bool) = some r_ from hF)
    rw [lw_same.l1] at hF
    refine WCode.seq ?_
    refine WCode.seq ?_
    refine WCode.region ?_
    refine WOps.p (G.move rfl) rfl ?_
    refine WOps.p (G.move rfl) rfl ?_
    refine WOps.p (G.len T.el25 rfl) rfl ?_
    refine WOps.p (G.lss rfl rfl rfl) rfl ?_
    refine WOps.nil ?_
    refine WEx.then_ ?_
    rcases ite_some hF with ⟨h8, hF⟩ | ⟨h8, hF⟩
    ·
      refine WCode.cond_t (kb (b := decide (x2 < (a0.length : Int))) rfl (decide_eq_true h8)) ?_
      refine WCode.skip ?_
      refine WEx.then_ ?_
      refine WCode.seq ?_
      refine WCode.block ?_
      refine WCode.seq ?_
      refine WCode.draw [⟨0, 0, []⟩, ⟨1, 0, []⟩, ⟨2, 0, []⟩, ⟨4, 0, []⟩, ⟨5, 0, []⟩, ⟨6, 0, []⟩, ⟨3, 1, [8]⟩, ⟨7, 1, [8]⟩, ⟨8, 0, []⟩] T.mixed (by kernel_rfl) (by intro _ _ d _ _ h; cases d <;> exact h) rfl (by kernel_rfl) ?_
      have S9 := S4.drew
      generalize w3.drew = w10 at *
      refine WD.p rfl (G.move rfl) rfl ?_
      refine WD.p rfl (G.move rfl) rfl ?_
      obtain ⟨x11, hc12, hF⟩ := bind_some hF
      obtain ⟨j13, ej14, hj15, hl16⟩ := idx_spec hc12
      obtain ⟨b17, o18, cs19, eA20, hf21, hc22, hr23⟩ := SlR.at_ (hR0.ext (S9.keepF hF0)) hj15
      have hq24 : cs19 = [.int .i64 x11.Kind, .string (bs x11.Text), .int .i64 x11.Number, .int .i64 x11.At] := hr23
      subst hq24
      change cellsAt _ _ (o18 + j13 * 4) [.int .i64 x11.Kind, .string (bs x11.Text), .int .i64 x11.Number, .int .i64 x11.At] at hc22
      refine WD.p rfl (G.idx T.el25 rfl eA20 rfl ej14 hl16) rfl ?_
      refine WD.p rfl (G.move rfl) rfl ?_
      refine WD.p rfl (G.move rfl) rfl ?_
      obtain ⟨x25, hc26, hF⟩ := bind_some hF
      obtain ⟨j27, ej28, hj29, hl30⟩ := idx_spec hc26
      obtain ⟨b31, o32, cs33, eA34, hf35, hc36, hr37⟩ := SlR.at_ (hR1.ext (S9.keepF hF1)) hj29
      have hq38 : cs33 = [.int .i64 x25.Kind, .string (bs x25.Text), .int .i64 x25.Number, .int .i64 x25.At] := hr37
      subst hq38
      change cellsAt _ _ (o32 + j27 * 4) [.int .i64 x25.Kind, .string (bs x25.Text), .int .i64 x25.Number, .int .i64 x25.At] at hc36
      refine WD.p rfl (G.idx T.el25 rfl eA34 rfl ej28 hl30) rfl ?_
      refine WD.r rfl (G.loada T.agg37_4 rfl (cs := [.int .i64 x11.Kind, .string (bs x11.Text), .int .i64 x11.Number, .int .i64 x11.At]) hc22) rfl ?_
      refine WD.r rfl (G.loada T.agg37_4 rfl (cs := [.int .i64 x25.Kind, .string (bs x25.Text), .int .i64 x25.Number, .int .i64 x25.At]) hc36) rfl ?_
      refine WD.p rfl (G.neqa rfl rfl (by kernel_rfl) (Token.eqIn37 x11 x25) rfl) rfl ?_
      refine WD.nil ?_
      refine WEx.then_ ?_
      refine WCode.forget (l' := [(0, .slice A0 a0.length c0), (1, .slice A1 a1.length c1), (5, .int .i64 x2), (25, .bool (!(decide (x11 = x25))))]) ⟨rfl, rfl, rfl, rfl, trivial⟩ ?_
      rcases ite_some hF with ⟨h39, hF⟩ | ⟨h39, hF⟩
      ·
        refine WCode.cond_f (kb (b := !(decide (x11 = x25))) rfl (show (!(decide (x11 = x25))) = false from by rw [(decide_eq_true h39)]; rfl)) ?_
        refine WCode.skip ?_
        refine WEx.in_normal ?_
        refine WEx.then_ ?_
        refine WCode.region ?_
        refine WOps.p (G.move rfl) rfl ?_
        refine WOps.p (G.add rfl rfl (r := (w64 (x2 + 1))) rfl) rfl ?_
        refine WOps.p (G.assign rfl) rfl ?_
        refine WOps.nil ?_
        refine WEx.again _ _ (by omega) ?_ ⟨w64 (x2 + 1), rfl, hF, S9⟩
        exact ⟨rfl, rfl, rfl, trivial⟩
      ·
        refine WCode.cond_t (kb (b := !(decide (x11 = x25))) rfl (show (!(decide (x11 = x25))) = true from by rw [(decide_eq_false h39)]; rfl)) ?_
        refine WCode.seq ?_
        refine WCode.region ?_
        refine WOps.p (G.assign rfl) rfl ?_
        refine WOps.nil ?_
        refine WEx.then_ ?_
        refine WCode.ret ?_
        refine WEx.in_ret ?_
        refine WEx.then_ret ?_
        refine WEx.then_ret ?_
        refine WEx.in_ret ?_
        refine WEx.then_ret ?_
        obtain rfl := some_eq hF
        refine WEx.ret1 rfl rfl ?_
        exact ⟨rfl, St.keep (As := []) S9⟩
    ·
      refine WCode.cond_f (kb (b := decide (x2 < (a0.length : Int))) rfl (decide_eq_false h8)) ?_
      refine WCode.exit ?_
      refine WEx.then_exit ?_
      refine WEx.then_exit ?_
      refine WEx.in_exit ?_
      refine WEx.then_ ?_
      refine WCode.seq ?_
      refine WCode.region ?_
      refine WOps.p (G.assign rfl) rfl ?_
      refine WOps.nil ?_
      refine WEx.then_ ?_
      refine WCode.ret ?_
      obtain rfl := some_eq hF
      refine WEx.ret1 rfl rfl ?_
      exact ⟨rfl, St.keep (As := []) S4⟩
  ·
    refine WCode.cond_t (kb (b := !(decide ((a0.length : Int) = (a1.length : Int)))) rfl (show (!(decide ((a0.length : Int) = (a1.length : Int)))) = true from by rw [(decide_eq_false h1)]; rfl)) ?_
    refine WCode.seq ?_
    refine WCode.region ?_
    refine WOps.p (G.assign rfl) rfl ?_
    refine WOps.nil ?_
    refine WEx.then_ ?_
    refine WCode.ret ?_
    refine WEx.then_ret ?_
    obtain rfl := some_eq hF
    refine WEx.ret1 rfl rfl ?_
    exact ⟨rfl, St.keep (As := []) S⟩

def lw_pick (k : Nat) (a0 : Int) (a1 : Int) : Option Int := (if a0 < 0 then (if a1 = 0 then none else (some (Int.tmod (w64 (-(w64 (a0 + 1)))) a1))) else (if a1 = 0 then none else (some (Int.tmod a0 a1))))
set_option maxRecDepth 100000 in
set_option maxHeartbeats 1000000 in
theorem lw_pick_calls (k : Nat) (a0 : Int) (a1 : Int) {w : World} {r_ : Int} (h_ : lw_pick k a0 a1 = some r_) :
    Calls Tryd.prog 29 [.int .i64 a0, .int .i64 a1].toArray w fun e w' => e = .returned (.int .i64 r_) ∧ St w (KS []) w' [] := by
  have hF := h_
  clear h_
  unfold lw_pick at hF
  have S := St.ofFalse (As := []) (St.init0 w)
  refine enter 13 [(0, .int .i64 a0), (1, .int .i64 a1)] Tryd.func29 rfl rfl rfl rfl ?_
  refine WCode.seq ?_
  refine WCode.region ?_
  refine WOps.p (G.assign rfl) rfl ?_
  refine WOps.nil ?_
  refine WEx.then_ ?_
  refine WCode.seq ?_
  refine WCode.seq ?_
  refine WCode.region ?_
  refine WOps.p (G.move rfl) rfl ?_
  refine WOps.p (G.lss rfl rfl rfl) rfl ?_
  refine WOps.nil ?_
  refine WEx.then_ ?_
  rcases ite_some hF with ⟨h1, hF⟩ | ⟨h1, hF⟩
  ·
    refine WCode.cond_t (kb (b := decide (a0 < 0)) rfl (decide_eq_true h1)) ?_
    refine WCode.region ?_
    refine WOps.p (G.move rfl) rfl ?_
    refine WOps.p (G.add rfl rfl (r := (w64 (a0 + 1))) rfl) rfl ?_
    refine WOps.p (G.neg rfl (r := (w64 (-(w64 (a0 + 1))))) rfl) rfl ?_
    refine WOps.p (G.assign rfl) rfl ?_
    refine WOps.nil ?_
    refine WEx.then_ ?_
    refine WCode.seq ?_
    refine WCode.region ?_
    refine WOps.p (G.move rfl) rfl ?_
    refine WOps.p (G.move rfl) rfl ?_
    obtain ⟨h2, hF⟩ := nguard_some hF
    refine WOps.p (G.remk rfl rfl h2) rfl ?_
    refine WOps.p (G.assign rfl) rfl ?_
    refine WOps.nil ?_
    refine WEx.then_ ?_
    refine WCode.forget (l' := [(4, .int .i64 (Int.tmod (w64 (-(w64 (a0 + 1)))) a1))]) ⟨rfl, trivial⟩ ?_
    refine WCode.ret ?_
    obtain rfl := some_eq hF
    refine WEx.ret1 rfl rfl ?_
    exact ⟨rfl, St.keep (As := []) S⟩
  ·
    refine WCode.cond_f (kb (b := decide (a0 < 0)) rfl (decide_eq_false h1)) ?_
    refine WCode.skip ?_
    refine WEx.then_ ?_
    refine WCode.seq ?_
    refine WCode.region ?_
    refine WOps.p (G.move rfl) rfl ?_
    refine WOps.p (G.move rfl) rfl ?_
    obtain ⟨h3, hF⟩ := nguard_some hF
    refine WOps.p (G.remk rfl rfl h3) rfl ?_
    refine WOps.p (G.assign rfl) rfl ?_
    refine WOps.nil ?_
    refine WEx.then_ ?_
    refine WCode.ret ?_
    obtain rfl := some_eq hF
    refine WEx.ret1 rfl rfl ?_
    exact ⟨rfl, St.keep (As := []) S⟩

end Go.Proofs.YtpdpfiaediadgaaDoor
