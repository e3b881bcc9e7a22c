/- Functions and their walks (printed by auto.py over the engine). -/
import Derived.Test.YtnhifhlbelogcaaDoorProg
import Derived.Test.YtnhifhlbelogcaaDoorLG
namespace Go.Proofs.YtnhifhlbelogcaaDoor
open Go Go.Eng
set_option linter.unusedSimpArgs false
set_option linter.unusedVariables false

theorem T.call50 : Callable Tryd.prog 50 := Callable.mk Tryd.func50 (by kernel_rfl) (by kernel_rfl)
theorem T.call51 : Callable Tryd.prog 51 := Callable.mk Tryd.func51 (by kernel_rfl) (by kernel_rfl)
theorem T.call54 : Callable Tryd.prog 54 := Callable.mk Tryd.func54 (by kernel_rfl) (by kernel_rfl)
theorem T.str9 : isStr Tryd.prog 9 = true := by kernel_rfl



def lx_letter (k : Nat) (a0 : Int) : Option Bool := (if 97 ≤ a0 then (if a0 ≤ 122 then (some true) else (if 65 ≤ a0 then (some (decide (a0 ≤ 90))) else (some false))) else (if 65 ≤ a0 then (some (decide (a0 ≤ 90))) else (some false)))
set_option maxRecDepth 100000 in
set_option maxHeartbeats 1000000 in
theorem lx_letter_calls (k : Nat) (a0 : Int) {w : World} {r_ : Bool} (h_ : lx_letter k a0 = some r_) :
    Calls Tryd.prog 50 [.int .u8 a0].toArray w fun e w' => e = .returned (.bool r_) ∧ St w (KS []) w' [] := by
 have hF := h_;clear h_;unfold lx_letter at hF;have S := St.ofFalse (As := []) (St.init0 w);refine enter 17 [(0, .int .u8 a0)] Tryd.func50 rfl rfl rfl rfl ?_;refine WCode.seq ?_;refine WCode.region ?_;refine WOps.p (G.assign rfl) rfl ?_;refine WOps.nil ?_;refine WEx.then_ ?_;refine WCode.seq ?_;refine WCode.region ?_;refine WOps.p (G.move rfl) rfl ?_;refine WOps.p (G.geq rfl rfl rfl) rfl ?_;refine WOps.p (G.move rfl) rfl ?_;rcases ite_some hF with ⟨h1, hF⟩ | ⟨h1, hF⟩
 ·
  refine WOps.on rfl (kbl (b := decide (97 ≤ a0)) rfl (decide_eq_true h1)) ?_;refine WOps.p (G.move rfl) rfl ?_;refine WOps.on rfl (kbl (b := decide (97 ≤ a0)) rfl (decide_eq_true h1)) ?_;refine WOps.p (G.leq rfl rfl rfl) rfl ?_;refine WOps.p (G.pick_t (kb (b := decide (97 ≤ a0)) rfl (decide_eq_true h1)) rfl) rfl ?_;refine WOps.p (G.move rfl) rfl ?_;rcases ite_some hF with ⟨h2, hF⟩ | ⟨h2, hF⟩
  ·
   refine WOps.off rfl (kbl (b := decide (a0 ≤ 122)) rfl (decide_eq_true h2)) rfl rfl ?_;refine WOps.off rfl (kbl (b := decide (a0 ≤ 122)) rfl (decide_eq_true h2)) rfl rfl ?_;refine WOps.off rfl (kbl (b := decide (a0 ≤ 122)) rfl (decide_eq_true h2)) rfl rfl ?_;refine WOps.off rfl rfl rfl rfl ?_;refine WOps.off rfl rfl rfl rfl ?_;refine WOps.off rfl (kbl (b := decide (a0 ≤ 122)) rfl (decide_eq_true h2)) rfl rfl ?_;refine WOps.p (G.pick_t (kb (b := decide (a0 ≤ 122)) rfl (decide_eq_true h2)) rfl) rfl ?_;refine WOps.p (G.assign rfl) rfl ?_;refine WOps.nil ?_;refine WEx.then_ ?_;refine WCode.forget (l' := [(2, .bool true)]) ⟨rfl, trivial⟩ ?_;refine WCode.ret ?_;obtain rfl := some_eq hF;refine WEx.ret1 rfl rfl ?_;exact ⟨rfl, St.keep (As := []) S⟩
  ·
   refine WOps.on rfl (kbl (b := decide (a0 ≤ 122)) rfl (decide_eq_false h2)) ?_;refine WOps.p (G.move rfl) rfl ?_;refine WOps.on rfl (kbl (b := decide (a0 ≤ 122)) rfl (decide_eq_false h2)) ?_;refine WOps.p (G.geq rfl rfl rfl) rfl ?_;refine WOps.on rfl (kbl (b := decide (a0 ≤ 122)) rfl (decide_eq_false h2)) ?_;refine WOps.p (G.move rfl) rfl ?_;rcases ite_some hF with ⟨h3, hF⟩ | ⟨h3, hF⟩
   ·
    refine WOps.on rfl (kbl (b := decide (65 ≤ a0)) rfl (decide_eq_true h3)) ?_;refine WOps.p (G.move rfl) rfl ?_;refine WOps.on rfl (kbl (b := decide (65 ≤ a0)) rfl (decide_eq_true h3)) ?_;refine WOps.p (G.leq rfl rfl rfl) rfl ?_;refine WOps.on rfl (kbl (b := decide (a0 ≤ 122)) rfl (decide_eq_false h2)) ?_;refine WOps.p (G.pick_t (kb (b := decide (65 ≤ a0)) rfl (decide_eq_true h3)) rfl) rfl ?_;refine WOps.p (G.pick_f (kb (b := decide (a0 ≤ 122)) rfl (decide_eq_false h2)) rfl) rfl ?_;refine WOps.p (G.assign rfl) rfl ?_;refine WOps.nil ?_;refine WEx.then_ ?_;refine WCode.forget (l' := [(2, .bool (decide (a0 ≤ 90)))]) ⟨rfl, trivial⟩ ?_;refine WCode.ret ?_;obtain rfl := some_eq hF;refine WEx.ret1 rfl rfl ?_;exact ⟨rfl, St.keep (As := []) S⟩
   ·
    refine WOps.off rfl (kbl (b := decide (65 ≤ a0)) rfl (decide_eq_false h3)) rfl rfl ?_;refine WOps.off rfl (kbl (b := decide (65 ≤ a0)) rfl (decide_eq_false h3)) rfl rfl ?_;refine WOps.on rfl (kbl (b := decide (a0 ≤ 122)) rfl (decide_eq_false h2)) ?_;refine WOps.p (G.pick_f (kb (b := decide (65 ≤ a0)) rfl (decide_eq_false h3)) rfl) rfl ?_;refine WOps.p (G.pick_f (kb (b := decide (a0 ≤ 122)) rfl (decide_eq_false h2)) rfl) rfl ?_;refine WOps.p (G.assign rfl) rfl ?_;refine WOps.nil ?_;refine WEx.then_ ?_;refine WCode.forget (l' := [(2, .bool false)]) ⟨rfl, trivial⟩ ?_;refine WCode.ret ?_;obtain rfl := some_eq hF;refine WEx.ret1 rfl rfl ?_;exact ⟨rfl, St.keep (As := []) S⟩
 ·
  refine WOps.off rfl (kbl (b := decide (97 ≤ a0)) rfl (decide_eq_false h1)) rfl rfl ?_;refine WOps.off rfl (kbl (b := decide (97 ≤ a0)) rfl (decide_eq_false h1)) rfl rfl ?_;refine WOps.p (G.pick_f (kb (b := decide (97 ≤ a0)) rfl (decide_eq_false h1)) rfl) rfl ?_;refine WOps.p (G.move rfl) rfl ?_;refine WOps.on rfl rfl ?_;refine WOps.p (G.move rfl) rfl ?_;refine WOps.on rfl rfl ?_;refine WOps.p (G.geq rfl rfl rfl) rfl ?_;refine WOps.on rfl rfl ?_;refine WOps.p (G.move rfl) rfl ?_;rcases ite_some hF with ⟨h4, hF⟩ | ⟨h4, hF⟩
  ·
   refine WOps.on rfl (kbl (b := decide (65 ≤ a0)) rfl (decide_eq_true h4)) ?_;refine WOps.p (G.move rfl) rfl ?_;refine WOps.on rfl (kbl (b := decide (65 ≤ a0)) rfl (decide_eq_true h4)) ?_;refine WOps.p (G.leq rfl rfl rfl) rfl ?_;refine WOps.on rfl rfl ?_;refine WOps.p (G.pick_t (kb (b := decide (65 ≤ a0)) rfl (decide_eq_true h4)) rfl) rfl ?_;refine WOps.p (G.pick_f rfl rfl) rfl ?_;refine WOps.p (G.assign rfl) rfl ?_;refine WOps.nil ?_;refine WEx.then_ ?_;refine WCode.forget (l' := [(2, .bool (decide (a0 ≤ 90)))]) ⟨rfl, trivial⟩ ?_;refine WCode.ret ?_;obtain rfl := some_eq hF;refine WEx.ret1 rfl rfl ?_;exact ⟨rfl, St.keep (As := []) S⟩
  ·
   refine WOps.off rfl (kbl (b := decide (65 ≤ a0)) rfl (decide_eq_false h4)) rfl rfl ?_;refine WOps.off rfl (kbl (b := decide (65 ≤ a0)) rfl (decide_eq_false h4)) rfl rfl ?_;refine WOps.on rfl rfl ?_;refine WOps.p (G.pick_f (kb (b := decide (65 ≤ a0)) rfl (decide_eq_false h4)) rfl) rfl ?_;refine WOps.p (G.pick_f rfl rfl) rfl ?_;refine WOps.p (G.assign rfl) rfl ?_;refine WOps.nil ?_;refine WEx.then_ ?_;refine WCode.forget (l' := [(2, .bool false)]) ⟨rfl, trivial⟩ ?_;refine WCode.ret ?_;obtain rfl := some_eq hF;refine WEx.ret1 rfl rfl ?_;exact ⟨rfl, St.keep (As := []) S⟩

def lx_digit (k : Nat) (a0 : Int) : Option Bool := (if 48 ≤ a0 then (some (decide (a0 ≤ 57))) else (some false))
set_option maxRecDepth 100000 in
set_option maxHeartbeats 1000000 in
theorem lx_digit_calls (k : Nat) (a0 : Int) {w : World} {r_ : Bool} (h_ : lx_digit k a0 = some r_) :
    Calls Tryd.prog 51 [.int .u8 a0].toArray w fun e w' => e = .returned (.bool r_) ∧ St w (KS []) w' [] := by
 have hF := h_;clear h_;unfold lx_digit at hF;have S := St.ofFalse (As := []) (St.init0 w);refine enter 9 [(0, .int .u8 a0)] Tryd.func51 rfl rfl rfl rfl ?_;refine WCode.seq ?_;refine WCode.region ?_;refine WOps.p (G.assign rfl) rfl ?_;refine WOps.nil ?_;refine WEx.then_ ?_;refine WCode.seq ?_;refine WCode.region ?_;refine WOps.p (G.move rfl) rfl ?_;refine WOps.p (G.geq rfl rfl rfl) rfl ?_;refine WOps.p (G.move rfl) rfl ?_;rcases ite_some hF with ⟨h1, hF⟩ | ⟨h1, hF⟩
 ·
  refine WOps.on rfl (kbl (b := decide (48 ≤ a0)) rfl (decide_eq_true h1)) ?_;refine WOps.p (G.move rfl) rfl ?_;refine WOps.on rfl (kbl (b := decide (48 ≤ a0)) rfl (decide_eq_true h1)) ?_;refine WOps.p (G.leq rfl rfl rfl) rfl ?_;refine WOps.p (G.pick_t (kb (b := decide (48 ≤ a0)) rfl (decide_eq_true h1)) rfl) rfl ?_;refine WOps.p (G.assign rfl) rfl ?_;refine WOps.nil ?_;refine WEx.then_ ?_;refine WCode.ret ?_;obtain rfl := some_eq hF;refine WEx.ret1 rfl rfl ?_;exact ⟨rfl, St.keep (As := []) S⟩
 ·
  refine WOps.off rfl (kbl (b := decide (48 ≤ a0)) rfl (decide_eq_false h1)) rfl rfl ?_;refine WOps.off rfl (kbl (b := decide (48 ≤ a0)) rfl (decide_eq_false h1)) rfl rfl ?_;refine WOps.p (G.pick_f (kb (b := decide (48 ≤ a0)) rfl (decide_eq_false h1)) rfl) rfl ?_;refine WOps.p (G.assign rfl) rfl ?_;refine WOps.nil ?_;refine WEx.then_ ?_;refine WCode.ret ?_;obtain rfl := some_eq hF;refine WEx.ret1 rfl rfl ?_;exact ⟨rfl, St.keep (As := []) S⟩

def lx_inRun (k : Nat) (a0 : Int) : Option Bool := (Option.bind (lx_letter k a0) fun t1 => (if t1 = true then (some true) else (Option.bind (lx_digit k a0) fun t7 => (if t7 = true then (some true) else (some (decide (a0 = 95)))))))
set_option maxRecDepth 100000 in
set_option maxHeartbeats 1000000 in
theorem lx_inRun_calls (k : Nat) (a0 : Int) {w : World} {r_ : Bool} (h_ : lx_inRun k a0 = some r_) :
    Calls Tryd.prog 54 [.int .u8 a0].toArray w fun e w' => e = .returned (.bool r_) ∧ St w (KS []) w' [] := by
 have hF := h_;clear h_;unfold lx_inRun at hF;have S := St.ofFalse (As := []) (St.init0 w);refine enter 13 [(0, .int .u8 a0)] Tryd.func54 rfl rfl rfl rfl ?_;refine WCode.seq ?_;refine WCode.region ?_;refine WOps.p (G.assign rfl) rfl ?_;refine WOps.nil ?_;refine WEx.then_ ?_;refine WCode.seq ?_;refine WCode.region ?_;refine WOps.p (G.move rfl) rfl ?_;obtain ⟨t1, hc2, hF⟩ := bind_some hF;refine WOps.call T.call50 (evs_cons rfl evs_nil) rfl ?_;refine (lx_letter_calls k a0 hc2).mono ?_;rintro _ w3 ⟨rfl, T4⟩;have S5 := St.callN (As := []) S T4;refine ⟨_, rfl, ?_⟩;refine WOps.p (G.move rfl) rfl ?_;rcases ite_some hF with ⟨h6, hF⟩ | ⟨h6, hF⟩
 ·
  refine WOps.off rfl (kbl (b := t1) rfl h6) rfl rfl ?_;refine WOps.off rfl (kbl (b := t1) rfl h6) rfl rfl ?_;refine WOps.p (G.pick_t (kb (b := t1) rfl h6) rfl) rfl ?_;refine WOps.p (G.move rfl) rfl ?_;refine WOps.off rfl rfl rfl rfl ?_;refine WOps.off rfl rfl rfl rfl ?_;refine WOps.p (G.pick_t rfl rfl) rfl ?_;refine WOps.p (G.assign rfl) rfl ?_;refine WOps.nil ?_;refine WEx.then_ ?_;refine WCode.forget (l' := [(2, .bool true)]) ⟨rfl, trivial⟩ ?_;refine WCode.ret ?_;obtain rfl := some_eq hF;refine WEx.ret1 rfl rfl ?_;exact ⟨rfl, St.keep (As := []) S5⟩
 ·
  refine WOps.on rfl (kbl (b := t1) rfl (Bool.eq_false_iff.2 h6)) ?_;refine WOps.p (G.move rfl) rfl ?_;refine WOps.on rfl (kbl (b := t1) rfl (Bool.eq_false_iff.2 h6)) ?_;obtain ⟨t7, hc8, hF⟩ := bind_some hF;refine WOps.call T.call51 (evs_cons rfl evs_nil) rfl ?_;refine (lx_digit_calls k a0 hc8).mono ?_;rintro _ w9 ⟨rfl, T10⟩;have S11 := St.callN (As := []) S5 T10;refine ⟨_, rfl, ?_⟩;refine WOps.p (G.pick_f (kb (b := t1) rfl (Bool.eq_false_iff.2 h6)) rfl) rfl ?_;refine WOps.p (G.move rfl) rfl ?_;rcases ite_some hF with ⟨h12, hF⟩ | ⟨h12, hF⟩
  ·
   refine WOps.off rfl (kbl (b := t7) rfl h12) rfl rfl ?_;refine WOps.off rfl (kbl (b := t7) rfl h12) rfl rfl ?_;refine WOps.p (G.pick_t (kb (b := t7) rfl h12) rfl) rfl ?_;refine WOps.p (G.assign rfl) rfl ?_;refine WOps.nil ?_;refine WEx.then_ ?_;refine WCode.forget (l' := [(2, .bool true)]) ⟨rfl, trivial⟩ ?_;refine WCode.ret ?_;obtain rfl := some_eq hF;refine WEx.ret1 rfl rfl ?_;exact ⟨rfl, St.keep (As := []) S11⟩
  ·
   refine WOps.on rfl (kbl (b := t7) rfl (Bool.eq_false_iff.2 h12)) ?_;refine WOps.p (G.move rfl) rfl ?_;refine WOps.on rfl (kbl (b := t7) rfl (Bool.eq_false_iff.2 h12)) ?_;refine WOps.p (G.eql rfl rfl rfl) rfl ?_;refine WOps.p (G.pick_f (kb (b := t7) rfl (Bool.eq_false_iff.2 h12)) rfl) rfl ?_;refine WOps.p (G.assign rfl) rfl ?_;refine WOps.nil ?_;refine WEx.then_ ?_;refine WCode.forget (l' := [(2, .bool (decide (a0 = 95)))]) ⟨rfl, trivial⟩ ?_;refine WCode.ret ?_;obtain rfl := some_eq hF;refine WEx.ret1 rfl rfl ?_;exact ⟨rfl, St.keep (As := []) S11⟩

def lx_isBlank (k : Nat) (a0 : Int) : Option Bool := (if a0 = 32 then (some true) else (if a0 = 9 then (some true) else (if a0 = 10 then (some true) else (some (decide (a0 = 13))))))
set_option maxRecDepth 100000 in
set_option maxHeartbeats 1000000 in
theorem lx_isBlank_calls (k : Nat) (a0 : Int) {w : World} {r_ : Bool} (h_ : lx_isBlank k a0 = some r_) :
    Calls Tryd.prog 48 [.int .u8 a0].toArray w fun e w' => e = .returned (.bool r_) ∧ St w (KS []) w' [] := by
 have hF := h_;clear h_;unfold lx_isBlank at hF;have S := St.ofFalse (As := []) (St.init0 w);refine enter 17 [(0, .int .u8 a0)] Tryd.func48 rfl rfl rfl rfl ?_;refine WCode.seq ?_;refine WCode.region ?_;refine WOps.p (G.assign rfl) rfl ?_;refine WOps.nil ?_;refine WEx.then_ ?_;refine WCode.seq ?_;refine WCode.region ?_;refine WOps.p (G.move rfl) rfl ?_;refine WOps.p (G.eql rfl rfl rfl) rfl ?_;refine WOps.p (G.move rfl) rfl ?_;rcases ite_some hF with ⟨h1, hF⟩ | ⟨h1, hF⟩
 ·
  refine WOps.off rfl (kbl (b := decide (a0 = 32)) rfl (decide_eq_true h1)) rfl rfl ?_;refine WOps.off rfl (kbl (b := decide (a0 = 32)) rfl (decide_eq_true h1)) rfl rfl ?_;refine WOps.p (G.pick_t (kb (b := decide (a0 = 32)) rfl (decide_eq_true h1)) rfl) rfl ?_;refine WOps.p (G.move rfl) rfl ?_;refine WOps.off rfl rfl rfl rfl ?_;refine WOps.off rfl rfl rfl rfl ?_;refine WOps.p (G.pick_t rfl rfl) rfl ?_;refine WOps.p (G.move rfl) rfl ?_;refine WOps.off rfl rfl rfl rfl ?_;refine WOps.off rfl rfl rfl rfl ?_;refine WOps.p (G.pick_t rfl rfl) rfl ?_;refine WOps.p (G.assign rfl) rfl ?_;refine WOps.nil ?_;refine WEx.then_ ?_;refine WCode.forget (l' := [(2, .bool true)]) ⟨rfl, trivial⟩ ?_;refine WCode.ret ?_;obtain rfl := some_eq hF;refine WEx.ret1 rfl rfl ?_;exact ⟨rfl, St.keep (As := []) S⟩
 ·
  refine WOps.on rfl (kbl (b := decide (a0 = 32)) rfl (decide_eq_false h1)) ?_;refine WOps.p (G.move rfl) rfl ?_;refine WOps.on rfl (kbl (b := decide (a0 = 32)) rfl (decide_eq_false h1)) ?_;refine WOps.p (G.eql rfl rfl rfl) rfl ?_;refine WOps.p (G.pick_f (kb (b := decide (a0 = 32)) rfl (decide_eq_false h1)) rfl) rfl ?_;refine WOps.p (G.move rfl) rfl ?_;rcases ite_some hF with ⟨h2, hF⟩ | ⟨h2, hF⟩
  ·
   refine WOps.off rfl (kbl (b := decide (a0 = 9)) rfl (decide_eq_true h2)) rfl rfl ?_;refine WOps.off rfl (kbl (b := decide (a0 = 9)) rfl (decide_eq_true h2)) rfl rfl ?_;refine WOps.p (G.pick_t (kb (b := decide (a0 = 9)) rfl (decide_eq_true h2)) rfl) rfl ?_;refine WOps.p (G.move rfl) rfl ?_;refine WOps.off rfl rfl rfl rfl ?_;refine WOps.off rfl rfl rfl rfl ?_;refine WOps.p (G.pick_t rfl rfl) rfl ?_;refine WOps.p (G.assign rfl) rfl ?_;refine WOps.nil ?_;refine WEx.then_ ?_;refine WCode.forget (l' := [(2, .bool true)]) ⟨rfl, trivial⟩ ?_;refine WCode.ret ?_;obtain rfl := some_eq hF;refine WEx.ret1 rfl rfl ?_;exact ⟨rfl, St.keep (As := []) S⟩
  ·
   refine WOps.on rfl (kbl (b := decide (a0 = 9)) rfl (decide_eq_false h2)) ?_;refine WOps.p (G.move rfl) rfl ?_;refine WOps.on rfl (kbl (b := decide (a0 = 9)) rfl (decide_eq_false h2)) ?_;refine WOps.p (G.eql rfl rfl rfl) rfl ?_;refine WOps.p (G.pick_f (kb (b := decide (a0 = 9)) rfl (decide_eq_false h2)) rfl) rfl ?_;refine WOps.p (G.move rfl) rfl ?_;rcases ite_some hF with ⟨h3, hF⟩ | ⟨h3, hF⟩
   ·
    refine WOps.off rfl (kbl (b := decide (a0 = 10)) rfl (decide_eq_true h3)) rfl rfl ?_;refine WOps.off rfl (kbl (b := decide (a0 = 10)) rfl (decide_eq_true h3)) rfl rfl ?_;refine WOps.p (G.pick_t (kb (b := decide (a0 = 10)) rfl (decide_eq_true h3)) rfl) rfl ?_;refine WOps.p (G.assign rfl) rfl ?_;refine WOps.nil ?_;refine WEx.then_ ?_;refine WCode.forget (l' := [(2, .bool true)]) ⟨rfl, trivial⟩ ?_;refine WCode.ret ?_;obtain rfl := some_eq hF;refine WEx.ret1 rfl rfl ?_;exact ⟨rfl, St.keep (As := []) S⟩
   ·
    refine WOps.on rfl (kbl (b := decide (a0 = 10)) rfl (decide_eq_false h3)) ?_;refine WOps.p (G.move rfl) rfl ?_;refine WOps.on rfl (kbl (b := decide (a0 = 10)) rfl (decide_eq_false h3)) ?_;refine WOps.p (G.eql rfl rfl rfl) rfl ?_;refine WOps.p (G.pick_f (kb (b := decide (a0 = 10)) rfl (decide_eq_false h3)) rfl) rfl ?_;refine WOps.p (G.assign rfl) rfl ?_;refine WOps.nil ?_;refine WEx.then_ ?_;refine WCode.forget (l' := [(2, .bool (decide (a0 = 13)))]) ⟨rfl, trivial⟩ ?_;refine WCode.ret ?_;obtain rfl := some_eq hF;refine WEx.ret1 rfl rfl ?_;exact ⟨rfl, St.keep (As := []) S⟩

def lx_run.l1 : Nat → List UInt8 → Int → Option Int
  | 0, _, _ => none
  | k4 + 1, a0, x1 => (if x1 < (a0.length : Int) then (Option.bind (idx a0 x1) fun c8 => (Option.bind (lx_inRun k4 ((c8).toNat : Int)) fun t10 => (if t10 = true then (lx_run.l1 k4 a0 (w64 (x1 + 1))) else (some x1)))) else (some x1))
def lx_run (k : Nat) (a0 : List UInt8) : Option Int := (lx_run.l1 k a0 0)
set_option maxRecDepth 100000 in
set_option maxHeartbeats 1000000 in
theorem lx_run_calls (k : Nat) (a0 : List UInt8) {w : World} {r_ : Int} (h_ : lx_run k a0 = some r_) :
    Calls Tryd.prog 33 [.string (bs a0)].toArray w fun e w' => e = .returned (.int .i64 r_) ∧ St w (KS []) w' [] := by
 have hF := h_;clear h_;unfold lx_run at hF;have S := St.ofFalse (As := []) (St.init0 w);refine enter 17 [(0, .string (bs a0))] Tryd.func33 rfl rfl rfl rfl ?_;refine WCode.seq ?_;refine WCode.region ?_;refine WOps.p (G.assign rfl) rfl ?_;refine WOps.nil ?_;refine WEx.then_ ?_;refine WCode.seq ?_;refine WCode.region ?_;refine WOps.p (G.assign rfl) rfl ?_;refine WOps.nil ?_;refine WEx.then_ ?_;refine WCode.seq ?_;refine WCode.block ?_;change St _ _ _ [] at S;refine WCode.forget (l' := [(0, .string (bs a0)), (3, .int .i64 0)]) ⟨rfl, rfl, trivial⟩ ?_;refine WCode.loop (fun n_ l_ w_ => ∃ x1 : Int, l_ = [(0, .string (bs a0)), (3, .int .i64 x1)] ∧ lx_run.l1 n_ a0 x1 = some r_ ∧ St w (KS []) w_ []) k ⟨0, rfl, hF, S⟩ ?_;rintro n5 _ w2 ⟨x1, rfl, hF, S3⟩;obtain _ | k4 := n5
 · exact nomatch (show (none : Option Int) = some r_ from hF)
 rw [lx_run.l1] at hF;refine WCode.seq ?_;refine WCode.seq ?_;refine WCode.region ?_;refine WOps.p (G.move rfl) rfl ?_;refine WOps.p (G.move rfl) rfl ?_;refine WOps.p (G.lenb T.str9 rfl) rfl ?_;refine WOps.p (G.lss rfl rfl rfl) rfl ?_;refine WOps.p (G.move rfl) rfl ?_;rcases ite_some hF with ⟨h7, hF⟩ | ⟨h7, hF⟩
 ·
  refine WOps.on rfl (kbl (b := decide (x1 < (a0.length : Int))) rfl (decide_eq_true h7)) ?_;refine WOps.p (G.move rfl) rfl ?_;refine WOps.on rfl (kbl (b := decide (x1 < (a0.length : Int))) rfl (decide_eq_true h7)) ?_;refine WOps.p (G.move rfl) rfl ?_;refine WOps.on rfl (kbl (b := decide (x1 < (a0.length : Int))) rfl (decide_eq_true h7)) ?_;obtain ⟨c8, hc9, hF⟩ := bind_some hF;refine WOps.p (G.idxb T.str9 rfl rfl hc9) rfl ?_;refine WOps.on rfl (kbl (b := decide (x1 < (a0.length : Int))) rfl (decide_eq_true h7)) ?_;obtain ⟨t10, hc11, hF⟩ := bind_some hF;refine WOps.call T.call54 (evs_cons rfl evs_nil) rfl ?_;refine (lx_inRun_calls k4 ((c8).toNat : Int) hc11).mono ?_;rintro _ w12 ⟨rfl, T13⟩;have S14 := St.callN (As := []) S3 T13;refine ⟨_, rfl, ?_⟩;refine WOps.p (G.pick_t (kb (b := decide (x1 < (a0.length : Int))) rfl (decide_eq_true h7)) rfl) rfl ?_;refine WOps.nil ?_;refine WEx.then_ ?_;rcases ite_some hF with ⟨h15, hF⟩ | ⟨h15, hF⟩
  ·
   refine WCode.cond_t (kb (b := t10) rfl h15) ?_;refine WCode.skip ?_;refine WEx.then_ ?_;refine WCode.block ?_;refine WCode.region ?_;refine WOps.p (G.move rfl) rfl ?_;refine WOps.p (G.add rfl rfl (r := (w64 (x1 + 1))) rfl) rfl ?_;refine WOps.p (G.assign rfl) rfl ?_;refine WOps.nil ?_;refine WEx.in_normal ?_;change St _ _ _ [] at S14;refine WEx.again _ _ (by omega) ?_ ⟨w64 (x1 + 1), rfl, hF, S14⟩;exact ⟨rfl, rfl, trivial⟩
  ·
   refine WCode.cond_f (kb (b := t10) rfl (Bool.eq_false_iff.2 h15)) ?_;refine WCode.exit ?_;refine WEx.then_exit ?_;refine WEx.then_exit ?_;refine WEx.in_exit ?_;refine WEx.then_ ?_;refine WCode.forget (l' := [(3, .int .i64 x1)]) ⟨rfl, trivial⟩ ?_;refine WCode.seq ?_;refine WCode.region ?_;refine WOps.p (G.move rfl) rfl ?_;refine WOps.p (G.assign rfl) rfl ?_;refine WOps.nil ?_;refine WEx.then_ ?_;refine WCode.ret ?_;obtain rfl := some_eq hF;refine WEx.ret1 rfl rfl ?_;exact ⟨rfl, St.keep (As := []) S14⟩
 ·
  refine WOps.off rfl (kbl (b := decide (x1 < (a0.length : Int))) rfl (decide_eq_false h7)) rfl rfl ?_;refine WOps.off rfl (kbl (b := decide (x1 < (a0.length : Int))) rfl (decide_eq_false h7)) rfl rfl ?_;refine WOps.off rfl (kbl (b := decide (x1 < (a0.length : Int))) rfl (decide_eq_false h7)) rfl rfl ?_;refine WOps.off rfl (kbl (b := decide (x1 < (a0.length : Int))) rfl (decide_eq_false h7)) rfl rfl ?_;refine WOps.p (G.pick_f (kb (b := decide (x1 < (a0.length : Int))) rfl (decide_eq_false h7)) rfl) rfl ?_;refine WOps.nil ?_;refine WEx.then_ ?_;refine WCode.cond_f rfl ?_;refine WCode.exit ?_;refine WEx.then_exit ?_;refine WEx.then_exit ?_;refine WEx.in_exit ?_;refine WEx.then_ ?_;refine WCode.forget (l' := [(3, .int .i64 x1)]) ⟨rfl, trivial⟩ ?_;refine WCode.seq ?_;refine WCode.region ?_;refine WOps.p (G.move rfl) rfl ?_;refine WOps.p (G.assign rfl) rfl ?_;refine WOps.nil ?_;refine WEx.then_ ?_;refine WCode.ret ?_;obtain rfl := some_eq hF;refine WEx.ret1 rfl rfl ?_;exact ⟨rfl, St.keep (As := []) S3⟩

end Go.Proofs.YtnhifhlbelogcaaDoor
