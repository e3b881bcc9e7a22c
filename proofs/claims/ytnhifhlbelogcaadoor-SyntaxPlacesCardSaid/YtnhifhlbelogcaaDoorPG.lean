/- Functions and their walks (printed by auto.py over the engine). -/
import Derived.Test.YtnhifhlbelogcaaDoorProg
import Derived.Test.YtnhifhlbelogcaaDoorPC
import Derived.Test.YtnhifhlbelogcaaDoorLB
namespace Go.Proofs.YtnhifhlbelogcaaDoor
open Go Go.Eng
set_option linter.unusedSimpArgs false
set_option linter.unusedVariables false

theorem T.call6 : Callable Tryd.prog 6 := Callable.mk Tryd.func6 (by kernel_rfl) (by kernel_rfl)



def sy_add (k : Nat) (a0 : Int) (a1 : Int) : Option Int := (if (w64 (2147483647 - a0)) < a1 then (some 2147483648) else (some (w64 (a0 + a1))))
set_option maxRecDepth 100000 in
set_option maxHeartbeats 1000000 in
theorem sy_add_calls (k : Nat) (a0 : Int) (a1 : Int) {w : World} {r_ : Int} (h_ : sy_add k a0 a1 = some r_) :
    Calls Tryd.prog 6 [.int .i64 a0, .int .i64 a1].toArray w fun e w' => e = .returned (.int .i64 r_) ∧ St w (KS []) w' [] := by
 have hF := h_;clear h_;unfold sy_add at hF;have S := St.ofFalse (As := []) (St.init0 w);refine enter 12 [(0, .int .i64 a0), (1, .int .i64 a1)] Tryd.func6 rfl rfl rfl rfl ?_;refine WCode.seq ?_;refine WCode.region ?_;refine WOps.p (G.assign rfl) rfl ?_;refine WOps.nil ?_;refine WEx.then_ ?_;refine WCode.seq ?_;refine WCode.seq ?_;refine WCode.region ?_;refine WOps.p (G.move rfl) rfl ?_;refine WOps.p (G.move rfl) rfl ?_;refine WOps.p (G.sub rfl rfl (r := (w64 (2147483647 - a0))) rfl) rfl ?_;refine WOps.p (G.gtr rfl rfl rfl) rfl ?_;refine WOps.nil ?_;refine WEx.then_ ?_;rcases ite_some hF with ⟨h1, hF⟩ | ⟨h1, hF⟩
 ·
  refine WCode.cond_t (kb (b := decide ((w64 (2147483647 - a0)) < a1)) rfl (decide_eq_true h1)) ?_;refine WCode.seq ?_;refine WCode.region ?_;refine WOps.p (G.assign rfl) rfl ?_;refine WOps.nil ?_;refine WEx.then_ ?_;refine WCode.ret ?_;refine WEx.then_ret ?_;obtain rfl := some_eq hF;refine WEx.ret1 rfl rfl ?_;exact ⟨rfl, St.keep (As := []) S⟩
 ·
  refine WCode.cond_f (kb (b := decide ((w64 (2147483647 - a0)) < a1)) rfl (decide_eq_false h1)) ?_;refine WCode.skip ?_;refine WEx.then_ ?_;refine WCode.seq ?_;refine WCode.region ?_;refine WOps.p (G.move rfl) rfl ?_;refine WOps.p (G.move rfl) rfl ?_;refine WOps.p (G.add rfl rfl (r := (w64 (a0 + a1))) rfl) rfl ?_;refine WOps.p (G.assign rfl) rfl ?_;refine WOps.nil ?_;refine WEx.then_ ?_;refine WCode.ret ?_;obtain rfl := some_eq hF;refine WEx.ret1 rfl rfl ?_;exact ⟨rfl, St.keep (As := []) S⟩

def sy_thrice (k : Nat) (a0 : Int) : Option Int := (Option.bind (sy_add k a0 a0) fun t1 => (Option.bind (sy_add k a0 t1) fun t6 => (some t6)))
set_option maxRecDepth 100000 in
set_option maxHeartbeats 1000000 in
theorem sy_thrice_calls (k : Nat) (a0 : Int) {w : World} {r_ : Int} (h_ : sy_thrice k a0 = some r_) :
    Calls Tryd.prog 5 [.int .i64 a0].toArray w fun e w' => e = .returned (.int .i64 r_) ∧ St w (KS []) w' [] := by
 have hF := h_;clear h_;unfold sy_thrice at hF;have S := St.ofFalse (As := []) (St.init0 w);refine enter 8 [(0, .int .i64 a0)] Tryd.func5 rfl rfl rfl rfl ?_;refine WCode.seq ?_;refine WCode.region ?_;refine WOps.p (G.assign rfl) rfl ?_;refine WOps.nil ?_;refine WEx.then_ ?_;refine WCode.seq ?_;refine WCode.region ?_;refine WOps.p (G.move rfl) rfl ?_;refine WOps.p (G.move rfl) rfl ?_;refine WOps.p (G.move rfl) rfl ?_;obtain ⟨t1, hc2, hF⟩ := bind_some hF;refine WOps.call T.call6 (evs_cons rfl (evs_cons rfl evs_nil)) rfl ?_;refine (sy_add_calls k a0 a0 hc2).mono ?_;rintro _ w3 ⟨rfl, T4⟩;have S5 := St.callN (As := []) S T4;refine ⟨_, rfl, ?_⟩;obtain ⟨t6, hc7, hF⟩ := bind_some hF;refine WOps.call T.call6 (evs_cons rfl (evs_cons rfl evs_nil)) rfl ?_;refine (sy_add_calls k a0 t1 hc7).mono ?_;rintro _ w8 ⟨rfl, T9⟩;have S10 := St.callN (As := []) S5 T9;refine ⟨_, rfl, ?_⟩;refine WOps.p (G.assign rfl) rfl ?_;refine WOps.nil ?_;refine WEx.then_ ?_;refine WCode.ret ?_;obtain rfl := some_eq hF;refine WEx.ret1 rfl rfl ?_;exact ⟨rfl, St.keep (As := []) S10⟩

end Go.Proofs.YtnhifhlbelogcaaDoor
