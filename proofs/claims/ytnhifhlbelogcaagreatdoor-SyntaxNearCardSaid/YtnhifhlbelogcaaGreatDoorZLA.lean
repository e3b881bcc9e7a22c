/- Functions and their walks (printed by auto.py over the engine). -/
import Derived.Test.YtnhifhlbelogcaaGreatDoorZAb
import Derived.Test.YtnhifhlbelogcaaGreatDoorProg
import Derived.Test.YtnhifhlbelogcaaGreatDoorZLG
set_option maxRecDepth 100000
set_option maxHeartbeats 1000000
namespace Go.Proofs.YtnhifhlbelogcaaGreatDoor
open Go Go.Eng
set_option linter.unusedSimpArgs false
set_option linter.unusedVariables false

theorem T.call120 : Callable TP 120 := Callable.mk Tryz.func120 (by kernel_rfl) (by kernel_rfl)
theorem T.call121 : Callable TP 121 := Callable.mk Tryz.func121 (by kernel_rfl) (by kernel_rfl)
theorem T.call143 : Callable TP 143 := Callable.mk Tryz.func143 (by kernel_rfl) (by kernel_rfl)
theorem T.call40 : Callable TP 40 := Callable.mk Tryz.func40 (by kernel_rfl) (by kernel_rfl)
theorem T.call41 : Callable TP 41 := Callable.mk Tryz.func41 (by kernel_rfl) (by kernel_rfl)
theorem T.call79 : Callable TP 79 := Callable.mk Tryz.func79 (by kernel_rfl) (by kernel_rfl)
theorem T.call80 : Callable TP 80 := Callable.mk Tryz.func80 (by kernel_rfl) (by kernel_rfl)
theorem T.call81 : Callable TP 81 := Callable.mk Tryz.func81 (by kernel_rfl) (by kernel_rfl)
theorem T.call82 : Callable TP 82 := Callable.mk Tryz.func82 (by kernel_rfl) (by kernel_rfl)
theorem T.call83 : Callable TP 83 := Callable.mk Tryz.func83 (by kernel_rfl) (by kernel_rfl)
theorem T.call84 : Callable TP 84 := Callable.mk Tryz.func84 (by kernel_rfl) (by kernel_rfl)
theorem T.call93 : Callable TP 93 := Callable.mk Tryz.func93 (by kernel_rfl) (by kernel_rfl)
theorem T.call94 : Callable TP 94 := Callable.mk Tryz.func94 (by kernel_rfl) (by kernel_rfl)
theorem T.call97 : Callable TP 97 := Callable.mk Tryz.func97 (by kernel_rfl) (by kernel_rfl)
theorem T.elt37 : Elt TP 37 41 4 40 := elt_mk (z := .agg #[I 0, .string ⟨#[]⟩, I 0, I 0]) Tryz.underlying37 (by kernel_rfl) rfl
theorem T.str9 : isStr TP 9 = true := by kernel_rfl



def lx_letter (k : Nat) (a0 : Int) : Option Bool := (if 97 ≤ a0 then (if a0 ≤ 122 then (some true) else (if 65 ≤ a0 then (some (decide (a0 ≤ 90))) else (some false))) else (if 65 ≤ a0 then (some (decide (a0 ≤ 90))) else (some false)))
theorem lx_letter_calls (k : Nat) (a0 : Int) {w : World} {r_ : Bool} (hF : lx_letter k a0 = some r_) :
    Calls TP 93 [.int .u8 a0].toArray w fun e w' => e = .returned (.bool r_) ∧ St w (KS []) w' [] := by
 unfold lx_letter at hF;have S := St.ofFalse (As := []) (St.init0 w);refine enter 17 [(0, .int .u8 a0)] Tryz.func93 rfl rfl rfl rfl ?_;refine wq (wr (av rfl (wn (we (wq (wr (mv rfl (wp (G.geq rfl rfl rfl) rfl (mv rfl ?_)))))))));rcases io hF with ⟨h1, hF⟩ | ⟨h1, hF⟩
 ·
  refine won rfl (dt h1) (mv rfl (won rfl (dt h1) (wp (G.leq rfl rfl rfl) rfl (wp (G.pick_t (kb rfl (dt h1)) rfl) rfl (mv rfl ?_)))));rcases io hF with ⟨h2, hF⟩ | ⟨h2, hF⟩
  ·
   refine wof rfl (dt h2) rfl (wof rfl (dt h2) rfl (wof rfl (dt h2) rfl ?_));refine WOps.off rfl rfl rfl rfl ?_;refine WOps.off rfl rfl rfl rfl ?_;refine wof rfl (dt h2) rfl (wp (G.pick_t (kb rfl (dt h2)) rfl) rfl (av rfl (wn (we (wg (l' := [(2, .bool true)]) ⟨rfl, trivial⟩ (wrt ?_))))));obtain rfl := se hF;refine WEx.ret1 rfl rfl ?_;exact ⟨rfl, sk (As := []) S⟩
  ·
   refine won rfl (df h2) (mv rfl (won rfl (df h2) (wp (G.geq rfl rfl rfl) rfl (won rfl (df h2) (mv rfl ?_)))));rcases io hF with ⟨h3, hF⟩ | ⟨h3, hF⟩
   ·
    refine won rfl (dt h3) (mv rfl (won rfl (dt h3) (wp (G.leq rfl rfl rfl) rfl (won rfl (df h2) (wp (G.pick_t (kb rfl (dt h3)) rfl) rfl (wp (G.pick_f (kb rfl (df h2)) rfl) rfl (av rfl (wn (we (wg (l' := [(2, .bool (decide (a0 ≤ 90)))]) ⟨rfl, trivial⟩ (wrt ?_)))))))))));obtain rfl := se hF;refine WEx.ret1 rfl rfl ?_;exact ⟨rfl, sk (As := []) S⟩
   ·
    refine wof rfl (df h3) rfl (wof rfl (df h3) rfl (won rfl (df h2) (wp (G.pick_f (kb rfl (df h3)) rfl) rfl (wp (G.pick_f (kb rfl (df h2)) rfl) rfl (av rfl (wn (we (wg (l' := [(2, .bool false)]) ⟨rfl, trivial⟩ (wrt ?_)))))))));obtain rfl := se hF;refine WEx.ret1 rfl rfl ?_;exact ⟨rfl, sk (As := []) S⟩
 ·
  refine wof rfl (df h1) rfl (wof rfl (df h1) rfl (wp (G.pick_f (kb rfl (df h1)) rfl) rfl (mv rfl ?_)));refine WOps.on rfl rfl ?_;refine mv rfl ?_;refine WOps.on rfl rfl ?_;refine wp (G.geq rfl rfl rfl) rfl ?_;refine WOps.on rfl rfl ?_;refine mv rfl ?_;rcases io hF with ⟨h4, hF⟩ | ⟨h4, hF⟩
  ·
   refine won rfl (dt h4) (mv rfl (won rfl (dt h4) (wp (G.leq rfl rfl rfl) rfl ?_)));refine WOps.on rfl rfl ?_;refine wp (G.pick_t (kb rfl (dt h4)) rfl) rfl (wp (G.pick_f rfl rfl) rfl (av rfl (wn (we (wg (l' := [(2, .bool (decide (a0 ≤ 90)))]) ⟨rfl, trivial⟩ (wrt ?_))))));obtain rfl := se hF;refine WEx.ret1 rfl rfl ?_;exact ⟨rfl, sk (As := []) S⟩
  ·
   refine wof rfl (df h4) rfl (wof rfl (df h4) rfl ?_);refine WOps.on rfl rfl ?_;refine wp (G.pick_f (kb rfl (df h4)) rfl) rfl (wp (G.pick_f rfl rfl) rfl (av rfl (wn (we (wg (l' := [(2, .bool false)]) ⟨rfl, trivial⟩ (wrt ?_))))));obtain rfl := se hF;refine WEx.ret1 rfl rfl ?_;exact ⟨rfl, sk (As := []) S⟩

def lx_digit (k : Nat) (a0 : Int) : Option Bool := (if 48 ≤ a0 then (some (decide (a0 ≤ 57))) else (some false))
theorem lx_digit_calls (k : Nat) (a0 : Int) {w : World} {r_ : Bool} (hF : lx_digit k a0 = some r_) :
    Calls TP 94 [.int .u8 a0].toArray w fun e w' => e = .returned (.bool r_) ∧ St w (KS []) w' [] := by
 unfold lx_digit at hF;have S := St.ofFalse (As := []) (St.init0 w);refine enter 9 [(0, .int .u8 a0)] Tryz.func94 rfl rfl rfl rfl ?_;refine wq (wr (av rfl (wn (we (wq (wr (mv rfl (wp (G.geq rfl rfl rfl) rfl (mv rfl ?_)))))))));rcases io hF with ⟨h1, hF⟩ | ⟨h1, hF⟩
 ·
  refine won rfl (dt h1) (mv rfl (won rfl (dt h1) (wp (G.leq rfl rfl rfl) rfl (wp (G.pick_t (kb rfl (dt h1)) rfl) rfl (av rfl (wn (we (wrt ?_))))))));obtain rfl := se hF;refine WEx.ret1 rfl rfl ?_;exact ⟨rfl, sk (As := []) S⟩
 ·
  refine wof rfl (df h1) rfl (wof rfl (df h1) rfl (wp (G.pick_f (kb rfl (df h1)) rfl) rfl (av rfl (wn (we (wrt ?_))))));obtain rfl := se hF;refine WEx.ret1 rfl rfl ?_;exact ⟨rfl, sk (As := []) S⟩

def lx_inRun (k : Nat) (a0 : Int) : Option Bool := (Option.bind (lx_letter k a0) fun t1 => (if t1 = true then (some true) else (Option.bind (lx_digit k a0) fun t7 => (if t7 = true then (some true) else (some (decide (a0 = 95)))))))
theorem lx_inRun_calls (k : Nat) (a0 : Int) {w : World} {r_ : Bool} (hF : lx_inRun k a0 = some r_) :
    Calls TP 97 [.int .u8 a0].toArray w fun e w' => e = .returned (.bool r_) ∧ St w (KS []) w' [] := by
 unfold lx_inRun at hF;have S := St.ofFalse (As := []) (St.init0 w);refine enter 13 [(0, .int .u8 a0)] Tryz.func97 rfl rfl rfl rfl ?_;refine wq (wr (av rfl (wn (we (wq (wr (mv rfl ?_)))))));obtain ⟨t1, hc2, hF⟩ := bo hF;refine wc T.call93 (ec rfl en) rfl ?_;refine (lx_letter_calls k a0 hc2).mono ?_;rintro _ w3 ⟨rfl, T4⟩;have S5 := sc (As := []) S T4;refine ⟨_, rfl, ?_⟩;refine mv rfl ?_;rcases io hF with ⟨h6, hF⟩ | ⟨h6, hF⟩
 ·
  refine wof rfl h6 rfl (wof rfl h6 rfl (wp (G.pick_t (kb rfl h6) rfl) rfl (mv rfl ?_)));refine WOps.off rfl rfl rfl rfl ?_;refine WOps.off rfl rfl rfl rfl ?_;refine wp (G.pick_t rfl rfl) rfl (av rfl (wn (we (wg (l' := [(2, .bool true)]) ⟨rfl, trivial⟩ (wrt ?_)))));obtain rfl := se hF;refine WEx.ret1 rfl rfl ?_;exact ⟨rfl, sk S5⟩
 ·
  refine won rfl (bf h6) (mv rfl (won rfl (bf h6) ?_));obtain ⟨t7, hc8, hF⟩ := bo hF;refine wc T.call94 (ec rfl en) rfl ?_;refine (lx_digit_calls k a0 hc8).mono ?_;rintro _ w9 ⟨rfl, T10⟩;have S11 := scT T10 S5;refine ⟨_, rfl, ?_⟩;refine wp (G.pick_f (kb rfl (bf h6)) rfl) rfl (mv rfl ?_);rcases io hF with ⟨h12, hF⟩ | ⟨h12, hF⟩
  ·
   refine wof rfl h12 rfl (wof rfl h12 rfl (wp (G.pick_t (kb rfl h12) rfl) rfl (av rfl (wn (we (wg (l' := [(2, .bool true)]) ⟨rfl, trivial⟩ (wrt ?_)))))));obtain rfl := se hF;refine WEx.ret1 rfl rfl ?_;exact ⟨rfl, sk S11⟩
  ·
   refine won rfl (bf h12) (mv rfl (won rfl (bf h12) (wp (G.eql rfl rfl rfl) rfl (wp (G.pick_f (kb rfl (bf h12)) rfl) rfl (av rfl (wn (we (wg (l' := [(2, .bool (decide (a0 = 95)))]) ⟨rfl, trivial⟩ (wrt ?_)))))))));obtain rfl := se hF;refine WEx.ret1 rfl rfl ?_;exact ⟨rfl, sk S11⟩

def lx_isBlank (k : Nat) (a0 : Int) : Option Bool := (if a0 = 32 then (some true) else (if a0 = 9 then (some true) else (if a0 = 10 then (some true) else (some (decide (a0 = 13))))))
theorem lx_isBlank_calls (k : Nat) (a0 : Int) {w : World} {r_ : Bool} (hF : lx_isBlank k a0 = some r_) :
    Calls TP 91 [.int .u8 a0].toArray w fun e w' => e = .returned (.bool r_) ∧ St w (KS []) w' [] := by
 unfold lx_isBlank at hF;have S := St.ofFalse (As := []) (St.init0 w);refine enter 17 [(0, .int .u8 a0)] Tryz.func91 rfl rfl rfl rfl ?_;refine wq (wr (av rfl (wn (we (wq (wr (mv rfl (wp (G.eql rfl rfl rfl) rfl (mv rfl ?_)))))))));rcases io hF with ⟨h1, hF⟩ | ⟨h1, hF⟩
 ·
  refine wof rfl (dt h1) rfl (wof rfl (dt h1) rfl (wp (G.pick_t (kb rfl (dt h1)) rfl) rfl (mv rfl ?_)));refine WOps.off rfl rfl rfl rfl ?_;refine WOps.off rfl rfl rfl rfl ?_;refine wp (G.pick_t rfl rfl) rfl (mv rfl ?_);refine WOps.off rfl rfl rfl rfl ?_;refine WOps.off rfl rfl rfl rfl ?_;refine wp (G.pick_t rfl rfl) rfl (av rfl (wn (we (wg (l' := [(2, .bool true)]) ⟨rfl, trivial⟩ (wrt ?_)))));obtain rfl := se hF;refine WEx.ret1 rfl rfl ?_;exact ⟨rfl, sk (As := []) S⟩
 ·
  refine won rfl (df h1) (mv rfl (won rfl (df h1) (wp (G.eql rfl rfl rfl) rfl (wp (G.pick_f (kb rfl (df h1)) rfl) rfl (mv rfl ?_)))));rcases io hF with ⟨h2, hF⟩ | ⟨h2, hF⟩
  ·
   refine wof rfl (dt h2) rfl (wof rfl (dt h2) rfl (wp (G.pick_t (kb rfl (dt h2)) rfl) rfl (mv rfl ?_)));refine WOps.off rfl rfl rfl rfl ?_;refine WOps.off rfl rfl rfl rfl ?_;refine wp (G.pick_t rfl rfl) rfl (av rfl (wn (we (wg (l' := [(2, .bool true)]) ⟨rfl, trivial⟩ (wrt ?_)))));obtain rfl := se hF;refine WEx.ret1 rfl rfl ?_;exact ⟨rfl, sk (As := []) S⟩
  ·
   refine won rfl (df h2) (mv rfl (won rfl (df h2) (wp (G.eql rfl rfl rfl) rfl (wp (G.pick_f (kb rfl (df h2)) rfl) rfl (mv rfl ?_)))));rcases io hF with ⟨h3, hF⟩ | ⟨h3, hF⟩
   ·
    refine wof rfl (dt h3) rfl (wof rfl (dt h3) rfl (wp (G.pick_t (kb rfl (dt h3)) rfl) rfl (av rfl (wn (we (wg (l' := [(2, .bool true)]) ⟨rfl, trivial⟩ (wrt ?_)))))));obtain rfl := se hF;refine WEx.ret1 rfl rfl ?_;exact ⟨rfl, sk (As := []) S⟩
   ·
    refine won rfl (df h3) (mv rfl (won rfl (df h3) (wp (G.eql rfl rfl rfl) rfl (wp (G.pick_f (kb rfl (df h3)) rfl) rfl (av rfl (wn (we (wg (l' := [(2, .bool (decide (a0 = 13)))]) ⟨rfl, trivial⟩ (wrt ?_)))))))));obtain rfl := se hF;refine WEx.ret1 rfl rfl ?_;exact ⟨rfl, sk (As := []) S⟩

def lx_run.l1 : Nat → List UInt8 → Int → Option Int
  | 0, _, _ => none
  | k4 + 1, a0, x1 => (if x1 < (a0.length : Int) then (Option.bind (idx a0 x1) fun c8 => (Option.bind (lx_inRun k4 ((c8).toNat : Int)) fun t10 => (if t10 = true then (lx_run.l1 k4 a0 (w64 (x1 + 1))) else (some x1)))) else (some x1))
def lx_run (k : Nat) (a0 : List UInt8) : Option Int := (lx_run.l1 k a0 0)
theorem lx_run_calls (k : Nat) (a0 : List UInt8) {w : World} {r_ : Int} (hF : lx_run k a0 = some r_) :
    Calls TP 53 [.string (bs a0)].toArray w fun e w' => e = .returned (I r_) ∧ St w (KS []) w' [] := by
 unfold lx_run at hF;have S := St.ofFalse (As := []) (St.init0 w);refine enter 17 [(0, .string (bs a0))] Tryz.func53 rfl rfl rfl rfl ?_;refine wq (wr (av rfl (wn (we (wq (wr (av rfl (wn (we (wq ?_))))))))));refine WCode.block ?_;change St _ _ _ [] at S;refine wg (l' := [(0, .string (bs a0)), (3, I 0)]) ⟨rfl, rfl, trivial⟩ ?_;refine wl (fun n_ l_ w_ => ∃ x1 : Int, l_ = [(0, .string (bs a0)), (3, I x1)] ∧ lx_run.l1 n_ a0 x1 = some r_ ∧ St w (KS []) w_ []) k ⟨0, rfl, hF, S⟩ ?_;rintro n5 _ w2 ⟨x1, rfl, hF, S3⟩;obtain _ | k4 := n5
 · exact nomatch (show (none : Option Int) = some r_ from hF)
 rw [lx_run.l1] at hF;refine wq (wq (wr (mv rfl (mv rfl (wp (G.lenb T.str9 rfl) rfl (wp (G.lss rfl rfl rfl) rfl (mv rfl ?_)))))));rcases io hF with ⟨h7, hF⟩ | ⟨h7, hF⟩
 ·
  refine won rfl (dt h7) (mv rfl (won rfl (dt h7) (mv rfl (won rfl (dt h7) ?_))));obtain ⟨c8, hc9, hF⟩ := bo hF;refine wp (G.idxb T.str9 rfl rfl hc9) rfl (won rfl (dt h7) ?_);obtain ⟨t10, hc11, hF⟩ := bo hF;refine wc T.call97 (ec rfl en) rfl ?_;refine (lx_inRun_calls k4 ((c8).toNat : Int) hc11).mono ?_;rintro _ w12 ⟨rfl, T13⟩;have S14 := scT T13 S3;refine ⟨_, rfl, ?_⟩;refine wp (G.pick_t (kb rfl (dt h7)) rfl) rfl (wn (we ?_));rcases io hF with ⟨h15, hF⟩ | ⟨h15, hF⟩
  ·
   refine ct rfl h15 (wsk (we ?_));refine WCode.block ?_;refine wr (mv rfl (wp (G.add rfl rfl (r := (w64 (x1 + 1))) rfl) rfl (av rfl (wn (win ?_)))));refine wag _ _ (by omega) ?_ ⟨w64 (x1 + 1), rfl, hF, S14⟩;exact ⟨rfl, rfl, trivial⟩
  ·
   refine cf rfl (bf h15) ?_;refine WCode.exit ?_;refine WEx.then_exit ?_;refine WEx.then_exit ?_;refine WEx.in_exit ?_;refine we (wg (l' := [(3, I x1)]) ⟨rfl, trivial⟩ (wq (wr (mv rfl (av rfl (wn (we (wrt ?_))))))));obtain rfl := se hF;refine WEx.ret1 rfl rfl ?_;exact ⟨rfl, sk S14⟩
 ·
  refine wof rfl (df h7) rfl (wof rfl (df h7) rfl (wof rfl (df h7) rfl (wof rfl (df h7) rfl (wp (G.pick_f (kb rfl (df h7)) rfl) rfl (wn (we ?_))))));refine WCode.cond_f rfl ?_;refine WCode.exit ?_;refine WEx.then_exit ?_;refine WEx.then_exit ?_;refine WEx.in_exit ?_;refine we (wg (l' := [(3, I x1)]) ⟨rfl, trivial⟩ (wq (wr (mv rfl (av rfl (wn (we (wrt ?_))))))));obtain rfl := se hF;refine WEx.ret1 rfl rfl ?_;exact ⟨rfl, sk S3⟩

def rf_letter (k : Nat) (a0 : Int) : Option Bool := (if 97 ≤ a0 then (if a0 ≤ 122 then (some true) else (if 65 ≤ a0 then (some (decide (a0 ≤ 90))) else (some false))) else (if 65 ≤ a0 then (some (decide (a0 ≤ 90))) else (some false)))
theorem rf_letter_calls (k : Nat) (a0 : Int) {w : World} {r_ : Bool} (hF : rf_letter k a0 = some r_) :
    Calls TP 79 [.int .u8 a0].toArray w fun e w' => e = .returned (.bool r_) ∧ St w (KS []) w' [] := by
 unfold rf_letter at hF;have S := St.ofFalse (As := []) (St.init0 w);refine enter 17 [(0, .int .u8 a0)] Tryz.func79 rfl rfl rfl rfl ?_;refine wq (wr (av rfl (wn (we (wq (wr (mv rfl (wp (G.geq rfl rfl rfl) rfl (mv rfl ?_)))))))));rcases io hF with ⟨h1, hF⟩ | ⟨h1, hF⟩
 ·
  refine won rfl (dt h1) (mv rfl (won rfl (dt h1) (wp (G.leq rfl rfl rfl) rfl (wp (G.pick_t (kb rfl (dt h1)) rfl) rfl (mv rfl ?_)))));rcases io hF with ⟨h2, hF⟩ | ⟨h2, hF⟩
  ·
   refine wof rfl (dt h2) rfl (wof rfl (dt h2) rfl (wof rfl (dt h2) rfl ?_));refine WOps.off rfl rfl rfl rfl ?_;refine WOps.off rfl rfl rfl rfl ?_;refine wof rfl (dt h2) rfl (wp (G.pick_t (kb rfl (dt h2)) rfl) rfl (av rfl (wn (we (wg (l' := [(2, .bool true)]) ⟨rfl, trivial⟩ (wrt ?_))))));obtain rfl := se hF;refine WEx.ret1 rfl rfl ?_;exact ⟨rfl, sk (As := []) S⟩
  ·
   refine won rfl (df h2) (mv rfl (won rfl (df h2) (wp (G.geq rfl rfl rfl) rfl (won rfl (df h2) (mv rfl ?_)))));rcases io hF with ⟨h3, hF⟩ | ⟨h3, hF⟩
   ·
    refine won rfl (dt h3) (mv rfl (won rfl (dt h3) (wp (G.leq rfl rfl rfl) rfl (won rfl (df h2) (wp (G.pick_t (kb rfl (dt h3)) rfl) rfl (wp (G.pick_f (kb rfl (df h2)) rfl) rfl (av rfl (wn (we (wg (l' := [(2, .bool (decide (a0 ≤ 90)))]) ⟨rfl, trivial⟩ (wrt ?_)))))))))));obtain rfl := se hF;refine WEx.ret1 rfl rfl ?_;exact ⟨rfl, sk (As := []) S⟩
   ·
    refine wof rfl (df h3) rfl (wof rfl (df h3) rfl (won rfl (df h2) (wp (G.pick_f (kb rfl (df h3)) rfl) rfl (wp (G.pick_f (kb rfl (df h2)) rfl) rfl (av rfl (wn (we (wg (l' := [(2, .bool false)]) ⟨rfl, trivial⟩ (wrt ?_)))))))));obtain rfl := se hF;refine WEx.ret1 rfl rfl ?_;exact ⟨rfl, sk (As := []) S⟩
 ·
  refine wof rfl (df h1) rfl (wof rfl (df h1) rfl (wp (G.pick_f (kb rfl (df h1)) rfl) rfl (mv rfl ?_)));refine WOps.on rfl rfl ?_;refine mv rfl ?_;refine WOps.on rfl rfl ?_;refine wp (G.geq rfl rfl rfl) rfl ?_;refine WOps.on rfl rfl ?_;refine mv rfl ?_;rcases io hF with ⟨h4, hF⟩ | ⟨h4, hF⟩
  ·
   refine won rfl (dt h4) (mv rfl (won rfl (dt h4) (wp (G.leq rfl rfl rfl) rfl ?_)));refine WOps.on rfl rfl ?_;refine wp (G.pick_t (kb rfl (dt h4)) rfl) rfl (wp (G.pick_f rfl rfl) rfl (av rfl (wn (we (wg (l' := [(2, .bool (decide (a0 ≤ 90)))]) ⟨rfl, trivial⟩ (wrt ?_))))));obtain rfl := se hF;refine WEx.ret1 rfl rfl ?_;exact ⟨rfl, sk (As := []) S⟩
  ·
   refine wof rfl (df h4) rfl (wof rfl (df h4) rfl ?_);refine WOps.on rfl rfl ?_;refine wp (G.pick_f (kb rfl (df h4)) rfl) rfl (wp (G.pick_f rfl rfl) rfl (av rfl (wn (we (wg (l' := [(2, .bool false)]) ⟨rfl, trivial⟩ (wrt ?_))))));obtain rfl := se hF;refine WEx.ret1 rfl rfl ?_;exact ⟨rfl, sk (As := []) S⟩

def rf_digit (k : Nat) (a0 : Int) : Option Bool := (if 48 ≤ a0 then (some (decide (a0 ≤ 57))) else (some false))
theorem rf_digit_calls (k : Nat) (a0 : Int) {w : World} {r_ : Bool} (hF : rf_digit k a0 = some r_) :
    Calls TP 82 [.int .u8 a0].toArray w fun e w' => e = .returned (.bool r_) ∧ St w (KS []) w' [] := by
 unfold rf_digit at hF;have S := St.ofFalse (As := []) (St.init0 w);refine enter 9 [(0, .int .u8 a0)] Tryz.func82 rfl rfl rfl rfl ?_;refine wq (wr (av rfl (wn (we (wq (wr (mv rfl (wp (G.geq rfl rfl rfl) rfl (mv rfl ?_)))))))));rcases io hF with ⟨h1, hF⟩ | ⟨h1, hF⟩
 ·
  refine won rfl (dt h1) (mv rfl (won rfl (dt h1) (wp (G.leq rfl rfl rfl) rfl (wp (G.pick_t (kb rfl (dt h1)) rfl) rfl (av rfl (wn (we (wrt ?_))))))));obtain rfl := se hF;refine WEx.ret1 rfl rfl ?_;exact ⟨rfl, sk (As := []) S⟩
 ·
  refine wof rfl (df h1) rfl (wof rfl (df h1) rfl (wp (G.pick_f (kb rfl (df h1)) rfl) rfl (av rfl (wn (we (wrt ?_))))));obtain rfl := se hF;refine WEx.ret1 rfl rfl ?_;exact ⟨rfl, sk (As := []) S⟩

def rf_within (k : Nat) (a0 : Int) : Option Bool := (Option.bind (rf_digit k a0) fun t1 => (Option.bind (rf_letter k a0) fun t6 => (if t1 = true then (some true) else (if t6 = true then (some true) else (some (decide (a0 = 95)))))))
theorem rf_within_calls (k : Nat) (a0 : Int) {w : World} {r_ : Bool} (hF : rf_within k a0 = some r_) :
    Calls TP 120 [.int .u8 a0].toArray w fun e w' => e = .returned (.bool r_) ∧ St w (KS []) w' [] := by
 unfold rf_within at hF;have S := St.ofFalse (As := []) (St.init0 w);refine enter 17 [(0, .int .u8 a0)] Tryz.func120 rfl rfl rfl rfl ?_;refine wq (wr (av rfl (wn (we (wq (wr (mv rfl ?_)))))));obtain ⟨t1, hc2, hF⟩ := bo hF;refine wc T.call82 (ec rfl en) rfl ?_;refine (rf_digit_calls k a0 hc2).mono ?_;rintro _ w3 ⟨rfl, T4⟩;have S5 := sc (As := []) S T4;refine ⟨_, rfl, ?_⟩;refine av rfl (wn (we (wq (wr (mv rfl ?_)))));obtain ⟨t6, hc7, hF⟩ := bo hF;refine wc T.call79 (ec rfl en) rfl ?_;refine (rf_letter_calls k a0 hc7).mono ?_;rintro _ w8 ⟨rfl, T9⟩;have S10 := scT T9 S5;refine ⟨_, rfl, ?_⟩;refine av rfl (wn (we (wq (wr (mv rfl (mv rfl ?_))))));rcases io hF with ⟨h11, hF⟩ | ⟨h11, hF⟩
 ·
  refine wof rfl h11 rfl (wp (G.pick_t (kb rfl h11) rfl) rfl (mv rfl ?_));refine WOps.off rfl rfl rfl rfl ?_;refine WOps.off rfl rfl rfl rfl ?_;refine wp (G.pick_t rfl rfl) rfl (av rfl (wn (we (wg (l' := [(2, .bool true)]) ⟨rfl, trivial⟩ (wrt ?_)))));obtain rfl := se hF;refine WEx.ret1 rfl rfl ?_;exact ⟨rfl, sk S10⟩
 ·
  refine won rfl (bf h11) (mv rfl (wp (G.pick_f (kb rfl (bf h11)) rfl) rfl (mv rfl ?_)));rcases io hF with ⟨h12, hF⟩ | ⟨h12, hF⟩
  ·
   refine wof rfl h12 rfl (wof rfl h12 rfl (wp (G.pick_t (kb rfl h12) rfl) rfl (av rfl (wn (we (wg (l' := [(2, .bool true)]) ⟨rfl, trivial⟩ (wrt ?_)))))));obtain rfl := se hF;refine WEx.ret1 rfl rfl ?_;exact ⟨rfl, sk S10⟩
  ·
   refine won rfl (bf h12) (mv rfl (won rfl (bf h12) (wp (G.eql rfl rfl rfl) rfl (wp (G.pick_f (kb rfl (bf h12)) rfl) rfl (av rfl (wn (we (wg (l' := [(2, .bool (decide (a0 = 95)))]) ⟨rfl, trivial⟩ (wrt ?_)))))))));obtain rfl := se hF;refine WEx.ret1 rfl rfl ?_;exact ⟨rfl, sk S10⟩

def rf_run.l1 : Nat → List UInt8 → Int → Option Int
  | 0, _, _ => none
  | k4 + 1, a0, x1 => (if x1 < (a0.length : Int) then (Option.bind (idx a0 x1) fun c8 => (Option.bind (rf_within k4 ((c8).toNat : Int)) fun t10 => (if t10 = true then (rf_run.l1 k4 a0 (w64 (x1 + 1))) else (some x1)))) else (some x1))
def rf_run (k : Nat) (a0 : List UInt8) (a1 : Int) : Option Int := (rf_run.l1 k a0 a1)
theorem rf_run_calls (k : Nat) (a0 : List UInt8) (a1 : Int) {w : World} {r_ : Int} (hF : rf_run k a0 a1 = some r_) :
    Calls TP 80 [.string (bs a0), I a1].toArray w fun e w' => e = .returned (I r_) ∧ St w (KS []) w' [] := by
 unfold rf_run at hF;have S := St.ofFalse (As := []) (St.init0 w);refine enter 20 [(0, .string (bs a0)), (1, I a1)] Tryz.func80 rfl rfl rfl rfl ?_;refine wq (wr (av rfl (wn (we (wq ?_)))));refine WCode.block ?_;change St _ _ _ [] at S;refine wg (l' := [(0, .string (bs a0)), (1, I a1)]) ⟨rfl, rfl, trivial⟩ ?_;refine wl (fun n_ l_ w_ => ∃ x1 : Int, l_ = [(0, .string (bs a0)), (1, I x1)] ∧ rf_run.l1 n_ a0 x1 = some r_ ∧ St w (KS []) w_ []) k ⟨a1, rfl, hF, S⟩ ?_;rintro n5 _ w2 ⟨x1, rfl, hF, S3⟩;obtain _ | k4 := n5
 · exact nomatch (show (none : Option Int) = some r_ from hF)
 rw [rf_run.l1] at hF;refine wq (wq (wr (mv rfl (mv rfl (wp (G.lenb T.str9 rfl) rfl (wp (G.lss rfl rfl rfl) rfl (wn (we ?_))))))));rcases io hF with ⟨h7, hF⟩ | ⟨h7, hF⟩
 ·
  refine ct rfl (dt h7) (wsk (we ?_));refine WCode.block ?_;refine wq (wr (mv rfl (mv rfl ?_)));obtain ⟨c8, hc9, hF⟩ := bo hF;refine wp (G.idxb T.str9 rfl rfl hc9) rfl ?_;obtain ⟨t10, hc11, hF⟩ := bo hF;refine wc T.call120 (ec rfl en) rfl ?_;refine (rf_within_calls k4 ((c8).toNat : Int) hc11).mono ?_;rintro _ w12 ⟨rfl, T13⟩;have S14 := scT T13 S3;refine ⟨_, rfl, ?_⟩;refine av rfl (wn (we (wq (wq (wr (mv rfl (wp (G.not rfl rfl) rfl (wn (we (wg (l' := [(0, .string (bs a0)), (1, I x1), (15, .bool (!t10))]) ⟨rfl, rfl, rfl, trivial⟩ ?_))))))))));rcases io hF with ⟨h15, hF⟩ | ⟨h15, hF⟩
  ·
   refine cf rfl (show (!t10) = false from by rw [h15]; rfl) (wsk (we (wr (mv rfl (wp (G.add rfl rfl (r := (w64 (x1 + 1))) rfl) rfl (av rfl (wn (win ?_))))))));refine wag _ _ (by omega) ?_ ⟨w64 (x1 + 1), rfl, hF, S14⟩;exact ⟨rfl, rfl, trivial⟩
  ·
   refine ct rfl (show (!t10) = true from by rw [(bf h15)]; rfl) (wq (wr (mv rfl (av rfl (wn (we (wrt (wtr ?_))))))));refine WEx.in_ret ?_;refine wtr ?_;refine WEx.in_ret ?_;refine wtr ?_;obtain rfl := se hF;refine WEx.ret1 rfl rfl ?_;exact ⟨rfl, sk S14⟩
 ·
  refine cf rfl (df h7) ?_;refine WCode.exit ?_;refine WEx.then_exit ?_;refine WEx.then_exit ?_;refine WEx.in_exit ?_;refine we (wq (wr (mv rfl (av rfl (wn (we (wrt ?_)))))));obtain rfl := se hF;refine WEx.ret1 rfl rfl ?_;exact ⟨rfl, sk S3⟩

def rf_sign.l1 : Nat → Int → Int → Option Bool
  | 0, _, _ => none
  | k4 + 1, a0, x1 => (if x1 < 13 then (Option.bind (idx ([123, 125, 40, 41, 91, 93, 60, 62, 61, 59, 58, 44, 42] : List UInt8) x1) fun c8 => (if ((c8).toNat : Int) = a0 then (some true) else (rf_sign.l1 k4 a0 (w64 (x1 + 1))))) else (some false))
def rf_sign (k : Nat) (a0 : Int) : Option Bool := (rf_sign.l1 k a0 0)
theorem rf_sign_calls (k : Nat) (a0 : Int) {w : World} {r_ : Bool} (hF : rf_sign k a0 = some r_) :
    Calls TP 84 [.int .u8 a0].toArray w fun e w' => e = .returned (.bool r_) ∧ St w (KS []) w' [] := by
 unfold rf_sign at hF;have S := St.ofFalse (As := []) (St.init0 w);refine enter 12 [(0, .int .u8 a0)] Tryz.func84 rfl rfl rfl rfl ?_;refine wq (wr (av rfl (wn (we (wq (wq (wr (av rfl (wn (we ?_))))))))));refine WCode.block ?_;change St _ _ _ [] at S;refine wg (l' := [(0, .int .u8 a0), (3, I 0)]) ⟨rfl, rfl, trivial⟩ ?_;refine wl (fun n_ l_ w_ => ∃ x1 : Int, l_ = [(0, .int .u8 a0), (3, I x1)] ∧ rf_sign.l1 n_ a0 x1 = some r_ ∧ St w (KS []) w_ []) k ⟨0, rfl, hF, S⟩ ?_;rintro n5 _ w2 ⟨x1, rfl, hF, S3⟩;obtain _ | k4 := n5
 · exact nomatch (show (none : Option Bool) = some r_ from hF)
 rw [rf_sign.l1] at hF;refine wq (wq (wr (mv rfl (wp (G.lss rfl rfl rfl) rfl (wn (we ?_))))));rcases io hF with ⟨h7, hF⟩ | ⟨h7, hF⟩
 ·
  refine ct rfl (dt h7) (wsk (we (wq ?_)));refine WCode.block ?_;refine wq (wr (mv rfl ?_));obtain ⟨c8, hc9, hF⟩ := bo hF;refine wp (G.idxb T.str9 rfl rfl hc9) rfl (mv rfl (wp (G.eql rfl rfl rfl) rfl (wn (we ?_))));rcases io hF with ⟨h10, hF⟩ | ⟨h10, hF⟩
  ·
   refine ct rfl (dt h10) (wq (wr (av rfl (wn (we (wrt ?_))))));refine WEx.in_ret ?_;refine wtr (wtr ?_);refine WEx.in_ret ?_;refine wtr ?_;obtain rfl := se hF;refine WEx.ret1 rfl rfl ?_;exact ⟨rfl, sk S3⟩
  ·
   refine cf rfl (df h10) (wsk (win (we (wr (mv rfl (wp (G.add rfl rfl (r := (w64 (x1 + 1))) rfl) rfl (av rfl (wn ?_))))))));refine wag _ _ (by omega) ?_ ⟨w64 (x1 + 1), rfl, hF, S3⟩;exact ⟨rfl, rfl, trivial⟩
 ·
  refine cf rfl (df h7) ?_;refine WCode.exit ?_;refine WEx.then_exit ?_;refine WEx.then_exit ?_;refine WEx.in_exit ?_;refine we (wq (wr (av rfl (wn (we (wrt ?_))))));obtain rfl := se hF;refine WEx.ret1 rfl rfl ?_;exact ⟨rfl, sk S3⟩

def rf_comment.l1 : Nat → List UInt8 → Int → Option Int
  | 0, _, _ => none
  | k4 + 1, a0, x1 => (if (w64 (x1 + 1)) < (a0.length : Int) then (Option.bind (idx a0 x1) fun c8 => (if ((c8).toNat : Int) = 42 then (Option.bind (idx a0 (w64 (x1 + 1))) fun c11 => (if ((c11).toNat : Int) = 47 then (some (w64 (x1 + 2))) else (rf_comment.l1 k4 a0 (w64 (x1 + 1))))) else (rf_comment.l1 k4 a0 (w64 (x1 + 1))))) else (some 0))
def rf_comment (k : Nat) (a0 : List UInt8) (a1 : Int) : Option Int := (rf_comment.l1 k a0 (w64 (a1 + 2)))
theorem rf_comment_calls (k : Nat) (a0 : List UInt8) (a1 : Int) {w : World} {r_ : Int} (hF : rf_comment k a0 a1 = some r_) :
    Calls TP 40 [.string (bs a0), I a1].toArray w fun e w' => e = .returned (I r_) ∧ St w (KS []) w' [] := by
 unfold rf_comment at hF;have S := St.ofFalse (As := []) (St.init0 w);refine enter 28 [(0, .string (bs a0)), (1, I a1)] Tryz.func40 rfl rfl rfl rfl ?_;refine wq (wr (av rfl (wn (we (wq (wq (wr (mv rfl (wp (G.add rfl rfl (r := (w64 (a1 + 2))) rfl) rfl (av rfl (wn (we ?_))))))))))));refine WCode.block ?_;change St _ _ _ [] at S;refine wg (l' := [(0, .string (bs a0)), (5, I (w64 (a1 + 2)))]) ⟨rfl, rfl, trivial⟩ ?_;refine wl (fun n_ l_ w_ => ∃ x1 : Int, l_ = [(0, .string (bs a0)), (5, I x1)] ∧ rf_comment.l1 n_ a0 x1 = some r_ ∧ St w (KS []) w_ []) k ⟨w64 (a1 + 2), rfl, hF, S⟩ ?_;rintro n5 _ w2 ⟨x1, rfl, hF, S3⟩;obtain _ | k4 := n5
 · exact nomatch (show (none : Option Int) = some r_ from hF)
 rw [rf_comment.l1] at hF;refine wq (wq (wr (mv rfl (wp (G.add rfl rfl (r := (w64 (x1 + 1))) rfl) rfl (mv rfl (wp (G.lenb T.str9 rfl) rfl (wp (G.lss rfl rfl rfl) rfl (wn (we ?_)))))))));rcases io hF with ⟨h7, hF⟩ | ⟨h7, hF⟩
 ·
  refine ct rfl (dt h7) (wsk (we (wq ?_)));refine WCode.block ?_;refine wq (wr (mv rfl (mv rfl ?_)));obtain ⟨c8, hc9, hF⟩ := bo hF;refine wp (G.idxb T.str9 rfl rfl hc9) rfl (wp (G.eql rfl rfl rfl) rfl (mv rfl ?_));rcases io hF with ⟨h10, hF⟩ | ⟨h10, hF⟩
  ·
   refine won rfl (dt h10) (mv rfl (won rfl (dt h10) (mv rfl (won rfl (dt h10) (wp (G.add rfl rfl (r := (w64 (x1 + 1))) rfl) rfl (won rfl (dt h10) ?_))))));obtain ⟨c11, hc12, hF⟩ := bo hF;refine wp (G.idxb T.str9 rfl rfl hc12) rfl (won rfl (dt h10) (wp (G.eql rfl rfl rfl) rfl (wp (G.pick_t (kb rfl (dt h10)) rfl) rfl (wn (we (wg (l' := [(0, .string (bs a0)), (5, I x1), (20, .string (bs a0)), (21, I x1), (22, I (w64 (x1 + 1))), (23, .int .u8 ((c11).toNat : Int)), (24, .bool (decide (((c11).toNat : Int) = 47))), (25, .bool (decide (((c11).toNat : Int) = 47)))]) ⟨rfl, rfl, rfl, rfl, rfl, rfl, rfl, rfl, trivial⟩ ?_))))));rcases io hF with ⟨h13, hF⟩ | ⟨h13, hF⟩
   ·
    refine ct rfl (dt h13) (wq (wr (mv rfl (wp (G.add rfl rfl (r := (w64 (x1 + 2))) rfl) rfl (av rfl (wn (we (wg (l' := [(4, I (w64 (x1 + 2)))]) ⟨rfl, trivial⟩ (wrt ?_)))))))));refine WEx.in_ret ?_;refine wtr (wtr ?_);refine WEx.in_ret ?_;refine wtr ?_;obtain rfl := se hF;refine WEx.ret1 rfl rfl ?_;exact ⟨rfl, sk S3⟩
   ·
    refine cf rfl (df h13) (wsk (win (we (wr (mv rfl (wp (G.add rfl rfl (r := (w64 (x1 + 1))) rfl) rfl (av rfl (wn ?_))))))));refine wag _ _ (by omega) ?_ ⟨w64 (x1 + 1), rfl, hF, S3⟩;exact ⟨rfl, rfl, trivial⟩
  ·
   refine wof rfl (df h10) rfl (wof rfl (df h10) rfl (wof rfl (df h10) rfl (wof rfl (df h10) rfl (wof rfl (df h10) rfl (wp (G.pick_f (kb rfl (df h10)) rfl) rfl (wn (we (wg (l' := [(0, .string (bs a0)), (5, I x1), (20, undef), (21, undef), (22, undef), (23, undef), (24, undef), (25, .bool false)]) ⟨rfl, rfl, rfl, rfl, rfl, rfl, rfl, rfl, trivial⟩ ?_))))))));refine WCode.cond_f rfl ?_;refine wsk (win (we (wr (mv rfl (wp (G.add rfl rfl (r := (w64 (x1 + 1))) rfl) rfl (av rfl (wn ?_)))))));refine wag _ _ (by omega) ?_ ⟨w64 (x1 + 1), rfl, hF, S3⟩;exact ⟨rfl, rfl, trivial⟩
 ·
  refine cf rfl (df h7) ?_;refine WCode.exit ?_;refine WEx.then_exit ?_;refine WEx.then_exit ?_;refine WEx.in_exit ?_;refine we (wq (wr (av rfl (wn (we (wrt ?_))))));obtain rfl := se hF;refine WEx.ret1 rfl rfl ?_;exact ⟨rfl, sk S3⟩

def rf_value.j2 (q12 : Nat) (a0 : Int) (a1 : Int) (b9 : Bool) : Option Int := (if b9 = true then (if a1 ≤ (w64 ((w64 (IntKind.u8.wrap (a0 - 97))) + 10)) then (some (-1)) else (some (w64 ((w64 (IntKind.u8.wrap (a0 - 97))) + 10)))) else (if 65 ≤ a0 then (if a0 ≤ 70 then (if a1 ≤ (w64 ((w64 (IntKind.u8.wrap (a0 - 65))) + 10)) then (some (-1)) else (some (w64 ((w64 (IntKind.u8.wrap (a0 - 65))) + 10)))) else (if a1 ≤ (-1) then (some (-1)) else (some (-1)))) else (if a1 ≤ (-1) then (some (-1)) else (some (-1)))))
def rf_value.j1 (q4 : Nat) (a0 : Int) (a1 : Int) (b1 : Bool) : Option Int := (if b1 = true then (if a1 ≤ (w64 (IntKind.u8.wrap (a0 - 48))) then (some (-1)) else (some (w64 (IntKind.u8.wrap (a0 - 48))))) else (if 97 ≤ a0 then (rf_value.j2 q4 a0 a1 (decide (a0 ≤ 102))) else (rf_value.j2 q4 a0 a1 false)))
def rf_value (k : Nat) (a0 : Int) (a1 : Int) : Option Int := (if 48 ≤ a0 then (rf_value.j1 k a0 a1 (decide (a0 ≤ 57))) else (rf_value.j1 k a0 a1 false))
theorem rf_value_calls (k : Nat) (a0 : Int) (a1 : Int) {w : World} {r_ : Int} (hF : rf_value k a0 a1 = some r_) :
    Calls TP 143 [.int .u8 a0, I a1].toArray w fun e w' => e = .returned (I r_) ∧ St w (KS []) w' [] := by
 unfold rf_value at hF;have S := St.ofFalse (As := []) (St.init0 w);refine enter 42 [(0, .int .u8 a0), (1, I a1)] Tryz.func143 rfl rfl rfl rfl ?_;refine wq (wr (av rfl (wn (we (wq (wr (av rfl (wn (we (wq ?_))))))))));refine WCode.block ?_;refine wqs (fun l_ w_ => ∃ q4 : Nat, ∃ b1 : Bool, l_ = [(0, .int .u8 a0), (1, I a1), (5, I (-1)), (6, .bool b1)] ∧ rf_value.j1 q4 a0 a1 b1 = some r_ ∧ St w (KS []) w_ []) ?_ ?_
 ·
  refine wr (mv rfl (wp (G.geq rfl rfl rfl) rfl (mv rfl ?_)));rcases io hF with ⟨h6, hF⟩ | ⟨h6, hF⟩
  ·
   refine won rfl (dt h6) (mv rfl (won rfl (dt h6) (wp (G.leq rfl rfl rfl) rfl (wp (G.pick_t (kb rfl (dt h6)) rfl) rfl (av rfl (wn ?_))))));change St _ _ _ [] at S;refine wx _ ?_ ⟨k, decide (a0 ≤ 57), rfl, hF, S⟩;exact ⟨rfl, rfl, rfl, rfl, trivial⟩
  ·
   refine wof rfl (df h6) rfl (wof rfl (df h6) rfl (wp (G.pick_f (kb rfl (df h6)) rfl) rfl (av rfl (wn ?_))));refine wx _ ?_ ⟨k, false, rfl, hF, S⟩;exact ⟨rfl, rfl, rfl, rfl, trivial⟩
 ·
  rintro _ w2 ⟨q4, b1, rfl, hF, S3⟩;unfold rf_value.j1 at hF;rcases io hF with ⟨h7, hF⟩ | ⟨h7, hF⟩
  ·
   refine ct rfl h7 (wr (mv rfl (wp (G.sub rfl rfl (r := (IntKind.u8.wrap (a0 - 48))) rfl) rfl (wp (G.convi (by kernel_rfl) Tryz.underlying3 rfl (r := (w64 (IntKind.u8.wrap (a0 - 48)))) rfl) rfl (av rfl (wn (win (we (wq (wq (wr (mv rfl (mv rfl (wp (G.geq rfl rfl rfl) rfl (wn (we ?_))))))))))))))));rcases io hF with ⟨h8, hF⟩ | ⟨h8, hF⟩
   ·
    refine WCode.cond_t (kb (b := decide (a1 ≤ (w64 (IntKind.u8.wrap (a0 - 48))))) rfl (dt h8)) ?_;refine wq (wr (av rfl (wn (we (wg (l' := [(4, I (-1))]) ⟨rfl, trivial⟩ (wrt (wtr ?_)))))));obtain rfl := se hF;refine WEx.ret1 rfl rfl ?_;exact ⟨rfl, sk S3⟩
   ·
    refine WCode.cond_f (kb (b := decide (a1 ≤ (w64 (IntKind.u8.wrap (a0 - 48))))) rfl (df h8)) ?_;refine wsk (we (wq (wr (mv rfl (av rfl (wn (we (wg (l' := [(4, I (w64 (IntKind.u8.wrap (a0 - 48))))]) ⟨rfl, trivial⟩ (wrt ?_)))))))));obtain rfl := se hF;refine WEx.ret1 rfl rfl ?_;exact ⟨rfl, sk S3⟩
  ·
   refine cf rfl (bf h7) ?_;refine wqs (fun l_ w_ => ∃ q12 : Nat, ∃ b9 : Bool, l_ = [(0, .int .u8 a0), (1, I a1), (5, I (-1)), (16, .bool b9)] ∧ rf_value.j2 q12 a0 a1 b9 = some r_ ∧ St w (KS []) w_ []) ?_ ?_
   ·
    refine wr (mv rfl (wp (G.geq rfl rfl rfl) rfl (mv rfl ?_)));rcases io hF with ⟨h14, hF⟩ | ⟨h14, hF⟩
    ·
     refine won rfl (dt h14) (mv rfl (won rfl (dt h14) (wp (G.leq rfl rfl rfl) rfl (wp (G.pick_t (kb rfl (dt h14)) rfl) rfl (av rfl (wn ?_))))));refine wx _ ?_ ⟨q4, decide (a0 ≤ 102), rfl, hF, S3⟩;exact ⟨rfl, rfl, rfl, rfl, trivial⟩
    ·
     refine wof rfl (df h14) rfl (wof rfl (df h14) rfl (wp (G.pick_f (kb rfl (df h14)) rfl) rfl (av rfl (wn ?_))));refine wx _ ?_ ⟨q4, false, rfl, hF, S3⟩;exact ⟨rfl, rfl, rfl, rfl, trivial⟩
   ·
    rintro _ w10 ⟨q12, b9, rfl, hF, S11⟩;unfold rf_value.j2 at hF;rcases io hF with ⟨h15, hF⟩ | ⟨h15, hF⟩
    ·
     refine ct rfl h15 (wr (mv rfl (wp (G.sub rfl rfl (r := (IntKind.u8.wrap (a0 - 97))) rfl) rfl (wp (G.convi (by kernel_rfl) Tryz.underlying3 rfl (r := (w64 (IntKind.u8.wrap (a0 - 97)))) rfl) rfl (wp (G.add rfl rfl (r := (w64 ((w64 (IntKind.u8.wrap (a0 - 97))) + 10))) rfl) rfl (av rfl (wn (win (we (wq (wq (wr (mv rfl (mv rfl (wp (G.geq rfl rfl rfl) rfl (wn (we ?_)))))))))))))))));rcases io hF with ⟨h16, hF⟩ | ⟨h16, hF⟩
     ·
      refine WCode.cond_t (kb (b := decide (a1 ≤ (w64 ((w64 (IntKind.u8.wrap (a0 - 97))) + 10)))) rfl (dt h16)) ?_;refine wq (wr (av rfl (wn (we (wg (l' := [(4, I (-1))]) ⟨rfl, trivial⟩ (wrt (wtr ?_)))))));obtain rfl := se hF;refine WEx.ret1 rfl rfl ?_;exact ⟨rfl, sk S11⟩
     ·
      refine WCode.cond_f (kb (b := decide (a1 ≤ (w64 ((w64 (IntKind.u8.wrap (a0 - 97))) + 10)))) rfl (df h16)) ?_;refine wsk (we (wg (l' := [(5, I (w64 ((w64 (IntKind.u8.wrap (a0 - 97))) + 10)))]) ⟨rfl, trivial⟩ (wq (wr (mv rfl (av rfl (wn (we (wrt ?_)))))))));obtain rfl := se hF;refine WEx.ret1 rfl rfl ?_;exact ⟨rfl, sk S11⟩
    ·
     refine cf rfl (bf h15) (wq (wr (mv rfl (wp (G.geq rfl rfl rfl) rfl (mv rfl ?_)))));rcases io hF with ⟨h17, hF⟩ | ⟨h17, hF⟩
     ·
      refine won rfl (dt h17) (mv rfl (won rfl (dt h17) (wp (G.leq rfl rfl rfl) rfl (wp (G.pick_t (kb rfl (dt h17)) rfl) rfl (av rfl (wn (we ?_)))))));rcases io hF with ⟨h18, hF⟩ | ⟨h18, hF⟩
      ·
       refine ct rfl (dt h18) (wr (mv rfl (wp (G.sub rfl rfl (r := (IntKind.u8.wrap (a0 - 65))) rfl) rfl (wp (G.convi (by kernel_rfl) Tryz.underlying3 rfl (r := (w64 (IntKind.u8.wrap (a0 - 65)))) rfl) rfl (wp (G.add rfl rfl (r := (w64 ((w64 (IntKind.u8.wrap (a0 - 65))) + 10))) rfl) rfl (av rfl (wn (win (we (wg (l' := [(1, I a1), (5, I (w64 ((w64 (IntKind.u8.wrap (a0 - 65))) + 10)))]) ⟨rfl, rfl, trivial⟩ (wq (wq (wr (mv rfl (mv rfl (wp (G.geq rfl rfl rfl) rfl (wn (we ?_))))))))))))))))));rcases io hF with ⟨h19, hF⟩ | ⟨h19, hF⟩
       ·
        refine WCode.cond_t (kb (b := decide (a1 ≤ (w64 ((w64 (IntKind.u8.wrap (a0 - 65))) + 10)))) rfl (dt h19)) ?_;refine wq (wr (av rfl (wn (we (wrt (wtr ?_))))));obtain rfl := se hF;refine WEx.ret1 rfl rfl ?_;exact ⟨rfl, sk S11⟩
       ·
        refine WCode.cond_f (kb (b := decide (a1 ≤ (w64 ((w64 (IntKind.u8.wrap (a0 - 65))) + 10)))) rfl (df h19)) ?_;refine wsk (we (wq (wr (mv rfl (av rfl (wn (we (wrt ?_))))))));obtain rfl := se hF;refine WEx.ret1 rfl rfl ?_;exact ⟨rfl, sk S11⟩
      ·
       refine cf rfl (df h18) (wsk (win (we (wq (wq (wr (mv rfl (mv rfl (wp (G.geq rfl rfl rfl) rfl (wn (we (wg (l' := [(5, I (-1)), (40, .bool (decide (a1 ≤ (-1))))]) ⟨rfl, rfl, trivial⟩ ?_))))))))))));rcases io hF with ⟨h20, hF⟩ | ⟨h20, hF⟩
       ·
        refine ct rfl (dt h20) (wq (wr (av rfl (wn (we (wrt (wtr ?_)))))));obtain rfl := se hF;refine WEx.ret1 rfl rfl ?_;exact ⟨rfl, sk S11⟩
       ·
        refine cf rfl (df h20) (wsk (we (wq (wr (mv rfl (av rfl (wn (we (wrt ?_)))))))));obtain rfl := se hF;refine WEx.ret1 rfl rfl ?_;exact ⟨rfl, sk S11⟩
     ·
      refine wof rfl (df h17) rfl (wof rfl (df h17) rfl (wp (G.pick_f (kb rfl (df h17)) rfl) rfl (av rfl (wn (we ?_)))));refine WCode.cond_f rfl ?_;refine wsk (win (we (wq (wq (wr (mv rfl (mv rfl (wp (G.geq rfl rfl rfl) rfl (wn (we (wg (l' := [(5, I (-1)), (40, .bool (decide (a1 ≤ (-1))))]) ⟨rfl, rfl, trivial⟩ ?_)))))))))));rcases io hF with ⟨h21, hF⟩ | ⟨h21, hF⟩
      ·
       refine ct rfl (dt h21) (wq (wr (av rfl (wn (we (wrt (wtr ?_)))))));obtain rfl := se hF;refine WEx.ret1 rfl rfl ?_;exact ⟨rfl, sk S11⟩
      ·
       refine cf rfl (df h21) (wsk (we (wq (wr (mv rfl (av rfl (wn (we (wrt ?_)))))))));obtain rfl := se hF;refine WEx.ret1 rfl rfl ?_;exact ⟨rfl, sk S11⟩

def rf_digits.l1 : Nat → List UInt8 → Int → Int → Int → Option (Int × Bool)
  | 0, _, _, _, _ => none
  | k5 + 1, a0, a1, x1, x2 => (if x2 < (a0.length : Int) then (Option.bind (idx a0 x2) fun c9 => (Option.bind (rf_value k5 ((c9).toNat : Int) a1) fun t11 => (if t11 < 0 then (some (0, false)) else (if 4294967295 < (w64 ((w64 (x1 * a1)) + t11)) then (some (0, false)) else (rf_digits.l1 k5 a0 a1 (w64 ((w64 (x1 * a1)) + t11)) (w64 (x2 + 1))))))) else (some (x1, !(decide (a0 = [])))))
def rf_digits (k : Nat) (a0 : List UInt8) (a1 : Int) : Option (Int × Bool) := (rf_digits.l1 k a0 a1 0 0)
theorem rf_digits_calls (k : Nat) (a0 : List UInt8) (a1 : Int) {w : World} {r_ : Int × Bool} (hF : rf_digits k a0 a1 = some r_) :
    Calls TP 121 [.string (bs a0), I a1].toArray w fun e w' => e = .returned (.tuple #[I r_.1, .bool r_.2]) ∧ St w (KS []) w' [] := by
 unfold rf_digits at hF;have S := St.ofFalse (As := []) (St.init0 w);refine enter 32 [(0, .string (bs a0)), (1, I a1)] Tryz.func121 rfl rfl rfl rfl ?_;refine wq (wr (av rfl (av rfl (wn (we (wq (wr (av rfl (wn (we (wq (wq (wr (av rfl (wn (we ?_))))))))))))))));refine WCode.block ?_;change St _ _ _ [] at S;refine wg (l' := [(0, .string (bs a0)), (1, I a1), (6, I 0), (7, I 0)]) ⟨rfl, rfl, rfl, rfl, trivial⟩ ?_;refine wl (fun n_ l_ w_ => ∃ x1 : Int, ∃ x2 : Int, l_ = [(0, .string (bs a0)), (1, I a1), (6, I x1), (7, I x2)] ∧ rf_digits.l1 n_ a0 a1 x1 x2 = some r_ ∧ St w (KS []) w_ []) k ⟨0, 0, rfl, hF, S⟩ ?_;rintro n6 _ w3 ⟨x1, x2, rfl, hF, S4⟩;obtain _ | k5 := n6
 · exact nomatch (show (none : Option (Int × Bool)) = some r_ from hF)
 rw [rf_digits.l1] at hF;refine wq (wq (wr (mv rfl (mv rfl (wp (G.lenb T.str9 rfl) rfl (wp (G.lss rfl rfl rfl) rfl (wn (we ?_))))))));rcases io hF with ⟨h8, hF⟩ | ⟨h8, hF⟩
 ·
  refine ct rfl (dt h8) (wsk (we (wq ?_)));refine WCode.block ?_;refine wq (wr (mv rfl (mv rfl ?_)));obtain ⟨c9, hc10, hF⟩ := bo hF;refine wp (G.idxb T.str9 rfl rfl hc10) rfl (mv rfl ?_);obtain ⟨t11, hc12, hF⟩ := bo hF;refine wc T.call143 (ec rfl (ec rfl en)) rfl ?_;refine (rf_value_calls k5 ((c9).toNat : Int) a1 hc12).mono ?_;rintro _ w13 ⟨rfl, T14⟩;have S15 := scT T14 S4;refine ⟨_, rfl, ?_⟩;refine av rfl (wn (we (wq (wq (wr (mv rfl (wp (G.lss rfl rfl rfl) rfl (wn (we (wg (l' := [(0, .string (bs a0)), (1, I a1), (6, I x1), (7, I x2), (8, I t11), (21, .bool (decide (t11 < 0)))]) ⟨rfl, rfl, rfl, rfl, rfl, rfl, trivial⟩ ?_))))))))));rcases io hF with ⟨h16, hF⟩ | ⟨h16, hF⟩
  ·
   refine ct rfl (dt h16) (wq (wr (av rfl (av rfl (wn (we (wrt (wtr ?_))))))));refine WEx.in_ret ?_;refine wtr (wtr ?_);refine WEx.in_ret ?_;refine wtr ?_;obtain rfl := se hF;refine WEx.ret2 rfl rfl rfl ?_;exact ⟨rfl, sk S15⟩
  ·
   refine cf rfl (df h16) (wsk (we (wq (wr (mv rfl (mv rfl (wp (G.mul rfl rfl (r := (w64 (x1 * a1))) rfl) rfl (mv rfl (wp (G.add rfl rfl (r := (w64 ((w64 (x1 * a1)) + t11))) rfl) rfl (av rfl (wn (we (wq (wr (mv rfl (wp (G.gtr rfl rfl rfl) rfl (wn (we ?_))))))))))))))))));rcases io hF with ⟨h17, hF⟩ | ⟨h17, hF⟩
   ·
    refine WCode.cond_t (kb (b := decide (4294967295 < (w64 ((w64 (x1 * a1)) + t11)))) rfl (dt h17)) ?_;refine wq (wr (av rfl (av rfl (wn (we (wg (l' := [(4, I 0), (5, .bool false)]) ⟨rfl, rfl, trivial⟩ (wrt ?_)))))));refine WEx.in_ret ?_;refine wtr (wtr ?_);refine WEx.in_ret ?_;refine wtr ?_;obtain rfl := se hF;refine WEx.ret2 rfl rfl rfl ?_;exact ⟨rfl, sk S15⟩
   ·
    refine WCode.cond_f (kb (b := decide (4294967295 < (w64 ((w64 (x1 * a1)) + t11)))) rfl (df h17)) ?_;refine wsk (win (we (wr (mv rfl (wp (G.add rfl rfl (r := (w64 (x2 + 1))) rfl) rfl (av rfl (wn ?_)))))));refine wag _ _ (by omega) ?_ ⟨w64 ((w64 (x1 * a1)) + t11), w64 (x2 + 1), rfl, hF, S15⟩;exact ⟨rfl, rfl, rfl, rfl, trivial⟩
 ·
  refine cf rfl (df h8) ?_;refine WCode.exit ?_;refine WEx.then_exit ?_;refine WEx.then_exit ?_;refine WEx.in_exit ?_;refine we (wq (wr (mv rfl (mv rfl (wp (G.neqlb' rfl rfl rfl) rfl (av rfl (av rfl (wn (we (wg (l' := [(4, I x1), (5, .bool (!(decide (a0 = []))))]) ⟨rfl, rfl, trivial⟩ (wrt ?_)))))))))));obtain rfl := se hF;refine WEx.ret2 rfl rfl rfl ?_;exact ⟨rfl, sk S4⟩

def rf_number.j1 (q15 : Nat) (a0 : List UInt8) (b12 : Bool) : Option (Int × Bool) := (if b12 = true then (Option.bind (cut a0 2 (a0.length : Int)) fun m21 => (Option.bind (rf_digits q15 m21 16) fun t23 => (some (t23.1, t23.2)))) else (Option.bind (idx a0 0) fun c28 => (if ((c28).toNat : Int) = 48 then (Option.bind (cut a0 1 (a0.length : Int)) fun m31 => (Option.bind (rf_digits q15 m31 8) fun t33 => (some (t33.1, t33.2)))) else (Option.bind (rf_digits q15 a0 10) fun t38 => (some (t38.1, t38.2))))))
def rf_number (k : Nat) (a0 : List UInt8) (a1 : Bool) : Option (Int × Bool) := (if a1 = true then (Option.bind (rf_digits k a0 10) fun t2 => (if t2.2 = true then (Option.bind (idx a0 0) fun c8 => (if ((c8).toNat : Int) = 48 then (some (w64 (-t2.1), false)) else (some (w64 (-t2.1), decide (t2.1 ≤ 2147483648))))) else (some (w64 (-t2.1), false)))) else (if a0 = [48] then (some (0, true)) else (if 2 < (a0.length : Int) then (Option.bind (cut a0 0 2) fun m18 => (rf_number.j1 k a0 (decide (m18 = [48, 120])))) else (rf_number.j1 k a0 false))))
theorem rf_number_calls (k : Nat) (a0 : List UInt8) (a1 : Bool) {w : World} {r_ : Int × Bool} (hF : rf_number k a0 a1 = some r_) :
    Calls TP 83 [.string (bs a0), .bool a1].toArray w fun e w' => e = .returned (.tuple #[I r_.1, .bool r_.2]) ∧ St w (KS []) w' [] := by
 unfold rf_number at hF;have S := St.ofFalse (As := []) (St.init0 w);refine enter 57 [(0, .string (bs a0)), (1, .bool a1)] Tryz.func83 rfl rfl rfl rfl ?_;refine wq (wr (av rfl (av rfl (wn (we (wq ?_))))));refine WCode.block ?_;refine wq (wr (mv rfl (av rfl (wn (we ?_)))));rcases io hF with ⟨h1, hF⟩ | ⟨h1, hF⟩
 ·
  refine ct rfl h1 (wq (wr (mv rfl ?_)));obtain ⟨t2, hc3, hF⟩ := bo hF;refine wc T.call121 (ec rfl (ec rfl en)) rfl ?_;refine (rf_digits_calls k a0 10 hc3).mono ?_;rintro _ w4 ⟨rfl, T5⟩;have S6 := sc (As := []) S T5;refine ⟨_, rfl, ?_⟩;refine mv rfl (wp (G.extract rfl rfl) rfl (wp (G.extract rfl rfl) rfl (av rfl (av rfl (wn (we (wg (l' := [(0, .string (bs a0)), (6, I t2.1), (7, .bool t2.2)]) ⟨rfl, rfl, rfl, trivial⟩ (wq (wr (mv rfl (wp (G.neg rfl (r := (w64 (-t2.1))) rfl) rfl (mv rfl (mv rfl ?_)))))))))))));rcases io hF with ⟨h7, hF⟩ | ⟨h7, hF⟩
  ·
   refine won rfl h7 (mv rfl (won rfl h7 ?_));obtain ⟨c8, hc9, hF⟩ := bo hF;refine wp (G.idxb T.str9 rfl rfl hc9) rfl (won rfl h7 (wp (G.neq rfl rfl rfl) rfl (wp (G.pick_t (kb rfl h7) rfl) rfl (mv rfl ?_))));rcases io hF with ⟨h10, hF⟩ | ⟨h10, hF⟩
   ·
    refine WOps.off rfl (kbl (b := !(decide (((c8).toNat : Int) = 48))) rfl (show (!(decide (((c8).toNat : Int) = 48))) = false from by rw [(dt h10)]; rfl)) rfl rfl ?_;refine WOps.off rfl (kbl (b := !(decide (((c8).toNat : Int) = 48))) rfl (show (!(decide (((c8).toNat : Int) = 48))) = false from by rw [(dt h10)]; rfl)) rfl rfl ?_;refine wp (G.pick_f (kb (b := !(decide (((c8).toNat : Int) = 48))) rfl (show (!(decide (((c8).toNat : Int) = 48))) = false from by rw [(dt h10)]; rfl)) rfl) rfl (av rfl (av rfl (wn (we (wg (l' := [(4, I (w64 (-t2.1))), (5, .bool false)]) ⟨rfl, rfl, trivial⟩ (wrt ?_))))));refine WEx.in_ret ?_;refine wtr ?_;obtain rfl := se hF;refine WEx.ret2 rfl rfl rfl ?_;exact ⟨rfl, sk S6⟩
   ·
    refine WOps.on rfl (kbl (b := !(decide (((c8).toNat : Int) = 48))) rfl (show (!(decide (((c8).toNat : Int) = 48))) = true from by rw [(df h10)]; rfl)) ?_;refine mv rfl ?_;refine WOps.on rfl (kbl (b := !(decide (((c8).toNat : Int) = 48))) rfl (show (!(decide (((c8).toNat : Int) = 48))) = true from by rw [(df h10)]; rfl)) ?_;refine wp (G.leq rfl rfl rfl) rfl (wp (G.pick_t (kb (b := !(decide (((c8).toNat : Int) = 48))) rfl (show (!(decide (((c8).toNat : Int) = 48))) = true from by rw [(df h10)]; rfl)) rfl) rfl (av rfl (av rfl (wn (we (wg (l' := [(4, I (w64 (-t2.1))), (5, .bool (decide (t2.1 ≤ 2147483648)))]) ⟨rfl, rfl, trivial⟩ (wrt ?_)))))));refine WEx.in_ret ?_;refine wtr ?_;obtain rfl := se hF;refine WEx.ret2 rfl rfl rfl ?_;exact ⟨rfl, sk S6⟩
  ·
   refine wof rfl (bf h7) rfl (wof rfl (bf h7) rfl (wof rfl (bf h7) rfl (wp (G.pick_f (kb rfl (bf h7)) rfl) rfl (mv rfl ?_))));refine WOps.off rfl rfl rfl rfl ?_;refine WOps.off rfl rfl rfl rfl ?_;refine wp (G.pick_f rfl rfl) rfl (av rfl (av rfl (wn (we (wg (l' := [(4, I (w64 (-t2.1))), (5, .bool false)]) ⟨rfl, rfl, trivial⟩ (wrt ?_))))));refine WEx.in_ret ?_;refine wtr ?_;obtain rfl := se hF;refine WEx.ret2 rfl rfl rfl ?_;exact ⟨rfl, sk S6⟩
 ·
  refine cf rfl (bf h1) (wq (wr (mv rfl (wp (G.eqlb' rfl rfl rfl) rfl (av rfl (wn (we ?_)))))));rcases io hF with ⟨h11, hF⟩ | ⟨h11, hF⟩
  ·
   refine ct rfl (dt h11) (wq (wr (av rfl (av rfl (wn (we (wrt ?_)))))));refine WEx.in_ret ?_;refine wtr ?_;obtain rfl := se hF;refine WEx.ret2 rfl rfl rfl ?_;exact ⟨rfl, sk (As := []) S⟩
  ·
   refine cf rfl (df h11) ?_;refine wqs (fun l_ w_ => ∃ q15 : Nat, ∃ b12 : Bool, l_ = [(0, .string (bs a0)), (30, .bool b12)] ∧ rf_number.j1 q15 a0 b12 = some r_ ∧ St w (KS []) w_ []) ?_ ?_
   ·
    refine wr (mv rfl (wp (G.lenb T.str9 rfl) rfl (wp (G.gtr rfl rfl rfl) rfl (mv rfl ?_))));rcases io hF with ⟨h17, hF⟩ | ⟨h17, hF⟩
    ·
     refine won rfl (dt h17) (mv rfl (won rfl (dt h17) ?_));obtain ⟨m18, hc19, hF⟩ := bo hF;refine wp (G.cutb_h T.str9 rfl rfl hc19) rfl (won rfl (dt h17) (wp (G.eqlb' rfl rfl rfl) rfl (wp (G.pick_t (kb rfl (dt h17)) rfl) rfl (av rfl (wn ?_)))));change St _ _ _ [] at S;refine wx _ ?_ ⟨k, decide (m18 = [48, 120]), rfl, hF, S⟩;exact ⟨rfl, rfl, trivial⟩
    ·
     refine wof rfl (df h17) rfl (wof rfl (df h17) rfl (wof rfl (df h17) rfl (wp (G.pick_f (kb rfl (df h17)) rfl) rfl (av rfl (wn ?_)))));refine wx _ ?_ ⟨k, false, rfl, hF, S⟩;exact ⟨rfl, rfl, trivial⟩
   ·
    rintro _ w13 ⟨q15, b12, rfl, hF, S14⟩;unfold rf_number.j1 at hF;rcases io hF with ⟨h20, hF⟩ | ⟨h20, hF⟩
    ·
     refine ct rfl h20 (wq (wr (mv rfl ?_)));obtain ⟨m21, hc22, hF⟩ := bo hF;refine wp (G.cutb_l T.str9 rfl rfl hc22) rfl ?_;obtain ⟨t23, hc24, hF⟩ := bo hF;refine wc T.call121 (ec rfl (ec rfl en)) rfl ?_;refine (rf_digits_calls q15 m21 16 hc24).mono ?_;rintro _ w25 ⟨rfl, T26⟩;have S27 := scT T26 S14;refine ⟨_, rfl, ?_⟩;refine wp (G.extract rfl rfl) rfl (wp (G.extract rfl rfl) rfl (av rfl (av rfl (wn (we (wrt ?_))))));refine WEx.in_ret ?_;refine wtr ?_;obtain rfl := se hF;refine WEx.ret2 rfl rfl rfl ?_;exact ⟨rfl, sk S27⟩
    ·
     refine cf rfl (bf h20) (wq (wr (mv rfl ?_)));obtain ⟨c28, hc29, hF⟩ := bo hF;refine wp (G.idxb T.str9 rfl rfl hc29) rfl (wp (G.eql rfl rfl rfl) rfl (av rfl (wn (we ?_))));rcases io hF with ⟨h30, hF⟩ | ⟨h30, hF⟩
     ·
      refine ct rfl (dt h30) (wq (wr (mv rfl ?_)));obtain ⟨m31, hc32, hF⟩ := bo hF;refine wp (G.cutb_l T.str9 rfl rfl hc32) rfl ?_;obtain ⟨t33, hc34, hF⟩ := bo hF;refine wc T.call121 (ec rfl (ec rfl en)) rfl ?_;refine (rf_digits_calls q15 m31 8 hc34).mono ?_;rintro _ w35 ⟨rfl, T36⟩;have S37 := scT T36 S14;refine ⟨_, rfl, ?_⟩;refine wp (G.extract rfl rfl) rfl (wp (G.extract rfl rfl) rfl (av rfl (av rfl (wn (we (wg (l' := [(4, I t33.1), (5, .bool t33.2)]) ⟨rfl, rfl, trivial⟩ (wrt ?_)))))));refine WEx.in_ret ?_;refine wtr ?_;obtain rfl := se hF;refine WEx.ret2 rfl rfl rfl ?_;exact ⟨rfl, sk S37⟩
     ·
      refine cf rfl (df h30) (wsk (win (we (wq (wr (mv rfl ?_))))));obtain ⟨t38, hc39, hF⟩ := bo hF;refine wc T.call121 (ec rfl (ec rfl en)) rfl ?_;refine (rf_digits_calls q15 a0 10 hc39).mono ?_;rintro _ w40 ⟨rfl, T41⟩;have S42 := scT T41 S14;refine ⟨_, rfl, ?_⟩;refine wp (G.extract rfl rfl) rfl (wp (G.extract rfl rfl) rfl (av rfl (av rfl (wn (we (wg (l' := [(4, I t38.1), (5, .bool t38.2)]) ⟨rfl, rfl, trivial⟩ (wrt ?_)))))));obtain rfl := se hF;refine WEx.ret2 rfl rfl rfl ?_;exact ⟨rfl, sk S42⟩

mutual
def rf_IsWord.j1 : Nat → List UInt8 → Int → Int → Bool → Option Bool
  | 0, _, _, _, _ => none
  | k19 + 1, a0, t1, x6, b12 => (if b12 = true then (Option.bind (cut [32, 98, 111, 111, 108, 32, 99, 97, 115, 101, 32, 99, 111, 110, 115, 116, 32, 100, 101, 102, 97, 117, 108, 116, 32, 100, 111, 117, 98, 108, 101, 32, 101, 110, 117, 109, 32, 102, 108, 111, 97, 116, 32, 104, 121, 112, 101, 114, 32, 105, 110, 116, 32, 111, 112, 97, 113, 117, 101, 32, 112, 114, 111, 103, 114, 97, 109, 32, 113, 117, 97, 100, 114, 117, 112, 108, 101, 32, 115, 116, 114, 105, 110, 103, 32, 115, 116, 114, 117, 99, 116, 32, 115, 119, 105, 116, 99, 104, 32, 116, 121, 112, 101, 100, 101, 102, 32, 117, 110, 105, 111, 110, 32, 117, 110, 115, 105, 103, 110, 101, 100, 32, 118, 101, 114, 115, 105, 111, 110, 32, 118, 111, 105, 100, 32] x6 (w64 (x6 + (w64 ((a0.length : Int) + 2))))) fun m21 => (Option.bind (cat ([32] : List UInt8) a0) fun m23 => (Option.bind (cat m23 [32]) fun m25 => (if m21 = m25 then (some true) else (rf_IsWord.l1 k19 a0 t1 (w64 (x6 + 1))))))) else (some false))
def rf_IsWord.l1 : Nat → List UInt8 → Int → Int → Option Bool
  | 0, _, _, _ => none
  | k9 + 1, a0, t1, x6 => (if (w64 (x6 + (w64 ((a0.length : Int) + 2)))) ≤ 135 then (if a0 = [] then (rf_IsWord.j1 k9 a0 t1 x6 false) else (rf_IsWord.j1 k9 a0 t1 x6 (decide (t1 = (a0.length : Int))))) else (rf_IsWord.j1 k9 a0 t1 x6 false))
end
def rf_IsWord (k : Nat) (a0 : List UInt8) : Option Bool := (Option.bind (rf_run k a0 0) fun t1 => (rf_IsWord.l1 k a0 t1 0))
theorem rf_IsWord_calls (k : Nat) (a0 : List UInt8) {w : World} {r_ : Bool} (hF : rf_IsWord k a0 = some r_) :
    Calls TP 81 [.string (bs a0)].toArray w fun e w' => e = .returned (.bool r_) ∧ St w (KS []) w' [] := by
 unfold rf_IsWord at hF;have S := St.ofFalse (As := []) (St.init0 w);refine enter 36 [(0, .string (bs a0))] Tryz.func81 rfl rfl rfl rfl ?_;refine wq (wr (av rfl (wn (we (wq (wr (mv rfl (wp (G.lenb T.str9 rfl) rfl (wp (G.add rfl rfl (r := (w64 ((a0.length : Int) + 2))) rfl) rfl (av rfl (wn (we (wq (wr (mv rfl ?_)))))))))))))));obtain ⟨t1, hc2, hF⟩ := bo hF;refine wc T.call80 (ec rfl (ec rfl en)) rfl ?_;refine (rf_run_calls k a0 0 hc2).mono ?_;rintro _ w3 ⟨rfl, T4⟩;have S5 := sc (As := []) S T4;refine ⟨_, rfl, ?_⟩;refine mv rfl (wp (G.lenb T.str9 rfl) rfl (wp (G.eql rfl rfl rfl) rfl (av rfl (wn (we (wq (wq (wr (av rfl (wn (we ?_)))))))))));refine WCode.block ?_;refine wg (l' := [(0, .string (bs a0)), (3, I (w64 ((a0.length : Int) + 2))), (4, .bool (decide (t1 = (a0.length : Int)))), (5, I 0)]) ⟨rfl, rfl, rfl, rfl, trivial⟩ ?_;refine wl (fun n_ l_ w_ => ∃ x6 : Int, l_ = [(0, .string (bs a0)), (3, I (w64 ((a0.length : Int) + 2))), (4, .bool (decide (t1 = (a0.length : Int)))), (5, I x6)] ∧ rf_IsWord.l1 n_ a0 t1 x6 = some r_ ∧ St w (KS []) w_ []) k ⟨0, rfl, hF, S5⟩ ?_;rintro n10 _ w7 ⟨x6, rfl, hF, S8⟩;obtain _ | k9 := n10
 · exact nomatch (show (none : Option Bool) = some r_ from hF)
 rw [rf_IsWord.l1] at hF;refine wq ?_;refine wqs (fun l_ w_ => ∃ q15 : Nat, ∃ b12 : Bool, l_ = [(0, .string (bs a0)), (3, I (w64 ((a0.length : Int) + 2))), (4, .bool (decide (t1 = (a0.length : Int)))), (5, I x6), (24, .bool b12)] ∧ rf_IsWord.j1 q15 a0 t1 x6 b12 = some r_ ∧ q15 ≤ k9 ∧ St w (KS []) w_ []) ?_ ?_
 ·
  refine wr (mv rfl (mv rfl (wp (G.add rfl rfl (r := (w64 (x6 + (w64 ((a0.length : Int) + 2))))) rfl) rfl (wp (G.leq rfl rfl rfl) rfl (mv rfl ?_)))));rcases io hF with ⟨h17, hF⟩ | ⟨h17, hF⟩
  ·
   refine WOps.on rfl (kbl (b := decide ((w64 (x6 + (w64 ((a0.length : Int) + 2)))) ≤ 135)) rfl (dt h17)) ?_;refine mv rfl ?_;refine WOps.on rfl (kbl (b := decide ((w64 (x6 + (w64 ((a0.length : Int) + 2)))) ≤ 135)) rfl (dt h17)) ?_;refine wp (G.neqlb' rfl rfl rfl) rfl (wp (G.pick_t (kb (b := decide ((w64 (x6 + (w64 ((a0.length : Int) + 2)))) ≤ 135)) rfl (dt h17)) rfl) rfl (mv rfl ?_));rcases io hF with ⟨h18, hF⟩ | ⟨h18, hF⟩
   ·
    refine WOps.off rfl (kbl rfl (show (!(decide (a0 = []))) = false from by rw [(dt h18)]; rfl)) rfl rfl ?_;refine wp (G.pick_f (kb rfl (show (!(decide (a0 = []))) = false from by rw [(dt h18)]; rfl)) rfl) rfl (wn ?_);refine wx _ ?_ ⟨k9, false, rfl, hF, (by omega), S8⟩;exact ⟨rfl, rfl, rfl, rfl, rfl, trivial⟩
   ·
    refine WOps.on rfl (kbl rfl (show (!(decide (a0 = []))) = true from by rw [(df h18)]; rfl)) ?_;refine mv rfl (wp (G.pick_t (kb rfl (show (!(decide (a0 = []))) = true from by rw [(df h18)]; rfl)) rfl) rfl (wn ?_));refine wx _ ?_ ⟨k9, decide (t1 = (a0.length : Int)), rfl, hF, (by omega), S8⟩;exact ⟨rfl, rfl, rfl, rfl, rfl, trivial⟩
  ·
   refine WOps.off rfl (kbl (b := decide ((w64 (x6 + (w64 ((a0.length : Int) + 2)))) ≤ 135)) rfl (df h17)) rfl rfl ?_;refine WOps.off rfl (kbl (b := decide ((w64 (x6 + (w64 ((a0.length : Int) + 2)))) ≤ 135)) rfl (df h17)) rfl rfl ?_;refine wp (G.pick_f (kb (b := decide ((w64 (x6 + (w64 ((a0.length : Int) + 2)))) ≤ 135)) rfl (df h17)) rfl) rfl (mv rfl ?_);refine WOps.off rfl rfl rfl rfl ?_;refine wp (G.pick_f rfl rfl) rfl (wn ?_);refine wx _ ?_ ⟨k9, false, rfl, hF, (by omega), S8⟩;exact ⟨rfl, rfl, rfl, rfl, rfl, trivial⟩
 ·
  rintro _ w13 ⟨q15, b12, rfl, hF, hq16, S14⟩;obtain _ | k19 := q15
  · exact nomatch (show (none : Option Bool) = some r_ from hF)
  rw [rf_IsWord.j1] at hF;rcases io hF with ⟨h20, hF⟩ | ⟨h20, hF⟩
  ·
   refine ct rfl h20 (wsk (we (wq ?_)));refine WCode.block ?_;refine wq (wr (mv rfl (mv rfl (mv rfl (wp (G.add rfl rfl (r := (w64 (x6 + (w64 ((a0.length : Int) + 2))))) rfl) rfl ?_)))));obtain ⟨m21, hc22, hF⟩ := bo hF;refine wp (G.cutb_lh T.str9 rfl rfl rfl hc22) rfl (mv rfl ?_);obtain ⟨m23, hc24, hF⟩ := bo hF;refine wp (G.catb rfl rfl hc24) rfl ?_;obtain ⟨m25, hc26, hF⟩ := bo hF;refine wp (G.catb rfl rfl hc26) rfl (wp (G.eqlb' rfl rfl rfl) rfl (wn (we ?_)));rcases io hF with ⟨h27, hF⟩ | ⟨h27, hF⟩
   ·
    refine ct rfl (dt h27) (wq (wr (av rfl (wn (we (wg (l' := [(2, .bool true)]) ⟨rfl, trivial⟩ (wrt ?_)))))));refine WEx.in_ret ?_;refine wtr (wtr ?_);refine WEx.in_ret ?_;refine wtr ?_;obtain rfl := se hF;refine WEx.ret1 rfl rfl ?_;exact ⟨rfl, sk S14⟩
   ·
    refine cf rfl (df h27) (wsk (win (we (wg (l' := [(0, .string (bs a0)), (3, I (w64 ((a0.length : Int) + 2))), (4, .bool (decide (t1 = (a0.length : Int)))), (5, I x6)]) ⟨rfl, rfl, rfl, rfl, trivial⟩ (wr (mv rfl (wp (G.add rfl rfl (r := (w64 (x6 + 1))) rfl) rfl (av rfl (wn ?_)))))))));refine wag _ _ (by omega) ?_ ⟨w64 (x6 + 1), rfl, hF, S14⟩;exact ⟨rfl, rfl, rfl, rfl, trivial⟩
  ·
   refine cf rfl (bf h20) ?_;refine WCode.exit ?_;refine WEx.then_exit ?_;refine WEx.then_exit ?_;refine WEx.in_exit ?_;refine we (wq (wr (av rfl (wn (we (wrt ?_))))));obtain rfl := se hF;refine WEx.ret1 rfl rfl ?_;exact ⟨rfl, sk S14⟩

def rf_one.j1 (q39 : Nat) (a1 : Int) (t15 : Int) (m20 : List UInt8) (x36 : Int) : Option (Token × Int × Int) := (if 32 < (m20.length : Int) then (some ((⟨0, [], 0, 0⟩ : Token), 0, 32)) else (some ((⟨x36, m20, 0, a1⟩ : Token), t15, 0)))
def rf_one.j3 (q61 : Nat) (a0 : List UInt8) (a1 : Int) (c7 : UInt8) (x52 : Int) (b58 : Bool) : Option (Token × Int × Int) := (if b58 = true then (Option.bind (rf_run q61 a0 x52) fun t72 => (Option.bind (cut a0 x52 t72) fun m77 => (Option.bind (rf_number q61 m77 (decide (((c7).toNat : Int) = 45))) fun t79 => (if t79.2 = true then (some ((⟨3, [], t79.1, a1⟩ : Token), t72, 0)) else (some ((⟨0, [], 0, 0⟩ : Token), 0, 31)))))) else (Option.bind (rf_sign q61 ((c7).toNat : Int)) fun t91 => (if t91 = true then (Option.bind (cut a0 a1 (w64 (a1 + 1))) fun m97 => (some ((⟨4, m97, 0, a1⟩ : Token), w64 (a1 + 1), 0))) else (some ((⟨0, [], 0, 0⟩ : Token), 0, 30)))))
def rf_one.j2 (q55 : Nat) (a0 : List UInt8) (a1 : Int) (c7 : UInt8) (x52 : Int) : Option (Token × Int × Int) := (if x52 < (a0.length : Int) then (Option.bind (idx a0 x52) fun c64 => (Option.bind (rf_digit q55 ((c64).toNat : Int)) fun t66 => (rf_one.j3 q55 a0 a1 c7 x52 t66))) else (rf_one.j3 q55 a0 a1 c7 x52 false))
def rf_one (k : Nat) (a0 : List UInt8) (a1 : Int) : Option (Token × Int × Int) := (Option.bind (idx a0 a1) fun c7 => (Option.bind (rf_letter k ((c7).toNat : Int)) fun t9 => (if t9 = true then (Option.bind (rf_run k a0 a1) fun t15 => (Option.bind (cut a0 a1 t15) fun m20 => (Option.bind (rf_IsWord k m20) fun t31 => (if t31 = true then (rf_one.j1 k a1 t15 m20 2) else (rf_one.j1 k a1 t15 m20 1))))) else (if ((c7).toNat : Int) = 45 then (rf_one.j2 k a0 a1 c7 (w64 (a1 + 1))) else (rf_one.j2 k a0 a1 c7 a1)))))
theorem rf_one_calls (k : Nat) (a0 : List UInt8) (a1 : Int) {w : World} {r_ : Token × Int × Int} (hF : rf_one k a0 a1 = some r_) :
    Calls TP 41 [.string (bs a0), I a1].toArray w fun e w' => e = .returned (.tuple #[.agg (ka r_.1), I r_.2.1, I r_.2.2]) ∧ St w (KS []) w' [] := by
 unfold rf_one at hF;have S := St.ofFalse (As := []) (St.init0 w);refine enter 94 [(0, .string (bs a0)), (1, I a1)] Tryz.func41 rfl rfl rfl rfl ?_;refine wq (wr ?_);obtain ⟨b1, w2, E3, S4, X5, L6⟩ := sv S (z := .agg #[I 0, .string (bs []), I 0, I 0]) T.zero41;refine wee E3 rfl ?_;refine av rfl (av rfl (wn (we (wq (wr (mv rfl (mv rfl ?_)))))));obtain ⟨c7, hc8, hF⟩ := bo hF;refine wp (G.idxb T.str9 rfl rfl hc8) rfl (av rfl (wn (we (wq (wr (mv rfl ?_))))));obtain ⟨t9, hc10, hF⟩ := bo hF;refine wc T.call79 (ec rfl en) rfl ?_;refine (rf_letter_calls k ((c7).toNat : Int) hc10).mono ?_;rintro _ w11 ⟨rfl, T12⟩;have S13 := scT T12 S4;refine ⟨_, rfl, ?_⟩;refine av rfl (wn (we (wq (wq (wr (mv rfl (wn (we ?_))))))));rcases io hF with ⟨h14, hF⟩ | ⟨h14, hF⟩
 ·
  refine ct rfl h14 (wq (wr (mv rfl (mv rfl ?_))));obtain ⟨t15, hc16, hF⟩ := bo hF;refine wc T.call80 (ec rfl (ec rfl en)) rfl ?_;refine (rf_run_calls k a0 a1 hc16).mono ?_;rintro _ w17 ⟨rfl, T18⟩;have S19 := scT T18 S13;refine ⟨_, rfl, ?_⟩;refine av rfl (wn (we (wg (l' := [(0, .string (bs a0)), (1, I a1), (4, (Pt b1)), (9, I t15)]) ⟨rfl, rfl, rfl, rfl, trivial⟩ (wq (wr (mv rfl (mv rfl (mv rfl ?_))))))));obtain ⟨m20, hc21, hF⟩ := bo hF;refine wp (G.cutb_lh T.str9 rfl rfl rfl hc21) rfl (mv rfl (wp (G.build (cells := #[I 1, .string (bs m20), I 0, I a1]) (fs_ (fc rfl (fc rfl (fc rfl fn_)))) (by kernel_rfl)) rfl ?_));obtain ⟨b22, w23, E24, S25, X26, L27⟩ := sv S19 (z := .agg #[I 0, .string (bs []), I 0, I 0]) T.zero41;refine wee E24 rfl ?_;obtain ⟨w28, E29, S30⟩ := sw S25 0 #[I 1, .string (bs m20), I 0, I a1] T.size41_4 rfl rfl rfl rfl;refine wuu (E29 rfl rfl) ?_;refine wn (we (wq (wr (wp (G.field T.fld41_1 rfl (show 0 + 1 = 1 from rfl)) rfl ?_))));refine wrr (G.load1 T.one9 rfl (cell_blk (S30.blk 0 rfl) rfl)) rfl ?_;obtain ⟨t31, hc32, hF⟩ := bo hF;refine wc T.call81 (ec rfl en) rfl ?_;refine (rf_IsWord_calls k m20 hc32).mono ?_;rintro _ w33 ⟨rfl, T34⟩;have S35 := scT T34 S30;refine ⟨_, rfl, ?_⟩;refine av rfl (wn (we (wg (l' := [(4, (Pt b1)), (9, I t15), (10, (Pt b22)), (11, .bool t31)]) ⟨rfl, rfl, rfl, rfl, trivial⟩ ?_)));refine wqs (fun l_ w_ => ∃ q39 : Nat, ∃ x36 : Int, l_ = [(4, (Pt b1)), (9, I t15), (10, (Pt b22))] ∧ rf_one.j1 q39 a1 t15 m20 x36 = some r_ ∧ St w (KS []) w_ [(B b22 #[I x36, .string (bs m20), I 0, I a1] 41), (B b1 #[I 0, .string (bs []), I 0, I 0] 41)]) ?_ ?_
  ·
   refine wq (wr (mv rfl (wn (we ?_))));rcases io hF with ⟨h41, hF⟩ | ⟨h41, hF⟩
   ·
    refine ct rfl h41 (wr (wp (G.field T.fld41_0 rfl (show 0 + 0 = 0 from rfl)) rfl ?_));obtain ⟨w42, E43, S44⟩ := so (P := TP) S35 0 3 (I 2) (off := 0) (cur' := #[I 2, .string (bs m20), I 0, I a1]) rfl T.size3_1 rfl rfl rfl;refine wuu (E43 rfl rfl) ?_;refine wn ?_;refine wx _ ?_ ⟨k, 2, rfl, hF, S44⟩;exact ⟨rfl, rfl, rfl, trivial⟩
   ·
    refine cf rfl (bf h41) (wsk ?_);refine wx _ ?_ ⟨k, 1, rfl, hF, S35⟩;exact ⟨rfl, rfl, rfl, trivial⟩
  ·
   rintro _ w37 ⟨q39, x36, rfl, hF, S38⟩;unfold rf_one.j1 at hF;refine wq (wq (wr (wp (G.field T.fld41_1 rfl (show 0 + 1 = 1 from rfl)) rfl ?_)));refine wrr (G.load1 T.one9 rfl (cell_blk (S38.blk 0 rfl) rfl)) rfl ?_;refine wp (G.lenb T.str9 rfl) rfl (wp (G.gtr rfl rfl rfl) rfl (wn (we ?_)));rcases io hF with ⟨h45, hF⟩ | ⟨h45, hF⟩
   ·
    refine ct rfl (dt h45) (wq (wr (wp (G.build (cells := #[I 0, .string (bs []), I 0, I 0]) (fs_ (fn_)) (by kernel_rfl)) rfl ?_)));obtain ⟨w46, E47, S48⟩ := sw S38 1 #[I 0, .string (bs []), I 0, I 0] T.size41_4 rfl rfl rfl rfl;refine wuu (E47 rfl rfl) ?_;refine av rfl (av rfl (wn (we (wrt (wtr (wtr ?_))))));obtain rfl := se hF;refine WEx.retc2 rfl rfl (cs := [I 0, .string (bs []), I 0, I 0]) T.agg41_4 (cb (S48.blk 1 rfl) rfl) rfl rfl ?_;exact ⟨rfl, sk S48⟩
   ·
    refine cf rfl (df h45) (wsk (we (wq (wr ?_))));refine wrr (G.loada T.agg41_4 rfl (cs := [I x36, .string (bs m20), I 0, I a1]) (cb (S38.blk 0 rfl) rfl)) rfl ?_;refine mv rfl ?_;obtain ⟨w49, E50, S51⟩ := sw S38 1 #[I x36, .string (bs m20), I 0, I a1] T.size41_4 rfl rfl rfl rfl;refine wuu (E50 rfl rfl) ?_;refine av rfl (av rfl (wn (we (wrt (wtr ?_)))));obtain rfl := se hF;refine WEx.retc2 rfl rfl (cs := [I x36, .string (bs m20), I 0, I a1]) T.agg41_4 (cb (S51.blk 1 rfl) rfl) rfl rfl ?_;exact ⟨rfl, sk S51⟩
 ·
  refine cf rfl (bf h14) (wsk (we (wq (wr (mv rfl (wp (G.eql rfl rfl rfl) rfl (av rfl (wn (we (wg (l' := [(0, .string (bs a0)), (1, I a1), (4, (Pt b1)), (7, .int .u8 ((c7).toNat : Int)), (12, .bool (decide (((c7).toNat : Int) = 45)))]) ⟨rfl, rfl, rfl, rfl, rfl, trivial⟩ (wq (wr (mv rfl (av rfl (wn (we ?_))))))))))))))));refine wqs (fun l_ w_ => ∃ q55 : Nat, ∃ x52 : Int, l_ = [(0, .string (bs a0)), (1, I a1), (4, (Pt b1)), (7, .int .u8 ((c7).toNat : Int)), (12, .bool (decide (((c7).toNat : Int) = 45))), (13, I x52)] ∧ rf_one.j2 q55 a0 a1 c7 x52 = some r_ ∧ St w (KS []) w_ [(B b1 #[I 0, .string (bs []), I 0, I 0] 41)]) ?_ ?_
  ·
   refine wq (wr (mv rfl (wn (we ?_))));rcases io hF with ⟨h57, hF⟩ | ⟨h57, hF⟩
   ·
    refine ct rfl (dt h57) (wr (mv rfl (wp (G.add rfl rfl (r := (w64 (a1 + 1))) rfl) rfl (av rfl (wn ?_)))));refine wx _ ?_ ⟨k, w64 (a1 + 1), rfl, hF, S13⟩;exact ⟨rfl, rfl, rfl, rfl, rfl, rfl, trivial⟩
   ·
    refine cf rfl (df h57) (wsk ?_);refine wx _ ?_ ⟨k, a1, rfl, hF, S13⟩;exact ⟨rfl, rfl, rfl, rfl, rfl, rfl, trivial⟩
  ·
   rintro _ w53 ⟨q55, x52, rfl, hF, S54⟩;unfold rf_one.j2 at hF;refine wq (wr (av rfl (wn (we ?_))));refine wqs (fun l_ w_ => ∃ q61 : Nat, ∃ b58 : Bool, l_ = [(0, .string (bs a0)), (1, I a1), (4, (Pt b1)), (7, .int .u8 ((c7).toNat : Int)), (12, .bool (decide (((c7).toNat : Int) = 45))), (13, I x52), (14, .bool b58)] ∧ rf_one.j3 q61 a0 a1 c7 x52 b58 = some r_ ∧ St w (KS []) w_ [(B b1 #[I 0, .string (bs []), I 0, I 0] 41)]) ?_ ?_
   ·
    refine wq (wr (mv rfl (mv rfl (wp (G.lenb T.str9 rfl) rfl (wp (G.lss rfl rfl rfl) rfl (wn (we ?_)))))));rcases io hF with ⟨h63, hF⟩ | ⟨h63, hF⟩
    ·
     refine ct rfl (dt h63) (wr (mv rfl (mv rfl ?_)));obtain ⟨c64, hc65, hF⟩ := bo hF;refine wp (G.idxb T.str9 rfl rfl hc65) rfl ?_;obtain ⟨t66, hc67, hF⟩ := bo hF;refine wc T.call82 (ec rfl en) rfl ?_;refine (rf_digit_calls q55 ((c64).toNat : Int) hc67).mono ?_;rintro _ w68 ⟨rfl, T69⟩;have S70 := scT T69 S54;refine ⟨_, rfl, ?_⟩;refine av rfl (wn ?_);refine wx _ ?_ ⟨q55, t66, rfl, hF, S70⟩;exact ⟨rfl, rfl, rfl, rfl, rfl, rfl, rfl, trivial⟩
    ·
     refine cf rfl (df h63) (wsk ?_);refine wx _ ?_ ⟨q55, false, rfl, hF, S54⟩;exact ⟨rfl, rfl, rfl, rfl, rfl, rfl, rfl, trivial⟩
   ·
    rintro _ w59 ⟨q61, b58, rfl, hF, S60⟩;unfold rf_one.j3 at hF;refine wq (wq (wr (mv rfl (wn (we ?_)))));rcases io hF with ⟨h71, hF⟩ | ⟨h71, hF⟩
    ·
     refine ct rfl h71 (wq (wr (mv rfl (mv rfl ?_))));obtain ⟨t72, hc73, hF⟩ := bo hF;refine wc T.call80 (ec rfl (ec rfl en)) rfl ?_;refine (rf_run_calls q61 a0 x52 hc73).mono ?_;rintro _ w74 ⟨rfl, T75⟩;have S76 := scT T75 S60;refine ⟨_, rfl, ?_⟩;refine av rfl (wn (we (wq (wr (mv rfl (mv rfl (mv rfl ?_)))))));obtain ⟨m77, hc78, hF⟩ := bo hF;refine wp (G.cutb_lh T.str9 rfl rfl rfl hc78) rfl (mv rfl ?_);obtain ⟨t79, hc80, hF⟩ := bo hF;refine wc T.call83 (ec rfl (ec rfl en)) rfl ?_;refine (rf_number_calls q61 m77 (decide (((c7).toNat : Int) = 45)) hc80).mono ?_;rintro _ w81 ⟨rfl, T82⟩;have S83 := scT T82 S76;refine ⟨_, rfl, ?_⟩;refine mv rfl (wp (G.extract rfl rfl) rfl (wp (G.extract rfl rfl) rfl (av rfl (av rfl (wn (we (wg (l' := [(1, I a1), (4, (Pt b1)), (15, I t72), (16, I t79.1), (17, .bool t79.2)]) ⟨rfl, rfl, rfl, rfl, rfl, trivial⟩ (wq (wq (wr (mv rfl (wp (G.not rfl rfl) rfl (wn (we ?_))))))))))))));rcases io hF with ⟨h84, hF⟩ | ⟨h84, hF⟩
     ·
      refine cf rfl (show (!t79.2) = false from by rw [h84]; rfl) (wsk (we (wq (wr (mv rfl (mv rfl (wp (G.build (cells := #[I 3, .string (bs []), I t79.1, I a1]) (fs_ (fc rfl (fc rfl (fc rfl fn_)))) (by kernel_rfl)) rfl (mv rfl ?_))))))));obtain ⟨w85, E86, S87⟩ := sw S83 0 #[I 3, .string (bs []), I t79.1, I a1] T.size41_4 rfl rfl rfl rfl;refine wuu (E86 rfl rfl) ?_;refine av rfl (av rfl (wn (we (wg (l' := [(4, (Pt b1)), (5, I t72), (6, I 0)]) ⟨rfl, rfl, rfl, trivial⟩ (wrt (wtr ?_))))));obtain rfl := se hF;refine WEx.retc2 rfl rfl (cs := [I 3, .string (bs []), I t79.1, I a1]) T.agg41_4 (cb (S87.blk 0 rfl) rfl) rfl rfl ?_;exact ⟨rfl, sk S87⟩
     ·
      refine ct rfl (show (!t79.2) = true from by rw [(bf h84)]; rfl) (wq (wr (wp (G.build (cells := #[I 0, .string (bs []), I 0, I 0]) (fs_ (fn_)) (by kernel_rfl)) rfl ?_)));obtain ⟨w88, E89, S90⟩ := sw S83 0 #[I 0, .string (bs []), I 0, I 0] T.size41_4 rfl rfl rfl rfl;refine wuu (E89 rfl rfl) ?_;refine av rfl (av rfl (wn (we (wrt (wtr (wtr ?_))))));obtain rfl := se hF;refine WEx.retc2 rfl rfl (cs := [I 0, .string (bs []), I 0, I 0]) T.agg41_4 (cb (S90.blk 0 rfl) rfl) rfl rfl ?_;exact ⟨rfl, sk S90⟩
    ·
     refine cf rfl (bf h71) (wsk (we (wq (wr (mv rfl ?_)))));obtain ⟨t91, hc92, hF⟩ := bo hF;refine wc T.call84 (ec rfl en) rfl ?_;refine (rf_sign_calls q61 ((c7).toNat : Int) hc92).mono ?_;rintro _ w93 ⟨rfl, T94⟩;have S95 := scT T94 S60;refine ⟨_, rfl, ?_⟩;refine av rfl (wn (we (wq (wq (wr (mv rfl (wp (G.not rfl rfl) rfl (wn (we ?_)))))))));rcases io hF with ⟨h96, hF⟩ | ⟨h96, hF⟩
     ·
      refine cf rfl (show (!t91) = false from by rw [h96]; rfl) (wsk (we (wg (l' := [(0, .string (bs a0)), (1, I a1), (4, (Pt b1))]) ⟨rfl, rfl, rfl, trivial⟩ (wq (wr (mv rfl (mv rfl (mv rfl (wp (G.add rfl rfl (r := (w64 (a1 + 1))) rfl) rfl ?_)))))))));obtain ⟨m97, hc98, hF⟩ := bo hF;refine wp (G.cutb_lh T.str9 rfl rfl rfl hc98) rfl (mv rfl (wp (G.build (cells := #[I 4, .string (bs m97), I 0, I a1]) (fs_ (fc rfl (fc rfl (fc rfl fn_)))) (by kernel_rfl)) rfl (mv rfl (wp (G.add rfl rfl (r := (w64 (a1 + 1))) rfl) rfl ?_))));obtain ⟨w99, E100, S101⟩ := sw S95 0 #[I 4, .string (bs m97), I 0, I a1] T.size41_4 rfl rfl rfl rfl;refine wuu (E100 rfl rfl) ?_;refine av rfl (av rfl (wn (we (wg (l' := [(4, (Pt b1)), (5, I (w64 (a1 + 1))), (6, I 0)]) ⟨rfl, rfl, rfl, trivial⟩ (wrt ?_)))));obtain rfl := se hF;refine WEx.retc2 rfl rfl (cs := [I 4, .string (bs m97), I 0, I a1]) T.agg41_4 (cb (S101.blk 0 rfl) rfl) rfl rfl ?_;exact ⟨rfl, sk S101⟩
     ·
      refine ct rfl (show (!t91) = true from by rw [(bf h96)]; rfl) (wq (wr (wp (G.build (cells := #[I 0, .string (bs []), I 0, I 0]) (fs_ (fn_)) (by kernel_rfl)) rfl ?_)));obtain ⟨w102, E103, S104⟩ := sw S95 0 #[I 0, .string (bs []), I 0, I 0] T.size41_4 rfl rfl rfl rfl;refine wuu (E103 rfl rfl) ?_;refine av rfl (av rfl (wn (we (wg (l' := [(4, (Pt b1)), (5, I 0), (6, I 30)]) ⟨rfl, rfl, rfl, trivial⟩ (wrt (wtr ?_))))));obtain rfl := se hF;refine WEx.retc2 rfl rfl (cs := [I 0, .string (bs []), I 0, I 0]) T.agg41_4 (cb (S104.blk 0 rfl) rfl) rfl rfl ?_;exact ⟨rfl, sk S104⟩

mutual
def rf_Scan.j2 : Nat → List UInt8 → List Token → Int → Option ((List Token) × Int × Int)
  | 0, _, _, _ => none
  | k47 + 1, a0, l6, x9 => (Option.bind (rf_one k47 a0 x9) fun t48 => (if t48.2.2 = 0 then (Option.bind (cat l6 ([t48.1] : List Token)) fun l70 => (rf_Scan.l1 k47 a0 l70 t48.2.1)) else (some ([], t48.2.2, x9))))
def rf_Scan.j1 : Nat → List UInt8 → List Token → Int → UInt8 → Bool → Option ((List Token) × Int × Int)
  | 0, _, _, _, _, _ => none
  | k28 + 1, a0, l6, x9, c18, b20 => (if b20 = true then (rf_Scan.l1 k28 a0 l6 (w64 (x9 + 1))) else (if ((c18).toNat : Int) = 47 then (if (w64 (x9 + 1)) < (a0.length : Int) then (Option.bind (idx a0 (w64 (x9 + 1))) fun c36 => (if ((c36).toNat : Int) = 42 then (Option.bind (rf_comment k28 a0 x9) fun t39 => (if t39 = 0 then (some ([], 33, x9)) else (rf_Scan.l1 k28 a0 l6 t39))) else (rf_Scan.j2 k28 a0 l6 x9))) else (rf_Scan.j2 k28 a0 l6 x9)) else (rf_Scan.j2 k28 a0 l6 x9)))
def rf_Scan.l1 : Nat → List UInt8 → List Token → Int → Option ((List Token) × Int × Int)
  | 0, _, _, _ => none
  | k12 + 1, a0, l6, x9 => (if x9 < (a0.length : Int) then (Option.bind (idx a0 x9) fun c18 => (if ((c18).toNat : Int) = 32 then (rf_Scan.j1 k12 a0 l6 x9 c18 true) else (if ((c18).toNat : Int) = 9 then (rf_Scan.j1 k12 a0 l6 x9 c18 true) else (if ((c18).toNat : Int) = 10 then (rf_Scan.j1 k12 a0 l6 x9 c18 true) else (rf_Scan.j1 k12 a0 l6 x9 c18 (decide (((c18).toNat : Int) = 13))))))) else (Option.bind (cat l6 ([(⟨5, [], 0, (a0.length : Int)⟩ : Token)] : List Token)) fun l90 => (some (l90, 0, 0))))
end
def rf_Scan (k : Nat) (a0 : List UInt8) : Option ((List Token) × Int × Int) := (if 16000 < (a0.length : Int) then (some ([], 34, 16000)) else (rf_Scan.l1 k a0 [] 0))
theorem rf_Scan_calls (k : Nat) (a0 : List UInt8) {w : World} {r_ : (List Token) × Int × Int} (hF : rf_Scan k a0 = some r_) :
    Calls TP 25 [.string (bs a0)].toArray w fun e w' => ∃ A0' : Option Addr, ∃ c0' : Nat, ∃ G0' : Grp, e = .returned (.tuple #[.slice A0' (r_.1).length c0', I r_.2.1, I r_.2.2]) ∧ SlO 41 Token.rp (.slice A0' (r_.1).length c0') (r_.1) G0' ∧ St w (KS []) w' [G0'] := by
 unfold rf_Scan at hF;have S := St.ofFalse (As := []) (St.init0 w);refine enter 83 [(0, .string (bs a0))] Tryz.func25 rfl rfl rfl rfl ?_;refine wq (wr (av rfl (av rfl (av rfl (wn (we (wq (wq (wr (mv rfl (wp (G.lenb T.str9 rfl) rfl (wp (G.gtr rfl rfl rfl) rfl (wn (we ?_))))))))))))));rcases io hF with ⟨h1, hF⟩ | ⟨h1, hF⟩
 ·
  refine ct rfl (dt h1) (wq (wr (av rfl (av rfl (av rfl (wn (we (wrt (wtr ?_)))))))));obtain rfl := se hF;refine WEx.ret3 rfl rfl rfl rfl ?_;have S2 := S.emp;exact ⟨none, 0, [], rfl, (sn 41 Token.rp), sk S2⟩
 ·
  refine cf rfl (df h1) (wsk (we (wq (wr (av rfl (wn (we (wq (wr (av rfl (wn (we (wq ?_)))))))))))));refine WCode.block ?_;have S14 := S.emp;refine wg (l' := [(0, .string (bs a0)), (5, .slice none 0 0), (6, I 0)]) ⟨rfl, rfl, rfl, trivial⟩ ?_;refine wl (fun n_ l_ w_ => ∃ A4 : Option Addr, ∃ c5 : Nat, ∃ l6 : List Token, ∃ G7 : Grp, ∃ x9 : Int, l_ = [(0, .string (bs a0)), (5, .slice A4 l6.length c5), (6, I x9)] ∧ rf_Scan.l1 n_ a0 l6 x9 = some r_ ∧ (SlO 41 Token.rp (.slice A4 l6.length c5) l6 G7) ∧ St w (KS []) w_ [G7]) k ⟨none, 0, [], [], 0, rfl, hF, (sn 41 Token.rp), S14⟩ ?_;rintro n13 _ w10 ⟨A4, c5, l6, G7, x9, rfl, hF, hO8, S11⟩;obtain _ | k12 := n13
  · exact nomatch (show (none : Option ((List Token) × Int × Int)) = some r_ from hF)
  rw [rf_Scan.l1] at hF;refine wq (wq (wr (mv rfl (mv rfl (wp (G.lenb T.str9 rfl) rfl (wp (G.lss rfl rfl rfl) rfl (wn (we ?_))))))));rcases io hF with ⟨h17, hF⟩ | ⟨h17, hF⟩
  ·
   refine ct rfl (dt h17) (wsk (we ?_));refine WCode.block ?_;refine wq (wr (mv rfl (mv rfl ?_)));obtain ⟨c18, hc19, hF⟩ := bo hF;refine wp (G.idxb T.str9 rfl rfl hc19) rfl (av rfl (wn (we (wq ?_))));refine wqs (fun l_ w_ => ∃ q23 : Nat, ∃ b20 : Bool, l_ = [(0, .string (bs a0)), (5, .slice A4 l6.length c5), (6, I x9), (7, .int .u8 ((c18).toNat : Int)), (35, .bool b20)] ∧ rf_Scan.j1 q23 a0 l6 x9 c18 b20 = some r_ ∧ q23 ≤ k12 ∧ St w (KS []) w_ [G7]) ?_ ?_
   ·
    refine wr (mv rfl (wp (G.eql rfl rfl rfl) rfl (mv rfl ?_)));rcases io hF with ⟨h25, hF⟩ | ⟨h25, hF⟩
    ·
     refine wof rfl (dt h25) rfl (wof rfl (dt h25) rfl (wp (G.pick_t (kb rfl (dt h25)) rfl) rfl (mv rfl ?_)));refine WOps.off rfl rfl rfl rfl ?_;refine WOps.off rfl rfl rfl rfl ?_;refine wp (G.pick_t rfl rfl) rfl (mv rfl ?_);refine WOps.off rfl rfl rfl rfl ?_;refine WOps.off rfl rfl rfl rfl ?_;refine wp (G.pick_t rfl rfl) rfl (wn ?_);refine wx _ ?_ ⟨k12, true, rfl, hF, (by omega), S11⟩;exact ⟨rfl, rfl, rfl, rfl, rfl, trivial⟩
    ·
     refine won rfl (df h25) (mv rfl (won rfl (df h25) (wp (G.eql rfl rfl rfl) rfl (wp (G.pick_f (kb rfl (df h25)) rfl) rfl (mv rfl ?_)))));rcases io hF with ⟨h26, hF⟩ | ⟨h26, hF⟩
     ·
      refine wof rfl (dt h26) rfl (wof rfl (dt h26) rfl (wp (G.pick_t (kb rfl (dt h26)) rfl) rfl (mv rfl ?_)));refine WOps.off rfl rfl rfl rfl ?_;refine WOps.off rfl rfl rfl rfl ?_;refine wp (G.pick_t rfl rfl) rfl (wn ?_);refine wx _ ?_ ⟨k12, true, rfl, hF, (by omega), S11⟩;exact ⟨rfl, rfl, rfl, rfl, rfl, trivial⟩
     ·
      refine won rfl (df h26) (mv rfl (won rfl (df h26) (wp (G.eql rfl rfl rfl) rfl (wp (G.pick_f (kb rfl (df h26)) rfl) rfl (mv rfl ?_)))));rcases io hF with ⟨h27, hF⟩ | ⟨h27, hF⟩
      ·
       refine wof rfl (dt h27) rfl (wof rfl (dt h27) rfl (wp (G.pick_t (kb rfl (dt h27)) rfl) rfl (wn ?_)));refine wx _ ?_ ⟨k12, true, rfl, hF, (by omega), S11⟩;exact ⟨rfl, rfl, rfl, rfl, rfl, trivial⟩
      ·
       refine won rfl (df h27) (mv rfl (won rfl (df h27) (wp (G.eql rfl rfl rfl) rfl (wp (G.pick_f (kb rfl (df h27)) rfl) rfl (wn ?_)))));refine wx _ ?_ ⟨k12, decide (((c18).toNat : Int) = 13), rfl, hF, (by omega), S11⟩;exact ⟨rfl, rfl, rfl, rfl, rfl, trivial⟩
   ·
    rintro _ w21 ⟨q23, b20, rfl, hF, hq24, S22⟩;obtain _ | k28 := q23
    · exact nomatch (show (none : Option ((List Token) × Int × Int)) = some r_ from hF)
    rw [rf_Scan.j1] at hF;rcases io hF with ⟨h29, hF⟩ | ⟨h29, hF⟩
    ·
     refine ct rfl h29 (wq (wr (mv rfl (wp (G.add rfl rfl (r := (w64 (x9 + 1))) rfl) rfl (av rfl (wn (we ?_)))))));refine WCode.exit ?_;refine WEx.then_exit ?_;refine WEx.in_exit ?_;refine wag _ _ (by omega) ?_ ⟨A4, c5, l6, G7, w64 (x9 + 1), rfl, hF, hO8, S22⟩;exact ⟨rfl, rfl, rfl, trivial⟩
    ·
     refine cf rfl (bf h29) (wsk (we ?_));refine wqs (fun l_ w_ => ∃ q32 : Nat, l_ = [(0, .string (bs a0)), (5, .slice A4 l6.length c5), (6, I x9)] ∧ rf_Scan.j2 q32 a0 l6 x9 = some r_ ∧ q32 ≤ k28 ∧ St w (KS []) w_ [G7]) ?_ ?_
     ·
      refine wq (wr (mv rfl (wp (G.eql rfl rfl rfl) rfl (mv rfl ?_))));rcases io hF with ⟨h34, hF⟩ | ⟨h34, hF⟩
      ·
       refine won rfl (dt h34) (mv rfl (won rfl (dt h34) (wp (G.add rfl rfl (r := (w64 (x9 + 1))) rfl) rfl (won rfl (dt h34) (mv rfl (won rfl (dt h34) (wp (G.lenb T.str9 rfl) rfl (won rfl (dt h34) (wp (G.lss rfl rfl rfl) rfl (wp (G.pick_t (kb rfl (dt h34)) rfl) rfl (mv rfl ?_)))))))))));rcases io hF with ⟨h35, hF⟩ | ⟨h35, hF⟩
       ·
        refine won rfl (dt h35) (mv rfl (won rfl (dt h35) (mv rfl (won rfl (dt h35) (wp (G.add rfl rfl (r := (w64 (x9 + 1))) rfl) rfl (won rfl (dt h35) ?_))))));obtain ⟨c36, hc37, hF⟩ := bo hF;refine wp (G.idxb T.str9 rfl rfl hc37) rfl (won rfl (dt h35) (wp (G.eql rfl rfl rfl) rfl (wp (G.pick_t (kb rfl (dt h35)) rfl) rfl (wn (we ?_)))));rcases io hF with ⟨h38, hF⟩ | ⟨h38, hF⟩
        ·
         refine ct rfl (dt h38) (wq (wr (mv rfl (mv rfl ?_))));obtain ⟨t39, hc40, hF⟩ := bo hF;refine wc T.call40 (ec rfl (ec rfl en)) rfl ?_;refine (rf_comment_calls k28 a0 x9 hc40).mono ?_;rintro _ w41 ⟨rfl, T42⟩;have S43 := scT T42 S22;refine ⟨_, rfl, ?_⟩;refine av rfl (wn (we (wg (l' := [(0, .string (bs a0)), (5, .slice A4 l6.length c5), (6, I x9), (8, I t39), (41, I x9), (42, I (w64 (x9 + 1))), (43, .string (bs a0)), (44, I (a0.length : Int)), (45, .bool (decide ((w64 (x9 + 1)) < (a0.length : Int)))), (48, .string (bs a0)), (49, I x9), (50, I (w64 (x9 + 1))), (51, .int .u8 ((c36).toNat : Int)), (52, .bool (decide (((c36).toNat : Int) = 42)))]) ⟨rfl, rfl, rfl, rfl, rfl, rfl, rfl, rfl, rfl, rfl, rfl, rfl, rfl, rfl, trivial⟩ (wq (wq (wr (mv rfl (wp (G.eql rfl rfl rfl) rfl (wn (we ?_))))))))));rcases io hF with ⟨h44, hF⟩ | ⟨h44, hF⟩
         ·
          refine ct rfl (dt h44) (wq (wr (mv rfl (av rfl (av rfl (av rfl (wn (we (wg (l' := [(2, .slice none 0 0), (3, I 33), (4, I x9)]) ⟨rfl, rfl, rfl, trivial⟩ (wrt (wtr (wtr ?_))))))))))));refine WEx.in_ret ?_;refine wtr ?_;refine WEx.in_ret ?_;refine wtr ?_;obtain rfl := se hF;refine WEx.ret3 rfl rfl rfl rfl ?_;have S45 := S43.emp;exact ⟨none, 0, [], rfl, (sn 41 Token.rp), sk S45⟩
         ·
          refine cf rfl (df h44) (wsk (we (wq (wr (mv rfl (av rfl (wn (we ?_))))))));refine WCode.exit ?_;refine WEx.then_exit ?_;refine WEx.in_exit ?_;refine wag _ _ (by omega) ?_ ⟨A4, c5, l6, G7, t39, rfl, hF, hO8, S43⟩;exact ⟨rfl, rfl, rfl, trivial⟩
        ·
         refine cf rfl (df h38) (wsk ?_);refine wx _ ?_ ⟨k28, rfl, hF, (by omega), S22⟩;exact ⟨rfl, rfl, rfl, trivial⟩
       ·
        refine wof rfl (df h35) rfl (wof rfl (df h35) rfl (wof rfl (df h35) rfl (wof rfl (df h35) rfl (wof rfl (df h35) rfl (wp (G.pick_f (kb rfl (df h35)) rfl) rfl (wn (we ?_)))))));refine WCode.cond_f rfl ?_;refine wsk ?_;refine wx _ ?_ ⟨k28, rfl, hF, (by omega), S22⟩;exact ⟨rfl, rfl, rfl, trivial⟩
      ·
       refine wof rfl (df h34) rfl (wof rfl (df h34) rfl (wof rfl (df h34) rfl (wof rfl (df h34) rfl (wof rfl (df h34) rfl (wp (G.pick_f (kb rfl (df h34)) rfl) rfl (mv rfl ?_))))));refine WOps.off rfl rfl rfl rfl ?_;refine WOps.off rfl rfl rfl rfl ?_;refine WOps.off rfl rfl rfl rfl ?_;refine WOps.off rfl rfl rfl rfl ?_;refine WOps.off rfl rfl rfl rfl ?_;refine wp (G.pick_f rfl rfl) rfl (wn (we ?_));refine WCode.cond_f rfl ?_;refine wsk ?_;refine wx _ ?_ ⟨k28, rfl, hF, (by omega), S22⟩;exact ⟨rfl, rfl, rfl, trivial⟩
     ·
      rintro _ w30 ⟨q32, rfl, hF, hq33, S31⟩;obtain _ | k47 := q32
      · exact nomatch (show (none : Option ((List Token) × Int × Int)) = some r_ from hF)
      rw [rf_Scan.j2] at hF;refine wq (wr (mv rfl (mv rfl ?_)));obtain ⟨t48, hc49, hF⟩ := bo hF;refine wc T.call41 (ec rfl (ec rfl en)) rfl ?_;refine (rf_one_calls k47 a0 x9 hc49).mono ?_;rintro _ w50 ⟨rfl, T51⟩;have S52 := scT T51 S31;refine ⟨_, rfl, ?_⟩;refine mv rfl (wp (G.extract rfl rfl) rfl (wp (G.extract rfl rfl) rfl (wp (G.extract rfl rfl) rfl ?_)));obtain ⟨b53, w54, E55, S56, X57, L58⟩ := sv S52 (z := .agg #[I 0, .string (bs []), I 0, I 0]) T.zero41;refine wee E55 rfl ?_;obtain ⟨w59, E60, S61⟩ := sw S56 0 (ka t48.1) T.size41_4 rfl rfl rfl rfl;refine wuu (E60 rfl rfl) ?_;refine av rfl (av rfl (wn (we (wq (wq (wr (mv rfl (wp (G.neq rfl rfl rfl) rfl (wn (we ?_))))))))));rcases io hF with ⟨h62, hF⟩ | ⟨h62, hF⟩
      ·
       refine WCode.cond_f (kb rfl (show (!(decide (t48.2.2 = 0))) = false from by rw [(dt h62)]; rfl)) ?_;refine wsk (we (wg (l' := [(0, .string (bs a0)), (5, .slice A4 l6.length c5), (9, (Pt b53)), (10, I t48.2.1)]) ⟨rfl, rfl, rfl, rfl, trivial⟩ (wq (wr (mv rfl ?_)))));refine wrr (G.loada T.agg41_4 rfl (cs := (kl t48.1)) (cb (S61.blk 0 rfl) rfl)) rfl ?_;obtain ⟨b63, w65, E66, S67, X68, L69⟩ := sl S61 (P := TP) (t := 37) (e := 41) (n := 1) (vs := [(0, .agg (ka t48.1))]) (cs := (ka t48.1)) (by kernel_rfl);refine wee (E66 (fc rfl fn_)) rfl ?_;obtain ⟨l70, hc71, hF⟩ := bo hF;have S72 := S67.front 2 rfl;obtain ⟨A73, c74, G75, w76, E77, hO78, S79, hk80⟩ := St.appP (P := TP) (r := Token.rp) (M := ([t48.1] : List Token)) S72 T.elt37 rfl hO8 (Rd.of_blk (S72.blk 1 rfl) (n := 1) (sz := 4) rfl) ⟨_, _, [], [], rfl, rfl, ⟨rfl, rfl⟩, ⟨rfl, rfl⟩⟩ rfl hc71;refine wee (E77 rfl rfl) rfl ?_;refine av rfl (wn (we (wr (mv rfl (av rfl (wn (win ?_)))))));refine wag _ _ (by omega) ?_ ⟨A73, c74, l70, G75, t48.2.1, rfl, hF, hO78, (sk S79)⟩;exact ⟨rfl, rfl, rfl, trivial⟩
      ·
       refine WCode.cond_t (kb rfl (show (!(decide (t48.2.2 = 0))) = true from by rw [(df h62)]; rfl)) ?_;refine wq (wr (mv rfl (mv rfl (av rfl (av rfl (av rfl (wn (we (wg (l' := [(2, .slice none 0 0), (3, I t48.2.2), (4, I x9)]) ⟨rfl, rfl, rfl, trivial⟩ (wrt (wtr ?_)))))))))));refine WEx.in_ret ?_;refine wtr ?_;refine WEx.in_ret ?_;refine wtr ?_;obtain rfl := se hF;refine WEx.ret3 rfl rfl rfl rfl ?_;have S82 := S61.emp;exact ⟨none, 0, [], rfl, (sn 41 Token.rp), sk S82⟩
  ·
   refine cf rfl (df h17) ?_;refine WCode.exit ?_;refine WEx.then_exit ?_;refine WEx.then_exit ?_;refine WEx.in_exit ?_;refine we (wq (wr (mv rfl (mv rfl (wp (G.lenb T.str9 rfl) rfl (wp (G.build (cells := #[I 5, .string (bs []), I 0, I (a0.length : Int)]) (fs_ (fc rfl (fc rfl fn_))) (by kernel_rfl)) rfl ?_))))));obtain ⟨b84, w85, E86, S87, X88, L89⟩ := sl S11 (P := TP) (t := 37) (e := 41) (n := 1) (vs := [(0, .agg #[I 5, .string (bs []), I 0, I (a0.length : Int)])]) (cs := #[I 5, .string (bs []), I 0, I (a0.length : Int)]) (by kernel_rfl);refine wee (E86 (fc rfl fn_)) rfl ?_;obtain ⟨l90, hc91, hF⟩ := bo hF;have S92 := S87.front 1 rfl;obtain ⟨A93, c94, G95, w96, E97, hO98, S99, hk100⟩ := St.appP (P := TP) (r := Token.rp) (M := ([(⟨5, [], 0, (a0.length : Int)⟩ : Token)] : List Token)) S92 T.elt37 rfl hO8 (Rd.of_blk (S92.blk 1 rfl) (n := 1) (sz := 4) rfl) ⟨_, _, [], [], rfl, rfl, ⟨rfl, rfl⟩, ⟨rfl, rfl⟩⟩ rfl hc91;refine wee (E97 rfl rfl) rfl ?_;refine av rfl (av rfl (av rfl (wn (we (wg (l' := [(2, .slice A93 l90.length c94), (3, I 0), (4, I 0)]) ⟨rfl, rfl, rfl, trivial⟩ (wrt ?_))))));obtain rfl := se hF;refine WEx.ret3 rfl rfl rfl rfl ?_;exact ⟨A93, c94, G95, rfl, hO98, sk S99⟩

end Go.Proofs.YtnhifhlbelogcaaGreatDoor
