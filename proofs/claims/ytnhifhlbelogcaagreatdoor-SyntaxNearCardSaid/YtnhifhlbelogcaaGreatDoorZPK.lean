/- Functions and their walks (printed by auto.py over the engine). -/
import Derived.Test.YtnhifhlbelogcaaGreatDoorZAb
import Derived.Test.YtnhifhlbelogcaaGreatDoorProg
import Derived.Test.YtnhifhlbelogcaaGreatDoorZPJ
set_option maxRecDepth 100000
set_option maxHeartbeats 1000000
namespace Go.Proofs.YtnhifhlbelogcaaGreatDoor
open Go Go.Eng
set_option linter.unusedSimpArgs false
set_option linter.unusedVariables false





def ps_kid (k : Nat) (a0 : Tree) (a1 : Int) : Option Tree := (if a1 < (a0.Kids.length : Int) then (Option.bind (idx a0.Kids a1) fun x14 => (some x14)) else (some (⟨0, [], 0, 0, []⟩ : Tree)))
theorem ps_kid_calls (k : Nat) (a0 : Tree) {A0_1 : Option Addr} {c0_1 : Nat} {F0_1 : Nat → Prop} (a1 : Int) {w : World} (hR0_1 : SlR Tree.rp w F0_1 A0_1 c0_1 a0.Kids) (hF0_1 : ∀ b, F0_1 b → NK w [] b) {r_ : Tree} (hF : ps_kid k a0 a1 = some r_) :
    Calls TP 60 [.agg (ta a0 A0_1 c0_1), I a1].toArray w fun e w' => ∃ A0_1' : Option Addr, ∃ c0_1' : Nat, e = .returned (.agg (ta r_ A0_1' c0_1')) ∧ SlR Tree.rp w' F0_1 A0_1' c0_1' (r_.Kids) ∧ St w (KS []) w' [] := by
 unfold ps_kid at hF;have S := St.ofFalse (As := []) (St.init0 w);refine enter 16 [(0, .agg (ta a0 A0_1 c0_1)), (1, I a1)] Tryz.func60 rfl rfl rfl rfl ?_;refine wq (wr ?_);obtain ⟨b1, w2, E3, S4, X5, L6⟩ := sbx S TP 29 (.agg (ta a0 A0_1 c0_1));refine wee (E3 rfl) rfl ?_;obtain ⟨b7, w8, E9, S10, X11, L12⟩ := sv S4 (z := .agg tz) T.zero29;refine wee E9 rfl ?_;refine wn (we (wq (wq (wr (mv rfl (wp (G.field T.fld29_4 rfl (show 0 + 4 = 4 from rfl)) rfl ?_))))));refine wrr (G.load1 T.one27 rfl (cell_blk (S10.blk 1 rfl) rfl)) rfl ?_;refine wp (G.len T.el27 rfl) rfl (wp (G.lss rfl rfl rfl) rfl (wn (we ?_)));rcases io hF with ⟨h13, hF⟩ | ⟨h13, hF⟩
 ·
  refine ct rfl (dt h13) (wq (wr (wp (G.field T.fld29_4 rfl (show 0 + 4 = 4 from rfl)) rfl ?_)));refine wrr (G.load1 T.one27 rfl (cell_blk (S10.blk 1 rfl) rfl)) rfl ?_;refine mv rfl ?_;obtain ⟨x14, hc15, hF⟩ := bo hF;obtain ⟨j16, ej17, hj18, hl19⟩ := idx_spec hc15;obtain ⟨b20, o21, cs22, eA23, hf24, hc25, hr26⟩ := sat hR0_1 hj18;obtain ⟨A27, c28, hq30, hR29⟩ := (Tree.rd_iff.1 hr26);subst hq30;have hc25 := hc25.move ((S10.keepF hF0_1) _ hf24);change cellsAt _ _ (o21 + j16 * 5) (tl x14 A27 c28) at hc25;refine wp (G.idx T.el27 rfl eA23 rfl ej17 hl19) rfl ?_;refine wrr (G.loada T.agg29_5 rfl (cs := (tl x14 A27 c28)) hc25) rfl ?_;obtain ⟨w31, E32, S33⟩ := sw S10 0 (ta x14 A27 c28) T.size29_5 rfl rfl rfl rfl;refine wuu (E32 rfl rfl) ?_;refine wn (we (wg (l' := [(4, (Pt b7))]) ⟨rfl, trivial⟩ (wrt (wtr ?_))));obtain rfl := se hF;refine wrc rfl rfl (cs := (tl x14 A27 c28)) T.agg29_5 (cb (S33.blk 0 rfl) rfl) ?_;exact ⟨A27, c28, rfl, (hR29.ext (S33.keepF hF0_1)), sk S33⟩
 ·
  refine cf rfl (df h13) (wsk (we (wq (wr (wp (G.build (cells := tz) (fs_ (fn_)) (by kernel_rfl)) rfl ?_)))));obtain ⟨w34, E35, S36⟩ := sw S10 0 tz T.size29_5 rfl rfl rfl rfl;refine wuu (E35 rfl rfl) ?_;refine wn (we (wrt ?_));obtain rfl := se hF;refine wrc rfl rfl (cs := tzl) T.agg29_5 (cb (S36.blk 0 rfl) rfl) ?_;exact ⟨none, 0, rfl, (SlR.nil _ _ _ _), sk S36⟩

def ps_inRun (k : Nat) (a0 : Int) : Option Bool := (if 97 ≤ a0 then (if a0 ≤ 122 then (some true) else (if 65 ≤ a0 then (if a0 ≤ 90 then (some true) else (if 48 ≤ a0 then (if a0 ≤ 57 then (some true) else (some (decide (a0 = 95)))) else (some (decide (a0 = 95))))) else (if 48 ≤ a0 then (if a0 ≤ 57 then (some true) else (some (decide (a0 = 95)))) else (some (decide (a0 = 95)))))) else (if 65 ≤ a0 then (if a0 ≤ 90 then (some true) else (if 48 ≤ a0 then (if a0 ≤ 57 then (some true) else (some (decide (a0 = 95)))) else (some (decide (a0 = 95))))) else (if 48 ≤ a0 then (if a0 ≤ 57 then (some true) else (some (decide (a0 = 95)))) else (some (decide (a0 = 95))))))
theorem ps_inRun_calls (k : Nat) (a0 : Int) {w : World} {r_ : Bool} (hF : ps_inRun k a0 = some r_) :
    Calls TP 101 [.int .u8 a0].toArray w fun e w' => e = .returned (.bool r_) ∧ St w (KS []) w' [] := by
 unfold ps_inRun at hF;have S := St.ofFalse (As := []) (St.init0 w);refine enter 29 [(0, .int .u8 a0)] Tryz.func101 rfl rfl rfl rfl ?_;refine wq (wr (av rfl (wn (we (wq (wr (mv rfl (wp (G.geq rfl rfl rfl) rfl (mv rfl ?_)))))))));rcases io hF with ⟨h1, hF⟩ | ⟨h1, hF⟩
 ·
  refine won rfl (dt h1) (mv rfl (won rfl (dt h1) (wp (G.leq rfl rfl rfl) rfl (wp (G.pick_t (kb rfl (dt h1)) rfl) rfl (mv rfl ?_)))));rcases io hF with ⟨h2, hF⟩ | ⟨h2, hF⟩
  ·
   refine wof rfl (dt h2) rfl (wof rfl (dt h2) rfl (wof rfl (dt h2) rfl ?_));refine WOps.off rfl rfl rfl rfl ?_;refine WOps.off rfl rfl rfl rfl ?_;refine wof rfl (dt h2) rfl (wp (G.pick_t (kb rfl (dt h2)) rfl) rfl (mv rfl ?_));refine WOps.off rfl rfl rfl rfl ?_;refine WOps.off rfl rfl rfl rfl ?_;refine WOps.off rfl rfl rfl rfl ?_;refine WOps.off rfl rfl rfl rfl ?_;refine WOps.off rfl rfl rfl rfl ?_;refine WOps.off rfl rfl rfl rfl ?_;refine wp (G.pick_t rfl rfl) rfl (mv rfl ?_);refine WOps.off rfl rfl rfl rfl ?_;refine WOps.off rfl rfl rfl rfl ?_;refine wp (G.pick_t rfl rfl) rfl (av rfl (wn (we (wg (l' := [(2, .bool true)]) ⟨rfl, trivial⟩ (wrt ?_)))));obtain rfl := se hF;refine WEx.ret1 rfl rfl ?_;exact ⟨rfl, sk (As := []) S⟩
  ·
   refine won rfl (df h2) (mv rfl (won rfl (df h2) (wp (G.geq rfl rfl rfl) rfl (won rfl (df h2) (mv rfl ?_)))));rcases io hF with ⟨h3, hF⟩ | ⟨h3, hF⟩
   ·
    refine won rfl (dt h3) (mv rfl (won rfl (dt h3) (wp (G.leq rfl rfl rfl) rfl (won rfl (df h2) (wp (G.pick_t (kb rfl (dt h3)) rfl) rfl (wp (G.pick_f (kb rfl (df h2)) rfl) rfl (mv rfl ?_)))))));rcases io hF with ⟨h4, hF⟩ | ⟨h4, hF⟩
    ·
     refine wof rfl (dt h4) rfl (wof rfl (dt h4) rfl (wof rfl (dt h4) rfl ?_));refine WOps.off rfl rfl rfl rfl ?_;refine WOps.off rfl rfl rfl rfl ?_;refine wof rfl (dt h4) rfl (wp (G.pick_t (kb rfl (dt h4)) rfl) rfl (mv rfl ?_));refine WOps.off rfl rfl rfl rfl ?_;refine WOps.off rfl rfl rfl rfl ?_;refine wp (G.pick_t rfl rfl) rfl (av rfl (wn (we (wg (l' := [(2, .bool true)]) ⟨rfl, trivial⟩ (wrt ?_)))));obtain rfl := se hF;refine WEx.ret1 rfl rfl ?_;exact ⟨rfl, sk (As := []) S⟩
    ·
     refine won rfl (df h4) (mv rfl (won rfl (df h4) (wp (G.geq rfl rfl rfl) rfl (won rfl (df h4) (mv rfl ?_)))));rcases io hF with ⟨h5, hF⟩ | ⟨h5, hF⟩
     ·
      refine won rfl (dt h5) (mv rfl (won rfl (dt h5) (wp (G.leq rfl rfl rfl) rfl (won rfl (df h4) (wp (G.pick_t (kb rfl (dt h5)) rfl) rfl (wp (G.pick_f (kb rfl (df h4)) rfl) rfl (mv rfl ?_)))))));rcases io hF with ⟨h6, hF⟩ | ⟨h6, hF⟩
      ·
       refine wof rfl (dt h6) rfl (wof rfl (dt h6) rfl (wp (G.pick_t (kb rfl (dt h6)) rfl) rfl (av rfl (wn (we (wg (l' := [(2, .bool true)]) ⟨rfl, trivial⟩ (wrt ?_)))))));obtain rfl := se hF;refine WEx.ret1 rfl rfl ?_;exact ⟨rfl, sk (As := []) S⟩
      ·
       refine won rfl (df h6) (mv rfl (won rfl (df h6) (wp (G.eql rfl rfl rfl) rfl (wp (G.pick_f (kb rfl (df h6)) rfl) rfl (av rfl (wn (we (wg (l' := [(2, .bool (decide (a0 = 95)))]) ⟨rfl, trivial⟩ (wrt ?_)))))))));obtain rfl := se hF;refine WEx.ret1 rfl rfl ?_;exact ⟨rfl, sk (As := []) S⟩
     ·
      refine wof rfl (df h5) rfl (wof rfl (df h5) rfl (won rfl (df h4) (wp (G.pick_f (kb rfl (df h5)) rfl) rfl (wp (G.pick_f (kb rfl (df h4)) rfl) rfl (mv rfl ?_)))));refine WOps.on rfl rfl ?_;refine mv rfl ?_;refine WOps.on rfl rfl ?_;refine wp (G.eql rfl rfl rfl) rfl (wp (G.pick_f rfl rfl) rfl (av rfl (wn (we (wg (l' := [(2, .bool (decide (a0 = 95)))]) ⟨rfl, trivial⟩ (wrt ?_))))));obtain rfl := se hF;refine WEx.ret1 rfl rfl ?_;exact ⟨rfl, sk (As := []) S⟩
   ·
    refine wof rfl (df h3) rfl (wof rfl (df h3) rfl (won rfl (df h2) (wp (G.pick_f (kb rfl (df h3)) rfl) rfl (wp (G.pick_f (kb rfl (df h2)) rfl) rfl (mv rfl ?_)))));refine WOps.on rfl rfl ?_;refine mv rfl ?_;refine WOps.on rfl rfl ?_;refine wp (G.geq rfl rfl rfl) rfl ?_;refine WOps.on rfl rfl ?_;refine mv rfl ?_;rcases io hF with ⟨h7, hF⟩ | ⟨h7, hF⟩
    ·
     refine won rfl (dt h7) (mv rfl (won rfl (dt h7) (wp (G.leq rfl rfl rfl) rfl ?_)));refine WOps.on rfl rfl ?_;refine wp (G.pick_t (kb rfl (dt h7)) rfl) rfl (wp (G.pick_f rfl rfl) rfl (mv rfl ?_));rcases io hF with ⟨h8, hF⟩ | ⟨h8, hF⟩
     ·
      refine wof rfl (dt h8) rfl (wof rfl (dt h8) rfl (wp (G.pick_t (kb rfl (dt h8)) rfl) rfl (av rfl (wn (we (wg (l' := [(2, .bool true)]) ⟨rfl, trivial⟩ (wrt ?_)))))));obtain rfl := se hF;refine WEx.ret1 rfl rfl ?_;exact ⟨rfl, sk (As := []) S⟩
     ·
      refine won rfl (df h8) (mv rfl (won rfl (df h8) (wp (G.eql rfl rfl rfl) rfl (wp (G.pick_f (kb rfl (df h8)) rfl) rfl (av rfl (wn (we (wg (l' := [(2, .bool (decide (a0 = 95)))]) ⟨rfl, trivial⟩ (wrt ?_)))))))));obtain rfl := se hF;refine WEx.ret1 rfl rfl ?_;exact ⟨rfl, sk (As := []) S⟩
    ·
     refine wof rfl (df h7) rfl (wof rfl (df h7) rfl ?_);refine WOps.on rfl rfl ?_;refine wp (G.pick_f (kb rfl (df h7)) rfl) rfl (wp (G.pick_f rfl rfl) rfl (mv rfl ?_));refine WOps.on rfl rfl ?_;refine mv rfl ?_;refine WOps.on rfl rfl ?_;refine wp (G.eql rfl rfl rfl) rfl (wp (G.pick_f rfl rfl) rfl (av rfl (wn (we (wg (l' := [(2, .bool (decide (a0 = 95)))]) ⟨rfl, trivial⟩ (wrt ?_))))));obtain rfl := se hF;refine WEx.ret1 rfl rfl ?_;exact ⟨rfl, sk (As := []) S⟩
 ·
  refine wof rfl (df h1) rfl (wof rfl (df h1) rfl (wp (G.pick_f (kb rfl (df h1)) rfl) rfl (mv rfl ?_)));refine WOps.on rfl rfl ?_;refine mv rfl ?_;refine WOps.on rfl rfl ?_;refine wp (G.geq rfl rfl rfl) rfl ?_;refine WOps.on rfl rfl ?_;refine mv rfl ?_;rcases io hF with ⟨h9, hF⟩ | ⟨h9, hF⟩
  ·
   refine won rfl (dt h9) (mv rfl (won rfl (dt h9) (wp (G.leq rfl rfl rfl) rfl ?_)));refine WOps.on rfl rfl ?_;refine wp (G.pick_t (kb rfl (dt h9)) rfl) rfl (wp (G.pick_f rfl rfl) rfl (mv rfl ?_));rcases io hF with ⟨h10, hF⟩ | ⟨h10, hF⟩
   ·
    refine wof rfl (dt h10) rfl (wof rfl (dt h10) rfl (wof rfl (dt h10) rfl ?_));refine WOps.off rfl rfl rfl rfl ?_;refine WOps.off rfl rfl rfl rfl ?_;refine wof rfl (dt h10) rfl (wp (G.pick_t (kb rfl (dt h10)) rfl) rfl (mv rfl ?_));refine WOps.off rfl rfl rfl rfl ?_;refine WOps.off rfl rfl rfl rfl ?_;refine wp (G.pick_t rfl rfl) rfl (av rfl (wn (we (wg (l' := [(2, .bool true)]) ⟨rfl, trivial⟩ (wrt ?_)))));obtain rfl := se hF;refine WEx.ret1 rfl rfl ?_;exact ⟨rfl, sk (As := []) S⟩
   ·
    refine won rfl (df h10) (mv rfl (won rfl (df h10) (wp (G.geq rfl rfl rfl) rfl (won rfl (df h10) (mv rfl ?_)))));rcases io hF with ⟨h11, hF⟩ | ⟨h11, hF⟩
    ·
     refine won rfl (dt h11) (mv rfl (won rfl (dt h11) (wp (G.leq rfl rfl rfl) rfl (won rfl (df h10) (wp (G.pick_t (kb rfl (dt h11)) rfl) rfl (wp (G.pick_f (kb rfl (df h10)) rfl) rfl (mv rfl ?_)))))));rcases io hF with ⟨h12, hF⟩ | ⟨h12, hF⟩
     ·
      refine wof rfl (dt h12) rfl (wof rfl (dt h12) rfl (wp (G.pick_t (kb rfl (dt h12)) rfl) rfl (av rfl (wn (we (wg (l' := [(2, .bool true)]) ⟨rfl, trivial⟩ (wrt ?_)))))));obtain rfl := se hF;refine WEx.ret1 rfl rfl ?_;exact ⟨rfl, sk (As := []) S⟩
     ·
      refine won rfl (df h12) (mv rfl (won rfl (df h12) (wp (G.eql rfl rfl rfl) rfl (wp (G.pick_f (kb rfl (df h12)) rfl) rfl (av rfl (wn (we (wg (l' := [(2, .bool (decide (a0 = 95)))]) ⟨rfl, trivial⟩ (wrt ?_)))))))));obtain rfl := se hF;refine WEx.ret1 rfl rfl ?_;exact ⟨rfl, sk (As := []) S⟩
    ·
     refine wof rfl (df h11) rfl (wof rfl (df h11) rfl (won rfl (df h10) (wp (G.pick_f (kb rfl (df h11)) rfl) rfl (wp (G.pick_f (kb rfl (df h10)) rfl) rfl (mv rfl ?_)))));refine WOps.on rfl rfl ?_;refine mv rfl ?_;refine WOps.on rfl rfl ?_;refine wp (G.eql rfl rfl rfl) rfl (wp (G.pick_f rfl rfl) rfl (av rfl (wn (we (wg (l' := [(2, .bool (decide (a0 = 95)))]) ⟨rfl, trivial⟩ (wrt ?_))))));obtain rfl := se hF;refine WEx.ret1 rfl rfl ?_;exact ⟨rfl, sk (As := []) S⟩
  ·
   refine wof rfl (df h9) rfl (wof rfl (df h9) rfl ?_);refine WOps.on rfl rfl ?_;refine wp (G.pick_f (kb rfl (df h9)) rfl) rfl (wp (G.pick_f rfl rfl) rfl (mv rfl ?_));refine WOps.on rfl rfl ?_;refine mv rfl ?_;refine WOps.on rfl rfl ?_;refine wp (G.geq rfl rfl rfl) rfl ?_;refine WOps.on rfl rfl ?_;refine mv rfl ?_;rcases io hF with ⟨h13, hF⟩ | ⟨h13, hF⟩
   ·
    refine won rfl (dt h13) (mv rfl (won rfl (dt h13) (wp (G.leq rfl rfl rfl) rfl ?_)));refine WOps.on rfl rfl ?_;refine wp (G.pick_t (kb rfl (dt h13)) rfl) rfl (wp (G.pick_f rfl rfl) rfl (mv rfl ?_));rcases io hF with ⟨h14, hF⟩ | ⟨h14, hF⟩
    ·
     refine wof rfl (dt h14) rfl (wof rfl (dt h14) rfl (wp (G.pick_t (kb rfl (dt h14)) rfl) rfl (av rfl (wn (we (wg (l' := [(2, .bool true)]) ⟨rfl, trivial⟩ (wrt ?_)))))));obtain rfl := se hF;refine WEx.ret1 rfl rfl ?_;exact ⟨rfl, sk (As := []) S⟩
    ·
     refine won rfl (df h14) (mv rfl (won rfl (df h14) (wp (G.eql rfl rfl rfl) rfl (wp (G.pick_f (kb rfl (df h14)) rfl) rfl (av rfl (wn (we (wg (l' := [(2, .bool (decide (a0 = 95)))]) ⟨rfl, trivial⟩ (wrt ?_)))))))));obtain rfl := se hF;refine WEx.ret1 rfl rfl ?_;exact ⟨rfl, sk (As := []) S⟩
   ·
    refine wof rfl (df h13) rfl (wof rfl (df h13) rfl ?_);refine WOps.on rfl rfl ?_;refine wp (G.pick_f (kb rfl (df h13)) rfl) rfl (wp (G.pick_f rfl rfl) rfl (mv rfl ?_));refine WOps.on rfl rfl ?_;refine mv rfl ?_;refine WOps.on rfl rfl ?_;refine wp (G.eql rfl rfl rfl) rfl (wp (G.pick_f rfl rfl) rfl (av rfl (wn (we (wg (l' := [(2, .bool (decide (a0 = 95)))]) ⟨rfl, trivial⟩ (wrt ?_))))));obtain rfl := se hF;refine WEx.ret1 rfl rfl ?_;exact ⟨rfl, sk (As := []) S⟩

def ps_plain (k : Nat) (a0 : Int) : Option (List (List UInt8)) := (if a0 = 13 then none else (if a0 = 18 then none else (if a0 = 19 then none else (if a0 = 20 then none else (if a0 = 21 then none else (if a0 = 22 then none else (if a0 = 23 then none else (if a0 = 24 then none else (if a0 = 25 then none else (if a0 = 26 then none else (some ([[63]] : List (List UInt8)))))))))))))
theorem ps_plain_calls (k : Nat) (a0 : Int) {w : World} {r_ : (List (List UInt8))} (hF : ps_plain k a0 = some r_) :
    Calls TP 103 [I a0].toArray w fun e w' => ∃ A0' : Option Addr, ∃ c0' : Nat, ∃ G0' : Grp, e = .returned (.slice A0' (r_).length c0') ∧ SlO 9 Rp.str (.slice A0' (r_).length c0') (r_) G0' ∧ St w (KS []) w' [G0'] := by
 unfold ps_plain at hF;have S := St.ofFalse (As := []) (St.init0 w);refine enter 35 [(0, I a0)] Tryz.func103 rfl rfl rfl rfl ?_;refine wq (wr (av rfl (wn (we (wq (wq (wr (mv rfl (wn (we ?_))))))))));refine WCode.block ?_;refine wq (wr (wp (G.eql rfl rfl rfl) rfl (av rfl (wn (we ?_)))));rcases io hF with ⟨h1, hF⟩ | ⟨h1, hF⟩
 ·
  exact nomatch (show (none : Option (List (List UInt8))) = some r_ from hF)
 ·
  refine cf rfl (df h1) (wq (wr (wp (G.eql rfl rfl rfl) rfl (av rfl (wn (we ?_))))));rcases io hF with ⟨h2, hF⟩ | ⟨h2, hF⟩
  ·
   exact nomatch (show (none : Option (List (List UInt8))) = some r_ from hF)
  ·
   refine cf rfl (df h2) (wq (wr (wp (G.eql rfl rfl rfl) rfl (av rfl (wn (we ?_))))));rcases io hF with ⟨h3, hF⟩ | ⟨h3, hF⟩
   ·
    exact nomatch (show (none : Option (List (List UInt8))) = some r_ from hF)
   ·
    refine cf rfl (df h3) (wq (wr (wp (G.eql rfl rfl rfl) rfl (av rfl (wn (we ?_))))));rcases io hF with ⟨h4, hF⟩ | ⟨h4, hF⟩
    ·
     exact nomatch (show (none : Option (List (List UInt8))) = some r_ from hF)
    ·
     refine cf rfl (df h4) (wq (wr (wp (G.eql rfl rfl rfl) rfl (av rfl (wn (we (wg (l' := [(3, I a0), (16, .bool (decide (a0 = 21)))]) ⟨rfl, rfl, trivial⟩ ?_)))))));rcases io hF with ⟨h5, hF⟩ | ⟨h5, hF⟩
     ·
      exact nomatch (show (none : Option (List (List UInt8))) = some r_ from hF)
     ·
      refine cf rfl (df h5) (wq (wr (wp (G.eql rfl rfl rfl) rfl (av rfl (wn (we ?_))))));rcases io hF with ⟨h6, hF⟩ | ⟨h6, hF⟩
      ·
       exact nomatch (show (none : Option (List (List UInt8))) = some r_ from hF)
      ·
       refine cf rfl (df h6) (wq (wr (wp (G.eql rfl rfl rfl) rfl (av rfl (wn (we ?_))))));rcases io hF with ⟨h7, hF⟩ | ⟨h7, hF⟩
       ·
        exact nomatch (show (none : Option (List (List UInt8))) = some r_ from hF)
       ·
        refine cf rfl (df h7) (wq (wr (wp (G.eql rfl rfl rfl) rfl (av rfl (wn (we ?_))))));rcases io hF with ⟨h8, hF⟩ | ⟨h8, hF⟩
        ·
         exact nomatch (show (none : Option (List (List UInt8))) = some r_ from hF)
        ·
         refine cf rfl (df h8) (wq (wr (wp (G.eql rfl rfl rfl) rfl (av rfl (wn (we ?_))))));rcases io hF with ⟨h9, hF⟩ | ⟨h9, hF⟩
         ·
          exact nomatch (show (none : Option (List (List UInt8))) = some r_ from hF)
         ·
          refine cf rfl (df h9) (wq (wr (wp (G.eql rfl rfl rfl) rfl (av rfl (wn (we (wg (l' := [(31, .bool (decide (a0 = 26)))]) ⟨rfl, trivial⟩ ?_)))))));rcases io hF with ⟨h10, hF⟩ | ⟨h10, hF⟩
          ·
           exact nomatch (show (none : Option (List (List UInt8))) = some r_ from hF)
          ·
           refine cf rfl (df h10) (wsk (win (we (wq (wr ?_)))));obtain ⟨b11, w12, E13, S14, X15, L16⟩ := sl S (P := TP) (t := 25) (e := 9) (n := 1) (vs := [(0, .string (bs [63]))]) (cs := (zs [[63]])) (by kernel_rfl);refine wee (E13 (fc rfl fn_)) rfl ?_;refine av rfl (wn (we (wrt ?_)));obtain rfl := se hF;refine WEx.ret1 rfl rfl ?_;have hO17 : SlO 9 Rp.str (.slice (some ⟨b11, 0, none⟩) ([[63]] : List (List UInt8)).length 1) ([[63]] : List (List UInt8)) ((B b11 (zs [[63]]) 9) ++ []) := SlO.lit (GM := []) ⟨_, _, [], [], rfl, rfl, ⟨rfl, rfl⟩, ⟨rfl, rfl⟩⟩ rfl (nb rfl) (nb rfl);rw [List.append_nil] at hO17;exact ⟨some ⟨b11, 0, none⟩, 1, (B b11 (zs [[63]]) 9), rfl, hO17, sk S14⟩

end Go.Proofs.YtnhifhlbelogcaaGreatDoor
