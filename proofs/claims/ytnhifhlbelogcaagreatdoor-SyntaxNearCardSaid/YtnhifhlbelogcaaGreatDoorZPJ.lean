/- Functions and their walks (printed by auto.py over the engine). -/
import Derived.Test.YtnhifhlbelogcaaGreatDoorZAb
import Derived.Test.YtnhifhlbelogcaaGreatDoorProg
import Derived.Test.YtnhifhlbelogcaaGreatDoorZPI
set_option maxRecDepth 100000
set_option maxHeartbeats 1000000
namespace Go.Proofs.YtnhifhlbelogcaaGreatDoor
open Go Go.Eng
set_option linter.unusedSimpArgs false
set_option linter.unusedVariables false

theorem T.call21 : Callable TP 21 := Callable.mk Tryz.func21 (by kernel_rfl) (by kernel_rfl)
theorem T.call34 : Callable TP 34 := Callable.mk Tryz.func34 (by kernel_rfl) (by kernel_rfl)



mutual
def ps_Same : Nat → Tree → Tree → Option Bool
  | 0, _, _ => none
  | k_ + 1, a0, a1 => (if a0.Kind = a1.Kind then (if a0.Name = a1.Name then (if a0.Number = a1.Number then (Option.bind (ps_EqualFunc k_ a0.Kids a1.Kids) fun t16 => (some t16)) else (some false)) else (some false)) else (some false))
def ps_EqualFunc.l1 : Nat → List Tree → List Tree → Int → Option Bool
  | 0, _, _, _ => none
  | k7 + 1, a0, a1, x4 => (if x4 < (a0.length : Int) then (Option.bind (idx a0 x4) fun x11 => (Option.bind (idx a1 x4) fun x38 => (Option.bind (ps_Same k7 x11 x38) fun t65 => (if t65 = true then (ps_EqualFunc.l1 k7 a0 a1 (w64 (x4 + 1))) else (some false))))) else (some true))
def ps_EqualFunc : Nat → List Tree → List Tree → Option Bool
  | 0, _, _ => none
  | k_ + 1, a0, a1 => (if (a0.length : Int) = (a1.length : Int) then (ps_EqualFunc.l1 k_ a0 a1 0) else (some false))
end
def ps_Same_C (k : Nat) : Prop := ∀ (a0 : Tree) {A0_1 : Option Addr} {c0_1 : Nat} {F0_1 : Nat → Prop} (a1 : Tree) {A1_1 : Option Addr} {c1_1 : Nat} {F1_1 : Nat → Prop} {w : World} (hR0_1 : SlR Tree.rp w F0_1 A0_1 c0_1 a0.Kids) (hF0_1 : ∀ b, F0_1 b → NK w [] b) (hR1_1 : SlR Tree.rp w F1_1 A1_1 c1_1 a1.Kids) (hF1_1 : ∀ b, F1_1 b → NK w [] b) {r_ : Bool} (h_ : ps_Same k a0 a1 = some r_), Calls TP 21 [.agg (ta a0 A0_1 c0_1), .agg (ta a1 A1_1 c1_1)].toArray w fun e w' => e = .returned (.bool r_) ∧ St w (KS []) w' []
def ps_EqualFunc_C (k : Nat) : Prop := ∀ (a0 : List Tree) {A0 : Option Addr} {c0 : Nat} {F0 : Nat → Prop} (a1 : List Tree) {A1 : Option Addr} {c1 : Nat} {F1 : Nat → Prop} {w : World} (hR0 : SlR Tree.rp w F0 A0 c0 a0) (hF0 : ∀ b, F0 b → NK w [] b) (hR1 : SlR Tree.rp w F1 A1 c1 a1) (hF1 : ∀ b, F1 b → NK w [] b) {r_ : Bool} (h_ : ps_EqualFunc k a0 a1 = some r_), Calls TP 34 [.slice A0 a0.length c0, .slice A1 a1.length c1, .func (.func 21) #[] #[]].toArray w fun e w' => e = .returned (.bool r_) ∧ St w (KS []) w' []
def SmG (k : Nat) : Prop := ps_Same_C k ∧ ps_EqualFunc_C k
theorem ps_Same_R (k : Nat) (HG : ∀ j_, j_ < k → SmG j_) (a0 : Tree) {A0_1 : Option Addr} {c0_1 : Nat} {F0_1 : Nat → Prop} (a1 : Tree) {A1_1 : Option Addr} {c1_1 : Nat} {F1_1 : Nat → Prop} {w : World} (hR0_1 : SlR Tree.rp w F0_1 A0_1 c0_1 a0.Kids) (hF0_1 : ∀ b, F0_1 b → NK w [] b) (hR1_1 : SlR Tree.rp w F1_1 A1_1 c1_1 a1.Kids) (hF1_1 : ∀ b, F1_1 b → NK w [] b) {r_ : Bool} (hF : ps_Same k a0 a1 = some r_) :
    Calls TP 21 [.agg (ta a0 A0_1 c0_1), .agg (ta a1 A1_1 c1_1)].toArray w fun e w' => e = .returned (.bool r_) ∧ St w (KS []) w' [] := by
 obtain _ | k_ := k
 · exact nomatch (show (none : Option Bool) = some r_ from hF)
 rw [ps_Same] at hF;have S := St.ofFalse (As := []) (St.init0 w);refine enter 31 [(0, .agg (ta a0 A0_1 c0_1)), (1, .agg (ta a1 A1_1 c1_1))] Tryz.func21 rfl rfl rfl rfl ?_;refine wq (wr ?_);obtain ⟨b1, w2, E3, S4, X5, L6⟩ := sbx S TP 29 (.agg (ta a0 A0_1 c0_1));refine wee (E3 rfl) rfl ?_;obtain ⟨b7, w8, E9, S10, X11, L12⟩ := sbx S4 TP 29 (.agg (ta a1 A1_1 c1_1));refine wee (E9 rfl) rfl ?_;refine av rfl (wn (we (wq (wr (wp (G.field T.fld29_0 rfl (show 0 + 0 = 0 from rfl)) rfl ?_)))));refine wrr (G.load1 T.one3 rfl (cell_blk (S10.blk 1 rfl) rfl)) rfl ?_;refine wp (G.field T.fld29_0 rfl (show 0 + 0 = 0 from rfl)) rfl ?_;refine wrr (G.load1 T.one3 rfl (cell_blk (S10.blk 0 rfl) rfl)) rfl ?_;refine wp (G.eql rfl rfl rfl) rfl (mv rfl ?_);rcases io hF with ⟨h13, hF⟩ | ⟨h13, hF⟩
 ·
  refine won rfl (dt h13) (wp (G.field T.fld29_1 rfl (show 0 + 1 = 1 from rfl)) rfl (won rfl (dt h13) ?_));refine wrr (G.load1 T.one9 rfl (cell_blk (S10.blk 1 rfl) rfl)) rfl ?_;refine won rfl (dt h13) (wp (G.field T.fld29_1 rfl (show 0 + 1 = 1 from rfl)) rfl (won rfl (dt h13) ?_));refine wrr (G.load1 T.one9 rfl (cell_blk (S10.blk 0 rfl) rfl)) rfl ?_;refine won rfl (dt h13) (wp (G.eqlb' rfl rfl rfl) rfl (wp (G.pick_t (kb rfl (dt h13)) rfl) rfl (mv rfl ?_)));rcases io hF with ⟨h14, hF⟩ | ⟨h14, hF⟩
  ·
   refine won rfl (dt h14) (wp (G.field T.fld29_2 rfl (show 0 + 2 = 2 from rfl)) rfl (won rfl (dt h14) ?_));refine wrr (G.load1 T.one3 rfl (cell_blk (S10.blk 1 rfl) rfl)) rfl ?_;refine won rfl (dt h14) (wp (G.field T.fld29_2 rfl (show 0 + 2 = 2 from rfl)) rfl (won rfl (dt h14) ?_));refine wrr (G.load1 T.one3 rfl (cell_blk (S10.blk 0 rfl) rfl)) rfl ?_;refine won rfl (dt h14) (wp (G.eql rfl rfl rfl) rfl (wp (G.pick_t (kb rfl (dt h14)) rfl) rfl (mv rfl ?_)));rcases io hF with ⟨h15, hF⟩ | ⟨h15, hF⟩
   ·
    refine won rfl (dt h15) (wp (G.field T.fld29_4 rfl (show 0 + 4 = 4 from rfl)) rfl (won rfl (dt h15) ?_));refine wrr (G.load1 T.one27 rfl (cell_blk (S10.blk 1 rfl) rfl)) rfl ?_;refine won rfl (dt h15) (wp (G.field T.fld29_4 rfl (show 0 + 4 = 4 from rfl)) rfl (won rfl (dt h15) ?_));refine wrr (G.load1 T.one27 rfl (cell_blk (S10.blk 0 rfl) rfl)) rfl ?_;refine won rfl (dt h15) ?_;obtain ⟨t16, hc17, hF⟩ := bo hF;refine wc T.call34 (ec rfl (ec rfl (ec rfl en))) rfl ?_;refine (((HG k_ (by omega)).2) a0.Kids a1.Kids (hR0_1.ext (S10.keepF hF0_1)) (St.outF (Bs := []) S10 hF0_1) (hR1_1.ext (S10.keepF hF1_1)) (St.outF (Bs := []) S10 hF1_1) hc17).mono ?_;rintro _ w18 ⟨rfl, T19⟩;have S20 := scT T19 S10;refine ⟨_, rfl, ?_⟩;refine wp (G.pick_t (kb rfl (dt h15)) rfl) rfl (av rfl (wn (we (wg (l' := [(4, .bool t16)]) ⟨rfl, trivial⟩ (wrt ?_)))));obtain rfl := se hF;refine WEx.ret1 rfl rfl ?_;exact ⟨rfl, sk S20⟩
   ·
    refine wof rfl (df h15) rfl (wof rfl (df h15) rfl (wof rfl (df h15) rfl (wof rfl (df h15) rfl (wof rfl (df h15) rfl (wp (G.pick_f (kb rfl (df h15)) rfl) rfl (av rfl (wn (we (wg (l' := [(4, .bool false)]) ⟨rfl, trivial⟩ (wrt ?_))))))))));obtain rfl := se hF;refine WEx.ret1 rfl rfl ?_;exact ⟨rfl, sk S10⟩
  ·
   refine wof rfl (df h14) rfl (wof rfl (df h14) rfl (wof rfl (df h14) rfl (wof rfl (df h14) rfl (wof rfl (df h14) rfl (wp (G.pick_f (kb rfl (df h14)) rfl) rfl (mv rfl ?_))))));refine WOps.off rfl rfl rfl rfl ?_;refine WOps.off rfl rfl rfl rfl ?_;refine WOps.off rfl rfl rfl rfl ?_;refine WOps.off rfl rfl rfl rfl ?_;refine WOps.off rfl rfl rfl rfl ?_;refine wp (G.pick_f rfl rfl) rfl (av rfl (wn (we (wg (l' := [(4, .bool false)]) ⟨rfl, trivial⟩ (wrt ?_)))));obtain rfl := se hF;refine WEx.ret1 rfl rfl ?_;exact ⟨rfl, sk S10⟩
 ·
  refine wof rfl (df h13) rfl (wof rfl (df h13) rfl (wof rfl (df h13) rfl (wof rfl (df h13) rfl (wof rfl (df h13) rfl (wp (G.pick_f (kb rfl (df h13)) rfl) rfl (mv rfl ?_))))));refine WOps.off rfl rfl rfl rfl ?_;refine WOps.off rfl rfl rfl rfl ?_;refine WOps.off rfl rfl rfl rfl ?_;refine WOps.off rfl rfl rfl rfl ?_;refine WOps.off rfl rfl rfl rfl ?_;refine wp (G.pick_f rfl rfl) rfl (mv rfl ?_);refine WOps.off rfl rfl rfl rfl ?_;refine WOps.off rfl rfl rfl rfl ?_;refine WOps.off rfl rfl rfl rfl ?_;refine WOps.off rfl rfl rfl rfl ?_;refine WOps.off rfl rfl rfl rfl ?_;refine wp (G.pick_f rfl rfl) rfl (av rfl (wn (we (wg (l' := [(4, .bool false)]) ⟨rfl, trivial⟩ (wrt ?_)))));obtain rfl := se hF;refine WEx.ret1 rfl rfl ?_;exact ⟨rfl, sk S10⟩

theorem ps_EqualFunc_R (k : Nat) (HG : ∀ j_, j_ < k → SmG j_) (a0 : List Tree) {A0 : Option Addr} {c0 : Nat} {F0 : Nat → Prop} (a1 : List Tree) {A1 : Option Addr} {c1 : Nat} {F1 : Nat → Prop} {w : World} (hR0 : SlR Tree.rp w F0 A0 c0 a0) (hF0 : ∀ b, F0 b → NK w [] b) (hR1 : SlR Tree.rp w F1 A1 c1 a1) (hF1 : ∀ b, F1 b → NK w [] b) {r_ : Bool} (hF : ps_EqualFunc k a0 a1 = some r_) :
    Calls TP 34 [.slice A0 a0.length c0, .slice A1 a1.length c1, .func (.func 21) #[] #[]].toArray w fun e w' => e = .returned (.bool r_) ∧ St w (KS []) w' [] := by
 obtain _ | k_ := k
 · exact nomatch (show (none : Option Bool) = some r_ from hF)
 rw [ps_EqualFunc] at hF;have S := St.ofFalse (As := []) (St.init0 w);refine enter 32 [(0, .slice A0 a0.length c0), (1, .slice A1 a1.length c1), (2, .func (.func 21) #[] #[])] Tryz.func34 rfl rfl rfl rfl ?_;refine wq (wr (av rfl (wn (we (wq (wq (wr (mv rfl (wp (G.len T.el27 rfl) rfl (mv rfl (wp (G.len T.el27 rfl) rfl (wp (G.neq rfl rfl rfl) rfl (wn (we ?_))))))))))))));rcases io hF with ⟨h3, hF⟩ | ⟨h3, hF⟩
 ·
  refine WCode.cond_f (kb rfl (show (!(decide ((a0.length : Int) = (a1.length : Int)))) = false from by rw [(dt h3)]; rfl)) ?_;refine wsk (we (wq (wq (wr (mv rfl (wp (G.len T.el27 rfl) rfl (mv rfl (wn (we ?_)))))))));refine WCode.block ?_;change St _ _ _ [] at S;refine wg (l' := [(1, .slice A1 a1.length c1), (2, .func (.func 21) #[] #[]), (15, .slice A0 a0.length c0), (16, I (a0.length : Int)), (17, I 0)]) ⟨rfl, rfl, rfl, rfl, rfl, trivial⟩ ?_;refine wl (fun n_ l_ w_ => ∃ x4 : Int, l_ = [(1, .slice A1 a1.length c1), (2, .func (.func 21) #[] #[]), (15, .slice A0 a0.length c0), (16, I (a0.length : Int)), (17, I x4)] ∧ ps_EqualFunc.l1 n_ a0 a1 x4 = some r_ ∧ n_ ≤ k_ ∧ St w (KS []) w_ []) k_ ⟨0, rfl, hF, Nat.le_refl _, S⟩ ?_;rintro n8 _ w5 ⟨x4, rfl, hF, hle9, S6⟩;obtain _ | k7 := n8
  · exact nomatch (show (none : Option Bool) = some r_ from hF)
  rw [ps_EqualFunc.l1] at hF;refine wq (wr (wp (G.lss rfl rfl rfl) rfl (wn (we (wq ?_)))));rcases io hF with ⟨h10, hF⟩ | ⟨h10, hF⟩
  ·
   refine ct rfl (dt h10) (wsk (we (wq ?_)));refine WCode.block ?_;refine wq (wr (mv rfl ?_));obtain ⟨x11, hc12, hF⟩ := bo hF;obtain ⟨j13, ej14, hj15, hl16⟩ := idx_spec hc12;obtain ⟨b17, o18, cs19, eA20, hf21, hc22, hr23⟩ := sat hR0 hj15;obtain ⟨A24, c25, hq27, hR26⟩ := (Tree.rd_iff.1 hr23);subst hq27;have hc22 := hc22.move ((S6.keepF hF0) _ hf21);change cellsAt _ _ (o18 + j13 * 5) (tl x11 A24 c25) at hc22;refine wp (G.idx T.el27 rfl eA20 rfl ej14 hl16) rfl ?_;refine wrr (G.loada T.agg29_5 rfl (cs := (tl x11 A24 c25)) hc22) rfl ?_;obtain ⟨b28, w29, E30, S31, X32, L33⟩ := sv S6 (z := .agg tz) T.zero29;have c34 := hc22.ext X32;refine wee E30 rfl ?_;refine av rfl ?_;obtain ⟨w35, E36, S37⟩ := sw S31 0 (ta x11 A24 c25) T.size29_5 rfl rfl rfl rfl;refine wuu (E36 rfl rfl) ?_;refine wn (we (wq (wr (mv rfl (mv rfl ?_)))));obtain ⟨x38, hc39, hF⟩ := bo hF;obtain ⟨j40, ej41, hj42, hl43⟩ := idx_spec hc39;obtain ⟨b44, o45, cs46, eA47, hf48, hc49, hr50⟩ := sat hR1 hj42;obtain ⟨A51, c52, hq54, hR53⟩ := (Tree.rd_iff.1 hr50);subst hq54;have hc49 := hc49.move ((S37.keepF hF1) _ hf48);change cellsAt _ _ (o45 + j40 * 5) (tl x38 A51 c52) at hc49;refine wp (G.idx T.el27 rfl eA47 rfl ej41 hl43) rfl ?_;refine wrr (G.loada T.agg29_5 rfl (cs := (tl x38 A51 c52)) hc49) rfl ?_;obtain ⟨b55, w56, E57, S58, X59, L60⟩ := sv S37 (z := .agg tz) T.zero29;have c61 := hc49.ext X59;refine wee E57 rfl ?_;obtain ⟨w62, E63, S64⟩ := sw S58 0 (ta x38 A51 c52) T.size29_5 rfl rfl rfl rfl;refine wuu (E63 rfl rfl) ?_;refine wn (we (wq (wr (mv rfl ?_))));refine wrr (G.loada T.agg29_5 rfl (cs := (tl x11 A24 c25)) (cb (S64.blk 1 rfl) rfl)) rfl ?_;refine wrr (G.loada T.agg29_5 rfl (cs := (tl x38 A51 c52)) (cb (S64.blk 0 rfl) rfl)) rfl ?_;obtain ⟨t65, hc66, hF⟩ := bo hF;refine WOps.callv T.call21 rfl (ec rfl (ec rfl en)) rfl ?_;refine (((HG k7 (by omega)).1) x11 x38 (hR26.ext (S64.keepF hF0)) (St.outF (Bs := []) S64 hF0) (hR53.ext (S64.keepF hF1)) (St.outF (Bs := []) S64 hF1) hc66).mono ?_;rintro _ w67 ⟨rfl, T68⟩;have S69 := scT T68 S64;refine ⟨_, rfl, ?_⟩;refine wp (G.not rfl rfl) rfl (wn (we (wg (l' := [(1, .slice A1 a1.length c1), (2, .func (.func 21) #[] #[]), (15, .slice A0 a0.length c0), (16, I (a0.length : Int)), (17, I x4), (30, .bool (!t65))]) ⟨rfl, rfl, rfl, rfl, rfl, rfl, trivial⟩ ?_)));rcases io hF with ⟨h70, hF⟩ | ⟨h70, hF⟩
   ·
    refine cf rfl (show (!t65) = false from by rw [h70]; rfl) (wsk (win (we (wr (wp (G.add rfl rfl (r := (w64 (x4 + 1))) rfl) rfl (mv rfl (wn ?_)))))));refine wag _ _ (by omega) ?_ ⟨w64 (x4 + 1), rfl, hF, (by omega), (sk S69)⟩;exact ⟨rfl, rfl, rfl, rfl, rfl, trivial⟩
   ·
    refine ct rfl (show (!t65) = true from by rw [(bf h70)]; rfl) (wq (wr (av rfl (wn (we (wrt ?_))))));refine WEx.in_ret ?_;refine wtr (wtr ?_);refine WEx.in_ret ?_;refine wtr ?_;obtain rfl := se hF;refine WEx.ret1 rfl rfl ?_;exact ⟨rfl, sk S69⟩
  ·
   refine cf rfl (df h10) ?_;refine WCode.exit ?_;refine WEx.then_exit ?_;refine WEx.then_exit ?_;refine WEx.in_exit ?_;refine we (wq (wr (av rfl (wn (we (wrt ?_))))));obtain rfl := se hF;refine WEx.ret1 rfl rfl ?_;exact ⟨rfl, sk S6⟩
 ·
  refine WCode.cond_t (kb rfl (show (!(decide ((a0.length : Int) = (a1.length : Int)))) = true from by rw [(df h3)]; rfl)) ?_;refine wq (wr (av rfl (wn (we (wrt (wtr ?_))))));obtain rfl := se hF;refine WEx.ret1 rfl rfl ?_;exact ⟨rfl, sk (As := []) S⟩

theorem SmG_all : ∀ k, SmG k := fun k => Nat.strongRecOn k fun k HG => ⟨@ps_Same_R k HG, @ps_EqualFunc_R k HG⟩
theorem ps_Same_calls (k : Nat) : ps_Same_C k := (SmG_all k).1
end Go.Proofs.YtnhifhlbelogcaaGreatDoor
