/- Functions and their walks (printed by auto.py over the engine). -/
import Derived.Test.YtpdpfiaediadgaaDoorProg
import Derived.Test.YtpdpfiaediadgaaDoorLexA
namespace Go.Proofs.YtpdpfiaediadgaaDoor
open Go Go.Eng
set_option linter.unusedSimpArgs false
set_option linter.unusedVariables false

theorem T.call10 : Callable Tryd.prog 10 := Callable.mk Tryd.func10 (by kernel_rfl) (by kernel_rfl)
theorem T.call12 : Callable Tryd.prog 12 := Callable.mk Tryd.func12 (by kernel_rfl) (by kernel_rfl)
theorem T.call14 : Callable Tryd.prog 14 := Callable.mk Tryd.func14 (by kernel_rfl) (by kernel_rfl)
theorem T.call15 : Callable Tryd.prog 15 := Callable.mk Tryd.func15 (by kernel_rfl) (by kernel_rfl)
theorem T.call19 : Callable Tryd.prog 19 := Callable.mk Tryd.func19 (by kernel_rfl) (by kernel_rfl)
theorem T.call22 : Callable Tryd.prog 22 := Callable.mk Tryd.func22 (by kernel_rfl) (by kernel_rfl)
theorem T.call23 : Callable Tryd.prog 23 := Callable.mk Tryd.func23 (by kernel_rfl) (by kernel_rfl)
theorem T.call24 : Callable Tryd.prog 24 := Callable.mk Tryd.func24 (by kernel_rfl) (by kernel_rfl)
theorem T.call27 : Callable Tryd.prog 27 := Callable.mk Tryd.func27 (by kernel_rfl) (by kernel_rfl)
theorem T.call35 : Callable Tryd.prog 35 := Callable.mk Tryd.func35 (by kernel_rfl) (by kernel_rfl)
theorem T.call36 : Callable Tryd.prog 36 := Callable.mk Tryd.func36 (by kernel_rfl) (by kernel_rfl)
theorem T.call37 : Callable Tryd.prog 37 := Callable.mk Tryd.func37 (by kernel_rfl) (by kernel_rfl)
theorem T.call38 : Callable Tryd.prog 38 := Callable.mk Tryd.func38 (by kernel_rfl) (by kernel_rfl)
theorem T.call44 : Callable Tryd.prog 44 := Callable.mk Tryd.func44 (by kernel_rfl) (by kernel_rfl)
theorem T.call45 : Callable Tryd.prog 45 := Callable.mk Tryd.func45 (by kernel_rfl) (by kernel_rfl)
theorem T.call47 : Callable Tryd.prog 47 := Callable.mk Tryd.func47 (by kernel_rfl) (by kernel_rfl)
theorem T.call49 : Callable Tryd.prog 49 := Callable.mk Tryd.func49 (by kernel_rfl) (by kernel_rfl)
theorem T.call50 : Callable Tryd.prog 50 := Callable.mk Tryd.func50 (by kernel_rfl) (by kernel_rfl)
theorem T.call53 : Callable Tryd.prog 53 := Callable.mk Tryd.func53 (by kernel_rfl) (by kernel_rfl)
theorem T.call58 : Callable Tryd.prog 58 := Callable.mk Tryd.func58 (by kernel_rfl) (by kernel_rfl)
theorem T.call7 : Callable Tryd.prog 7 := Callable.mk Tryd.func7 (by kernel_rfl) (by kernel_rfl)
theorem T.call9 : Callable Tryd.prog 9 := Callable.mk Tryd.func9 (by kernel_rfl) (by kernel_rfl)
theorem T.el23 : slEl Tryd.prog 23 = some 1 := by kernel_rfl
theorem T.el62 : slEl Tryd.prog 62 = some 1 := by kernel_rfl
theorem T.fld37_3 : fldOff Tryd.prog 37 3 = some 3 := by kernel_rfl
theorem T.one3 : isOneT Tryd.prog 3 = true := by kernel_rfl
theorem T.one5 : isOneT Tryd.prog 5 = true := by kernel_rfl


def st_HasPrefix (k : Nat) (a0 : List UInt8) (a1 : List UInt8) : Option Bool := (if (a1.length : Int) ≤ (a0.length : Int) then (Option.bind (cut a0 0 (a1.length : Int)) fun m2 => (some (decide (m2 = a1)))) else (some false))
set_option maxRecDepth 100000 in
set_option maxHeartbeats 1000000 in
theorem st_HasPrefix_calls (k : Nat) (a0 : List UInt8) (a1 : List UInt8) {w : World} {r_ : Bool} (h_ : st_HasPrefix k a0 a1 = some r_) :
    Calls Tryd.prog 53 [.string (bs a0), .string (bs a1)].toArray w fun e w' => e = .returned (.bool r_) ∧ St w (KS []) w' [] := by
  have hF := h_
  clear h_
  unfold st_HasPrefix at hF
  have S := St.ofFalse (As := []) (St.init0 w)
  refine enter 18 [(0, .string (bs a0)), (1, .string (bs a1))] Tryd.func53 rfl rfl rfl rfl ?_
  refine WCode.seq ?_
  refine WCode.region ?_
  refine WOps.p (G.assign rfl) rfl ?_
  refine WOps.nil ?_
  refine WEx.then_ ?_
  refine WCode.seq ?_
  refine WCode.region ?_
  refine WOps.p (G.move rfl) rfl ?_
  refine WOps.p (G.lenb T.str9 rfl) rfl ?_
  refine WOps.p (G.move rfl) rfl ?_
  refine WOps.p (G.lenb T.str9 rfl) rfl ?_
  refine WOps.p (G.geq rfl rfl rfl) rfl ?_
  refine WOps.p (G.move rfl) rfl ?_
  rcases ite_some hF with ⟨h1, hF⟩ | ⟨h1, hF⟩
  ·
    refine WOps.on rfl (kbl (b := decide ((a1.length : Int) ≤ (a0.length : Int))) rfl (decide_eq_true h1)) ?_
    refine WOps.p (G.move rfl) rfl ?_
    refine WOps.on rfl (kbl (b := decide ((a1.length : Int) ≤ (a0.length : Int))) rfl (decide_eq_true h1)) ?_
    refine WOps.p (G.move rfl) rfl ?_
    refine WOps.on rfl (kbl (b := decide ((a1.length : Int) ≤ (a0.length : Int))) rfl (decide_eq_true h1)) ?_
    refine WOps.p (G.lenb T.str9 rfl) rfl ?_
    refine WOps.on rfl (kbl (b := decide ((a1.length : Int) ≤ (a0.length : Int))) rfl (decide_eq_true h1)) ?_
    obtain ⟨m2, hc3, hF⟩ := bind_some hF
    refine WOps.p (G.cutb_h T.str9 rfl rfl hc3) rfl ?_
    refine WOps.on rfl (kbl (b := decide ((a1.length : Int) ≤ (a0.length : Int))) rfl (decide_eq_true h1)) ?_
    refine WOps.p (G.move rfl) rfl ?_
    refine WOps.on rfl (kbl (b := decide ((a1.length : Int) ≤ (a0.length : Int))) rfl (decide_eq_true h1)) ?_
    refine WOps.p (G.eqlb' rfl rfl rfl) rfl ?_
    refine WOps.p (G.pick_t (kb (b := decide ((a1.length : Int) ≤ (a0.length : Int))) rfl (decide_eq_true h1)) rfl) rfl ?_
    refine WOps.p (G.assign rfl) rfl ?_
    refine WOps.nil ?_
    refine WEx.then_ ?_
    refine WCode.forget (l' := [(4, .bool (decide (m2 = a1)))]) ⟨rfl, trivial⟩ ?_
    refine WCode.ret ?_
    obtain rfl := some_eq hF
    refine WEx.ret1 rfl rfl ?_
    exact ⟨rfl, St.keep (As := []) S⟩
  ·
    refine WOps.off rfl (kbl (b := decide ((a1.length : Int) ≤ (a0.length : Int))) rfl (decide_eq_false h1)) rfl rfl ?_
    refine WOps.off rfl (kbl (b := decide ((a1.length : Int) ≤ (a0.length : Int))) rfl (decide_eq_false h1)) rfl rfl ?_
    refine WOps.off rfl (kbl (b := decide ((a1.length : Int) ≤ (a0.length : Int))) rfl (decide_eq_false h1)) rfl rfl ?_
    refine WOps.off rfl (kbl (b := decide ((a1.length : Int) ≤ (a0.length : Int))) rfl (decide_eq_false h1)) rfl rfl ?_
    refine WOps.off rfl (kbl (b := decide ((a1.length : Int) ≤ (a0.length : Int))) rfl (decide_eq_false h1)) rfl rfl ?_
    refine WOps.off rfl (kbl (b := decide ((a1.length : Int) ≤ (a0.length : Int))) rfl (decide_eq_false h1)) rfl rfl ?_
    refine WOps.p (G.pick_f (kb (b := decide ((a1.length : Int) ≤ (a0.length : Int))) rfl (decide_eq_false h1)) rfl) rfl ?_
    refine WOps.p (G.assign rfl) rfl ?_
    refine WOps.nil ?_
    refine WEx.then_ ?_
    refine WCode.forget (l' := [(4, .bool false)]) ⟨rfl, trivial⟩ ?_
    refine WCode.ret ?_
    obtain rfl := some_eq hF
    refine WEx.ret1 rfl rfl ?_
    exact ⟨rfl, St.keep (As := []) S⟩

def HasPrefix (k : Nat) (a0 : List UInt8) (a1 : List UInt8) : Option Bool := (Option.bind (st_HasPrefix k a0 a1) fun t1 => (some t1))
set_option maxRecDepth 100000 in
set_option maxHeartbeats 1000000 in
theorem HasPrefix_calls (k : Nat) (a0 : List UInt8) (a1 : List UInt8) {w : World} {r_ : Bool} (h_ : HasPrefix k a0 a1 = some r_) :
    Calls Tryd.prog 45 [.string (bs a0), .string (bs a1)].toArray w fun e w' => e = .returned (.bool r_) ∧ St w (KS []) w' [] := by
  have hF := h_
  clear h_
  unfold HasPrefix at hF
  have S := St.ofFalse (As := []) (St.init0 w)
  refine enter 8 [(0, .string (bs a0)), (1, .string (bs a1))] Tryd.func45 rfl rfl rfl rfl ?_
  refine WCode.seq ?_
  refine WCode.region ?_
  refine WOps.p (G.assign rfl) rfl ?_
  refine WOps.nil ?_
  refine WEx.then_ ?_
  refine WCode.seq ?_
  refine WCode.region ?_
  refine WOps.p (G.move rfl) rfl ?_
  refine WOps.p (G.move rfl) rfl ?_
  obtain ⟨t1, hc2, hF⟩ := bind_some hF
  refine WOps.call T.call53 (evs_cons rfl (evs_cons rfl evs_nil)) rfl ?_
  refine (st_HasPrefix_calls k a0 a1 hc2).mono ?_
  rintro _ w3 ⟨rfl, T4⟩
  have S5 := St.callN (As := []) S T4
  change St _ _ _ [] at S5
  refine ⟨_, rfl, ?_⟩
  refine WOps.p (G.assign rfl) rfl ?_
  refine WOps.nil ?_
  refine WEx.then_ ?_
  refine WCode.ret ?_
  obtain rfl := some_eq hF
  refine WEx.ret1 rfl rfl ?_
  exact ⟨rfl, St.keep (As := []) S5⟩

def st_CutPrefix (k : Nat) (a0 : List UInt8) (a1 : List UInt8) : Option ((List UInt8) × Bool) := (Option.bind (st_HasPrefix k a0 a1) fun t1 => (if t1 = true then (Option.bind (cut a0 (a1.length : Int) (a0.length : Int)) fun m7 => (some (m7, true))) else (some (a0, false))))
set_option maxRecDepth 100000 in
set_option maxHeartbeats 1000000 in
theorem st_CutPrefix_calls (k : Nat) (a0 : List UInt8) (a1 : List UInt8) {w : World} {r_ : (List UInt8) × Bool} (h_ : st_CutPrefix k a0 a1 = some r_) :
    Calls Tryd.prog 58 [.string (bs a0), .string (bs a1)].toArray w fun e w' => e = .returned (.tuple #[.string (bs r_.1), .bool r_.2]) ∧ St w (KS []) w' [] := by
  have hF := h_
  clear h_
  unfold st_CutPrefix at hF
  have S := St.ofFalse (As := []) (St.init0 w)
  refine enter 15 [(0, .string (bs a0)), (1, .string (bs a1))] Tryd.func58 rfl rfl rfl rfl ?_
  refine WCode.seq ?_
  refine WCode.region ?_
  refine WOps.p (G.assign rfl) rfl ?_
  refine WOps.p (G.assign rfl) rfl ?_
  refine WOps.nil ?_
  refine WEx.then_ ?_
  refine WCode.seq ?_
  refine WCode.seq ?_
  refine WCode.region ?_
  refine WOps.p (G.move rfl) rfl ?_
  refine WOps.p (G.move rfl) rfl ?_
  obtain ⟨t1, hc2, hF⟩ := bind_some hF
  refine WOps.call T.call53 (evs_cons rfl (evs_cons rfl evs_nil)) rfl ?_
  refine (st_HasPrefix_calls k a0 a1 hc2).mono ?_
  rintro _ w3 ⟨rfl, T4⟩
  have S5 := St.callN (As := []) S T4
  change St _ _ _ [] at S5
  refine ⟨_, rfl, ?_⟩
  refine WOps.p (G.not rfl rfl) rfl ?_
  refine WOps.nil ?_
  refine WEx.then_ ?_
  rcases ite_some hF with ⟨h6, hF⟩ | ⟨h6, hF⟩
  ·
    refine WCode.cond_f (kb (b := !t1) rfl (show (!t1) = false from by rw [h6]; rfl)) ?_
    refine WCode.skip ?_
    refine WEx.then_ ?_
    refine WCode.seq ?_
    refine WCode.region ?_
    refine WOps.p (G.move rfl) rfl ?_
    refine WOps.p (G.move rfl) rfl ?_
    refine WOps.p (G.lenb T.str9 rfl) rfl ?_
    obtain ⟨m7, hc8, hF⟩ := bind_some hF
    refine WOps.p (G.cutb_l T.str9 rfl rfl hc8) rfl ?_
    refine WOps.p (G.assign rfl) rfl ?_
    refine WOps.p (G.assign rfl) rfl ?_
    refine WOps.nil ?_
    refine WEx.then_ ?_
    refine WCode.forget (l' := [(4, .string (bs m7)), (5, .bool true)]) ⟨rfl, rfl, trivial⟩ ?_
    refine WCode.ret ?_
    obtain rfl := some_eq hF
    refine WEx.ret2 rfl rfl rfl ?_
    exact ⟨rfl, St.keep (As := []) S5⟩
  ·
    refine WCode.cond_t (kb (b := !t1) rfl (show (!t1) = true from by rw [(Bool.eq_false_iff.2 h6)]; rfl)) ?_
    refine WCode.seq ?_
    refine WCode.region ?_
    refine WOps.p (G.move rfl) rfl ?_
    refine WOps.p (G.assign rfl) rfl ?_
    refine WOps.p (G.assign rfl) rfl ?_
    refine WOps.nil ?_
    refine WEx.then_ ?_
    refine WCode.ret ?_
    refine WEx.then_ret ?_
    obtain rfl := some_eq hF
    refine WEx.ret2 rfl rfl rfl ?_
    exact ⟨rfl, St.keep (As := []) S5⟩

def CutPrefix (k : Nat) (a0 : List UInt8) (a1 : List UInt8) : Option ((List UInt8) × Bool) := (Option.bind (st_CutPrefix k a0 a1) fun t1 => (some (t1.1, t1.2)))
set_option maxRecDepth 100000 in
set_option maxHeartbeats 1000000 in
theorem CutPrefix_calls (k : Nat) (a0 : List UInt8) (a1 : List UInt8) {w : World} {r_ : (List UInt8) × Bool} (h_ : CutPrefix k a0 a1 = some r_) :
    Calls Tryd.prog 49 [.string (bs a0), .string (bs a1)].toArray w fun e w' => e = .returned (.tuple #[.string (bs r_.1), .bool r_.2]) ∧ St w (KS []) w' [] := by
  have hF := h_
  clear h_
  unfold CutPrefix at hF
  have S := St.ofFalse (As := []) (St.init0 w)
  refine enter 11 [(0, .string (bs a0)), (1, .string (bs a1))] Tryd.func49 rfl rfl rfl rfl ?_
  refine WCode.seq ?_
  refine WCode.region ?_
  refine WOps.p (G.assign rfl) rfl ?_
  refine WOps.p (G.assign rfl) rfl ?_
  refine WOps.nil ?_
  refine WEx.then_ ?_
  refine WCode.seq ?_
  refine WCode.region ?_
  refine WOps.p (G.move rfl) rfl ?_
  refine WOps.p (G.move rfl) rfl ?_
  obtain ⟨t1, hc2, hF⟩ := bind_some hF
  refine WOps.call T.call58 (evs_cons rfl (evs_cons rfl evs_nil)) rfl ?_
  refine (st_CutPrefix_calls k a0 a1 hc2).mono ?_
  rintro _ w3 ⟨rfl, T4⟩
  have S5 := St.callN (As := []) S T4
  change St _ _ _ [] at S5
  refine ⟨_, rfl, ?_⟩
  refine WOps.p (G.extract rfl rfl) rfl ?_
  refine WOps.p (G.extract rfl rfl) rfl ?_
  refine WOps.p (G.assign rfl) rfl ?_
  refine WOps.p (G.assign rfl) rfl ?_
  refine WOps.nil ?_
  refine WEx.then_ ?_
  refine WCode.ret ?_
  obtain rfl := some_eq hF
  refine WEx.ret2 rfl rfl rfl ?_
  exact ⟨rfl, St.keep (As := []) S5⟩

def slIndex.l1 : Nat → List (List UInt8) → List UInt8 → Int → Option Int
  | 0, _, _, _ => none
  | k4 + 1, a0, a1, x1 => (if x1 < (a0.length : Int) then (Option.bind (idx a0 x1) fun x8 => (if a1 = x8 then (some x1) else (slIndex.l1 k4 a0 a1 (w64 (x1 + 1))))) else (some (-1)))
def slIndex (k : Nat) (a0 : List (List UInt8)) (a1 : List UInt8) : Option Int := (slIndex.l1 k a0 a1 0)
set_option maxRecDepth 100000 in
set_option maxHeartbeats 1000000 in
theorem slIndex_calls (k : Nat) (a0 : List (List UInt8)) {A0 : Option Addr} {c0 : Nat} {F0 : Nat → Prop} (a1 : List UInt8) {w : World} (hR0 : SlR Rp.str w F0 A0 c0 a0) (hF0 : ∀ b, F0 b → NK w [] b) {r_ : Int} (h_ : slIndex k a0 a1 = some r_) :
    Calls Tryd.prog 38 [.slice A0 a0.length c0, .string (bs a1)].toArray w fun e w' => e = .returned (.int .i64 r_) ∧ St w (KS []) w' [] := by
  have hF := h_
  clear h_
  unfold slIndex at hF
  have S := St.ofFalse (As := []) (St.init0 w)
  refine enter 19 [(0, .slice A0 a0.length c0), (1, .string (bs a1))] Tryd.func38 rfl rfl rfl rfl ?_
  refine WCode.seq ?_
  refine WCode.region ?_
  refine WOps.p (G.assign rfl) rfl ?_
  refine WOps.nil ?_
  refine WEx.then_ ?_
  refine WCode.seq ?_
  refine WCode.seq ?_
  refine WCode.region ?_
  refine WOps.p (G.move rfl) rfl ?_
  refine WOps.p (G.len T.el23 rfl) rfl ?_
  refine WOps.p (G.move rfl) rfl ?_
  refine WOps.nil ?_
  refine WEx.then_ ?_
  refine WCode.block ?_
  refine WCode.forget (l' := [(0, .slice A0 a0.length c0), (1, .string (bs a1)), (7, .int .i64 (a0.length : Int)), (8, .int .i64 0)]) ⟨rfl, rfl, rfl, rfl, trivial⟩ ?_
  refine WCode.loop (fun n_ l_ w_ => ∃ x1 : Int, l_ = [(0, .slice A0 a0.length c0), (1, .string (bs a1)), (7, .int .i64 (a0.length : Int)), (8, .int .i64 x1)] ∧ slIndex.l1 n_ a0 a1 x1 = some r_ ∧ St w (KS []) w_ []) k ⟨0, rfl, hF, S⟩ ?_
  rintro n5 _ w2 ⟨x1, rfl, hF, S3⟩
  obtain _ | k4 := n5
  · exact nomatch (show (none : Option Int) = some r_ from hF)
  rw [slIndex.l1] at hF
  refine WCode.seq ?_
  refine WCode.region ?_
  refine WOps.p (G.lss rfl rfl rfl) rfl ?_
  refine WOps.nil ?_
  refine WEx.then_ ?_
  refine WCode.seq ?_
  rcases ite_some hF with ⟨h7, hF⟩ | ⟨h7, hF⟩
  ·
    refine WCode.cond_t (kb (b := decide (x1 < (a0.length : Int))) rfl (decide_eq_true h7)) ?_
    refine WCode.skip ?_
    refine WEx.then_ ?_
    refine WCode.seq ?_
    refine WCode.block ?_
    refine WCode.seq ?_
    refine WCode.region ?_
    refine WOps.p (G.move rfl) rfl ?_
    refine WOps.p (G.assign rfl) rfl ?_
    refine WOps.nil ?_
    refine WEx.then_ ?_
    refine WCode.seq ?_
    refine WCode.region ?_
    refine WOps.p (G.move rfl) rfl ?_
    refine WOps.p (G.move rfl) rfl ?_
    refine WOps.p (G.move rfl) rfl ?_
    obtain ⟨x8, hc9, hF⟩ := bind_some hF
    obtain ⟨j10, ej11, hj12, hl13⟩ := idx_spec hc9
    obtain ⟨b14, o15, cs16, eA17, hf18, hc19, hr20⟩ := SlR.at_ (hR0.ext (S3.keepF hF0)) hj12
    have hq21 : cs16 = [.string (bs x8)] := hr20
    subst hq21
    change cellsAt _ _ (o15 + j10 * 1) [.string (bs x8)] at hc19
    refine WOps.p (G.idx T.el23 rfl eA17 rfl ej11 hl13) rfl ?_
    refine WOps.r (G.load1 T.one9 rfl (cellsAt.at0 hc19)) rfl ?_
    refine WOps.p (G.eqlb' rfl rfl rfl) rfl ?_
    refine WOps.nil ?_
    refine WEx.then_ ?_
    rcases ite_some hF with ⟨h22, hF⟩ | ⟨h22, hF⟩
    ·
      refine WCode.cond_t (kb (b := decide (a1 = x8)) rfl (decide_eq_true h22)) ?_
      refine WCode.seq ?_
      refine WCode.region ?_
      refine WOps.p (G.move rfl) rfl ?_
      refine WOps.p (G.assign rfl) rfl ?_
      refine WOps.nil ?_
      refine WEx.then_ ?_
      refine WCode.forget (l' := [(4, .int .i64 x1)]) ⟨rfl, trivial⟩ ?_
      refine WCode.ret ?_
      refine WEx.in_ret ?_
      refine WEx.then_ret ?_
      refine WEx.then_ret ?_
      refine WEx.in_ret ?_
      refine WEx.then_ret ?_
      obtain rfl := some_eq hF
      refine WEx.ret1 rfl rfl ?_
      exact ⟨rfl, St.keep (As := []) S3⟩
    ·
      refine WCode.cond_f (kb (b := decide (a1 = x8)) rfl (decide_eq_false h22)) ?_
      refine WCode.skip ?_
      refine WEx.in_normal ?_
      refine WEx.then_ ?_
      refine WCode.region ?_
      refine WOps.p (G.add rfl rfl (r := (w64 (x1 + 1))) rfl) rfl ?_
      refine WOps.p (G.move rfl) rfl ?_
      refine WOps.nil ?_
      refine WEx.again _ _ (by omega) ?_ ⟨w64 (x1 + 1), rfl, hF, S3⟩
      exact ⟨rfl, rfl, rfl, rfl, trivial⟩
  ·
    refine WCode.cond_f (kb (b := decide (x1 < (a0.length : Int))) rfl (decide_eq_false h7)) ?_
    refine WCode.exit ?_
    refine WEx.then_exit ?_
    refine WEx.then_exit ?_
    refine WEx.in_exit ?_
    refine WEx.then_ ?_
    refine WCode.seq ?_
    refine WCode.region ?_
    refine WOps.p (G.assign rfl) rfl ?_
    refine WOps.nil ?_
    refine WEx.then_ ?_
    refine WCode.ret ?_
    obtain rfl := some_eq hF
    refine WEx.ret1 rfl rfl ?_
    exact ⟨rfl, St.keep (As := []) S3⟩

def slContains (k : Nat) (a0 : List (List UInt8)) (a1 : List UInt8) : Option Bool := (Option.bind (slIndex k a0 a1) fun t1 => (some (decide (0 ≤ t1))))
set_option maxRecDepth 100000 in
set_option maxHeartbeats 1000000 in
theorem slContains_calls (k : Nat) (a0 : List (List UInt8)) {A0 : Option Addr} {c0 : Nat} {F0 : Nat → Prop} (a1 : List UInt8) {w : World} (hR0 : SlR Rp.str w F0 A0 c0 a0) (hF0 : ∀ b, F0 b → NK w [] b) {r_ : Bool} (h_ : slContains k a0 a1 = some r_) :
    Calls Tryd.prog 23 [.slice A0 a0.length c0, .string (bs a1)].toArray w fun e w' => e = .returned (.bool r_) ∧ St w (KS []) w' [] := by
  have hF := h_
  clear h_
  unfold slContains at hF
  have S := St.ofFalse (As := []) (St.init0 w)
  refine enter 9 [(0, .slice A0 a0.length c0), (1, .string (bs a1))] Tryd.func23 rfl rfl rfl rfl ?_
  refine WCode.seq ?_
  refine WCode.region ?_
  refine WOps.p (G.assign rfl) rfl ?_
  refine WOps.nil ?_
  refine WEx.then_ ?_
  refine WCode.seq ?_
  refine WCode.region ?_
  refine WOps.p (G.move rfl) rfl ?_
  refine WOps.p (G.move rfl) rfl ?_
  obtain ⟨t1, hc2, hF⟩ := bind_some hF
  refine WOps.call T.call38 (evs_cons rfl (evs_cons rfl evs_nil)) rfl ?_
  refine (slIndex_calls k a0 a1 (hR0.ext (S.keepF hF0)) (St.outF (Bs := []) S hF0) hc2).mono ?_
  rintro _ w3 ⟨rfl, T4⟩
  have S5 := St.callN (As := []) S T4
  change St _ _ _ [] at S5
  refine ⟨_, rfl, ?_⟩
  refine WOps.p (G.geq rfl rfl rfl) rfl ?_
  refine WOps.p (G.assign rfl) rfl ?_
  refine WOps.nil ?_
  refine WEx.then_ ?_
  refine WCode.ret ?_
  obtain rfl := some_eq hF
  refine WEx.ret1 rfl rfl ?_
  exact ⟨rfl, St.keep (As := []) S5⟩

def lx_begins (k : Nat) (a0 : List UInt8) : Option Int := (Option.bind (idx a0 0) fun c1 => (Option.bind (lx_isBlank k ((c1).toNat : Int)) fun t3 => (if t3 = true then (some 1) else (Option.bind (HasPrefix k a0 ([47, 42] : List UInt8)) fun t9 => (if t9 = true then (some 2) else (Option.bind (lx_letter k ((c1).toNat : Int)) fun t15 => (if t15 = true then (some 3) else (Option.bind (lx_digit k ((c1).toNat : Int)) fun t21 => (if t21 = true then (some 4) else (if ((c1).toNat : Int) = 45 then (if 1 < (a0.length : Int) then (Option.bind (idx a0 1) fun c29 => (Option.bind (lx_digit k ((c29).toNat : Int)) fun t31 => (if t31 = true then (some 4) else (Option.bind (gv_IndexByte k ([123, 125, 40, 41, 91, 93, 60, 62, 61, 59, 58, 44, 42] : List UInt8) ((c1).toNat : Int)) fun t37 => (if 0 ≤ t37 then (some 5) else (some 0)))))) else (Option.bind (gv_IndexByte k ([123, 125, 40, 41, 91, 93, 60, 62, 61, 59, 58, 44, 42] : List UInt8) ((c1).toNat : Int)) fun t43 => (if 0 ≤ t43 then (some 5) else (some 0)))) else (Option.bind (gv_IndexByte k ([123, 125, 40, 41, 91, 93, 60, 62, 61, 59, 58, 44, 42] : List UInt8) ((c1).toNat : Int)) fun t49 => (if 0 ≤ t49 then (some 5) else (some 0)))))))))))))
set_option maxRecDepth 100000 in
set_option maxHeartbeats 1000000 in
theorem lx_begins_calls (k : Nat) (a0 : List UInt8) {w : World} {r_ : Int} (h_ : lx_begins k a0 = some r_) :
    Calls Tryd.prog 35 [.string (bs a0)].toArray w fun e w' => e = .returned (.int .i64 r_) ∧ St w (KS []) w' [] := by
  have hF := h_
  clear h_
  unfold lx_begins at hF
  have S := St.ofFalse (As := []) (St.init0 w)
  refine enter 34 [(0, .string (bs a0))] Tryd.func35 rfl rfl rfl rfl ?_
  refine WCode.seq ?_
  refine WCode.region ?_
  refine WOps.p (G.assign rfl) rfl ?_
  refine WOps.nil ?_
  refine WEx.then_ ?_
  refine WCode.seq ?_
  refine WCode.region ?_
  refine WOps.p (G.move rfl) rfl ?_
  obtain ⟨c1, hc2, hF⟩ := bind_some hF
  refine WOps.p (G.idxb T.str9 rfl rfl hc2) rfl ?_
  refine WOps.p (G.assign rfl) rfl ?_
  refine WOps.nil ?_
  refine WEx.then_ ?_
  refine WCode.seq ?_
  refine WCode.block ?_
  refine WCode.seq ?_
  refine WCode.region ?_
  refine WOps.p (G.move rfl) rfl ?_
  obtain ⟨t3, hc4, hF⟩ := bind_some hF
  refine WOps.call T.call44 (evs_cons rfl evs_nil) rfl ?_
  refine (lx_isBlank_calls k ((c1).toNat : Int) hc4).mono ?_
  rintro _ w5 ⟨rfl, T6⟩
  have S7 := St.callN (As := []) S T6
  change St _ _ _ [] at S7
  refine ⟨_, rfl, ?_⟩
  refine WOps.p (G.assign rfl) rfl ?_
  refine WOps.nil ?_
  refine WEx.then_ ?_
  rcases ite_some hF with ⟨h8, hF⟩ | ⟨h8, hF⟩
  ·
    refine WCode.cond_t (kb (b := t3) rfl h8) ?_
    refine WCode.seq ?_
    refine WCode.region ?_
    refine WOps.p (G.assign rfl) rfl ?_
    refine WOps.nil ?_
    refine WEx.then_ ?_
    refine WCode.ret ?_
    refine WEx.in_ret ?_
    refine WEx.then_ret ?_
    obtain rfl := some_eq hF
    refine WEx.ret1 rfl rfl ?_
    exact ⟨rfl, St.keep (As := []) S7⟩
  ·
    refine WCode.cond_f (kb (b := t3) rfl (Bool.eq_false_iff.2 h8)) ?_
    refine WCode.seq ?_
    refine WCode.region ?_
    refine WOps.p (G.move rfl) rfl ?_
    obtain ⟨t9, hc10, hF⟩ := bind_some hF
    refine WOps.call T.call45 (evs_cons rfl (evs_cons rfl evs_nil)) rfl ?_
    refine (HasPrefix_calls k a0 ([47, 42] : List UInt8) hc10).mono ?_
    rintro _ w11 ⟨rfl, T12⟩
    have S13 := St.callN (As := []) S7 T12
    change St _ _ _ [] at S13
    refine ⟨_, rfl, ?_⟩
    refine WOps.p (G.assign rfl) rfl ?_
    refine WOps.nil ?_
    refine WEx.then_ ?_
    rcases ite_some hF with ⟨h14, hF⟩ | ⟨h14, hF⟩
    ·
      refine WCode.cond_t (kb (b := t9) rfl h14) ?_
      refine WCode.seq ?_
      refine WCode.region ?_
      refine WOps.p (G.assign rfl) rfl ?_
      refine WOps.nil ?_
      refine WEx.then_ ?_
      refine WCode.forget (l' := [(2, .int .i64 2)]) ⟨rfl, trivial⟩ ?_
      refine WCode.ret ?_
      refine WEx.in_ret ?_
      refine WEx.then_ret ?_
      obtain rfl := some_eq hF
      refine WEx.ret1 rfl rfl ?_
      exact ⟨rfl, St.keep (As := []) S13⟩
    ·
      refine WCode.cond_f (kb (b := t9) rfl (Bool.eq_false_iff.2 h14)) ?_
      refine WCode.seq ?_
      refine WCode.region ?_
      refine WOps.p (G.move rfl) rfl ?_
      obtain ⟨t15, hc16, hF⟩ := bind_some hF
      refine WOps.call T.call26 (evs_cons rfl evs_nil) rfl ?_
      refine (lx_letter_calls k ((c1).toNat : Int) hc16).mono ?_
      rintro _ w17 ⟨rfl, T18⟩
      have S19 := St.callN (As := []) S13 T18
      change St _ _ _ [] at S19
      refine ⟨_, rfl, ?_⟩
      refine WOps.p (G.assign rfl) rfl ?_
      refine WOps.nil ?_
      refine WEx.then_ ?_
      refine WCode.forget (l' := [(0, .string (bs a0)), (3, .int .u8 ((c1).toNat : Int)), (12, .bool t15)]) ⟨rfl, rfl, rfl, trivial⟩ ?_
      rcases ite_some hF with ⟨h20, hF⟩ | ⟨h20, hF⟩
      ·
        refine WCode.cond_t (kb (b := t15) rfl h20) ?_
        refine WCode.seq ?_
        refine WCode.region ?_
        refine WOps.p (G.assign rfl) rfl ?_
        refine WOps.nil ?_
        refine WEx.then_ ?_
        refine WCode.ret ?_
        refine WEx.in_ret ?_
        refine WEx.then_ret ?_
        obtain rfl := some_eq hF
        refine WEx.ret1 rfl rfl ?_
        exact ⟨rfl, St.keep (As := []) S19⟩
      ·
        refine WCode.cond_f (kb (b := t15) rfl (Bool.eq_false_iff.2 h20)) ?_
        refine WCode.seq ?_
        refine WCode.seq ?_
        refine WCode.region ?_
        refine WOps.p (G.move rfl) rfl ?_
        obtain ⟨t21, hc22, hF⟩ := bind_some hF
        refine WOps.call T.call46 (evs_cons rfl evs_nil) rfl ?_
        refine (lx_digit_calls k ((c1).toNat : Int) hc22).mono ?_
        rintro _ w23 ⟨rfl, T24⟩
        have S25 := St.callN (As := []) S19 T24
        change St _ _ _ [] at S25
        refine ⟨_, rfl, ?_⟩
        refine WOps.p (G.assign rfl) rfl ?_
        refine WOps.nil ?_
        refine WEx.then_ ?_
        rcases ite_some hF with ⟨h26, hF⟩ | ⟨h26, hF⟩
        ·
          refine WCode.cond_t (kb (b := t21) rfl h26) ?_
          refine WCode.skip ?_
          refine WEx.then_ ?_
          refine WCode.cond_t (kb (b := t21) rfl h26) ?_
          refine WCode.seq ?_
          refine WCode.region ?_
          refine WOps.p (G.assign rfl) rfl ?_
          refine WOps.nil ?_
          refine WEx.then_ ?_
          refine WCode.ret ?_
          refine WEx.in_ret ?_
          refine WEx.then_ret ?_
          obtain rfl := some_eq hF
          refine WEx.ret1 rfl rfl ?_
          exact ⟨rfl, St.keep (As := []) S25⟩
        ·
          refine WCode.cond_f (kb (b := t21) rfl (Bool.eq_false_iff.2 h26)) ?_
          refine WCode.region ?_
          refine WOps.p (G.move rfl) rfl ?_
          refine WOps.p (G.eql rfl rfl rfl) rfl ?_
          refine WOps.p (G.move rfl) rfl ?_
          rcases ite_some hF with ⟨h27, hF⟩ | ⟨h27, hF⟩
          ·
            refine WOps.on rfl (kbl (b := decide (((c1).toNat : Int) = 45)) rfl (decide_eq_true h27)) ?_
            refine WOps.p (G.move rfl) rfl ?_
            refine WOps.on rfl (kbl (b := decide (((c1).toNat : Int) = 45)) rfl (decide_eq_true h27)) ?_
            refine WOps.p (G.lenb T.str9 rfl) rfl ?_
            refine WOps.on rfl (kbl (b := decide (((c1).toNat : Int) = 45)) rfl (decide_eq_true h27)) ?_
            refine WOps.p (G.gtr rfl rfl rfl) rfl ?_
            refine WOps.p (G.pick_t (kb (b := decide (((c1).toNat : Int) = 45)) rfl (decide_eq_true h27)) rfl) rfl ?_
            refine WOps.p (G.move rfl) rfl ?_
            rcases ite_some hF with ⟨h28, hF⟩ | ⟨h28, hF⟩
            ·
              refine WOps.on rfl (kbl (b := decide (1 < (a0.length : Int))) rfl (decide_eq_true h28)) ?_
              refine WOps.p (G.move rfl) rfl ?_
              refine WOps.on rfl (kbl (b := decide (1 < (a0.length : Int))) rfl (decide_eq_true h28)) ?_
              obtain ⟨c29, hc30, hF⟩ := bind_some hF
              refine WOps.p (G.idxb T.str9 rfl rfl hc30) rfl ?_
              refine WOps.on rfl (kbl (b := decide (1 < (a0.length : Int))) rfl (decide_eq_true h28)) ?_
              obtain ⟨t31, hc32, hF⟩ := bind_some hF
              refine WOps.call T.call46 (evs_cons rfl evs_nil) rfl ?_
              refine (lx_digit_calls k ((c29).toNat : Int) hc32).mono ?_
              rintro _ w33 ⟨rfl, T34⟩
              have S35 := St.callN (As := []) S25 T34
              change St _ _ _ [] at S35
              refine ⟨_, rfl, ?_⟩
              refine WOps.p (G.pick_t (kb (b := decide (1 < (a0.length : Int))) rfl (decide_eq_true h28)) rfl) rfl ?_
              refine WOps.p (G.assign rfl) rfl ?_
              refine WOps.nil ?_
              refine WEx.then_ ?_
              refine WCode.forget (l' := [(3, .int .u8 ((c1).toNat : Int)), (15, .bool t31)]) ⟨rfl, rfl, trivial⟩ ?_
              rcases ite_some hF with ⟨h36, hF⟩ | ⟨h36, hF⟩
              ·
                refine WCode.cond_t (kb (b := t31) rfl h36) ?_
                refine WCode.seq ?_
                refine WCode.region ?_
                refine WOps.p (G.assign rfl) rfl ?_
                refine WOps.nil ?_
                refine WEx.then_ ?_
                refine WCode.ret ?_
                refine WEx.in_ret ?_
                refine WEx.then_ret ?_
                obtain rfl := some_eq hF
                refine WEx.ret1 rfl rfl ?_
                exact ⟨rfl, St.keep (As := []) S35⟩
              ·
                refine WCode.cond_f (kb (b := t31) rfl (Bool.eq_false_iff.2 h36)) ?_
                refine WCode.seq ?_
                refine WCode.region ?_
                refine WOps.p (G.move rfl) rfl ?_
                obtain ⟨t37, hc38, hF⟩ := bind_some hF
                refine WOps.call T.call47 (evs_cons rfl (evs_cons rfl evs_nil)) rfl ?_
                refine (gv_IndexByte_calls k ([123, 125, 40, 41, 91, 93, 60, 62, 61, 59, 58, 44, 42] : List UInt8) ((c1).toNat : Int) hc38).mono ?_
                rintro _ w39 ⟨rfl, T40⟩
                have S41 := St.callN (As := []) S35 T40
                change St _ _ _ [] at S41
                refine ⟨_, rfl, ?_⟩
                refine WOps.p (G.geq rfl rfl rfl) rfl ?_
                refine WOps.p (G.assign rfl) rfl ?_
                refine WOps.nil ?_
                refine WEx.then_ ?_
                rcases ite_some hF with ⟨h42, hF⟩ | ⟨h42, hF⟩
                ·
                  refine WCode.cond_t (kb (b := decide (0 ≤ t37)) rfl (decide_eq_true h42)) ?_
                  refine WCode.seq ?_
                  refine WCode.region ?_
                  refine WOps.p (G.assign rfl) rfl ?_
                  refine WOps.nil ?_
                  refine WEx.then_ ?_
                  refine WCode.ret ?_
                  refine WEx.in_ret ?_
                  refine WEx.then_ret ?_
                  obtain rfl := some_eq hF
                  refine WEx.ret1 rfl rfl ?_
                  exact ⟨rfl, St.keep (As := []) S41⟩
                ·
                  refine WCode.cond_f (kb (b := decide (0 ≤ t37)) rfl (decide_eq_false h42)) ?_
                  refine WCode.skip ?_
                  refine WEx.in_normal ?_
                  refine WEx.then_ ?_
                  refine WCode.seq ?_
                  refine WCode.region ?_
                  refine WOps.p (G.assign rfl) rfl ?_
                  refine WOps.nil ?_
                  refine WEx.then_ ?_
                  refine WCode.ret ?_
                  obtain rfl := some_eq hF
                  refine WEx.ret1 rfl rfl ?_
                  exact ⟨rfl, St.keep (As := []) S41⟩
            ·
              refine WOps.off rfl (kbl (b := decide (1 < (a0.length : Int))) rfl (decide_eq_false h28)) rfl rfl ?_
              refine WOps.off rfl (kbl (b := decide (1 < (a0.length : Int))) rfl (decide_eq_false h28)) rfl rfl ?_
              refine WOps.off rfl (kbl (b := decide (1 < (a0.length : Int))) rfl (decide_eq_false h28)) rfl rfl ?_
              refine WOps.p (G.pick_f (kb (b := decide (1 < (a0.length : Int))) rfl (decide_eq_false h28)) rfl) rfl ?_
              refine WOps.p (G.assign rfl) rfl ?_
              refine WOps.nil ?_
              refine WEx.then_ ?_
              refine WCode.forget (l' := [(3, .int .u8 ((c1).toNat : Int)), (15, .bool false)]) ⟨rfl, rfl, trivial⟩ ?_
              refine WCode.cond_f rfl ?_
              refine WCode.seq ?_
              refine WCode.region ?_
              refine WOps.p (G.move rfl) rfl ?_
              obtain ⟨t43, hc44, hF⟩ := bind_some hF
              refine WOps.call T.call47 (evs_cons rfl (evs_cons rfl evs_nil)) rfl ?_
              refine (gv_IndexByte_calls k ([123, 125, 40, 41, 91, 93, 60, 62, 61, 59, 58, 44, 42] : List UInt8) ((c1).toNat : Int) hc44).mono ?_
              rintro _ w45 ⟨rfl, T46⟩
              have S47 := St.callN (As := []) S25 T46
              change St _ _ _ [] at S47
              refine ⟨_, rfl, ?_⟩
              refine WOps.p (G.geq rfl rfl rfl) rfl ?_
              refine WOps.p (G.assign rfl) rfl ?_
              refine WOps.nil ?_
              refine WEx.then_ ?_
              rcases ite_some hF with ⟨h48, hF⟩ | ⟨h48, hF⟩
              ·
                refine WCode.cond_t (kb (b := decide (0 ≤ t43)) rfl (decide_eq_true h48)) ?_
                refine WCode.seq ?_
                refine WCode.region ?_
                refine WOps.p (G.assign rfl) rfl ?_
                refine WOps.nil ?_
                refine WEx.then_ ?_
                refine WCode.ret ?_
                refine WEx.in_ret ?_
                refine WEx.then_ret ?_
                obtain rfl := some_eq hF
                refine WEx.ret1 rfl rfl ?_
                exact ⟨rfl, St.keep (As := []) S47⟩
              ·
                refine WCode.cond_f (kb (b := decide (0 ≤ t43)) rfl (decide_eq_false h48)) ?_
                refine WCode.skip ?_
                refine WEx.in_normal ?_
                refine WEx.then_ ?_
                refine WCode.seq ?_
                refine WCode.region ?_
                refine WOps.p (G.assign rfl) rfl ?_
                refine WOps.nil ?_
                refine WEx.then_ ?_
                refine WCode.ret ?_
                obtain rfl := some_eq hF
                refine WEx.ret1 rfl rfl ?_
                exact ⟨rfl, St.keep (As := []) S47⟩
          ·
            refine WOps.off rfl (kbl (b := decide (((c1).toNat : Int) = 45)) rfl (decide_eq_false h27)) rfl rfl ?_
            refine WOps.off rfl (kbl (b := decide (((c1).toNat : Int) = 45)) rfl (decide_eq_false h27)) rfl rfl ?_
            refine WOps.off rfl (kbl (b := decide (((c1).toNat : Int) = 45)) rfl (decide_eq_false h27)) rfl rfl ?_
            refine WOps.p (G.pick_f (kb (b := decide (((c1).toNat : Int) = 45)) rfl (decide_eq_false h27)) rfl) rfl ?_
            refine WOps.p (G.move rfl) rfl ?_
            refine WOps.off rfl rfl rfl rfl ?_
            refine WOps.off rfl rfl rfl rfl ?_
            refine WOps.off rfl rfl rfl rfl ?_
            refine WOps.p (G.pick_f rfl rfl) rfl ?_
            refine WOps.p (G.assign rfl) rfl ?_
            refine WOps.nil ?_
            refine WEx.then_ ?_
            refine WCode.forget (l' := [(3, .int .u8 ((c1).toNat : Int)), (15, .bool false)]) ⟨rfl, rfl, trivial⟩ ?_
            refine WCode.cond_f rfl ?_
            refine WCode.seq ?_
            refine WCode.region ?_
            refine WOps.p (G.move rfl) rfl ?_
            obtain ⟨t49, hc50, hF⟩ := bind_some hF
            refine WOps.call T.call47 (evs_cons rfl (evs_cons rfl evs_nil)) rfl ?_
            refine (gv_IndexByte_calls k ([123, 125, 40, 41, 91, 93, 60, 62, 61, 59, 58, 44, 42] : List UInt8) ((c1).toNat : Int) hc50).mono ?_
            rintro _ w51 ⟨rfl, T52⟩
            have S53 := St.callN (As := []) S25 T52
            change St _ _ _ [] at S53
            refine ⟨_, rfl, ?_⟩
            refine WOps.p (G.geq rfl rfl rfl) rfl ?_
            refine WOps.p (G.assign rfl) rfl ?_
            refine WOps.nil ?_
            refine WEx.then_ ?_
            rcases ite_some hF with ⟨h54, hF⟩ | ⟨h54, hF⟩
            ·
              refine WCode.cond_t (kb (b := decide (0 ≤ t49)) rfl (decide_eq_true h54)) ?_
              refine WCode.seq ?_
              refine WCode.region ?_
              refine WOps.p (G.assign rfl) rfl ?_
              refine WOps.nil ?_
              refine WEx.then_ ?_
              refine WCode.ret ?_
              refine WEx.in_ret ?_
              refine WEx.then_ret ?_
              obtain rfl := some_eq hF
              refine WEx.ret1 rfl rfl ?_
              exact ⟨rfl, St.keep (As := []) S53⟩
            ·
              refine WCode.cond_f (kb (b := decide (0 ≤ t49)) rfl (decide_eq_false h54)) ?_
              refine WCode.skip ?_
              refine WEx.in_normal ?_
              refine WEx.then_ ?_
              refine WCode.seq ?_
              refine WCode.region ?_
              refine WOps.p (G.assign rfl) rfl ?_
              refine WOps.nil ?_
              refine WEx.then_ ?_
              refine WCode.ret ?_
              obtain rfl := some_eq hF
              refine WEx.ret1 rfl rfl ?_
              exact ⟨rfl, St.keep (As := []) S53⟩

mutual
def lx_digits.j1 : Nat → List UInt8 → Int → Int → Int → Int → Option (Int × Bool)
  | 0, _, _, _, _, _ => none
  | k53 + 1, a0, a1, x10, x11, x32 => (if a1 ≤ x32 then (some (0, false)) else (if 4294967295 < (w64 ((w64 (x10 * a1)) + x32)) then (some (0, false)) else (lx_digits.l1 k53 a0 a1 (w64 ((w64 (x10 * a1)) + x32)) (w64 (x11 + 1)))))
def lx_digits.j2 : Nat → List UInt8 → Int → Int → Int → UInt8 → Bool → Option (Int × Bool)
  | 0, _, _, _, _, _, _ => none
  | k49 + 1, a0, a1, x10, x11, x18, b43 => (if b43 = true then (lx_digits.j1 k49 a0 a1 x10 x11 (w64 ((w64 (IntKind.u8.wrap (((x18).toNat : Int) - 97))) + 10))) else (if 65 ≤ ((x18).toNat : Int) then (if ((x18).toNat : Int) ≤ 70 then (lx_digits.j1 k49 a0 a1 x10 x11 (w64 ((w64 (IntKind.u8.wrap (((x18).toNat : Int) - 65))) + 10))) else (lx_digits.j1 k49 a0 a1 x10 x11 a1)) else (lx_digits.j1 k49 a0 a1 x10 x11 a1)))
def lx_digits.l1 : Nat → List UInt8 → Int → Int → Int → Option (Int × Bool)
  | 0, _, _, _, _ => none
  | k14 + 1, a0, a1, x10, x11 => (if x11 < (a0.length : Int) then (Option.bind (idx a0 x11) fun x18 => (Option.bind (lx_digit k14 ((x18).toNat : Int)) fun t37 => (if t37 = true then (lx_digits.j1 k14 a0 a1 x10 x11 (w64 (IntKind.u8.wrap (((x18).toNat : Int) - 48)))) else (if 97 ≤ ((x18).toNat : Int) then (lx_digits.j2 k14 a0 a1 x10 x11 x18 (decide (((x18).toNat : Int) ≤ 102))) else (lx_digits.j2 k14 a0 a1 x10 x11 x18 false))))) else (some (x10, !(decide (a0 = ([] : List UInt8))))))
end
def lx_digits (k : Nat) (a0 : List UInt8) (a1 : Int) : Option (Int × Bool) := (if a0.length ≤ 68719476736 then (lx_digits.l1 k a0 a1 0 0) else none)
set_option maxRecDepth 100000 in
set_option maxHeartbeats 1000000 in
theorem lx_digits_calls (k : Nat) (a0 : List UInt8) (a1 : Int) {w : World} {r_ : Int × Bool} (h_ : lx_digits k a0 a1 = some r_) :
    Calls Tryd.prog 50 [.string (bs a0), .int .i64 a1].toArray w fun e w' => e = .returned (.tuple #[.int .i64 r_.1, .bool r_.2]) ∧ St w (KS []) w' [] := by
  have hF := h_
  clear h_
  unfold lx_digits at hF
  have S := St.ofFalse (As := []) (St.init0 w)
  refine enter 62 [(0, .string (bs a0)), (1, .int .i64 a1)] Tryd.func50 rfl rfl rfl rfl ?_
  refine WCode.seq ?_
  refine WCode.region ?_
  refine WOps.p (G.assign rfl) rfl ?_
  refine WOps.p (G.assign rfl) rfl ?_
  refine WOps.nil ?_
  refine WEx.then_ ?_
  refine WCode.seq ?_
  refine WCode.region ?_
  refine WOps.p (G.assign rfl) rfl ?_
  refine WOps.nil ?_
  refine WEx.then_ ?_
  refine WCode.seq ?_
  refine WCode.seq ?_
  refine WCode.region ?_
  refine WOps.p (G.move rfl) rfl ?_
  obtain ⟨h1, hF⟩ := guard_some hF
  obtain ⟨A2, c3, G4, w5, E6, hG7, S8, X9⟩ := St.bytes (P := Tryd.prog) (t := 9) (u := 62) S Tryd.underlying9 Tryd.underlying62 Tryd.underlying5 a0 h1
  refine WOps.e (E6 rfl) rfl ?_
  refine WOps.p (G.len T.el62 rfl) rfl ?_
  refine WOps.p (G.move rfl) rfl ?_
  refine WOps.nil ?_
  refine WEx.then_ ?_
  refine WCode.block ?_
  refine WCode.forget (l' := [(0, .string (bs a0)), (1, .int .i64 a1), (6, .int .i64 0), (11, .slice A2 a0.length c3), (12, .int .i64 (a0.length : Int)), (13, .int .i64 0)]) ⟨rfl, rfl, rfl, rfl, rfl, rfl, trivial⟩ ?_
  refine WCode.loop (fun n_ l_ w_ => ∃ x10 : Int, ∃ x11 : Int, l_ = [(0, .string (bs a0)), (1, .int .i64 a1), (6, .int .i64 x10), (11, .slice A2 a0.length c3), (12, .int .i64 (a0.length : Int)), (13, .int .i64 x11)] ∧ lx_digits.l1 n_ a0 a1 x10 x11 = some r_ ∧ St w (KS []) w_ [G4]) k ⟨0, 0, rfl, hF, S8⟩ ?_
  rintro n15 _ w12 ⟨x10, x11, rfl, hF, S13⟩
  obtain _ | k14 := n15
  · exact nomatch (show (none : Option (Int × Bool)) = some r_ from hF)
  rw [lx_digits.l1] at hF
  refine WCode.seq ?_
  refine WCode.region ?_
  refine WOps.p (G.lss rfl rfl rfl) rfl ?_
  refine WOps.nil ?_
  refine WEx.then_ ?_
  refine WCode.seq ?_
  rcases ite_some hF with ⟨h17, hF⟩ | ⟨h17, hF⟩
  ·
    refine WCode.cond_t (kb (b := decide (x11 < (a0.length : Int))) rfl (decide_eq_true h17)) ?_
    refine WCode.skip ?_
    refine WEx.then_ ?_
    refine WCode.seq ?_
    refine WCode.block ?_
    refine WCode.seq ?_
    refine WCode.region ?_
    obtain ⟨x18, hc19, hF⟩ := bind_some hF
    obtain ⟨j20, ej21, hj22, hl23⟩ := idx_spec hc19
    obtain ⟨b24, o25, cs26, eA27, hf28, hc29, hr30⟩ := SlR.at_ (hG7 _ (fun b o hb => S13.grp 0 rfl hb)) hj22
    have hq31 : cs26 = [.int .u8 ((x18).toNat : Int)] := hr30
    subst hq31
    change cellsAt _ _ (o25 + j20 * 1) [.int .u8 ((x18).toNat : Int)] at hc29
    refine WOps.p (G.idx T.el62 rfl eA27 rfl ej21 hl23) rfl ?_
    refine WOps.r (G.load1 T.one5 rfl (cellsAt.at0 hc29)) rfl ?_
    refine WOps.p (G.assign rfl) rfl ?_
    refine WOps.nil ?_
    refine WEx.then_ ?_
    refine WCode.seq ?_
    refine WCode.region ?_
    refine WOps.p (G.move rfl) rfl ?_
    refine WOps.p (G.assign rfl) rfl ?_
    refine WOps.nil ?_
    refine WEx.then_ ?_
    refine WCode.cutseq (fun l_ w_ => ∃ q35 : Nat, ∃ x32 : Int, l_ = [(0, .string (bs a0)), (1, .int .i64 a1), (6, .int .i64 x10), (9, .int .i64 x32), (11, .slice A2 a0.length c3), (12, .int .i64 (a0.length : Int)), (13, .int .i64 x11)] ∧ lx_digits.j1 q35 a0 a1 x10 x11 x32 = some r_ ∧ q35 ≤ k14 ∧ St w (KS []) w_ [G4]) ?_ ?_
    ·
      refine WCode.block ?_
      refine WCode.seq ?_
      refine WCode.region ?_
      refine WOps.p (G.move rfl) rfl ?_
      obtain ⟨t37, hc38, hF⟩ := bind_some hF
      refine WOps.call T.call46 (evs_cons rfl evs_nil) rfl ?_
      refine (lx_digit_calls k14 ((x18).toNat : Int) hc38).mono ?_
      rintro _ w39 ⟨rfl, T40⟩
      have S41 := St.callN (As := []) S13 T40
      change St _ _ _ [G4] at S41
      refine ⟨_, rfl, ?_⟩
      refine WOps.p (G.assign rfl) rfl ?_
      refine WOps.nil ?_
      refine WEx.then_ ?_
      rcases ite_some hF with ⟨h42, hF⟩ | ⟨h42, hF⟩
      ·
        refine WCode.cond_t (kb (b := t37) rfl h42) ?_
        refine WCode.region ?_
        refine WOps.p (G.move rfl) rfl ?_
        refine WOps.p (G.sub rfl rfl (r := (IntKind.u8.wrap (((x18).toNat : Int) - 48))) rfl) rfl ?_
        refine WOps.p (G.convi (by kernel_rfl) Tryd.underlying3 rfl (r := (w64 (IntKind.u8.wrap (((x18).toNat : Int) - 48)))) rfl) rfl ?_
        refine WOps.p (G.assign rfl) rfl ?_
        refine WOps.nil ?_
        refine WEx.in_normal ?_
        refine WEx.cutend _ ?_ ⟨k14, w64 (IntKind.u8.wrap (((x18).toNat : Int) - 48)), rfl, hF, (by omega), S41⟩
        exact ⟨rfl, rfl, rfl, rfl, rfl, rfl, rfl, trivial⟩
      ·
        refine WCode.cond_f (kb (b := t37) rfl (Bool.eq_false_iff.2 h42)) ?_
        refine WCode.cutseq (fun l_ w_ => ∃ q46 : Nat, ∃ b43 : Bool, l_ = [(0, .string (bs a0)), (1, .int .i64 a1), (6, .int .i64 x10), (8, .int .u8 ((x18).toNat : Int)), (9, .int .i64 a1), (11, .slice A2 a0.length c3), (12, .int .i64 (a0.length : Int)), (13, .int .i64 x11), (24, .bool b43)] ∧ lx_digits.j2 q46 a0 a1 x10 x11 x18 b43 = some r_ ∧ q46 ≤ k14 ∧ St w (KS []) w_ [G4]) ?_ ?_
        ·
          refine WCode.region ?_
          refine WOps.p (G.move rfl) rfl ?_
          refine WOps.p (G.geq rfl rfl rfl) rfl ?_
          refine WOps.p (G.move rfl) rfl ?_
          rcases ite_some hF with ⟨h48, hF⟩ | ⟨h48, hF⟩
          ·
            refine WOps.on rfl (kbl (b := decide (97 ≤ ((x18).toNat : Int))) rfl (decide_eq_true h48)) ?_
            refine WOps.p (G.move rfl) rfl ?_
            refine WOps.on rfl (kbl (b := decide (97 ≤ ((x18).toNat : Int))) rfl (decide_eq_true h48)) ?_
            refine WOps.p (G.leq rfl rfl rfl) rfl ?_
            refine WOps.p (G.pick_t (kb (b := decide (97 ≤ ((x18).toNat : Int))) rfl (decide_eq_true h48)) rfl) rfl ?_
            refine WOps.p (G.assign rfl) rfl ?_
            refine WOps.nil ?_
            refine WEx.cutend _ ?_ ⟨k14, decide (((x18).toNat : Int) ≤ 102), rfl, hF, (by omega), S41⟩
            exact ⟨rfl, rfl, rfl, rfl, rfl, rfl, rfl, rfl, rfl, trivial⟩
          ·
            refine WOps.off rfl (kbl (b := decide (97 ≤ ((x18).toNat : Int))) rfl (decide_eq_false h48)) rfl rfl ?_
            refine WOps.off rfl (kbl (b := decide (97 ≤ ((x18).toNat : Int))) rfl (decide_eq_false h48)) rfl rfl ?_
            refine WOps.p (G.pick_f (kb (b := decide (97 ≤ ((x18).toNat : Int))) rfl (decide_eq_false h48)) rfl) rfl ?_
            refine WOps.p (G.assign rfl) rfl ?_
            refine WOps.nil ?_
            refine WEx.cutend _ ?_ ⟨k14, false, rfl, hF, (by omega), S41⟩
            exact ⟨rfl, rfl, rfl, rfl, rfl, rfl, rfl, rfl, rfl, trivial⟩
        ·
          rintro _ w44 ⟨q46, b43, rfl, hF, hq47, S45⟩
          obtain _ | k49 := q46
          · exact nomatch (show (none : Option (Int × Bool)) = some r_ from hF)
          rw [lx_digits.j2] at hF
          rcases ite_some hF with ⟨h50, hF⟩ | ⟨h50, hF⟩
          ·
            refine WCode.cond_t (kb (b := b43) rfl h50) ?_
            refine WCode.region ?_
            refine WOps.p (G.move rfl) rfl ?_
            refine WOps.p (G.sub rfl rfl (r := (IntKind.u8.wrap (((x18).toNat : Int) - 97))) rfl) rfl ?_
            refine WOps.p (G.convi (by kernel_rfl) Tryd.underlying3 rfl (r := (w64 (IntKind.u8.wrap (((x18).toNat : Int) - 97)))) rfl) rfl ?_
            refine WOps.p (G.add rfl rfl (r := (w64 ((w64 (IntKind.u8.wrap (((x18).toNat : Int) - 97))) + 10))) rfl) rfl ?_
            refine WOps.p (G.assign rfl) rfl ?_
            refine WOps.nil ?_
            refine WEx.in_normal ?_
            refine WEx.cutend _ ?_ ⟨k49, w64 ((w64 (IntKind.u8.wrap (((x18).toNat : Int) - 97))) + 10), rfl, hF, (by omega), S45⟩
            exact ⟨rfl, rfl, rfl, rfl, rfl, rfl, rfl, trivial⟩
          ·
            refine WCode.cond_f (kb (b := b43) rfl (Bool.eq_false_iff.2 h50)) ?_
            refine WCode.seq ?_
            refine WCode.region ?_
            refine WOps.p (G.move rfl) rfl ?_
            refine WOps.p (G.geq rfl rfl rfl) rfl ?_
            refine WOps.p (G.move rfl) rfl ?_
            rcases ite_some hF with ⟨h51, hF⟩ | ⟨h51, hF⟩
            ·
              refine WOps.on rfl (kbl (b := decide (65 ≤ ((x18).toNat : Int))) rfl (decide_eq_true h51)) ?_
              refine WOps.p (G.move rfl) rfl ?_
              refine WOps.on rfl (kbl (b := decide (65 ≤ ((x18).toNat : Int))) rfl (decide_eq_true h51)) ?_
              refine WOps.p (G.leq rfl rfl rfl) rfl ?_
              refine WOps.p (G.pick_t (kb (b := decide (65 ≤ ((x18).toNat : Int))) rfl (decide_eq_true h51)) rfl) rfl ?_
              refine WOps.p (G.assign rfl) rfl ?_
              refine WOps.nil ?_
              refine WEx.then_ ?_
              rcases ite_some hF with ⟨h52, hF⟩ | ⟨h52, hF⟩
              ·
                refine WCode.cond_t (kb (b := decide (((x18).toNat : Int) ≤ 70)) rfl (decide_eq_true h52)) ?_
                refine WCode.region ?_
                refine WOps.p (G.move rfl) rfl ?_
                refine WOps.p (G.sub rfl rfl (r := (IntKind.u8.wrap (((x18).toNat : Int) - 65))) rfl) rfl ?_
                refine WOps.p (G.convi (by kernel_rfl) Tryd.underlying3 rfl (r := (w64 (IntKind.u8.wrap (((x18).toNat : Int) - 65)))) rfl) rfl ?_
                refine WOps.p (G.add rfl rfl (r := (w64 ((w64 (IntKind.u8.wrap (((x18).toNat : Int) - 65))) + 10))) rfl) rfl ?_
                refine WOps.p (G.assign rfl) rfl ?_
                refine WOps.nil ?_
                refine WEx.in_normal ?_
                refine WEx.cutend _ ?_ ⟨k49, w64 ((w64 (IntKind.u8.wrap (((x18).toNat : Int) - 65))) + 10), rfl, hF, (by omega), S45⟩
                exact ⟨rfl, rfl, rfl, rfl, rfl, rfl, rfl, trivial⟩
              ·
                refine WCode.cond_f (kb (b := decide (((x18).toNat : Int) ≤ 70)) rfl (decide_eq_false h52)) ?_
                refine WCode.skip ?_
                refine WEx.in_normal ?_
                refine WEx.cutend _ ?_ ⟨k49, a1, rfl, hF, (by omega), S45⟩
                exact ⟨rfl, rfl, rfl, rfl, rfl, rfl, rfl, trivial⟩
            ·
              refine WOps.off rfl (kbl (b := decide (65 ≤ ((x18).toNat : Int))) rfl (decide_eq_false h51)) rfl rfl ?_
              refine WOps.off rfl (kbl (b := decide (65 ≤ ((x18).toNat : Int))) rfl (decide_eq_false h51)) rfl rfl ?_
              refine WOps.p (G.pick_f (kb (b := decide (65 ≤ ((x18).toNat : Int))) rfl (decide_eq_false h51)) rfl) rfl ?_
              refine WOps.p (G.assign rfl) rfl ?_
              refine WOps.nil ?_
              refine WEx.then_ ?_
              refine WCode.cond_f rfl ?_
              refine WCode.skip ?_
              refine WEx.in_normal ?_
              refine WEx.cutend _ ?_ ⟨k49, a1, rfl, hF, (by omega), S45⟩
              exact ⟨rfl, rfl, rfl, rfl, rfl, rfl, rfl, trivial⟩
    ·
      rintro _ w33 ⟨q35, x32, rfl, hF, hq36, S34⟩
      obtain _ | k53 := q35
      · exact nomatch (show (none : Option (Int × Bool)) = some r_ from hF)
      rw [lx_digits.j1] at hF
      refine WCode.seq ?_
      refine WCode.region ?_
      refine WOps.p (G.move rfl) rfl ?_
      refine WOps.p (G.move rfl) rfl ?_
      refine WOps.p (G.mul rfl rfl (r := (w64 (x10 * a1))) rfl) rfl ?_
      refine WOps.p (G.move rfl) rfl ?_
      refine WOps.p (G.add rfl rfl (r := (w64 ((w64 (x10 * a1)) + x32))) rfl) rfl ?_
      refine WOps.p (G.assign rfl) rfl ?_
      refine WOps.nil ?_
      refine WEx.then_ ?_
      refine WCode.seq ?_
      refine WCode.region ?_
      refine WOps.p (G.move rfl) rfl ?_
      refine WOps.p (G.move rfl) rfl ?_
      refine WOps.p (G.geq rfl rfl rfl) rfl ?_
      refine WOps.p (G.move rfl) rfl ?_
      rcases ite_some hF with ⟨h54, hF⟩ | ⟨h54, hF⟩
      ·
        refine WOps.off rfl (kbl (b := decide (a1 ≤ x32)) rfl (decide_eq_true h54)) rfl rfl ?_
        refine WOps.off rfl (kbl (b := decide (a1 ≤ x32)) rfl (decide_eq_true h54)) rfl rfl ?_
        refine WOps.p (G.pick_t (kb (b := decide (a1 ≤ x32)) rfl (decide_eq_true h54)) rfl) rfl ?_
        refine WOps.nil ?_
        refine WEx.then_ ?_
        refine WCode.forget (l' := [(0, .string (bs a0)), (1, .int .i64 a1), (6, .int .i64 (w64 ((w64 (x10 * a1)) + x32))), (11, .slice A2 a0.length c3), (12, .int .i64 (a0.length : Int)), (13, .int .i64 x11), (55, undef), (56, undef), (57, .bool true)]) ⟨rfl, rfl, rfl, rfl, rfl, rfl, rfl, rfl, rfl, trivial⟩ ?_
        refine WCode.cond_t rfl ?_
        refine WCode.seq ?_
        refine WCode.region ?_
        refine WOps.p (G.assign rfl) rfl ?_
        refine WOps.p (G.assign rfl) rfl ?_
        refine WOps.nil ?_
        refine WEx.then_ ?_
        refine WCode.ret ?_
        refine WEx.in_ret ?_
        refine WEx.then_ret ?_
        refine WEx.then_ret ?_
        refine WEx.in_ret ?_
        refine WEx.then_ret ?_
        obtain rfl := some_eq hF
        refine WEx.ret2 rfl rfl rfl ?_
        exact ⟨rfl, St.keep (As := []) S34⟩
      ·
        refine WOps.on rfl (kbl (b := decide (a1 ≤ x32)) rfl (decide_eq_false h54)) ?_
        refine WOps.p (G.move rfl) rfl ?_
        refine WOps.on rfl (kbl (b := decide (a1 ≤ x32)) rfl (decide_eq_false h54)) ?_
        refine WOps.p (G.gtr rfl rfl rfl) rfl ?_
        refine WOps.p (G.pick_f (kb (b := decide (a1 ≤ x32)) rfl (decide_eq_false h54)) rfl) rfl ?_
        refine WOps.nil ?_
        refine WEx.then_ ?_
        refine WCode.forget (l' := [(0, .string (bs a0)), (1, .int .i64 a1), (6, .int .i64 (w64 ((w64 (x10 * a1)) + x32))), (11, .slice A2 a0.length c3), (12, .int .i64 (a0.length : Int)), (13, .int .i64 x11), (55, .int .i64 (w64 ((w64 (x10 * a1)) + x32))), (56, .bool (decide (4294967295 < (w64 ((w64 (x10 * a1)) + x32))))), (57, .bool (decide (4294967295 < (w64 ((w64 (x10 * a1)) + x32)))))]) ⟨rfl, rfl, rfl, rfl, rfl, rfl, rfl, rfl, rfl, trivial⟩ ?_
        rcases ite_some hF with ⟨h55, hF⟩ | ⟨h55, hF⟩
        ·
          refine WCode.cond_t (kb (b := decide (4294967295 < (w64 ((w64 (x10 * a1)) + x32)))) rfl (decide_eq_true h55)) ?_
          refine WCode.seq ?_
          refine WCode.region ?_
          refine WOps.p (G.assign rfl) rfl ?_
          refine WOps.p (G.assign rfl) rfl ?_
          refine WOps.nil ?_
          refine WEx.then_ ?_
          refine WCode.ret ?_
          refine WEx.in_ret ?_
          refine WEx.then_ret ?_
          refine WEx.then_ret ?_
          refine WEx.in_ret ?_
          refine WEx.then_ret ?_
          obtain rfl := some_eq hF
          refine WEx.ret2 rfl rfl rfl ?_
          exact ⟨rfl, St.keep (As := []) S34⟩
        ·
          refine WCode.cond_f (kb (b := decide (4294967295 < (w64 ((w64 (x10 * a1)) + x32)))) rfl (decide_eq_false h55)) ?_
          refine WCode.skip ?_
          refine WEx.in_normal ?_
          refine WEx.then_ ?_
          refine WCode.region ?_
          refine WOps.p (G.add rfl rfl (r := (w64 (x11 + 1))) rfl) rfl ?_
          refine WOps.p (G.move rfl) rfl ?_
          refine WOps.nil ?_
          refine WEx.again _ _ (by omega) ?_ ⟨w64 ((w64 (x10 * a1)) + x32), w64 (x11 + 1), rfl, hF, S34⟩
          exact ⟨rfl, rfl, rfl, rfl, rfl, rfl, trivial⟩
  ·
    refine WCode.cond_f (kb (b := decide (x11 < (a0.length : Int))) rfl (decide_eq_false h17)) ?_
    refine WCode.exit ?_
    refine WEx.then_exit ?_
    refine WEx.then_exit ?_
    refine WEx.in_exit ?_
    refine WEx.then_ ?_
    refine WCode.seq ?_
    refine WCode.region ?_
    refine WOps.p (G.move rfl) rfl ?_
    refine WOps.p (G.move rfl) rfl ?_
    refine WOps.p (G.neqlb' rfl rfl rfl) rfl ?_
    refine WOps.p (G.assign rfl) rfl ?_
    refine WOps.p (G.assign rfl) rfl ?_
    refine WOps.nil ?_
    refine WEx.then_ ?_
    refine WCode.forget (l' := [(4, .int .i64 x10), (5, .bool (!(decide (a0 = ([] : List UInt8)))))]) ⟨rfl, rfl, trivial⟩ ?_
    refine WCode.ret ?_
    obtain rfl := some_eq hF
    refine WEx.ret2 rfl rfl rfl ?_
    exact ⟨rfl, St.keep (As := []) S13⟩

def lx_numbered.j1 (q30 : Nat) (t1 : (List UInt8) × Bool) (b27 : Bool) : Option (Int × Bool) := (if b27 = true then (Option.bind (cut t1.1 1 (t1.1.length : Int)) fun m36 => (Option.bind (lx_digits q30 m36 8) fun t38 => (some (t38.1, t38.2)))) else (Option.bind (lx_digits q30 t1.1 10) fun t43 => (some (t43.1, t43.2))))
def lx_numbered (k : Nat) (a0 : List UInt8) : Option (Int × Bool) := (Option.bind (CutPrefix k a0 ([45] : List UInt8)) fun t1 => (Option.bind (CutPrefix k t1.1 ([48, 120] : List UInt8)) fun t6 => (if t1.2 = true then (Option.bind (lx_digits k t1.1 10) fun t12 => (if t12.2 = true then (Option.bind (idx t1.1 0) fun c18 => (if ((c18).toNat : Int) = 48 then (some (w64 (-t12.1), false)) else (some (w64 (-t12.1), decide ((-2147483648) ≤ (w64 (-t12.1))))))) else (some (w64 (-t12.1), false)))) else (if t6.2 = true then (Option.bind (lx_digits k t6.1 16) fun t22 => (some (t22.1, t22.2))) else (Option.bind (idx t1.1 0) fun c32 => (if ((c32).toNat : Int) = 48 then (lx_numbered.j1 k t1 (decide (1 < (t1.1.length : Int)))) else (lx_numbered.j1 k t1 false)))))))
set_option maxRecDepth 100000 in
set_option maxHeartbeats 1000000 in
theorem lx_numbered_calls (k : Nat) (a0 : List UInt8) {w : World} {r_ : Int × Bool} (h_ : lx_numbered k a0 = some r_) :
    Calls Tryd.prog 37 [.string (bs a0)].toArray w fun e w' => e = .returned (.tuple #[.int .i64 r_.1, .bool r_.2]) ∧ St w (KS []) w' [] := by
  have hF := h_
  clear h_
  unfold lx_numbered at hF
  have S := St.ofFalse (As := []) (St.init0 w)
  refine enter 64 [(0, .string (bs a0))] Tryd.func37 rfl rfl rfl rfl ?_
  refine WCode.seq ?_
  refine WCode.region ?_
  refine WOps.p (G.assign rfl) rfl ?_
  refine WOps.p (G.assign rfl) rfl ?_
  refine WOps.nil ?_
  refine WEx.then_ ?_
  refine WCode.seq ?_
  refine WCode.region ?_
  refine WOps.p (G.move rfl) rfl ?_
  obtain ⟨t1, hc2, hF⟩ := bind_some hF
  refine WOps.call T.call49 (evs_cons rfl (evs_cons rfl evs_nil)) rfl ?_
  refine (CutPrefix_calls k a0 ([45] : List UInt8) hc2).mono ?_
  rintro _ w3 ⟨rfl, T4⟩
  have S5 := St.callN (As := []) S T4
  change St _ _ _ [] at S5
  refine ⟨_, rfl, ?_⟩
  refine WOps.p (G.move rfl) rfl ?_
  refine WOps.p (G.extract rfl rfl) rfl ?_
  refine WOps.p (G.extract rfl rfl) rfl ?_
  refine WOps.p (G.assign rfl) rfl ?_
  refine WOps.p (G.assign rfl) rfl ?_
  refine WOps.nil ?_
  refine WEx.then_ ?_
  refine WCode.seq ?_
  refine WCode.region ?_
  refine WOps.p (G.move rfl) rfl ?_
  obtain ⟨t6, hc7, hF⟩ := bind_some hF
  refine WOps.call T.call49 (evs_cons rfl (evs_cons rfl evs_nil)) rfl ?_
  refine (CutPrefix_calls k t1.1 ([48, 120] : List UInt8) hc7).mono ?_
  rintro _ w8 ⟨rfl, T9⟩
  have S10 := St.callN (As := []) S5 T9
  change St _ _ _ [] at S10
  refine ⟨_, rfl, ?_⟩
  refine WOps.p (G.move rfl) rfl ?_
  refine WOps.p (G.extract rfl rfl) rfl ?_
  refine WOps.p (G.extract rfl rfl) rfl ?_
  refine WOps.p (G.assign rfl) rfl ?_
  refine WOps.p (G.assign rfl) rfl ?_
  refine WOps.nil ?_
  refine WEx.then_ ?_
  refine WCode.forget (l' := [(4, .string (bs t1.1)), (5, .bool t1.2), (6, .string (bs t6.1)), (7, .bool t6.2)]) ⟨rfl, rfl, rfl, rfl, trivial⟩ ?_
  refine WCode.seq ?_
  refine WCode.block ?_
  refine WCode.seq ?_
  refine WCode.region ?_
  refine WOps.p (G.move rfl) rfl ?_
  refine WOps.p (G.assign rfl) rfl ?_
  refine WOps.nil ?_
  refine WEx.then_ ?_
  rcases ite_some hF with ⟨h11, hF⟩ | ⟨h11, hF⟩
  ·
    refine WCode.cond_t (kb (b := t1.2) rfl h11) ?_
    refine WCode.seq ?_
    refine WCode.region ?_
    refine WOps.p (G.move rfl) rfl ?_
    obtain ⟨t12, hc13, hF⟩ := bind_some hF
    refine WOps.call T.call50 (evs_cons rfl (evs_cons rfl evs_nil)) rfl ?_
    refine (lx_digits_calls k t1.1 10 hc13).mono ?_
    rintro _ w14 ⟨rfl, T15⟩
    have S16 := St.callN (As := []) S10 T15
    change St _ _ _ [] at S16
    refine ⟨_, rfl, ?_⟩
    refine WOps.p (G.move rfl) rfl ?_
    refine WOps.p (G.extract rfl rfl) rfl ?_
    refine WOps.p (G.extract rfl rfl) rfl ?_
    refine WOps.p (G.assign rfl) rfl ?_
    refine WOps.p (G.assign rfl) rfl ?_
    refine WOps.nil ?_
    refine WEx.then_ ?_
    refine WCode.forget (l' := [(4, .string (bs t1.1)), (8, .int .i64 t12.1), (9, .bool t12.2)]) ⟨rfl, rfl, rfl, trivial⟩ ?_
    refine WCode.seq ?_
    refine WCode.region ?_
    refine WOps.p (G.move rfl) rfl ?_
    refine WOps.p (G.neg rfl (r := (w64 (-t12.1))) rfl) rfl ?_
    refine WOps.p (G.move rfl) rfl ?_
    refine WOps.p (G.move rfl) rfl ?_
    rcases ite_some hF with ⟨h17, hF⟩ | ⟨h17, hF⟩
    ·
      refine WOps.on rfl (kbl (b := t12.2) rfl h17) ?_
      refine WOps.p (G.move rfl) rfl ?_
      refine WOps.on rfl (kbl (b := t12.2) rfl h17) ?_
      obtain ⟨c18, hc19, hF⟩ := bind_some hF
      refine WOps.p (G.idxb T.str9 rfl rfl hc19) rfl ?_
      refine WOps.on rfl (kbl (b := t12.2) rfl h17) ?_
      refine WOps.p (G.neq rfl rfl rfl) rfl ?_
      refine WOps.p (G.pick_t (kb (b := t12.2) rfl h17) rfl) rfl ?_
      refine WOps.p (G.move rfl) rfl ?_
      rcases ite_some hF with ⟨h20, hF⟩ | ⟨h20, hF⟩
      ·
        refine WOps.off rfl (kbl (b := !(decide (((c18).toNat : Int) = 48))) rfl (show (!(decide (((c18).toNat : Int) = 48))) = false from by rw [(decide_eq_true h20)]; rfl)) rfl rfl ?_
        refine WOps.off rfl (kbl (b := !(decide (((c18).toNat : Int) = 48))) rfl (show (!(decide (((c18).toNat : Int) = 48))) = false from by rw [(decide_eq_true h20)]; rfl)) rfl rfl ?_
        refine WOps.off rfl (kbl (b := !(decide (((c18).toNat : Int) = 48))) rfl (show (!(decide (((c18).toNat : Int) = 48))) = false from by rw [(decide_eq_true h20)]; rfl)) rfl rfl ?_
        refine WOps.p (G.pick_f (kb (b := !(decide (((c18).toNat : Int) = 48))) rfl (show (!(decide (((c18).toNat : Int) = 48))) = false from by rw [(decide_eq_true h20)]; rfl)) rfl) rfl ?_
        refine WOps.p (G.assign rfl) rfl ?_
        refine WOps.p (G.assign rfl) rfl ?_
        refine WOps.nil ?_
        refine WEx.then_ ?_
        refine WCode.forget (l' := [(2, .int .i64 (w64 (-t12.1))), (3, .bool false)]) ⟨rfl, rfl, trivial⟩ ?_
        refine WCode.ret ?_
        refine WEx.in_ret ?_
        refine WEx.then_ret ?_
        obtain rfl := some_eq hF
        refine WEx.ret2 rfl rfl rfl ?_
        exact ⟨rfl, St.keep (As := []) S16⟩
      ·
        refine WOps.on rfl (kbl (b := !(decide (((c18).toNat : Int) = 48))) rfl (show (!(decide (((c18).toNat : Int) = 48))) = true from by rw [(decide_eq_false h20)]; rfl)) ?_
        refine WOps.p (G.move rfl) rfl ?_
        refine WOps.on rfl (kbl (b := !(decide (((c18).toNat : Int) = 48))) rfl (show (!(decide (((c18).toNat : Int) = 48))) = true from by rw [(decide_eq_false h20)]; rfl)) ?_
        refine WOps.p (G.neg rfl (r := (w64 (-t12.1))) rfl) rfl ?_
        refine WOps.on rfl (kbl (b := !(decide (((c18).toNat : Int) = 48))) rfl (show (!(decide (((c18).toNat : Int) = 48))) = true from by rw [(decide_eq_false h20)]; rfl)) ?_
        refine WOps.p (G.geq rfl rfl rfl) rfl ?_
        refine WOps.p (G.pick_t (kb (b := !(decide (((c18).toNat : Int) = 48))) rfl (show (!(decide (((c18).toNat : Int) = 48))) = true from by rw [(decide_eq_false h20)]; rfl)) rfl) rfl ?_
        refine WOps.p (G.assign rfl) rfl ?_
        refine WOps.p (G.assign rfl) rfl ?_
        refine WOps.nil ?_
        refine WEx.then_ ?_
        refine WCode.forget (l' := [(2, .int .i64 (w64 (-t12.1))), (3, .bool (decide ((-2147483648) ≤ (w64 (-t12.1)))))]) ⟨rfl, rfl, trivial⟩ ?_
        refine WCode.ret ?_
        refine WEx.in_ret ?_
        refine WEx.then_ret ?_
        obtain rfl := some_eq hF
        refine WEx.ret2 rfl rfl rfl ?_
        exact ⟨rfl, St.keep (As := []) S16⟩
    ·
      refine WOps.off rfl (kbl (b := t12.2) rfl (Bool.eq_false_iff.2 h17)) rfl rfl ?_
      refine WOps.off rfl (kbl (b := t12.2) rfl (Bool.eq_false_iff.2 h17)) rfl rfl ?_
      refine WOps.off rfl (kbl (b := t12.2) rfl (Bool.eq_false_iff.2 h17)) rfl rfl ?_
      refine WOps.p (G.pick_f (kb (b := t12.2) rfl (Bool.eq_false_iff.2 h17)) rfl) rfl ?_
      refine WOps.p (G.move rfl) rfl ?_
      refine WOps.off rfl rfl rfl rfl ?_
      refine WOps.off rfl rfl rfl rfl ?_
      refine WOps.off rfl rfl rfl rfl ?_
      refine WOps.p (G.pick_f rfl rfl) rfl ?_
      refine WOps.p (G.assign rfl) rfl ?_
      refine WOps.p (G.assign rfl) rfl ?_
      refine WOps.nil ?_
      refine WEx.then_ ?_
      refine WCode.forget (l' := [(2, .int .i64 (w64 (-t12.1))), (3, .bool false)]) ⟨rfl, rfl, trivial⟩ ?_
      refine WCode.ret ?_
      refine WEx.in_ret ?_
      refine WEx.then_ret ?_
      obtain rfl := some_eq hF
      refine WEx.ret2 rfl rfl rfl ?_
      exact ⟨rfl, St.keep (As := []) S16⟩
  ·
    refine WCode.cond_f (kb (b := t1.2) rfl (Bool.eq_false_iff.2 h11)) ?_
    refine WCode.seq ?_
    refine WCode.region ?_
    refine WOps.p (G.move rfl) rfl ?_
    refine WOps.p (G.assign rfl) rfl ?_
    refine WOps.nil ?_
    refine WEx.then_ ?_
    rcases ite_some hF with ⟨h21, hF⟩ | ⟨h21, hF⟩
    ·
      refine WCode.cond_t (kb (b := t6.2) rfl h21) ?_
      refine WCode.seq ?_
      refine WCode.region ?_
      refine WOps.p (G.move rfl) rfl ?_
      obtain ⟨t22, hc23, hF⟩ := bind_some hF
      refine WOps.call T.call50 (evs_cons rfl (evs_cons rfl evs_nil)) rfl ?_
      refine (lx_digits_calls k t6.1 16 hc23).mono ?_
      rintro _ w24 ⟨rfl, T25⟩
      have S26 := St.callN (As := []) S10 T25
      change St _ _ _ [] at S26
      refine ⟨_, rfl, ?_⟩
      refine WOps.p (G.extract rfl rfl) rfl ?_
      refine WOps.p (G.extract rfl rfl) rfl ?_
      refine WOps.p (G.assign rfl) rfl ?_
      refine WOps.p (G.assign rfl) rfl ?_
      refine WOps.nil ?_
      refine WEx.then_ ?_
      refine WCode.forget (l' := [(2, .int .i64 t22.1), (3, .bool t22.2)]) ⟨rfl, rfl, trivial⟩ ?_
      refine WCode.ret ?_
      refine WEx.in_ret ?_
      refine WEx.then_ret ?_
      obtain rfl := some_eq hF
      refine WEx.ret2 rfl rfl rfl ?_
      exact ⟨rfl, St.keep (As := []) S26⟩
    ·
      refine WCode.cond_f (kb (b := t6.2) rfl (Bool.eq_false_iff.2 h21)) ?_
      refine WCode.cutseq (fun l_ w_ => ∃ q30 : Nat, ∃ b27 : Bool, l_ = [(4, .string (bs t1.1)), (46, .bool b27)] ∧ lx_numbered.j1 q30 t1 b27 = some r_ ∧ St w (KS []) w_ []) ?_ ?_
      ·
        refine WCode.region ?_
        refine WOps.p (G.move rfl) rfl ?_
        obtain ⟨c32, hc33, hF⟩ := bind_some hF
        refine WOps.p (G.idxb T.str9 rfl rfl hc33) rfl ?_
        refine WOps.p (G.eql rfl rfl rfl) rfl ?_
        refine WOps.p (G.move rfl) rfl ?_
        rcases ite_some hF with ⟨h34, hF⟩ | ⟨h34, hF⟩
        ·
          refine WOps.on rfl (kbl (b := decide (((c32).toNat : Int) = 48)) rfl (decide_eq_true h34)) ?_
          refine WOps.p (G.move rfl) rfl ?_
          refine WOps.on rfl (kbl (b := decide (((c32).toNat : Int) = 48)) rfl (decide_eq_true h34)) ?_
          refine WOps.p (G.lenb T.str9 rfl) rfl ?_
          refine WOps.on rfl (kbl (b := decide (((c32).toNat : Int) = 48)) rfl (decide_eq_true h34)) ?_
          refine WOps.p (G.gtr rfl rfl rfl) rfl ?_
          refine WOps.p (G.pick_t (kb (b := decide (((c32).toNat : Int) = 48)) rfl (decide_eq_true h34)) rfl) rfl ?_
          refine WOps.p (G.assign rfl) rfl ?_
          refine WOps.nil ?_
          refine WEx.cutend _ ?_ ⟨k, decide (1 < (t1.1.length : Int)), rfl, hF, S10⟩
          exact ⟨rfl, rfl, trivial⟩
        ·
          refine WOps.off rfl (kbl (b := decide (((c32).toNat : Int) = 48)) rfl (decide_eq_false h34)) rfl rfl ?_
          refine WOps.off rfl (kbl (b := decide (((c32).toNat : Int) = 48)) rfl (decide_eq_false h34)) rfl rfl ?_
          refine WOps.off rfl (kbl (b := decide (((c32).toNat : Int) = 48)) rfl (decide_eq_false h34)) rfl rfl ?_
          refine WOps.p (G.pick_f (kb (b := decide (((c32).toNat : Int) = 48)) rfl (decide_eq_false h34)) rfl) rfl ?_
          refine WOps.p (G.assign rfl) rfl ?_
          refine WOps.nil ?_
          refine WEx.cutend _ ?_ ⟨k, false, rfl, hF, S10⟩
          exact ⟨rfl, rfl, trivial⟩
      ·
        rintro _ w28 ⟨q30, b27, rfl, hF, S29⟩
        unfold lx_numbered.j1 at hF
        rcases ite_some hF with ⟨h35, hF⟩ | ⟨h35, hF⟩
        ·
          refine WCode.cond_t (kb (b := b27) rfl h35) ?_
          refine WCode.seq ?_
          refine WCode.region ?_
          refine WOps.p (G.move rfl) rfl ?_
          obtain ⟨m36, hc37, hF⟩ := bind_some hF
          refine WOps.p (G.cutb_l T.str9 rfl rfl hc37) rfl ?_
          obtain ⟨t38, hc39, hF⟩ := bind_some hF
          refine WOps.call T.call50 (evs_cons rfl (evs_cons rfl evs_nil)) rfl ?_
          refine (lx_digits_calls q30 m36 8 hc39).mono ?_
          rintro _ w40 ⟨rfl, T41⟩
          have S42 := St.callN (As := []) S29 T41
          change St _ _ _ [] at S42
          refine ⟨_, rfl, ?_⟩
          refine WOps.p (G.extract rfl rfl) rfl ?_
          refine WOps.p (G.extract rfl rfl) rfl ?_
          refine WOps.p (G.assign rfl) rfl ?_
          refine WOps.p (G.assign rfl) rfl ?_
          refine WOps.nil ?_
          refine WEx.then_ ?_
          refine WCode.ret ?_
          refine WEx.in_ret ?_
          refine WEx.then_ret ?_
          obtain rfl := some_eq hF
          refine WEx.ret2 rfl rfl rfl ?_
          exact ⟨rfl, St.keep (As := []) S42⟩
        ·
          refine WCode.cond_f (kb (b := b27) rfl (Bool.eq_false_iff.2 h35)) ?_
          refine WCode.skip ?_
          refine WEx.in_normal ?_
          refine WEx.then_ ?_
          refine WCode.seq ?_
          refine WCode.region ?_
          refine WOps.p (G.move rfl) rfl ?_
          obtain ⟨t43, hc44, hF⟩ := bind_some hF
          refine WOps.call T.call50 (evs_cons rfl (evs_cons rfl evs_nil)) rfl ?_
          refine (lx_digits_calls q30 t1.1 10 hc44).mono ?_
          rintro _ w45 ⟨rfl, T46⟩
          have S47 := St.callN (As := []) S29 T46
          change St _ _ _ [] at S47
          refine ⟨_, rfl, ?_⟩
          refine WOps.p (G.extract rfl rfl) rfl ?_
          refine WOps.p (G.extract rfl rfl) rfl ?_
          refine WOps.p (G.assign rfl) rfl ?_
          refine WOps.p (G.assign rfl) rfl ?_
          refine WOps.nil ?_
          refine WEx.then_ ?_
          refine WCode.ret ?_
          obtain rfl := some_eq hF
          refine WEx.ret2 rfl rfl rfl ?_
          exact ⟨rfl, St.keep (As := []) S47⟩

def lx_IsWord (k : Nat) (a0 : List UInt8) : Option Bool := (Option.bind (gv_Fields k ([98, 111, 111, 108, 32, 99, 97, 115, 101, 32, 99, 111, 110, 115, 116, 32, 100, 101, 102, 97, 117, 108, 116, 32, 100, 111, 117, 98, 108, 101, 32, 101, 110, 117, 109, 32, 102, 108, 111, 97, 116, 32, 104, 121, 112, 101, 114, 32, 105, 110, 116, 32, 111, 112, 97, 113, 117, 101, 32, 112, 114, 111, 103, 114, 97, 109, 32, 113, 117, 97, 100, 114, 117, 112, 108, 101, 32, 115, 116, 114, 105, 110, 103, 32, 115, 116, 114, 117, 99, 116, 32, 115, 119, 105, 116, 99, 104, 32, 116, 121, 112, 101, 100, 101, 102, 32, 117, 110, 105, 111, 110, 32, 117, 110, 115, 105, 103, 110, 101, 100, 32, 118, 101, 114, 115, 105, 111, 110, 32, 118, 111, 105, 100] : List UInt8)) fun t1 => (Option.bind (slContains k (t1) a0) fun t10 => (some t10)))
set_option maxRecDepth 100000 in
set_option maxHeartbeats 1000000 in
theorem lx_IsWord_calls (k : Nat) (a0 : List UInt8) {FG : Nat → Prop} {w : World} (hGl : Glob FG w) (hFG : ∀ b, FG b → NK w [] b) {r_ : Bool} (h_ : lx_IsWord k a0 = some r_) :
    Calls Tryd.prog 12 [.string (bs a0)].toArray w fun e w' => e = .returned (.bool r_) ∧ St w (KS []) w' [] := by
  have hF := h_
  clear h_
  unfold lx_IsWord at hF
  have S := St.ofFalse (As := []) (St.init0 w)
  refine enter 6 [(0, .string (bs a0))] Tryd.func12 rfl rfl rfl rfl ?_
  refine WCode.seq ?_
  refine WCode.region ?_
  refine WOps.p (G.assign rfl) rfl ?_
  refine WOps.nil ?_
  refine WEx.then_ ?_
  refine WCode.seq ?_
  refine WCode.region ?_
  obtain ⟨t1, hc2, hF⟩ := bind_some hF
  refine WOps.call T.call24 (evs_cons rfl evs_nil) rfl ?_
  refine (gv_Fields_calls k ([98, 111, 111, 108, 32, 99, 97, 115, 101, 32, 99, 111, 110, 115, 116, 32, 100, 101, 102, 97, 117, 108, 116, 32, 100, 111, 117, 98, 108, 101, 32, 101, 110, 117, 109, 32, 102, 108, 111, 97, 116, 32, 104, 121, 112, 101, 114, 32, 105, 110, 116, 32, 111, 112, 97, 113, 117, 101, 32, 112, 114, 111, 103, 114, 97, 109, 32, 113, 117, 97, 100, 114, 117, 112, 108, 101, 32, 115, 116, 114, 105, 110, 103, 32, 115, 116, 114, 117, 99, 116, 32, 115, 119, 105, 116, 99, 104, 32, 116, 121, 112, 101, 100, 101, 102, 32, 117, 110, 105, 111, 110, 32, 117, 110, 115, 105, 103, 110, 101, 100, 32, 118, 101, 114, 115, 105, 111, 110, 32, 118, 111, 105, 100] : List UInt8) (hGl.ext (S.keepF hFG)) (St.outF (Bs := []) S hFG) hc2).mono ?_
  rintro _ w3 ⟨A6, c7, G8, rfl, hO9, T4⟩
  have S5 := St.callN (As := []) S T4
  change St _ _ _ [G8] at S5
  refine ⟨_, rfl, ?_⟩
  refine WOps.p (G.move rfl) rfl ?_
  obtain ⟨t10, hc11, hF⟩ := bind_some hF
  refine WOps.call T.call23 (evs_cons rfl (evs_cons rfl evs_nil)) rfl ?_
  refine (slContains_calls k (t1) a0 (hO9.rd (fun b o hb => S5.grp 0 rfl hb)) (St.outG (Bs := []) S5 0 rfl) hc11).mono ?_
  rintro _ w12 ⟨rfl, T13⟩
  have S14 := St.callN (As := []) S5 T13
  change St _ _ _ [G8] at S14
  refine ⟨_, rfl, ?_⟩
  refine WOps.p (G.assign rfl) rfl ?_
  refine WOps.nil ?_
  refine WEx.then_ ?_
  refine WCode.ret ?_
  obtain rfl := some_eq hF
  refine WEx.ret1 rfl rfl ?_
  exact ⟨rfl, St.keep (As := []) S14⟩

def lx_IsName (k : Nat) (a0 : List UInt8) : Option Bool := (if a0 = ([] : List UInt8) then (some false) else (Option.bind (idx a0 0) fun c2 => (Option.bind (lx_letter k ((c2).toNat : Int)) fun t4 => (if t4 = true then (if (a0.length : Int) ≤ 32 then (Option.bind (lx_run k a0) fun t11 => (if t11 = (a0.length : Int) then (Option.bind (lx_IsWord k a0) fun t17 => (some (!t17))) else (some false))) else (some false)) else (some false)))))
set_option maxRecDepth 100000 in
set_option maxHeartbeats 1000000 in
theorem lx_IsName_calls (k : Nat) (a0 : List UInt8) {FG : Nat → Prop} {w : World} (hGl : Glob FG w) (hFG : ∀ b, FG b → NK w [] b) {r_ : Bool} (h_ : lx_IsName k a0 = some r_) :
    Calls Tryd.prog 14 [.string (bs a0)].toArray w fun e w' => e = .returned (.bool r_) ∧ St w (KS []) w' [] := by
  have hF := h_
  clear h_
  unfold lx_IsName at hF
  have S := St.ofFalse (As := []) (St.init0 w)
  refine enter 27 [(0, .string (bs a0))] Tryd.func14 rfl rfl rfl rfl ?_
  refine WCode.seq ?_
  refine WCode.region ?_
  refine WOps.p (G.assign rfl) rfl ?_
  refine WOps.nil ?_
  refine WEx.then_ ?_
  refine WCode.seq ?_
  refine WCode.region ?_
  refine WOps.p (G.move rfl) rfl ?_
  refine WOps.p (G.neqlb' rfl rfl rfl) rfl ?_
  refine WOps.p (G.move rfl) rfl ?_
  rcases ite_some hF with ⟨h1, hF⟩ | ⟨h1, hF⟩
  ·
    refine WOps.off rfl (kbl (b := !(decide (a0 = ([] : List UInt8)))) rfl (show (!(decide (a0 = ([] : List UInt8)))) = false from by rw [(decide_eq_true h1)]; rfl)) rfl rfl ?_
    refine WOps.off rfl (kbl (b := !(decide (a0 = ([] : List UInt8)))) rfl (show (!(decide (a0 = ([] : List UInt8)))) = false from by rw [(decide_eq_true h1)]; rfl)) rfl rfl ?_
    refine WOps.off rfl (kbl (b := !(decide (a0 = ([] : List UInt8)))) rfl (show (!(decide (a0 = ([] : List UInt8)))) = false from by rw [(decide_eq_true h1)]; rfl)) rfl rfl ?_
    refine WOps.p (G.pick_f (kb (b := !(decide (a0 = ([] : List UInt8)))) rfl (show (!(decide (a0 = ([] : List UInt8)))) = false from by rw [(decide_eq_true h1)]; rfl)) rfl) rfl ?_
    refine WOps.p (G.move rfl) rfl ?_
    refine WOps.off rfl rfl rfl rfl ?_
    refine WOps.off rfl rfl rfl rfl ?_
    refine WOps.off rfl rfl rfl rfl ?_
    refine WOps.p (G.pick_f rfl rfl) rfl ?_
    refine WOps.p (G.move rfl) rfl ?_
    refine WOps.off rfl rfl rfl rfl ?_
    refine WOps.off rfl rfl rfl rfl ?_
    refine WOps.off rfl rfl rfl rfl ?_
    refine WOps.off rfl rfl rfl rfl ?_
    refine WOps.off rfl rfl rfl rfl ?_
    refine WOps.p (G.pick_f rfl rfl) rfl ?_
    refine WOps.p (G.move rfl) rfl ?_
    refine WOps.off rfl rfl rfl rfl ?_
    refine WOps.off rfl rfl rfl rfl ?_
    refine WOps.off rfl rfl rfl rfl ?_
    refine WOps.p (G.pick_f rfl rfl) rfl ?_
    refine WOps.p (G.assign rfl) rfl ?_
    refine WOps.nil ?_
    refine WEx.then_ ?_
    refine WCode.forget (l' := [(2, .bool false)]) ⟨rfl, trivial⟩ ?_
    refine WCode.ret ?_
    obtain rfl := some_eq hF
    refine WEx.ret1 rfl rfl ?_
    exact ⟨rfl, St.keep (As := []) S⟩
  ·
    refine WOps.on rfl (kbl (b := !(decide (a0 = ([] : List UInt8)))) rfl (show (!(decide (a0 = ([] : List UInt8)))) = true from by rw [(decide_eq_false h1)]; rfl)) ?_
    refine WOps.p (G.move rfl) rfl ?_
    refine WOps.on rfl (kbl (b := !(decide (a0 = ([] : List UInt8)))) rfl (show (!(decide (a0 = ([] : List UInt8)))) = true from by rw [(decide_eq_false h1)]; rfl)) ?_
    obtain ⟨c2, hc3, hF⟩ := bind_some hF
    refine WOps.p (G.idxb T.str9 rfl rfl hc3) rfl ?_
    refine WOps.on rfl (kbl (b := !(decide (a0 = ([] : List UInt8)))) rfl (show (!(decide (a0 = ([] : List UInt8)))) = true from by rw [(decide_eq_false h1)]; rfl)) ?_
    obtain ⟨t4, hc5, hF⟩ := bind_some hF
    refine WOps.call T.call26 (evs_cons rfl evs_nil) rfl ?_
    refine (lx_letter_calls k ((c2).toNat : Int) hc5).mono ?_
    rintro _ w6 ⟨rfl, T7⟩
    have S8 := St.callN (As := []) S T7
    change St _ _ _ [] at S8
    refine ⟨_, rfl, ?_⟩
    refine WOps.p (G.pick_t (kb (b := !(decide (a0 = ([] : List UInt8)))) rfl (show (!(decide (a0 = ([] : List UInt8)))) = true from by rw [(decide_eq_false h1)]; rfl)) rfl) rfl ?_
    refine WOps.p (G.move rfl) rfl ?_
    rcases ite_some hF with ⟨h9, hF⟩ | ⟨h9, hF⟩
    ·
      refine WOps.on rfl (kbl (b := t4) rfl h9) ?_
      refine WOps.p (G.move rfl) rfl ?_
      refine WOps.on rfl (kbl (b := t4) rfl h9) ?_
      refine WOps.p (G.lenb T.str9 rfl) rfl ?_
      refine WOps.on rfl (kbl (b := t4) rfl h9) ?_
      refine WOps.p (G.leq rfl rfl rfl) rfl ?_
      refine WOps.p (G.pick_t (kb (b := t4) rfl h9) rfl) rfl ?_
      refine WOps.p (G.move rfl) rfl ?_
      rcases ite_some hF with ⟨h10, hF⟩ | ⟨h10, hF⟩
      ·
        refine WOps.on rfl (kbl (b := decide ((a0.length : Int) ≤ 32)) rfl (decide_eq_true h10)) ?_
        refine WOps.p (G.move rfl) rfl ?_
        refine WOps.on rfl (kbl (b := decide ((a0.length : Int) ≤ 32)) rfl (decide_eq_true h10)) ?_
        obtain ⟨t11, hc12, hF⟩ := bind_some hF
        refine WOps.call T.call27 (evs_cons rfl evs_nil) rfl ?_
        refine (lx_run_calls k a0 hc12).mono ?_
        rintro _ w13 ⟨rfl, T14⟩
        have S15 := St.callN (As := []) S8 T14
        change St _ _ _ [] at S15
        refine ⟨_, rfl, ?_⟩
        refine WOps.on rfl (kbl (b := decide ((a0.length : Int) ≤ 32)) rfl (decide_eq_true h10)) ?_
        refine WOps.p (G.move rfl) rfl ?_
        refine WOps.on rfl (kbl (b := decide ((a0.length : Int) ≤ 32)) rfl (decide_eq_true h10)) ?_
        refine WOps.p (G.lenb T.str9 rfl) rfl ?_
        refine WOps.on rfl (kbl (b := decide ((a0.length : Int) ≤ 32)) rfl (decide_eq_true h10)) ?_
        refine WOps.p (G.eql rfl rfl rfl) rfl ?_
        refine WOps.p (G.pick_t (kb (b := decide ((a0.length : Int) ≤ 32)) rfl (decide_eq_true h10)) rfl) rfl ?_
        refine WOps.p (G.move rfl) rfl ?_
        rcases ite_some hF with ⟨h16, hF⟩ | ⟨h16, hF⟩
        ·
          refine WOps.on rfl (kbl (b := decide (t11 = (a0.length : Int))) rfl (decide_eq_true h16)) ?_
          refine WOps.p (G.move rfl) rfl ?_
          refine WOps.on rfl (kbl (b := decide (t11 = (a0.length : Int))) rfl (decide_eq_true h16)) ?_
          obtain ⟨t17, hc18, hF⟩ := bind_some hF
          refine WOps.call T.call12 (evs_cons rfl evs_nil) rfl ?_
          refine (lx_IsWord_calls k a0 (hGl.ext (S15.keepF hFG)) (St.outF (Bs := []) S15 hFG) hc18).mono ?_
          rintro _ w19 ⟨rfl, T20⟩
          have S21 := St.callN (As := []) S15 T20
          change St _ _ _ [] at S21
          refine ⟨_, rfl, ?_⟩
          refine WOps.on rfl (kbl (b := decide (t11 = (a0.length : Int))) rfl (decide_eq_true h16)) ?_
          refine WOps.p (G.not rfl rfl) rfl ?_
          refine WOps.p (G.pick_t (kb (b := decide (t11 = (a0.length : Int))) rfl (decide_eq_true h16)) rfl) rfl ?_
          refine WOps.p (G.assign rfl) rfl ?_
          refine WOps.nil ?_
          refine WEx.then_ ?_
          refine WCode.forget (l' := [(2, .bool (!t17))]) ⟨rfl, trivial⟩ ?_
          refine WCode.ret ?_
          obtain rfl := some_eq hF
          refine WEx.ret1 rfl rfl ?_
          exact ⟨rfl, St.keep (As := []) S21⟩
        ·
          refine WOps.off rfl (kbl (b := decide (t11 = (a0.length : Int))) rfl (decide_eq_false h16)) rfl rfl ?_
          refine WOps.off rfl (kbl (b := decide (t11 = (a0.length : Int))) rfl (decide_eq_false h16)) rfl rfl ?_
          refine WOps.off rfl (kbl (b := decide (t11 = (a0.length : Int))) rfl (decide_eq_false h16)) rfl rfl ?_
          refine WOps.p (G.pick_f (kb (b := decide (t11 = (a0.length : Int))) rfl (decide_eq_false h16)) rfl) rfl ?_
          refine WOps.p (G.assign rfl) rfl ?_
          refine WOps.nil ?_
          refine WEx.then_ ?_
          refine WCode.forget (l' := [(2, .bool false)]) ⟨rfl, trivial⟩ ?_
          refine WCode.ret ?_
          obtain rfl := some_eq hF
          refine WEx.ret1 rfl rfl ?_
          exact ⟨rfl, St.keep (As := []) S15⟩
      ·
        refine WOps.off rfl (kbl (b := decide ((a0.length : Int) ≤ 32)) rfl (decide_eq_false h10)) rfl rfl ?_
        refine WOps.off rfl (kbl (b := decide ((a0.length : Int) ≤ 32)) rfl (decide_eq_false h10)) rfl rfl ?_
        refine WOps.off rfl (kbl (b := decide ((a0.length : Int) ≤ 32)) rfl (decide_eq_false h10)) rfl rfl ?_
        refine WOps.off rfl (kbl (b := decide ((a0.length : Int) ≤ 32)) rfl (decide_eq_false h10)) rfl rfl ?_
        refine WOps.off rfl (kbl (b := decide ((a0.length : Int) ≤ 32)) rfl (decide_eq_false h10)) rfl rfl ?_
        refine WOps.p (G.pick_f (kb (b := decide ((a0.length : Int) ≤ 32)) rfl (decide_eq_false h10)) rfl) rfl ?_
        refine WOps.p (G.move rfl) rfl ?_
        refine WOps.off rfl rfl rfl rfl ?_
        refine WOps.off rfl rfl rfl rfl ?_
        refine WOps.off rfl rfl rfl rfl ?_
        refine WOps.p (G.pick_f rfl rfl) rfl ?_
        refine WOps.p (G.assign rfl) rfl ?_
        refine WOps.nil ?_
        refine WEx.then_ ?_
        refine WCode.forget (l' := [(2, .bool false)]) ⟨rfl, trivial⟩ ?_
        refine WCode.ret ?_
        obtain rfl := some_eq hF
        refine WEx.ret1 rfl rfl ?_
        exact ⟨rfl, St.keep (As := []) S8⟩
    ·
      refine WOps.off rfl (kbl (b := t4) rfl (Bool.eq_false_iff.2 h9)) rfl rfl ?_
      refine WOps.off rfl (kbl (b := t4) rfl (Bool.eq_false_iff.2 h9)) rfl rfl ?_
      refine WOps.off rfl (kbl (b := t4) rfl (Bool.eq_false_iff.2 h9)) rfl rfl ?_
      refine WOps.p (G.pick_f (kb (b := t4) rfl (Bool.eq_false_iff.2 h9)) rfl) rfl ?_
      refine WOps.p (G.move rfl) rfl ?_
      refine WOps.off rfl rfl rfl rfl ?_
      refine WOps.off rfl rfl rfl rfl ?_
      refine WOps.off rfl rfl rfl rfl ?_
      refine WOps.off rfl rfl rfl rfl ?_
      refine WOps.off rfl rfl rfl rfl ?_
      refine WOps.p (G.pick_f rfl rfl) rfl ?_
      refine WOps.p (G.move rfl) rfl ?_
      refine WOps.off rfl rfl rfl rfl ?_
      refine WOps.off rfl rfl rfl rfl ?_
      refine WOps.off rfl rfl rfl rfl ?_
      refine WOps.p (G.pick_f rfl rfl) rfl ?_
      refine WOps.p (G.assign rfl) rfl ?_
      refine WOps.nil ?_
      refine WEx.then_ ?_
      refine WCode.forget (l' := [(2, .bool false)]) ⟨rfl, trivial⟩ ?_
      refine WCode.ret ?_
      obtain rfl := some_eq hF
      refine WEx.ret1 rfl rfl ?_
      exact ⟨rfl, St.keep (As := []) S8⟩

def lx_next.j1 (q51 : Nat) (m37 : List UInt8) (x48 : Int) : Option (Token × Int × Int) := (some ((⟨x48, m37, 0, 0⟩ : Token), (m37.length : Int), 0))
def lx_next (k : Nat) (a0 : List UInt8) : Option (Token × Int × Int) := (Option.bind (lx_begins k a0) fun t7 => (if t7 = 1 then (some ((⟨0, ([] : List UInt8), 0, 0⟩ : Token), 1, 0)) else (if t7 = 2 then (Option.bind (cut a0 2 (a0.length : Int)) fun m17 => (Option.bind (gv_Index k m17 ([42, 47] : List UInt8)) fun t19 => (if t19 < 0 then (some ((⟨0, ([] : List UInt8), 0, 0⟩ : Token), 0, 33)) else (some ((⟨0, ([] : List UInt8), 0, 0⟩ : Token), w64 (t19 + 4), 0))))) else (if t7 = 3 then (Option.bind (lx_run k a0) fun t32 => (Option.bind (cut a0 0 t32) fun m37 => (Option.bind (lx_IsWord k m37) fun t53 => (if t53 = true then (lx_next.j1 k m37 2) else (if 32 < (m37.length : Int) then (some ((⟨0, ([] : List UInt8), 0, 0⟩ : Token), 0, 32)) else (lx_next.j1 k m37 1)))))) else (if t7 = 4 then (Option.bind (cut a0 1 (a0.length : Int)) fun m76 => (Option.bind (lx_run k m76) fun t78 => (Option.bind (cut a0 0 (w64 (1 + t78))) fun m83 => (Option.bind (lx_numbered k m83) fun t85 => (if t85.2 = true then (some ((⟨3, ([] : List UInt8), t85.1, 0⟩ : Token), w64 (1 + t78), 0)) else (some ((⟨0, ([] : List UInt8), 0, 0⟩ : Token), 0, 31))))))) else (if t7 = 5 then (Option.bind (cut a0 0 1) fun m98 => (some ((⟨4, m98, 0, 0⟩ : Token), 1, 0))) else (some ((⟨0, ([] : List UInt8), 0, 0⟩ : Token), 0, 30))))))))
set_option maxRecDepth 100000 in
set_option maxHeartbeats 1000000 in
theorem lx_next_calls (k : Nat) (a0 : List UInt8) {FG : Nat → Prop} {w : World} (hGl : Glob FG w) (hFG : ∀ b, FG b → NK w [] b) {r_ : Token × Int × Int} (h_ : lx_next k a0 = some r_) :
    Calls Tryd.prog 22 [.string (bs a0)].toArray w fun e w' => e = .returned (.tuple #[.agg #[.int .i64 r_.1.Kind, .string (bs r_.1.Text), .int .i64 r_.1.Number, .int .i64 r_.1.At], .int .i64 r_.2.1, .int .i64 r_.2.2]) ∧ St w (KS []) w' [] := by
  have hF := h_
  clear h_
  unfold lx_next at hF
  have S := St.ofFalse (As := []) (St.init0 w)
  refine enter 73 [(0, .string (bs a0))] Tryd.func22 rfl rfl rfl rfl ?_
  refine WCode.seq ?_
  refine WCode.region ?_
  obtain ⟨b1, w2, E3, S4, X5, L6⟩ := St.var S (z := .agg #[.int .i64 0, .string (bs ([] : List UInt8)), .int .i64 0, .int .i64 0]) T.zero37
  change St _ _ _ [[(b1, .cells #[.int .i64 0, .string (bs ([] : List UInt8)), .int .i64 0, .int .i64 0] 37 (0, 0))]] at S4
  refine WOps.e E3 rfl ?_
  refine WOps.p (G.assign rfl) rfl ?_
  refine WOps.p (G.assign rfl) rfl ?_
  refine WOps.nil ?_
  refine WEx.then_ ?_
  refine WCode.seq ?_
  refine WCode.seq ?_
  refine WCode.region ?_
  refine WOps.p (G.move rfl) rfl ?_
  obtain ⟨t7, hc8, hF⟩ := bind_some hF
  refine WOps.call T.call35 (evs_cons rfl evs_nil) rfl ?_
  refine (lx_begins_calls k a0 hc8).mono ?_
  rintro _ w9 ⟨rfl, T10⟩
  have S11 := St.callN (As := []) S4 T10
  change St _ _ _ [[(b1, .cells #[.int .i64 0, .string (bs ([] : List UInt8)), .int .i64 0, .int .i64 0] 37 (0, 0))]] at S11
  refine ⟨_, rfl, ?_⟩
  refine WOps.nil ?_
  refine WEx.then_ ?_
  refine WCode.block ?_
  refine WCode.seq ?_
  refine WCode.region ?_
  refine WOps.p (G.eql rfl rfl rfl) rfl ?_
  refine WOps.p (G.assign rfl) rfl ?_
  refine WOps.nil ?_
  refine WEx.then_ ?_
  rcases ite_some hF with ⟨h12, hF⟩ | ⟨h12, hF⟩
  ·
    refine WCode.cond_t (kb (b := decide (t7 = 1)) rfl (decide_eq_true h12)) ?_
    refine WCode.seq ?_
    refine WCode.region ?_
    refine WOps.p (G.build (cells := #[.int .i64 0, .string (bs ([] : List UInt8)), .int .i64 0, .int .i64 0]) (evp_spec (evp_nil)) (by kernel_rfl)) rfl ?_
    obtain ⟨w13, E14, S15⟩ := St.store (P := Tryd.prog) S11 0 37 (.agg #[.int .i64 0, .string (bs ([] : List UInt8)), .int .i64 0, .int .i64 0]) (off := 0) (cur' := #[.int .i64 0, .string (bs ([] : List UInt8)), .int .i64 0, .int .i64 0]) rfl T.size37_4 rfl rfl rfl
    change St _ _ _ [[(b1, .cells #[.int .i64 0, .string (bs ([] : List UInt8)), .int .i64 0, .int .i64 0] 37 (0, 0))]] at S15
    refine WOps.u (E14 rfl rfl) ?_
    refine WOps.p (G.assign rfl) rfl ?_
    refine WOps.p (G.assign rfl) rfl ?_
    refine WOps.nil ?_
    refine WEx.then_ ?_
    refine WCode.ret ?_
    refine WEx.in_ret ?_
    refine WEx.then_ret ?_
    obtain rfl := some_eq hF
    refine WEx.retc2 rfl rfl (cs := [.int .i64 0, .string (bs ([] : List UInt8)), .int .i64 0, .int .i64 0]) T.agg37_4 (cellsAt.of_blk (S15.blk 0 rfl) rfl) rfl rfl ?_
    exact ⟨rfl, St.keep (As := []) S15⟩
  ·
    refine WCode.cond_f (kb (b := decide (t7 = 1)) rfl (decide_eq_false h12)) ?_
    refine WCode.seq ?_
    refine WCode.region ?_
    refine WOps.p (G.eql rfl rfl rfl) rfl ?_
    refine WOps.p (G.assign rfl) rfl ?_
    refine WOps.nil ?_
    refine WEx.then_ ?_
    rcases ite_some hF with ⟨h16, hF⟩ | ⟨h16, hF⟩
    ·
      refine WCode.cond_t (kb (b := decide (t7 = 2)) rfl (decide_eq_true h16)) ?_
      refine WCode.seq ?_
      refine WCode.region ?_
      refine WOps.p (G.move rfl) rfl ?_
      obtain ⟨m17, hc18, hF⟩ := bind_some hF
      refine WOps.p (G.cutb_l T.str9 rfl rfl hc18) rfl ?_
      obtain ⟨t19, hc20, hF⟩ := bind_some hF
      refine WOps.call T.call36 (evs_cons rfl (evs_cons rfl evs_nil)) rfl ?_
      refine (gv_Index_calls k m17 ([42, 47] : List UInt8) (hGl.ext (S11.keepF hFG)) (St.outF (Bs := []) S11 hFG) hc20).mono ?_
      rintro _ w21 ⟨rfl, T22⟩
      have S23 := St.callN (As := []) S11 T22
      change St _ _ _ [[(b1, .cells #[.int .i64 0, .string (bs ([] : List UInt8)), .int .i64 0, .int .i64 0] 37 (0, 0))]] at S23
      refine ⟨_, rfl, ?_⟩
      refine WOps.p (G.assign rfl) rfl ?_
      refine WOps.nil ?_
      refine WEx.then_ ?_
      refine WCode.forget (l' := [(2, .pointer (some ⟨b1, 0, none⟩)), (5, .int .i64 t19)]) ⟨rfl, rfl, trivial⟩ ?_
      refine WCode.seq ?_
      refine WCode.seq ?_
      refine WCode.region ?_
      refine WOps.p (G.move rfl) rfl ?_
      refine WOps.p (G.lss rfl rfl rfl) rfl ?_
      refine WOps.nil ?_
      refine WEx.then_ ?_
      rcases ite_some hF with ⟨h24, hF⟩ | ⟨h24, hF⟩
      ·
        refine WCode.cond_t (kb (b := decide (t19 < 0)) rfl (decide_eq_true h24)) ?_
        refine WCode.seq ?_
        refine WCode.region ?_
        refine WOps.p (G.build (cells := #[.int .i64 0, .string (bs ([] : List UInt8)), .int .i64 0, .int .i64 0]) (evp_spec (evp_nil)) (by kernel_rfl)) rfl ?_
        obtain ⟨w25, E26, S27⟩ := St.store (P := Tryd.prog) S23 0 37 (.agg #[.int .i64 0, .string (bs ([] : List UInt8)), .int .i64 0, .int .i64 0]) (off := 0) (cur' := #[.int .i64 0, .string (bs ([] : List UInt8)), .int .i64 0, .int .i64 0]) rfl T.size37_4 rfl rfl rfl
        change St _ _ _ [[(b1, .cells #[.int .i64 0, .string (bs ([] : List UInt8)), .int .i64 0, .int .i64 0] 37 (0, 0))]] at S27
        refine WOps.u (E26 rfl rfl) ?_
        refine WOps.p (G.assign rfl) rfl ?_
        refine WOps.p (G.assign rfl) rfl ?_
        refine WOps.nil ?_
        refine WEx.then_ ?_
        refine WCode.ret ?_
        refine WEx.then_ret ?_
        refine WEx.in_ret ?_
        refine WEx.then_ret ?_
        obtain rfl := some_eq hF
        refine WEx.retc2 rfl rfl (cs := [.int .i64 0, .string (bs ([] : List UInt8)), .int .i64 0, .int .i64 0]) T.agg37_4 (cellsAt.of_blk (S27.blk 0 rfl) rfl) rfl rfl ?_
        exact ⟨rfl, St.keep (As := []) S27⟩
      ·
        refine WCode.cond_f (kb (b := decide (t19 < 0)) rfl (decide_eq_false h24)) ?_
        refine WCode.skip ?_
        refine WEx.then_ ?_
        refine WCode.seq ?_
        refine WCode.region ?_
        refine WOps.p (G.build (cells := #[.int .i64 0, .string (bs ([] : List UInt8)), .int .i64 0, .int .i64 0]) (evp_spec (evp_nil)) (by kernel_rfl)) rfl ?_
        refine WOps.p (G.move rfl) rfl ?_
        refine WOps.p (G.add rfl rfl (r := (w64 (t19 + 4))) rfl) rfl ?_
        obtain ⟨w28, E29, S30⟩ := St.store (P := Tryd.prog) S23 0 37 (.agg #[.int .i64 0, .string (bs ([] : List UInt8)), .int .i64 0, .int .i64 0]) (off := 0) (cur' := #[.int .i64 0, .string (bs ([] : List UInt8)), .int .i64 0, .int .i64 0]) rfl T.size37_4 rfl rfl rfl
        change St _ _ _ [[(b1, .cells #[.int .i64 0, .string (bs ([] : List UInt8)), .int .i64 0, .int .i64 0] 37 (0, 0))]] at S30
        refine WOps.u (E29 rfl rfl) ?_
        refine WOps.p (G.assign rfl) rfl ?_
        refine WOps.p (G.assign rfl) rfl ?_
        refine WOps.nil ?_
        refine WEx.then_ ?_
        refine WCode.ret ?_
        refine WEx.in_ret ?_
        refine WEx.then_ret ?_
        obtain rfl := some_eq hF
        refine WEx.retc2 rfl rfl (cs := [.int .i64 0, .string (bs ([] : List UInt8)), .int .i64 0, .int .i64 0]) T.agg37_4 (cellsAt.of_blk (S30.blk 0 rfl) rfl) rfl rfl ?_
        exact ⟨rfl, St.keep (As := []) S30⟩
    ·
      refine WCode.cond_f (kb (b := decide (t7 = 2)) rfl (decide_eq_false h16)) ?_
      refine WCode.seq ?_
      refine WCode.region ?_
      refine WOps.p (G.eql rfl rfl rfl) rfl ?_
      refine WOps.p (G.assign rfl) rfl ?_
      refine WOps.nil ?_
      refine WEx.then_ ?_
      rcases ite_some hF with ⟨h31, hF⟩ | ⟨h31, hF⟩
      ·
        refine WCode.cond_t (kb (b := decide (t7 = 3)) rfl (decide_eq_true h31)) ?_
        refine WCode.seq ?_
        refine WCode.region ?_
        refine WOps.p (G.move rfl) rfl ?_
        refine WOps.p (G.move rfl) rfl ?_
        obtain ⟨t32, hc33, hF⟩ := bind_some hF
        refine WOps.call T.call27 (evs_cons rfl evs_nil) rfl ?_
        refine (lx_run_calls k a0 hc33).mono ?_
        rintro _ w34 ⟨rfl, T35⟩
        have S36 := St.callN (As := []) S11 T35
        change St _ _ _ [[(b1, .cells #[.int .i64 0, .string (bs ([] : List UInt8)), .int .i64 0, .int .i64 0] 37 (0, 0))]] at S36
        refine ⟨_, rfl, ?_⟩
        obtain ⟨m37, hc38, hF⟩ := bind_some hF
        refine WOps.p (G.cutb_h T.str9 rfl rfl hc38) rfl ?_
        refine WOps.p (G.build (cells := #[.int .i64 1, .string (bs m37), .int .i64 0, .int .i64 0]) (evp_spec (evp_cons rfl (evp_cons rfl evp_nil))) (by kernel_rfl)) rfl ?_
        obtain ⟨b39, w40, E41, S42, X43, L44⟩ := St.var S36 (z := .agg #[.int .i64 0, .string (bs ([] : List UInt8)), .int .i64 0, .int .i64 0]) T.zero37
        change St _ _ _ [[(b39, .cells #[.int .i64 0, .string (bs ([] : List UInt8)), .int .i64 0, .int .i64 0] 37 (0, 0))], [(b1, .cells #[.int .i64 0, .string (bs ([] : List UInt8)), .int .i64 0, .int .i64 0] 37 (0, 0))]] at S42
        refine WOps.e E41 rfl ?_
        obtain ⟨w45, E46, S47⟩ := St.store (P := Tryd.prog) S42 0 37 (.agg #[.int .i64 1, .string (bs m37), .int .i64 0, .int .i64 0]) (off := 0) (cur' := #[.int .i64 1, .string (bs m37), .int .i64 0, .int .i64 0]) rfl T.size37_4 rfl rfl rfl
        change St _ _ _ [[(b39, .cells #[.int .i64 1, .string (bs m37), .int .i64 0, .int .i64 0] 37 (0, 0))], [(b1, .cells #[.int .i64 0, .string (bs ([] : List UInt8)), .int .i64 0, .int .i64 0] 37 (0, 0))]] at S47
        refine WOps.u (E46 rfl rfl) ?_
        refine WOps.nil ?_
        refine WEx.then_ ?_
        refine WCode.forget (l' := [(2, .pointer (some ⟨b1, 0, none⟩)), (6, .pointer (some ⟨b39, 0, none⟩))]) ⟨rfl, rfl, trivial⟩ ?_
        refine WCode.cutseq (fun l_ w_ => ∃ q51 : Nat, ∃ x48 : Int, l_ = [(2, .pointer (some ⟨b1, 0, none⟩)), (6, .pointer (some ⟨b39, 0, none⟩))] ∧ lx_next.j1 q51 m37 x48 = some r_ ∧ St w (KS []) w_ [[(b39, .cells #[.int .i64 x48, .string (bs m37), .int .i64 0, .int .i64 0] 37 (0, 0))], [(b1, .cells #[.int .i64 0, .string (bs ([] : List UInt8)), .int .i64 0, .int .i64 0] 37 (0, 0))]]) ?_ ?_
        ·
          refine WCode.block ?_
          refine WCode.seq ?_
          refine WCode.region ?_
          refine WOps.p (G.field T.fld37_1 rfl (show 0 + 1 = 1 from rfl)) rfl ?_
          refine WOps.r (G.load1 T.one9 rfl (cell_blk (S47.blk 0 rfl) rfl)) rfl ?_
          obtain ⟨t53, hc54, hF⟩ := bind_some hF
          refine WOps.call T.call12 (evs_cons rfl evs_nil) rfl ?_
          refine (lx_IsWord_calls k m37 (hGl.ext (S47.keepF hFG)) (St.outF (Bs := []) S47 hFG) hc54).mono ?_
          rintro _ w55 ⟨rfl, T56⟩
          have S57 := St.callN (As := []) S47 T56
          change St _ _ _ [[(b39, .cells #[.int .i64 1, .string (bs m37), .int .i64 0, .int .i64 0] 37 (0, 0))], [(b1, .cells #[.int .i64 0, .string (bs ([] : List UInt8)), .int .i64 0, .int .i64 0] 37 (0, 0))]] at S57
          refine ⟨_, rfl, ?_⟩
          refine WOps.p (G.assign rfl) rfl ?_
          refine WOps.nil ?_
          refine WEx.then_ ?_
          rcases ite_some hF with ⟨h58, hF⟩ | ⟨h58, hF⟩
          ·
            refine WCode.cond_t (kb (b := t53) rfl h58) ?_
            refine WCode.region ?_
            refine WOps.p (G.field T.fld37_0 rfl (show 0 + 0 = 0 from rfl)) rfl ?_
            obtain ⟨w59, E60, S61⟩ := St.store (P := Tryd.prog) S57 0 3 (.int .i64 2) (off := 0) (cur' := #[.int .i64 2, .string (bs m37), .int .i64 0, .int .i64 0]) rfl T.size3_1 rfl rfl rfl
            change St _ _ _ [[(b39, .cells #[.int .i64 2, .string (bs m37), .int .i64 0, .int .i64 0] 37 (0, 0))], [(b1, .cells #[.int .i64 0, .string (bs ([] : List UInt8)), .int .i64 0, .int .i64 0] 37 (0, 0))]] at S61
            refine WOps.u (E60 rfl rfl) ?_
            refine WOps.nil ?_
            refine WEx.in_normal ?_
            have S62 := S61.front 1 rfl
            change St _ _ _ [[(b1, .cells #[.int .i64 0, .string (bs ([] : List UInt8)), .int .i64 0, .int .i64 0] 37 (0, 0))], [(b39, .cells #[.int .i64 2, .string (bs m37), .int .i64 0, .int .i64 0] 37 (0, 0))]] at S62
            have S63 := S62.front 1 rfl
            change St _ _ _ [[(b39, .cells #[.int .i64 2, .string (bs m37), .int .i64 0, .int .i64 0] 37 (0, 0))], [(b1, .cells #[.int .i64 0, .string (bs ([] : List UInt8)), .int .i64 0, .int .i64 0] 37 (0, 0))]] at S63
            refine WEx.cutend _ ?_ ⟨k, 2, rfl, hF, S63⟩
            exact ⟨rfl, rfl, trivial⟩
          ·
            refine WCode.cond_f (kb (b := t53) rfl (Bool.eq_false_iff.2 h58)) ?_
            refine WCode.seq ?_
            refine WCode.region ?_
            refine WOps.p (G.field T.fld37_1 rfl (show 0 + 1 = 1 from rfl)) rfl ?_
            refine WOps.r (G.load1 T.one9 rfl (cell_blk (S57.blk 0 rfl) rfl)) rfl ?_
            refine WOps.p (G.lenb T.str9 rfl) rfl ?_
            refine WOps.p (G.gtr rfl rfl rfl) rfl ?_
            refine WOps.p (G.assign rfl) rfl ?_
            refine WOps.nil ?_
            refine WEx.then_ ?_
            rcases ite_some hF with ⟨h64, hF⟩ | ⟨h64, hF⟩
            ·
              refine WCode.cond_t (kb (b := decide (32 < (m37.length : Int))) rfl (decide_eq_true h64)) ?_
              refine WCode.seq ?_
              refine WCode.region ?_
              refine WOps.p (G.build (cells := #[.int .i64 0, .string (bs ([] : List UInt8)), .int .i64 0, .int .i64 0]) (evp_spec (evp_nil)) (by kernel_rfl)) rfl ?_
              obtain ⟨w65, E66, S67⟩ := St.store (P := Tryd.prog) S57 1 37 (.agg #[.int .i64 0, .string (bs ([] : List UInt8)), .int .i64 0, .int .i64 0]) (off := 0) (cur' := #[.int .i64 0, .string (bs ([] : List UInt8)), .int .i64 0, .int .i64 0]) rfl T.size37_4 rfl rfl rfl
              change St _ _ _ [[(b39, .cells #[.int .i64 1, .string (bs m37), .int .i64 0, .int .i64 0] 37 (0, 0))], [(b1, .cells #[.int .i64 0, .string (bs ([] : List UInt8)), .int .i64 0, .int .i64 0] 37 (0, 0))]] at S67
              refine WOps.u (E66 rfl rfl) ?_
              refine WOps.p (G.assign rfl) rfl ?_
              refine WOps.p (G.assign rfl) rfl ?_
              refine WOps.nil ?_
              refine WEx.then_ ?_
              refine WCode.forget (l' := [(2, .pointer (some ⟨b1, 0, none⟩)), (3, .int .i64 0), (4, .int .i64 32)]) ⟨rfl, rfl, rfl, trivial⟩ ?_
              refine WCode.ret ?_
              refine WEx.in_ret ?_
              refine WEx.then_ret ?_
              refine WEx.in_ret ?_
              refine WEx.then_ret ?_
              obtain rfl := some_eq hF
              refine WEx.retc2 rfl rfl (cs := [.int .i64 0, .string (bs ([] : List UInt8)), .int .i64 0, .int .i64 0]) T.agg37_4 (cellsAt.of_blk (S67.blk 1 rfl) rfl) rfl rfl ?_
              exact ⟨rfl, St.keep (As := []) S67⟩
            ·
              refine WCode.cond_f (kb (b := decide (32 < (m37.length : Int))) rfl (decide_eq_false h64)) ?_
              refine WCode.skip ?_
              refine WEx.in_normal ?_
              have S68 := S57.front 1 rfl
              change St _ _ _ [[(b1, .cells #[.int .i64 0, .string (bs ([] : List UInt8)), .int .i64 0, .int .i64 0] 37 (0, 0))], [(b39, .cells #[.int .i64 1, .string (bs m37), .int .i64 0, .int .i64 0] 37 (0, 0))]] at S68
              have S69 := S68.front 1 rfl
              change St _ _ _ [[(b39, .cells #[.int .i64 1, .string (bs m37), .int .i64 0, .int .i64 0] 37 (0, 0))], [(b1, .cells #[.int .i64 0, .string (bs ([] : List UInt8)), .int .i64 0, .int .i64 0] 37 (0, 0))]] at S69
              refine WEx.cutend _ ?_ ⟨k, 1, rfl, hF, S69⟩
              exact ⟨rfl, rfl, trivial⟩
        ·
          rintro _ w49 ⟨q51, x48, rfl, hF, S50⟩
          unfold lx_next.j1 at hF
          refine WCode.seq ?_
          refine WCode.drawH (.one 1 0 (.one 0 1 (.one 2 1 (.one 3 0 (.one 4 2 (.one 5 0 (.one 6 0 .nil))))))) (fun W_ => cellsAt W_ b39 0 [.int .i64 x48, .string (bs m37), .int .i64 0, .int .i64 0] ∧ True) T.mixed (by kernel_rfl) (by intro _ _ d _ _ h; cases d <;> exact h) rfl rfl (by kernel_rfl) ?_ ?_
          all_goals have S70 := S50.drew
          all_goals generalize w49.drew = w71 at *
          · exact ⟨cellsAt.of_blk (S70.blk 0 rfl) rfl, trivial⟩
          refine WH.p rfl wants (G.field T.fld37_1 rfl (show 0 + 1 = 1 from rfl)) rfl ?_
          refine WH.r rfl wants (fun _ h_ => G.loada T.agg37_4 rfl (cs := [.int .i64 x48, .string (bs m37), .int .i64 0, .int .i64 0]) (cellsAt.part h_.1 0 rfl)) rfl ?_
          refine WH.r rfl wants (fun _ h_ => G.load1 T.one9 rfl (cellsAt.at h_.1 1 rfl)) rfl ?_
          refine WH.p rfl wants (G.lenb T.str9 rfl) rfl ?_
          obtain ⟨w72, E73, S74⟩ := St.store (P := Tryd.prog) S70 1 37 (.agg #[.int .i64 x48, .string (bs m37), .int .i64 0, .int .i64 0]) (off := 0) (cur' := #[.int .i64 x48, .string (bs m37), .int .i64 0, .int .i64 0]) rfl T.size37_4 rfl rfl rfl
          change St _ _ _ [[(b39, .cells #[.int .i64 x48, .string (bs m37), .int .i64 0, .int .i64 0] 37 (0, 0))], [(b1, .cells #[.int .i64 x48, .string (bs m37), .int .i64 0, .int .i64 0] 37 (0, 0))]] at S74
          refine WH.u rfl wants (E73 rfl rfl) ⟨cellsAt.of_blk (S74.blk 0 rfl) rfl, trivial⟩ ?_
          refine WH.p rfl wants (G.assign rfl) rfl ?_
          refine WH.p rfl wants (G.assign rfl) rfl ?_
          refine WH.nil ?_
          refine WEx.then_ ?_
          refine WCode.ret ?_
          refine WEx.in_ret ?_
          refine WEx.then_ret ?_
          obtain rfl := some_eq hF
          refine WEx.retc2 rfl rfl (cs := [.int .i64 x48, .string (bs m37), .int .i64 0, .int .i64 0]) T.agg37_4 (cellsAt.of_blk (S74.blk 1 rfl) rfl) rfl rfl ?_
          exact ⟨rfl, St.keep (As := []) S74⟩
      ·
        refine WCode.cond_f (kb (b := decide (t7 = 3)) rfl (decide_eq_false h31)) ?_
        refine WCode.seq ?_
        refine WCode.region ?_
        refine WOps.p (G.eql rfl rfl rfl) rfl ?_
        refine WOps.p (G.assign rfl) rfl ?_
        refine WOps.nil ?_
        refine WEx.then_ ?_
        refine WCode.forget (l' := [(0, .string (bs a0)), (2, .pointer (some ⟨b1, 0, none⟩)), (11, .int .i64 t7), (48, .bool (decide (t7 = 4)))]) ⟨rfl, rfl, rfl, rfl, trivial⟩ ?_
        rcases ite_some hF with ⟨h75, hF⟩ | ⟨h75, hF⟩
        ·
          refine WCode.cond_t (kb (b := decide (t7 = 4)) rfl (decide_eq_true h75)) ?_
          refine WCode.seq ?_
          refine WCode.region ?_
          refine WOps.p (G.move rfl) rfl ?_
          obtain ⟨m76, hc77, hF⟩ := bind_some hF
          refine WOps.p (G.cutb_l T.str9 rfl rfl hc77) rfl ?_
          obtain ⟨t78, hc79, hF⟩ := bind_some hF
          refine WOps.call T.call27 (evs_cons rfl evs_nil) rfl ?_
          refine (lx_run_calls k m76 hc79).mono ?_
          rintro _ w80 ⟨rfl, T81⟩
          have S82 := St.callN (As := []) S11 T81
          change St _ _ _ [[(b1, .cells #[.int .i64 0, .string (bs ([] : List UInt8)), .int .i64 0, .int .i64 0] 37 (0, 0))]] at S82
          refine ⟨_, rfl, ?_⟩
          refine WOps.p (G.add rfl rfl (r := (w64 (1 + t78))) rfl) rfl ?_
          refine WOps.p (G.assign rfl) rfl ?_
          refine WOps.nil ?_
          refine WEx.then_ ?_
          refine WCode.seq ?_
          refine WCode.region ?_
          refine WOps.p (G.move rfl) rfl ?_
          refine WOps.p (G.move rfl) rfl ?_
          obtain ⟨m83, hc84, hF⟩ := bind_some hF
          refine WOps.p (G.cutb_h T.str9 rfl rfl hc84) rfl ?_
          obtain ⟨t85, hc86, hF⟩ := bind_some hF
          refine WOps.call T.call37 (evs_cons rfl evs_nil) rfl ?_
          refine (lx_numbered_calls k m83 hc86).mono ?_
          rintro _ w87 ⟨rfl, T88⟩
          have S89 := St.callN (As := []) S82 T88
          change St _ _ _ [[(b1, .cells #[.int .i64 0, .string (bs ([] : List UInt8)), .int .i64 0, .int .i64 0] 37 (0, 0))]] at S89
          refine ⟨_, rfl, ?_⟩
          refine WOps.p (G.move rfl) rfl ?_
          refine WOps.p (G.extract rfl rfl) rfl ?_
          refine WOps.p (G.extract rfl rfl) rfl ?_
          refine WOps.p (G.assign rfl) rfl ?_
          refine WOps.p (G.assign rfl) rfl ?_
          refine WOps.nil ?_
          refine WEx.then_ ?_
          refine WCode.forget (l' := [(2, .pointer (some ⟨b1, 0, none⟩)), (7, .int .i64 (w64 (1 + t78))), (8, .int .i64 t85.1), (9, .bool t85.2)]) ⟨rfl, rfl, rfl, rfl, trivial⟩ ?_
          refine WCode.seq ?_
          refine WCode.seq ?_
          refine WCode.region ?_
          refine WOps.p (G.move rfl) rfl ?_
          refine WOps.p (G.not rfl rfl) rfl ?_
          refine WOps.nil ?_
          refine WEx.then_ ?_
          rcases ite_some hF with ⟨h90, hF⟩ | ⟨h90, hF⟩
          ·
            refine WCode.cond_f (kb (b := !t85.2) rfl (show (!t85.2) = false from by rw [h90]; rfl)) ?_
            refine WCode.skip ?_
            refine WEx.then_ ?_
            refine WCode.seq ?_
            refine WCode.region ?_
            refine WOps.p (G.move rfl) rfl ?_
            refine WOps.p (G.build (cells := #[.int .i64 3, .string (bs ([] : List UInt8)), .int .i64 t85.1, .int .i64 0]) (evp_spec (evp_cons rfl (evp_cons rfl evp_nil))) (by kernel_rfl)) rfl ?_
            refine WOps.p (G.move rfl) rfl ?_
            obtain ⟨w91, E92, S93⟩ := St.store (P := Tryd.prog) S89 0 37 (.agg #[.int .i64 3, .string (bs ([] : List UInt8)), .int .i64 t85.1, .int .i64 0]) (off := 0) (cur' := #[.int .i64 3, .string (bs ([] : List UInt8)), .int .i64 t85.1, .int .i64 0]) rfl T.size37_4 rfl rfl rfl
            change St _ _ _ [[(b1, .cells #[.int .i64 3, .string (bs ([] : List UInt8)), .int .i64 t85.1, .int .i64 0] 37 (0, 0))]] at S93
            refine WOps.u (E92 rfl rfl) ?_
            refine WOps.p (G.assign rfl) rfl ?_
            refine WOps.p (G.assign rfl) rfl ?_
            refine WOps.nil ?_
            refine WEx.then_ ?_
            refine WCode.ret ?_
            refine WEx.in_ret ?_
            refine WEx.then_ret ?_
            obtain rfl := some_eq hF
            refine WEx.retc2 rfl rfl (cs := [.int .i64 3, .string (bs ([] : List UInt8)), .int .i64 t85.1, .int .i64 0]) T.agg37_4 (cellsAt.of_blk (S93.blk 0 rfl) rfl) rfl rfl ?_
            exact ⟨rfl, St.keep (As := []) S93⟩
          ·
            refine WCode.cond_t (kb (b := !t85.2) rfl (show (!t85.2) = true from by rw [(Bool.eq_false_iff.2 h90)]; rfl)) ?_
            refine WCode.seq ?_
            refine WCode.region ?_
            refine WOps.p (G.build (cells := #[.int .i64 0, .string (bs ([] : List UInt8)), .int .i64 0, .int .i64 0]) (evp_spec (evp_nil)) (by kernel_rfl)) rfl ?_
            obtain ⟨w94, E95, S96⟩ := St.store (P := Tryd.prog) S89 0 37 (.agg #[.int .i64 0, .string (bs ([] : List UInt8)), .int .i64 0, .int .i64 0]) (off := 0) (cur' := #[.int .i64 0, .string (bs ([] : List UInt8)), .int .i64 0, .int .i64 0]) rfl T.size37_4 rfl rfl rfl
            change St _ _ _ [[(b1, .cells #[.int .i64 0, .string (bs ([] : List UInt8)), .int .i64 0, .int .i64 0] 37 (0, 0))]] at S96
            refine WOps.u (E95 rfl rfl) ?_
            refine WOps.p (G.assign rfl) rfl ?_
            refine WOps.p (G.assign rfl) rfl ?_
            refine WOps.nil ?_
            refine WEx.then_ ?_
            refine WCode.ret ?_
            refine WEx.then_ret ?_
            refine WEx.in_ret ?_
            refine WEx.then_ret ?_
            obtain rfl := some_eq hF
            refine WEx.retc2 rfl rfl (cs := [.int .i64 0, .string (bs ([] : List UInt8)), .int .i64 0, .int .i64 0]) T.agg37_4 (cellsAt.of_blk (S96.blk 0 rfl) rfl) rfl rfl ?_
            exact ⟨rfl, St.keep (As := []) S96⟩
        ·
          refine WCode.cond_f (kb (b := decide (t7 = 4)) rfl (decide_eq_false h75)) ?_
          refine WCode.seq ?_
          refine WCode.region ?_
          refine WOps.p (G.eql rfl rfl rfl) rfl ?_
          refine WOps.p (G.assign rfl) rfl ?_
          refine WOps.nil ?_
          refine WEx.then_ ?_
          rcases ite_some hF with ⟨h97, hF⟩ | ⟨h97, hF⟩
          ·
            refine WCode.cond_t (kb (b := decide (t7 = 5)) rfl (decide_eq_true h97)) ?_
            refine WCode.seq ?_
            refine WCode.region ?_
            refine WOps.p (G.move rfl) rfl ?_
            obtain ⟨m98, hc99, hF⟩ := bind_some hF
            refine WOps.p (G.cutb_h T.str9 rfl rfl hc99) rfl ?_
            refine WOps.p (G.build (cells := #[.int .i64 4, .string (bs m98), .int .i64 0, .int .i64 0]) (evp_spec (evp_cons rfl (evp_cons rfl evp_nil))) (by kernel_rfl)) rfl ?_
            obtain ⟨w100, E101, S102⟩ := St.store (P := Tryd.prog) S11 0 37 (.agg #[.int .i64 4, .string (bs m98), .int .i64 0, .int .i64 0]) (off := 0) (cur' := #[.int .i64 4, .string (bs m98), .int .i64 0, .int .i64 0]) rfl T.size37_4 rfl rfl rfl
            change St _ _ _ [[(b1, .cells #[.int .i64 4, .string (bs m98), .int .i64 0, .int .i64 0] 37 (0, 0))]] at S102
            refine WOps.u (E101 rfl rfl) ?_
            refine WOps.p (G.assign rfl) rfl ?_
            refine WOps.p (G.assign rfl) rfl ?_
            refine WOps.nil ?_
            refine WEx.then_ ?_
            refine WCode.ret ?_
            refine WEx.in_ret ?_
            refine WEx.then_ret ?_
            obtain rfl := some_eq hF
            refine WEx.retc2 rfl rfl (cs := [.int .i64 4, .string (bs m98), .int .i64 0, .int .i64 0]) T.agg37_4 (cellsAt.of_blk (S102.blk 0 rfl) rfl) rfl rfl ?_
            exact ⟨rfl, St.keep (As := []) S102⟩
          ·
            refine WCode.cond_f (kb (b := decide (t7 = 5)) rfl (decide_eq_false h97)) ?_
            refine WCode.skip ?_
            refine WEx.in_normal ?_
            refine WEx.then_ ?_
            refine WCode.seq ?_
            refine WCode.region ?_
            refine WOps.p (G.build (cells := #[.int .i64 0, .string (bs ([] : List UInt8)), .int .i64 0, .int .i64 0]) (evp_spec (evp_nil)) (by kernel_rfl)) rfl ?_
            obtain ⟨w103, E104, S105⟩ := St.store (P := Tryd.prog) S11 0 37 (.agg #[.int .i64 0, .string (bs ([] : List UInt8)), .int .i64 0, .int .i64 0]) (off := 0) (cur' := #[.int .i64 0, .string (bs ([] : List UInt8)), .int .i64 0, .int .i64 0]) rfl T.size37_4 rfl rfl rfl
            change St _ _ _ [[(b1, .cells #[.int .i64 0, .string (bs ([] : List UInt8)), .int .i64 0, .int .i64 0] 37 (0, 0))]] at S105
            refine WOps.u (E104 rfl rfl) ?_
            refine WOps.p (G.assign rfl) rfl ?_
            refine WOps.p (G.assign rfl) rfl ?_
            refine WOps.nil ?_
            refine WEx.then_ ?_
            refine WCode.ret ?_
            obtain rfl := some_eq hF
            refine WEx.retc2 rfl rfl (cs := [.int .i64 0, .string (bs ([] : List UInt8)), .int .i64 0, .int .i64 0]) T.agg37_4 (cellsAt.of_blk (S105.blk 0 rfl) rfl) rfl rfl ?_
            exact ⟨rfl, St.keep (As := []) S105⟩

def lx_Scan.l1 : Nat → List UInt8 → List Token → Int → Option ((List Token) × Int × Int)
  | 0, _, _, _ => none
  | k12 + 1, a0, l6, x9 => (if x9 < (a0.length : Int) then (Option.bind (cut a0 x9 (a0.length : Int)) fun m18 => (Option.bind (lx_next k12 m18) fun t20 => (if t20.2.2 = 0 then (if t20.1.Kind = 0 then (lx_Scan.l1 k12 a0 l6 (w64 (x9 + t20.2.1))) else (Option.bind (cat l6 ([(⟨t20.1.Kind, t20.1.Text, t20.1.Number, x9⟩ : Token)] : List Token)) fun l47 => (lx_Scan.l1 k12 a0 l47 (w64 (x9 + t20.2.1))))) else (some ([], t20.2.2, x9))))) else (Option.bind (cat l6 ([(⟨5, ([] : List UInt8), 0, (a0.length : Int)⟩ : Token)] : List Token)) fun l67 => (some (l67, 0, 0))))
def lx_Scan (k : Nat) (a0 : List UInt8) : Option ((List Token) × Int × Int) := (if 16000 < (a0.length : Int) then (some ([], 34, 16000)) else (lx_Scan.l1 k a0 [] 0))
set_option maxRecDepth 100000 in
set_option maxHeartbeats 1000000 in
theorem lx_Scan_calls (k : Nat) (a0 : List UInt8) {FG : Nat → Prop} {w : World} (hGl : Glob FG w) (hFG : ∀ b, FG b → NK w [] b) {r_ : (List Token) × Int × Int} (h_ : lx_Scan k a0 = some r_) :
    Calls Tryd.prog 9 [.string (bs a0)].toArray w fun e w' => ∃ A0' : Option Addr, ∃ c0' : Nat, ∃ G0' : Grp, e = .returned (.tuple #[.slice A0' (r_.1).length c0', .int .i64 r_.2.1, .int .i64 r_.2.2]) ∧ SlO 37 Token.rp (.slice A0' (r_.1).length c0') (r_.1) G0' ∧ St w (KS []) w' [G0'] := by
  have hF := h_
  clear h_
  unfold lx_Scan at hF
  have S := St.ofFalse (As := []) (St.init0 w)
  refine enter 47 [(0, .string (bs a0))] Tryd.func9 rfl rfl rfl rfl ?_
  refine WCode.seq ?_
  refine WCode.region ?_
  refine WOps.p (G.assign rfl) rfl ?_
  refine WOps.p (G.assign rfl) rfl ?_
  refine WOps.p (G.assign rfl) rfl ?_
  refine WOps.nil ?_
  refine WEx.then_ ?_
  refine WCode.seq ?_
  refine WCode.seq ?_
  refine WCode.region ?_
  refine WOps.p (G.move rfl) rfl ?_
  refine WOps.p (G.lenb T.str9 rfl) rfl ?_
  refine WOps.p (G.gtr rfl rfl rfl) rfl ?_
  refine WOps.nil ?_
  refine WEx.then_ ?_
  rcases ite_some hF with ⟨h1, hF⟩ | ⟨h1, hF⟩
  ·
    refine WCode.cond_t (kb (b := decide (16000 < (a0.length : Int))) rfl (decide_eq_true h1)) ?_
    refine WCode.seq ?_
    refine WCode.region ?_
    refine WOps.p (G.assign rfl) rfl ?_
    refine WOps.p (G.assign rfl) rfl ?_
    refine WOps.p (G.assign rfl) rfl ?_
    refine WOps.nil ?_
    refine WEx.then_ ?_
    refine WCode.ret ?_
    refine WEx.then_ret ?_
    obtain rfl := some_eq hF
    refine WEx.ret3 rfl rfl rfl rfl ?_
    have S2 := S.emp
    exact ⟨none, 0, ([] : Grp), rfl, (SlO.nil 37 Token.rp), St.keep (As := [([] : Grp)]) S2⟩
  ·
    refine WCode.cond_f (kb (b := decide (16000 < (a0.length : Int))) rfl (decide_eq_false h1)) ?_
    refine WCode.skip ?_
    refine WEx.then_ ?_
    refine WCode.seq ?_
    refine WCode.region ?_
    refine WOps.p (G.assign rfl) rfl ?_
    refine WOps.nil ?_
    refine WEx.then_ ?_
    refine WCode.seq ?_
    refine WCode.seq ?_
    refine WCode.region ?_
    refine WOps.p (G.assign rfl) rfl ?_
    refine WOps.nil ?_
    refine WEx.then_ ?_
    refine WCode.block ?_
    have S14 := S.emp
    refine WCode.forget (l' := [(0, .string (bs a0)), (5, .slice none 0 0), (6, .int .i64 0)]) ⟨rfl, rfl, rfl, trivial⟩ ?_
    refine WCode.loop (fun n_ l_ w_ => ∃ A4 : Option Addr, ∃ c5 : Nat, ∃ l6 : List Token, ∃ G7 : Grp, ∃ x9 : Int, l_ = [(0, .string (bs a0)), (5, .slice A4 l6.length c5), (6, .int .i64 x9)] ∧ lx_Scan.l1 n_ a0 l6 x9 = some r_ ∧ (SlO 37 Token.rp (.slice A4 l6.length c5) l6 G7) ∧ St w (KS []) w_ [G7]) k ⟨none, 0, [], ([] : Grp), 0, rfl, hF, (SlO.nil 37 Token.rp), S14⟩ ?_
    rintro n13 _ w10 ⟨A4, c5, l6, G7, x9, rfl, hF, hO8, S11⟩
    obtain _ | k12 := n13
    · exact nomatch (show (none : Option ((List Token) × Int × Int)) = some r_ from hF)
    rw [lx_Scan.l1] at hF
    refine WCode.seq ?_
    refine WCode.seq ?_
    refine WCode.region ?_
    refine WOps.p (G.move rfl) rfl ?_
    refine WOps.p (G.move rfl) rfl ?_
    refine WOps.p (G.lenb T.str9 rfl) rfl ?_
    refine WOps.p (G.lss rfl rfl rfl) rfl ?_
    refine WOps.nil ?_
    refine WEx.then_ ?_
    rcases ite_some hF with ⟨h17, hF⟩ | ⟨h17, hF⟩
    ·
      refine WCode.cond_t (kb (b := decide (x9 < (a0.length : Int))) rfl (decide_eq_true h17)) ?_
      refine WCode.skip ?_
      refine WEx.then_ ?_
      refine WCode.block ?_
      refine WCode.seq ?_
      refine WCode.region ?_
      refine WOps.p (G.move rfl) rfl ?_
      refine WOps.p (G.move rfl) rfl ?_
      obtain ⟨m18, hc19, hF⟩ := bind_some hF
      refine WOps.p (G.cutb_l T.str9 rfl rfl hc19) rfl ?_
      obtain ⟨t20, hc21, hF⟩ := bind_some hF
      refine WOps.call T.call22 (evs_cons rfl evs_nil) rfl ?_
      refine (lx_next_calls k12 m18 (hGl.ext (S11.keepF hFG)) (St.outF (Bs := []) S11 hFG) hc21).mono ?_
      rintro _ w22 ⟨rfl, T23⟩
      have S24 := St.callN (As := []) S11 T23
      change St _ _ _ [G7] at S24
      refine ⟨_, rfl, ?_⟩
      refine WOps.p (G.move rfl) rfl ?_
      refine WOps.p (G.extract rfl rfl) rfl ?_
      refine WOps.p (G.extract rfl rfl) rfl ?_
      refine WOps.p (G.extract rfl rfl) rfl ?_
      obtain ⟨b25, w26, E27, S28, X29, L30⟩ := St.var S24 (z := .agg #[.int .i64 0, .string (bs ([] : List UInt8)), .int .i64 0, .int .i64 0]) T.zero37
      change St _ _ _ [[(b25, .cells #[.int .i64 0, .string (bs ([] : List UInt8)), .int .i64 0, .int .i64 0] 37 (0, 0))], G7] at S28
      refine WOps.e E27 rfl ?_
      obtain ⟨w31, E32, S33⟩ := St.store (P := Tryd.prog) S28 0 37 (.agg #[.int .i64 t20.1.Kind, .string (bs t20.1.Text), .int .i64 t20.1.Number, .int .i64 t20.1.At]) (off := 0) (cur' := #[.int .i64 t20.1.Kind, .string (bs t20.1.Text), .int .i64 t20.1.Number, .int .i64 t20.1.At]) rfl T.size37_4 rfl rfl rfl
      change St _ _ _ [[(b25, .cells #[.int .i64 t20.1.Kind, .string (bs t20.1.Text), .int .i64 t20.1.Number, .int .i64 t20.1.At] 37 (0, 0))], G7] at S33
      refine WOps.u (E32 rfl rfl) ?_
      refine WOps.p (G.assign rfl) rfl ?_
      refine WOps.p (G.assign rfl) rfl ?_
      refine WOps.nil ?_
      refine WEx.then_ ?_
      refine WCode.forget (l' := [(0, .string (bs a0)), (5, .slice A4 l6.length c5), (6, .int .i64 x9), (7, .pointer (some ⟨b25, 0, none⟩)), (8, .int .i64 t20.2.1), (9, .int .i64 t20.2.2)]) ⟨rfl, rfl, rfl, rfl, rfl, rfl, trivial⟩ ?_
      refine WCode.seq ?_
      refine WCode.seq ?_
      refine WCode.region ?_
      refine WOps.p (G.move rfl) rfl ?_
      refine WOps.p (G.neq rfl rfl rfl) rfl ?_
      refine WOps.nil ?_
      refine WEx.then_ ?_
      rcases ite_some hF with ⟨h34, hF⟩ | ⟨h34, hF⟩
      ·
        refine WCode.cond_f (kb (b := !(decide (t20.2.2 = 0))) rfl (show (!(decide (t20.2.2 = 0))) = false from by rw [(decide_eq_true h34)]; rfl)) ?_
        refine WCode.skip ?_
        refine WEx.then_ ?_
        refine WCode.seq ?_
        refine WCode.seq ?_
        refine WCode.region ?_
        refine WOps.p (G.field T.fld37_0 rfl (show 0 + 0 = 0 from rfl)) rfl ?_
        refine WOps.r (G.load1 T.one3 rfl (cell_blk (S33.blk 0 rfl) rfl)) rfl ?_
        refine WOps.p (G.neq rfl rfl rfl) rfl ?_
        refine WOps.nil ?_
        refine WEx.then_ ?_
        rcases ite_some hF with ⟨h35, hF⟩ | ⟨h35, hF⟩
        ·
          refine WCode.cond_f (kb (b := !(decide (t20.1.Kind = 0))) rfl (show (!(decide (t20.1.Kind = 0))) = false from by rw [(decide_eq_true h35)]; rfl)) ?_
          refine WCode.skip ?_
          refine WEx.then_ ?_
          refine WCode.region ?_
          refine WOps.p (G.move rfl) rfl ?_
          refine WOps.p (G.move rfl) rfl ?_
          refine WOps.p (G.add rfl rfl (r := (w64 (x9 + t20.2.1))) rfl) rfl ?_
          refine WOps.p (G.assign rfl) rfl ?_
          refine WOps.nil ?_
          refine WEx.in_normal ?_
          have S36 := S33.front 1 rfl
          change St _ _ _ [G7, [(b25, .cells #[.int .i64 t20.1.Kind, .string (bs t20.1.Text), .int .i64 t20.1.Number, .int .i64 t20.1.At] 37 (0, 0))]] at S36
          have S37 := St.keep (As := [G7]) S36
          refine WEx.again _ _ (by omega) ?_ ⟨A4, c5, l6, G7, w64 (x9 + t20.2.1), rfl, hF, hO8, S37⟩
          exact ⟨rfl, rfl, rfl, trivial⟩
        ·
          refine WCode.cond_t (kb (b := !(decide (t20.1.Kind = 0))) rfl (show (!(decide (t20.1.Kind = 0))) = true from by rw [(decide_eq_false h35)]; rfl)) ?_
          refine WCode.seq ?_
          refine WCode.region ?_
          refine WOps.p (G.move rfl) rfl ?_
          refine WOps.p (G.field T.fld37_3 rfl (show 0 + 3 = 3 from rfl)) rfl ?_
          obtain ⟨w38, E39, S40⟩ := St.store (P := Tryd.prog) S33 0 3 (.int .i64 x9) (off := 3) (cur' := #[.int .i64 t20.1.Kind, .string (bs t20.1.Text), .int .i64 t20.1.Number, .int .i64 x9]) rfl T.size3_1 rfl rfl rfl
          change St _ _ _ [[(b25, .cells #[.int .i64 t20.1.Kind, .string (bs t20.1.Text), .int .i64 t20.1.Number, .int .i64 x9] 37 (0, 0))], G7] at S40
          refine WOps.u (E39 rfl rfl) ?_
          refine WOps.nil ?_
          refine WEx.then_ ?_
          refine WCode.region ?_
          refine WOps.p (G.move rfl) rfl ?_
          refine WOps.r (G.loada T.agg37_4 rfl (cs := [.int .i64 t20.1.Kind, .string (bs t20.1.Text), .int .i64 t20.1.Number, .int .i64 x9]) (cellsAt.of_blk (S40.blk 0 rfl) rfl)) rfl ?_
          obtain ⟨b41, w42, E43, S44, X45, L46⟩ := St.lit S40 (P := Tryd.prog) (t := 25) (e := 37) (n := 1) (vs := [(0, .agg #[.int .i64 t20.1.Kind, .string (bs t20.1.Text), .int .i64 t20.1.Number, .int .i64 x9])]) (cs := #[.int .i64 t20.1.Kind, .string (bs t20.1.Text), .int .i64 t20.1.Number, .int .i64 x9]) (by kernel_rfl)
          change St _ _ _ [[(b41, .cells #[.int .i64 t20.1.Kind, .string (bs t20.1.Text), .int .i64 t20.1.Number, .int .i64 x9] 37 (0, 0))], [(b25, .cells #[.int .i64 t20.1.Kind, .string (bs t20.1.Text), .int .i64 t20.1.Number, .int .i64 x9] 37 (0, 0))], G7] at S44
          refine WOps.e (E43 (evp_cons rfl evp_nil)) rfl ?_
          obtain ⟨l47, hc48, hF⟩ := bind_some hF
          have S49 := S44.front 2 rfl
          change St _ _ _ [G7, [(b41, .cells #[.int .i64 t20.1.Kind, .string (bs t20.1.Text), .int .i64 t20.1.Number, .int .i64 x9] 37 (0, 0))], [(b25, .cells #[.int .i64 t20.1.Kind, .string (bs t20.1.Text), .int .i64 t20.1.Number, .int .i64 x9] 37 (0, 0))]] at S49
          obtain ⟨A50, c51, G52, w53, E54, hO55, S56, hk57⟩ := St.appP (P := Tryd.prog) (r := Token.rp) (M := ([(⟨t20.1.Kind, t20.1.Text, t20.1.Number, x9⟩ : Token)] : List Token)) S49 T.elt25 rfl hO8 (Rd.of_blk (S49.blk 1 rfl) (n := 1) (sz := 4) rfl) ⟨_, _, [], [], rfl, rfl, ⟨rfl, rfl⟩, ⟨rfl, rfl⟩⟩ rfl hc48
          change St _ _ _ [G52, [(b41, .cells #[.int .i64 t20.1.Kind, .string (bs t20.1.Text), .int .i64 t20.1.Number, .int .i64 x9] 37 (0, 0))], [(b25, .cells #[.int .i64 t20.1.Kind, .string (bs t20.1.Text), .int .i64 t20.1.Number, .int .i64 x9] 37 (0, 0))]] at S56
          refine WOps.e (E54 rfl rfl) rfl ?_
          refine WOps.p (G.assign rfl) rfl ?_
          refine WOps.nil ?_
          refine WEx.then_ ?_
          refine WCode.forget (l' := [(0, .string (bs a0)), (5, .slice A50 l47.length c51), (6, .int .i64 x9), (8, .int .i64 t20.2.1)]) ⟨rfl, rfl, rfl, rfl, trivial⟩ ?_
          refine WCode.region ?_
          refine WOps.p (G.move rfl) rfl ?_
          refine WOps.p (G.move rfl) rfl ?_
          refine WOps.p (G.add rfl rfl (r := (w64 (x9 + t20.2.1))) rfl) rfl ?_
          refine WOps.p (G.assign rfl) rfl ?_
          refine WOps.nil ?_
          refine WEx.in_normal ?_
          have S58 := St.keep (As := [G52]) S56
          refine WEx.again _ _ (by omega) ?_ ⟨A50, c51, l47, G52, w64 (x9 + t20.2.1), rfl, hF, hO55, S58⟩
          exact ⟨rfl, rfl, rfl, trivial⟩
      ·
        refine WCode.cond_t (kb (b := !(decide (t20.2.2 = 0))) rfl (show (!(decide (t20.2.2 = 0))) = true from by rw [(decide_eq_false h34)]; rfl)) ?_
        refine WCode.seq ?_
        refine WCode.region ?_
        refine WOps.p (G.move rfl) rfl ?_
        refine WOps.p (G.move rfl) rfl ?_
        refine WOps.p (G.assign rfl) rfl ?_
        refine WOps.p (G.assign rfl) rfl ?_
        refine WOps.p (G.assign rfl) rfl ?_
        refine WOps.nil ?_
        refine WEx.then_ ?_
        refine WCode.forget (l' := [(2, .slice none 0 0), (3, .int .i64 t20.2.2), (4, .int .i64 x9)]) ⟨rfl, rfl, rfl, trivial⟩ ?_
        refine WCode.ret ?_
        refine WEx.then_ret ?_
        refine WEx.in_ret ?_
        refine WEx.then_ret ?_
        refine WEx.in_ret ?_
        refine WEx.then_ret ?_
        obtain rfl := some_eq hF
        refine WEx.ret3 rfl rfl rfl rfl ?_
        have S59 := S33.emp
        exact ⟨none, 0, ([] : Grp), rfl, (SlO.nil 37 Token.rp), St.keep (As := [([] : Grp)]) S59⟩
    ·
      refine WCode.cond_f (kb (b := decide (x9 < (a0.length : Int))) rfl (decide_eq_false h17)) ?_
      refine WCode.exit ?_
      refine WEx.then_exit ?_
      refine WEx.then_exit ?_
      refine WEx.in_exit ?_
      refine WEx.then_ ?_
      refine WCode.seq ?_
      refine WCode.region ?_
      refine WOps.p (G.move rfl) rfl ?_
      refine WOps.p (G.move rfl) rfl ?_
      refine WOps.p (G.lenb T.str9 rfl) rfl ?_
      refine WOps.p (G.build (cells := #[.int .i64 5, .string (bs ([] : List UInt8)), .int .i64 0, .int .i64 (a0.length : Int)]) (evp_spec (evp_cons rfl (evp_cons rfl evp_nil))) (by kernel_rfl)) rfl ?_
      obtain ⟨b61, w62, E63, S64, X65, L66⟩ := St.lit S11 (P := Tryd.prog) (t := 25) (e := 37) (n := 1) (vs := [(0, .agg #[.int .i64 5, .string (bs ([] : List UInt8)), .int .i64 0, .int .i64 (a0.length : Int)])]) (cs := #[.int .i64 5, .string (bs ([] : List UInt8)), .int .i64 0, .int .i64 (a0.length : Int)]) (by kernel_rfl)
      change St _ _ _ [[(b61, .cells #[.int .i64 5, .string (bs ([] : List UInt8)), .int .i64 0, .int .i64 (a0.length : Int)] 37 (0, 0))], G7] at S64
      refine WOps.e (E63 (evp_cons rfl evp_nil)) rfl ?_
      obtain ⟨l67, hc68, hF⟩ := bind_some hF
      have S69 := S64.front 1 rfl
      change St _ _ _ [G7, [(b61, .cells #[.int .i64 5, .string (bs ([] : List UInt8)), .int .i64 0, .int .i64 (a0.length : Int)] 37 (0, 0))]] at S69
      obtain ⟨A70, c71, G72, w73, E74, hO75, S76, hk77⟩ := St.appP (P := Tryd.prog) (r := Token.rp) (M := ([(⟨5, ([] : List UInt8), 0, (a0.length : Int)⟩ : Token)] : List Token)) S69 T.elt25 rfl hO8 (Rd.of_blk (S69.blk 1 rfl) (n := 1) (sz := 4) rfl) ⟨_, _, [], [], rfl, rfl, ⟨rfl, rfl⟩, ⟨rfl, rfl⟩⟩ rfl hc68
      change St _ _ _ [G72, [(b61, .cells #[.int .i64 5, .string (bs ([] : List UInt8)), .int .i64 0, .int .i64 (a0.length : Int)] 37 (0, 0))]] at S76
      refine WOps.e (E74 rfl rfl) rfl ?_
      refine WOps.p (G.assign rfl) rfl ?_
      refine WOps.p (G.assign rfl) rfl ?_
      refine WOps.p (G.assign rfl) rfl ?_
      refine WOps.nil ?_
      refine WEx.then_ ?_
      refine WCode.forget (l' := [(2, .slice A70 l67.length c71), (3, .int .i64 0), (4, .int .i64 0)]) ⟨rfl, rfl, rfl, trivial⟩ ?_
      refine WCode.ret ?_
      obtain rfl := some_eq hF
      refine WEx.ret3 rfl rfl rfl rfl ?_
      exact ⟨A70, c71, G72, rfl, hO75, St.keep (As := [G72]) S76⟩

def lw_known (k : Nat) : Option Bool := (Option.bind (lx_Scan k ([115, 116, 114, 117, 99, 116, 32, 97, 45, 53, 32, 123] : List UInt8)) fun t1 => (Option.bind (lw_same k (t1.1) ([(⟨2, ([115, 116, 114, 117, 99, 116] : List UInt8), 0, 0⟩ : Token), (⟨1, ([97] : List UInt8), 0, 7⟩ : Token), (⟨3, ([] : List UInt8), -5, 8⟩ : Token), (⟨4, ([123] : List UInt8), 0, 11⟩ : Token), (⟨5, ([] : List UInt8), 0, 12⟩ : Token)] : List Token)) fun t17 => (Option.bind (lx_Scan k ([97, 32, 47, 42, 32, 98] : List UInt8)) fun t22 => (if t17 = true then (if t1.2.1 = 0 then (if t1.2.2 = 0 then (if t22.2.1 = 33 then (if t22.2.2 = 2 then (Option.bind (lx_IsWord k ([118, 111, 105, 100] : List UInt8)) fun t36 => (if t36 = true then (Option.bind (lx_IsName k ([84, 82, 85, 69] : List UInt8)) fun t42 => (if t42 = true then (Option.bind (lx_IsName k ([118, 111, 105, 100] : List UInt8)) fun t48 => (some (!t48))) else (some false))) else (some false))) else (some false)) else (some false)) else (some false)) else (some false)) else (some false)))))
set_option maxRecDepth 100000 in
set_option maxHeartbeats 1000000 in
theorem lw_known_calls (k : Nat) {FG : Nat → Prop} {w : World} (hGl : Glob FG w) (hFG : ∀ b, FG b → NK w [] b) {r_ : Bool} (h_ : lw_known k = some r_) :
    Calls Tryd.prog 7 [].toArray w fun e w' => e = .returned (.bool r_) ∧ St w (KS []) w' [] := by
  have hF := h_
  clear h_
  unfold lw_known at hF
  have S := St.ofFalse (As := []) (St.init0 w)
  refine enter 55 [] Tryd.func7 rfl rfl rfl rfl ?_
  refine WCode.seq ?_
  refine WCode.region ?_
  refine WOps.p (G.assign rfl) rfl ?_
  refine WOps.nil ?_
  refine WEx.then_ ?_
  refine WCode.seq ?_
  refine WCode.region ?_
  obtain ⟨t1, hc2, hF⟩ := bind_some hF
  refine WOps.call T.call9 (evs_cons rfl evs_nil) rfl ?_
  refine (lx_Scan_calls k ([115, 116, 114, 117, 99, 116, 32, 97, 45, 53, 32, 123] : List UInt8) (hGl.ext (S.keepF hFG)) (St.outF (Bs := []) S hFG) hc2).mono ?_
  rintro _ w3 ⟨A6, c7, G8, rfl, hO9, T4⟩
  have S5 := St.callN (As := []) S T4
  change St _ _ _ [G8] at S5
  refine ⟨_, rfl, ?_⟩
  refine WOps.p (G.move rfl) rfl ?_
  refine WOps.p (G.extract rfl rfl) rfl ?_
  refine WOps.p (G.extract rfl rfl) rfl ?_
  refine WOps.p (G.extract rfl rfl) rfl ?_
  refine WOps.p (G.assign rfl) rfl ?_
  refine WOps.p (G.assign rfl) rfl ?_
  refine WOps.p (G.assign rfl) rfl ?_
  refine WOps.nil ?_
  refine WEx.then_ ?_
  refine WCode.seq ?_
  refine WCode.region ?_
  refine WOps.p (G.build (cells := #[.int .i64 2, .string (bs ([115, 116, 114, 117, 99, 116] : List UInt8)), .int .i64 0, .int .i64 0]) (evp_spec (evp_cons rfl (evp_cons rfl evp_nil))) (by kernel_rfl)) rfl ?_
  refine WOps.p (G.build (cells := #[.int .i64 1, .string (bs ([97] : List UInt8)), .int .i64 0, .int .i64 7]) (evp_spec (evp_cons rfl (evp_cons rfl (evp_cons rfl evp_nil)))) (by kernel_rfl)) rfl ?_
  refine WOps.p (G.build (cells := #[.int .i64 3, .string (bs ([] : List UInt8)), .int .i64 (-5), .int .i64 8]) (evp_spec (evp_cons rfl (evp_cons rfl (evp_cons rfl evp_nil)))) (by kernel_rfl)) rfl ?_
  refine WOps.p (G.build (cells := #[.int .i64 4, .string (bs ([123] : List UInt8)), .int .i64 0, .int .i64 11]) (evp_spec (evp_cons rfl (evp_cons rfl (evp_cons rfl evp_nil)))) (by kernel_rfl)) rfl ?_
  refine WOps.p (G.build (cells := #[.int .i64 5, .string (bs ([] : List UInt8)), .int .i64 0, .int .i64 12]) (evp_spec (evp_cons rfl (evp_cons rfl evp_nil))) (by kernel_rfl)) rfl ?_
  obtain ⟨b10, w11, E12, S13, X14, L15⟩ := St.lit S5 (P := Tryd.prog) (t := 25) (e := 37) (n := 5) (vs := [(0, .agg #[.int .i64 2, .string (bs ([115, 116, 114, 117, 99, 116] : List UInt8)), .int .i64 0, .int .i64 0]), (1, .agg #[.int .i64 1, .string (bs ([97] : List UInt8)), .int .i64 0, .int .i64 7]), (2, .agg #[.int .i64 3, .string (bs ([] : List UInt8)), .int .i64 (-5), .int .i64 8]), (3, .agg #[.int .i64 4, .string (bs ([123] : List UInt8)), .int .i64 0, .int .i64 11]), (4, .agg #[.int .i64 5, .string (bs ([] : List UInt8)), .int .i64 0, .int .i64 12])]) (cs := #[.int .i64 2, .string (bs ([115, 116, 114, 117, 99, 116] : List UInt8)), .int .i64 0, .int .i64 0, .int .i64 1, .string (bs ([97] : List UInt8)), .int .i64 0, .int .i64 7, .int .i64 3, .string (bs ([] : List UInt8)), .int .i64 (-5), .int .i64 8, .int .i64 4, .string (bs ([123] : List UInt8)), .int .i64 0, .int .i64 11, .int .i64 5, .string (bs ([] : List UInt8)), .int .i64 0, .int .i64 12]) (by kernel_rfl)
  change St _ _ _ [[(b10, .cells #[.int .i64 2, .string (bs ([115, 116, 114, 117, 99, 116] : List UInt8)), .int .i64 0, .int .i64 0, .int .i64 1, .string (bs ([97] : List UInt8)), .int .i64 0, .int .i64 7, .int .i64 3, .string (bs ([] : List UInt8)), .int .i64 (-5), .int .i64 8, .int .i64 4, .string (bs ([123] : List UInt8)), .int .i64 0, .int .i64 11, .int .i64 5, .string (bs ([] : List UInt8)), .int .i64 0, .int .i64 12] 37 (0, 0))], G8] at S13
  refine WOps.e (E12 (evp_cons rfl (evp_cons rfl (evp_cons rfl (evp_cons rfl (evp_cons rfl evp_nil)))))) rfl ?_
  refine WOps.p (G.assign rfl) rfl ?_
  refine WOps.nil ?_
  refine WEx.then_ ?_
  refine WCode.forget (l' := [(1, .slice A6 (t1.1).length c7), (2, .int .i64 t1.2.1), (3, .int .i64 t1.2.2), (4, .slice (some ⟨b10, 0, none⟩) ([(⟨2, ([115, 116, 114, 117, 99, 116] : List UInt8), 0, 0⟩ : Token), (⟨1, ([97] : List UInt8), 0, 7⟩ : Token), (⟨3, ([] : List UInt8), -5, 8⟩ : Token), (⟨4, ([123] : List UInt8), 0, 11⟩ : Token), (⟨5, ([] : List UInt8), 0, 12⟩ : Token)] : List Token).length 5)]) ⟨rfl, rfl, rfl, rfl, trivial⟩ ?_
  refine WCode.seq ?_
  refine WCode.region ?_
  refine WOps.p (G.move rfl) rfl ?_
  refine WOps.p (G.move rfl) rfl ?_
  have hO16 : SlO 37 Token.rp (.slice (some ⟨b10, 0, none⟩) ([(⟨2, ([115, 116, 114, 117, 99, 116] : List UInt8), 0, 0⟩ : Token), (⟨1, ([97] : List UInt8), 0, 7⟩ : Token), (⟨3, ([] : List UInt8), -5, 8⟩ : Token), (⟨4, ([123] : List UInt8), 0, 11⟩ : Token), (⟨5, ([] : List UInt8), 0, 12⟩ : Token)] : List Token).length 5) ([(⟨2, ([115, 116, 114, 117, 99, 116] : List UInt8), 0, 0⟩ : Token), (⟨1, ([97] : List UInt8), 0, 7⟩ : Token), (⟨3, ([] : List UInt8), -5, 8⟩ : Token), (⟨4, ([123] : List UInt8), 0, 11⟩ : Token), (⟨5, ([] : List UInt8), 0, 12⟩ : Token)] : List Token) ([(b10, .cells #[.int .i64 2, .string (bs ([115, 116, 114, 117, 99, 116] : List UInt8)), .int .i64 0, .int .i64 0, .int .i64 1, .string (bs ([97] : List UInt8)), .int .i64 0, .int .i64 7, .int .i64 3, .string (bs ([] : List UInt8)), .int .i64 (-5), .int .i64 8, .int .i64 4, .string (bs ([123] : List UInt8)), .int .i64 0, .int .i64 11, .int .i64 5, .string (bs ([] : List UInt8)), .int .i64 0, .int .i64 12] 37 (0, 0))] ++ []) := SlO.lit (GM := []) ⟨_, _, [], [], rfl, rfl, ⟨rfl, rfl⟩, ⟨_, _, [], [], rfl, rfl, ⟨rfl, rfl⟩, ⟨_, _, [], [], rfl, rfl, ⟨rfl, rfl⟩, ⟨_, _, [], [], rfl, rfl, ⟨rfl, rfl⟩, ⟨_, _, [], [], rfl, rfl, ⟨rfl, rfl⟩, ⟨rfl, rfl⟩⟩⟩⟩⟩⟩ rfl (by decide) (by decide)
  rw [List.append_nil] at hO16
  obtain ⟨t17, hc18, hF⟩ := bind_some hF
  refine WOps.call T.call10 (evs_cons rfl (evs_cons rfl evs_nil)) rfl ?_
  refine (lw_same_calls k (t1.1) ([(⟨2, ([115, 116, 114, 117, 99, 116] : List UInt8), 0, 0⟩ : Token), (⟨1, ([97] : List UInt8), 0, 7⟩ : Token), (⟨3, ([] : List UInt8), -5, 8⟩ : Token), (⟨4, ([123] : List UInt8), 0, 11⟩ : Token), (⟨5, ([] : List UInt8), 0, 12⟩ : Token)] : List Token) (hO9.rd (fun b o hb => S13.grp 1 rfl hb)) (St.outG (Bs := []) S13 1 rfl) (hO16.rd (fun b o hb => S13.grp 0 rfl hb)) (St.outG (Bs := []) S13 0 rfl) hc18).mono ?_
  rintro _ w19 ⟨rfl, T20⟩
  have S21 := St.callN (As := []) S13 T20
  change St _ _ _ [[(b10, .cells #[.int .i64 2, .string (bs ([115, 116, 114, 117, 99, 116] : List UInt8)), .int .i64 0, .int .i64 0, .int .i64 1, .string (bs ([97] : List UInt8)), .int .i64 0, .int .i64 7, .int .i64 3, .string (bs ([] : List UInt8)), .int .i64 (-5), .int .i64 8, .int .i64 4, .string (bs ([123] : List UInt8)), .int .i64 0, .int .i64 11, .int .i64 5, .string (bs ([] : List UInt8)), .int .i64 0, .int .i64 12] 37 (0, 0))], G8] at S21
  refine ⟨_, rfl, ?_⟩
  refine WOps.p (G.assign rfl) rfl ?_
  refine WOps.nil ?_
  refine WEx.then_ ?_
  refine WCode.seq ?_
  refine WCode.region ?_
  obtain ⟨t22, hc23, hF⟩ := bind_some hF
  refine WOps.call T.call9 (evs_cons rfl evs_nil) rfl ?_
  refine (lx_Scan_calls k ([97, 32, 47, 42, 32, 98] : List UInt8) (hGl.ext (S21.keepF hFG)) (St.outF (Bs := []) S21 hFG) hc23).mono ?_
  rintro _ w24 ⟨A27, c28, G29, rfl, hO30, T25⟩
  have S26 := St.callN (As := []) S21 T25
  change St _ _ _ [G29, [(b10, .cells #[.int .i64 2, .string (bs ([115, 116, 114, 117, 99, 116] : List UInt8)), .int .i64 0, .int .i64 0, .int .i64 1, .string (bs ([97] : List UInt8)), .int .i64 0, .int .i64 7, .int .i64 3, .string (bs ([] : List UInt8)), .int .i64 (-5), .int .i64 8, .int .i64 4, .string (bs ([123] : List UInt8)), .int .i64 0, .int .i64 11, .int .i64 5, .string (bs ([] : List UInt8)), .int .i64 0, .int .i64 12] 37 (0, 0))], G8] at S26
  refine ⟨_, rfl, ?_⟩
  refine WOps.p (G.move rfl) rfl ?_
  refine WOps.p (G.extract rfl rfl) rfl ?_
  refine WOps.p (G.extract rfl rfl) rfl ?_
  refine WOps.p (G.extract rfl rfl) rfl ?_
  refine WOps.p (G.assign rfl) rfl ?_
  refine WOps.p (G.assign rfl) rfl ?_
  refine WOps.p (G.assign rfl) rfl ?_
  refine WOps.nil ?_
  refine WEx.then_ ?_
  refine WCode.forget (l' := [(2, .int .i64 t1.2.1), (3, .int .i64 t1.2.2), (5, .bool t17), (7, .int .i64 t22.2.1), (8, .int .i64 t22.2.2)]) ⟨rfl, rfl, rfl, rfl, rfl, trivial⟩ ?_
  refine WCode.seq ?_
  refine WCode.region ?_
  refine WOps.p (G.move rfl) rfl ?_
  refine WOps.p (G.move rfl) rfl ?_
  rcases ite_some hF with ⟨h31, hF⟩ | ⟨h31, hF⟩
  ·
    refine WOps.on rfl (kbl (b := t17) rfl h31) ?_
    refine WOps.p (G.move rfl) rfl ?_
    refine WOps.on rfl (kbl (b := t17) rfl h31) ?_
    refine WOps.p (G.eql rfl rfl rfl) rfl ?_
    refine WOps.p (G.pick_t (kb (b := t17) rfl h31) rfl) rfl ?_
    refine WOps.p (G.move rfl) rfl ?_
    rcases ite_some hF with ⟨h32, hF⟩ | ⟨h32, hF⟩
    ·
      refine WOps.on rfl (kbl (b := decide (t1.2.1 = 0)) rfl (decide_eq_true h32)) ?_
      refine WOps.p (G.move rfl) rfl ?_
      refine WOps.on rfl (kbl (b := decide (t1.2.1 = 0)) rfl (decide_eq_true h32)) ?_
      refine WOps.p (G.eql rfl rfl rfl) rfl ?_
      refine WOps.p (G.pick_t (kb (b := decide (t1.2.1 = 0)) rfl (decide_eq_true h32)) rfl) rfl ?_
      refine WOps.p (G.move rfl) rfl ?_
      rcases ite_some hF with ⟨h33, hF⟩ | ⟨h33, hF⟩
      ·
        refine WOps.on rfl (kbl (b := decide (t1.2.2 = 0)) rfl (decide_eq_true h33)) ?_
        refine WOps.p (G.move rfl) rfl ?_
        refine WOps.on rfl (kbl (b := decide (t1.2.2 = 0)) rfl (decide_eq_true h33)) ?_
        refine WOps.p (G.eql rfl rfl rfl) rfl ?_
        refine WOps.p (G.pick_t (kb (b := decide (t1.2.2 = 0)) rfl (decide_eq_true h33)) rfl) rfl ?_
        refine WOps.p (G.move rfl) rfl ?_
        rcases ite_some hF with ⟨h34, hF⟩ | ⟨h34, hF⟩
        ·
          refine WOps.on rfl (kbl (b := decide (t22.2.1 = 33)) rfl (decide_eq_true h34)) ?_
          refine WOps.p (G.move rfl) rfl ?_
          refine WOps.on rfl (kbl (b := decide (t22.2.1 = 33)) rfl (decide_eq_true h34)) ?_
          refine WOps.p (G.eql rfl rfl rfl) rfl ?_
          refine WOps.p (G.pick_t (kb (b := decide (t22.2.1 = 33)) rfl (decide_eq_true h34)) rfl) rfl ?_
          refine WOps.p (G.move rfl) rfl ?_
          rcases ite_some hF with ⟨h35, hF⟩ | ⟨h35, hF⟩
          ·
            refine WOps.on rfl (kbl (b := decide (t22.2.2 = 2)) rfl (decide_eq_true h35)) ?_
            obtain ⟨t36, hc37, hF⟩ := bind_some hF
            refine WOps.call T.call12 (evs_cons rfl evs_nil) rfl ?_
            refine (lx_IsWord_calls k ([118, 111, 105, 100] : List UInt8) (hGl.ext (S26.keepF hFG)) (St.outF (Bs := []) S26 hFG) hc37).mono ?_
            rintro _ w38 ⟨rfl, T39⟩
            have S40 := St.callN (As := []) S26 T39
            change St _ _ _ [G29, [(b10, .cells #[.int .i64 2, .string (bs ([115, 116, 114, 117, 99, 116] : List UInt8)), .int .i64 0, .int .i64 0, .int .i64 1, .string (bs ([97] : List UInt8)), .int .i64 0, .int .i64 7, .int .i64 3, .string (bs ([] : List UInt8)), .int .i64 (-5), .int .i64 8, .int .i64 4, .string (bs ([123] : List UInt8)), .int .i64 0, .int .i64 11, .int .i64 5, .string (bs ([] : List UInt8)), .int .i64 0, .int .i64 12] 37 (0, 0))], G8] at S40
            refine ⟨_, rfl, ?_⟩
            refine WOps.p (G.pick_t (kb (b := decide (t22.2.2 = 2)) rfl (decide_eq_true h35)) rfl) rfl ?_
            refine WOps.p (G.move rfl) rfl ?_
            rcases ite_some hF with ⟨h41, hF⟩ | ⟨h41, hF⟩
            ·
              refine WOps.on rfl (kbl (b := t36) rfl h41) ?_
              obtain ⟨t42, hc43, hF⟩ := bind_some hF
              refine WOps.call T.call14 (evs_cons rfl evs_nil) rfl ?_
              refine (lx_IsName_calls k ([84, 82, 85, 69] : List UInt8) (hGl.ext (S40.keepF hFG)) (St.outF (Bs := []) S40 hFG) hc43).mono ?_
              rintro _ w44 ⟨rfl, T45⟩
              have S46 := St.callN (As := []) S40 T45
              change St _ _ _ [G29, [(b10, .cells #[.int .i64 2, .string (bs ([115, 116, 114, 117, 99, 116] : List UInt8)), .int .i64 0, .int .i64 0, .int .i64 1, .string (bs ([97] : List UInt8)), .int .i64 0, .int .i64 7, .int .i64 3, .string (bs ([] : List UInt8)), .int .i64 (-5), .int .i64 8, .int .i64 4, .string (bs ([123] : List UInt8)), .int .i64 0, .int .i64 11, .int .i64 5, .string (bs ([] : List UInt8)), .int .i64 0, .int .i64 12] 37 (0, 0))], G8] at S46
              refine ⟨_, rfl, ?_⟩
              refine WOps.p (G.pick_t (kb (b := t36) rfl h41) rfl) rfl ?_
              refine WOps.p (G.move rfl) rfl ?_
              rcases ite_some hF with ⟨h47, hF⟩ | ⟨h47, hF⟩
              ·
                refine WOps.on rfl (kbl (b := t42) rfl h47) ?_
                obtain ⟨t48, hc49, hF⟩ := bind_some hF
                refine WOps.call T.call14 (evs_cons rfl evs_nil) rfl ?_
                refine (lx_IsName_calls k ([118, 111, 105, 100] : List UInt8) (hGl.ext (S46.keepF hFG)) (St.outF (Bs := []) S46 hFG) hc49).mono ?_
                rintro _ w50 ⟨rfl, T51⟩
                have S52 := St.callN (As := []) S46 T51
                change St _ _ _ [G29, [(b10, .cells #[.int .i64 2, .string (bs ([115, 116, 114, 117, 99, 116] : List UInt8)), .int .i64 0, .int .i64 0, .int .i64 1, .string (bs ([97] : List UInt8)), .int .i64 0, .int .i64 7, .int .i64 3, .string (bs ([] : List UInt8)), .int .i64 (-5), .int .i64 8, .int .i64 4, .string (bs ([123] : List UInt8)), .int .i64 0, .int .i64 11, .int .i64 5, .string (bs ([] : List UInt8)), .int .i64 0, .int .i64 12] 37 (0, 0))], G8] at S52
                refine ⟨_, rfl, ?_⟩
                refine WOps.on rfl (kbl (b := t42) rfl h47) ?_
                refine WOps.p (G.not rfl rfl) rfl ?_
                refine WOps.p (G.pick_t (kb (b := t42) rfl h47) rfl) rfl ?_
                refine WOps.p (G.assign rfl) rfl ?_
                refine WOps.nil ?_
                refine WEx.then_ ?_
                refine WCode.forget (l' := [(0, .bool (!t48))]) ⟨rfl, trivial⟩ ?_
                refine WCode.ret ?_
                obtain rfl := some_eq hF
                refine WEx.ret1 rfl rfl ?_
                exact ⟨rfl, St.keep (As := []) S52⟩
              ·
                refine WOps.off rfl (kbl (b := t42) rfl (Bool.eq_false_iff.2 h47)) rfl rfl ?_
                refine WOps.off rfl (kbl (b := t42) rfl (Bool.eq_false_iff.2 h47)) rfl rfl ?_
                refine WOps.p (G.pick_f (kb (b := t42) rfl (Bool.eq_false_iff.2 h47)) rfl) rfl ?_
                refine WOps.p (G.assign rfl) rfl ?_
                refine WOps.nil ?_
                refine WEx.then_ ?_
                refine WCode.forget (l' := [(0, .bool false)]) ⟨rfl, trivial⟩ ?_
                refine WCode.ret ?_
                obtain rfl := some_eq hF
                refine WEx.ret1 rfl rfl ?_
                exact ⟨rfl, St.keep (As := []) S46⟩
            ·
              refine WOps.off rfl (kbl (b := t36) rfl (Bool.eq_false_iff.2 h41)) rfl rfl ?_
              refine WOps.p (G.pick_f (kb (b := t36) rfl (Bool.eq_false_iff.2 h41)) rfl) rfl ?_
              refine WOps.p (G.move rfl) rfl ?_
              refine WOps.off rfl rfl rfl rfl ?_
              refine WOps.off rfl rfl rfl rfl ?_
              refine WOps.p (G.pick_f rfl rfl) rfl ?_
              refine WOps.p (G.assign rfl) rfl ?_
              refine WOps.nil ?_
              refine WEx.then_ ?_
              refine WCode.forget (l' := [(0, .bool false)]) ⟨rfl, trivial⟩ ?_
              refine WCode.ret ?_
              obtain rfl := some_eq hF
              refine WEx.ret1 rfl rfl ?_
              exact ⟨rfl, St.keep (As := []) S40⟩
          ·
            refine WOps.off rfl (kbl (b := decide (t22.2.2 = 2)) rfl (decide_eq_false h35)) rfl rfl ?_
            refine WOps.p (G.pick_f (kb (b := decide (t22.2.2 = 2)) rfl (decide_eq_false h35)) rfl) rfl ?_
            refine WOps.p (G.move rfl) rfl ?_
            refine WOps.off rfl rfl rfl rfl ?_
            refine WOps.p (G.pick_f rfl rfl) rfl ?_
            refine WOps.p (G.move rfl) rfl ?_
            refine WOps.off rfl rfl rfl rfl ?_
            refine WOps.off rfl rfl rfl rfl ?_
            refine WOps.p (G.pick_f rfl rfl) rfl ?_
            refine WOps.p (G.assign rfl) rfl ?_
            refine WOps.nil ?_
            refine WEx.then_ ?_
            refine WCode.forget (l' := [(0, .bool false)]) ⟨rfl, trivial⟩ ?_
            refine WCode.ret ?_
            obtain rfl := some_eq hF
            refine WEx.ret1 rfl rfl ?_
            exact ⟨rfl, St.keep (As := []) S26⟩
        ·
          refine WOps.off rfl (kbl (b := decide (t22.2.1 = 33)) rfl (decide_eq_false h34)) rfl rfl ?_
          refine WOps.off rfl (kbl (b := decide (t22.2.1 = 33)) rfl (decide_eq_false h34)) rfl rfl ?_
          refine WOps.p (G.pick_f (kb (b := decide (t22.2.1 = 33)) rfl (decide_eq_false h34)) rfl) rfl ?_
          refine WOps.p (G.move rfl) rfl ?_
          refine WOps.off rfl rfl rfl rfl ?_
          refine WOps.p (G.pick_f rfl rfl) rfl ?_
          refine WOps.p (G.move rfl) rfl ?_
          refine WOps.off rfl rfl rfl rfl ?_
          refine WOps.p (G.pick_f rfl rfl) rfl ?_
          refine WOps.p (G.move rfl) rfl ?_
          refine WOps.off rfl rfl rfl rfl ?_
          refine WOps.off rfl rfl rfl rfl ?_
          refine WOps.p (G.pick_f rfl rfl) rfl ?_
          refine WOps.p (G.assign rfl) rfl ?_
          refine WOps.nil ?_
          refine WEx.then_ ?_
          refine WCode.forget (l' := [(0, .bool false)]) ⟨rfl, trivial⟩ ?_
          refine WCode.ret ?_
          obtain rfl := some_eq hF
          refine WEx.ret1 rfl rfl ?_
          exact ⟨rfl, St.keep (As := []) S26⟩
      ·
        refine WOps.off rfl (kbl (b := decide (t1.2.2 = 0)) rfl (decide_eq_false h33)) rfl rfl ?_
        refine WOps.off rfl (kbl (b := decide (t1.2.2 = 0)) rfl (decide_eq_false h33)) rfl rfl ?_
        refine WOps.p (G.pick_f (kb (b := decide (t1.2.2 = 0)) rfl (decide_eq_false h33)) rfl) rfl ?_
        refine WOps.p (G.move rfl) rfl ?_
        refine WOps.off rfl rfl rfl rfl ?_
        refine WOps.off rfl rfl rfl rfl ?_
        refine WOps.p (G.pick_f rfl rfl) rfl ?_
        refine WOps.p (G.move rfl) rfl ?_
        refine WOps.off rfl rfl rfl rfl ?_
        refine WOps.p (G.pick_f rfl rfl) rfl ?_
        refine WOps.p (G.move rfl) rfl ?_
        refine WOps.off rfl rfl rfl rfl ?_
        refine WOps.p (G.pick_f rfl rfl) rfl ?_
        refine WOps.p (G.move rfl) rfl ?_
        refine WOps.off rfl rfl rfl rfl ?_
        refine WOps.off rfl rfl rfl rfl ?_
        refine WOps.p (G.pick_f rfl rfl) rfl ?_
        refine WOps.p (G.assign rfl) rfl ?_
        refine WOps.nil ?_
        refine WEx.then_ ?_
        refine WCode.forget (l' := [(0, .bool false)]) ⟨rfl, trivial⟩ ?_
        refine WCode.ret ?_
        obtain rfl := some_eq hF
        refine WEx.ret1 rfl rfl ?_
        exact ⟨rfl, St.keep (As := []) S26⟩
    ·
      refine WOps.off rfl (kbl (b := decide (t1.2.1 = 0)) rfl (decide_eq_false h32)) rfl rfl ?_
      refine WOps.off rfl (kbl (b := decide (t1.2.1 = 0)) rfl (decide_eq_false h32)) rfl rfl ?_
      refine WOps.p (G.pick_f (kb (b := decide (t1.2.1 = 0)) rfl (decide_eq_false h32)) rfl) rfl ?_
      refine WOps.p (G.move rfl) rfl ?_
      refine WOps.off rfl rfl rfl rfl ?_
      refine WOps.off rfl rfl rfl rfl ?_
      refine WOps.p (G.pick_f rfl rfl) rfl ?_
      refine WOps.p (G.move rfl) rfl ?_
      refine WOps.off rfl rfl rfl rfl ?_
      refine WOps.off rfl rfl rfl rfl ?_
      refine WOps.p (G.pick_f rfl rfl) rfl ?_
      refine WOps.p (G.move rfl) rfl ?_
      refine WOps.off rfl rfl rfl rfl ?_
      refine WOps.p (G.pick_f rfl rfl) rfl ?_
      refine WOps.p (G.move rfl) rfl ?_
      refine WOps.off rfl rfl rfl rfl ?_
      refine WOps.p (G.pick_f rfl rfl) rfl ?_
      refine WOps.p (G.move rfl) rfl ?_
      refine WOps.off rfl rfl rfl rfl ?_
      refine WOps.off rfl rfl rfl rfl ?_
      refine WOps.p (G.pick_f rfl rfl) rfl ?_
      refine WOps.p (G.assign rfl) rfl ?_
      refine WOps.nil ?_
      refine WEx.then_ ?_
      refine WCode.forget (l' := [(0, .bool false)]) ⟨rfl, trivial⟩ ?_
      refine WCode.ret ?_
      obtain rfl := some_eq hF
      refine WEx.ret1 rfl rfl ?_
      exact ⟨rfl, St.keep (As := []) S26⟩
  ·
    refine WOps.off rfl (kbl (b := t17) rfl (Bool.eq_false_iff.2 h31)) rfl rfl ?_
    refine WOps.off rfl (kbl (b := t17) rfl (Bool.eq_false_iff.2 h31)) rfl rfl ?_
    refine WOps.p (G.pick_f (kb (b := t17) rfl (Bool.eq_false_iff.2 h31)) rfl) rfl ?_
    refine WOps.p (G.move rfl) rfl ?_
    refine WOps.off rfl rfl rfl rfl ?_
    refine WOps.off rfl rfl rfl rfl ?_
    refine WOps.p (G.pick_f rfl rfl) rfl ?_
    refine WOps.p (G.move rfl) rfl ?_
    refine WOps.off rfl rfl rfl rfl ?_
    refine WOps.off rfl rfl rfl rfl ?_
    refine WOps.p (G.pick_f rfl rfl) rfl ?_
    refine WOps.p (G.move rfl) rfl ?_
    refine WOps.off rfl rfl rfl rfl ?_
    refine WOps.off rfl rfl rfl rfl ?_
    refine WOps.p (G.pick_f rfl rfl) rfl ?_
    refine WOps.p (G.move rfl) rfl ?_
    refine WOps.off rfl rfl rfl rfl ?_
    refine WOps.p (G.pick_f rfl rfl) rfl ?_
    refine WOps.p (G.move rfl) rfl ?_
    refine WOps.off rfl rfl rfl rfl ?_
    refine WOps.p (G.pick_f rfl rfl) rfl ?_
    refine WOps.p (G.move rfl) rfl ?_
    refine WOps.off rfl rfl rfl rfl ?_
    refine WOps.off rfl rfl rfl rfl ?_
    refine WOps.p (G.pick_f rfl rfl) rfl ?_
    refine WOps.p (G.assign rfl) rfl ?_
    refine WOps.nil ?_
    refine WEx.then_ ?_
    refine WCode.forget (l' := [(0, .bool false)]) ⟨rfl, trivial⟩ ?_
    refine WCode.ret ?_
    obtain rfl := some_eq hF
    refine WEx.ret1 rfl rfl ?_
    exact ⟨rfl, St.keep (As := []) S26⟩

def law_Names (k : Nat) (a0 : List UInt8) : Option Bool := (Option.bind (lw_known k) fun t1 => (if t1 = true then (Option.bind (lx_IsWord k a0) fun t7 => (Option.bind (rf_IsWord k a0) fun t12 => (if (t7 == t12) = true then (Option.bind (lx_IsName k a0) fun t18 => (Option.bind (rf_IsName k a0) fun t23 => (some (t18 == t23)))) else (some false)))) else (some false)))
set_option maxRecDepth 100000 in
set_option maxHeartbeats 1000000 in
theorem law_Names_calls (k : Nat) (a0 : List UInt8) {FG : Nat → Prop} {w : World} (hGl : Glob FG w) (hFG : ∀ b, FG b → NK w [] b) {r_ : Bool} (h_ : law_Names k a0 = some r_) :
    Calls Tryd.prog 4 [.string (bs a0)].toArray w fun e w' => e = .returned (.bool r_) ∧ St w (KS []) w' [] := by
  have hF := h_
  clear h_
  unfold law_Names at hF
  have S := St.ofFalse (As := []) (St.init0 w)
  refine enter 20 [(0, .string (bs a0))] Tryd.func4 rfl rfl rfl rfl ?_
  refine WCode.seq ?_
  refine WCode.region ?_
  refine WOps.p (G.assign rfl) rfl ?_
  refine WOps.nil ?_
  refine WEx.then_ ?_
  refine WCode.seq ?_
  refine WCode.region ?_
  obtain ⟨t1, hc2, hF⟩ := bind_some hF
  refine WOps.call T.call7 evs_nil rfl ?_
  refine (lw_known_calls k (hGl.ext (S.keepF hFG)) (St.outF (Bs := []) S hFG) hc2).mono ?_
  rintro _ w3 ⟨rfl, T4⟩
  have S5 := St.callN (As := []) S T4
  change St _ _ _ [] at S5
  refine ⟨_, rfl, ?_⟩
  refine WOps.p (G.assign rfl) rfl ?_
  refine WOps.nil ?_
  refine WEx.then_ ?_
  refine WCode.seq ?_
  refine WCode.region ?_
  refine WOps.p (G.move rfl) rfl ?_
  refine WOps.p (G.move rfl) rfl ?_
  rcases ite_some hF with ⟨h6, hF⟩ | ⟨h6, hF⟩
  ·
    refine WOps.on rfl (kbl (b := t1) rfl h6) ?_
    refine WOps.p (G.move rfl) rfl ?_
    refine WOps.on rfl (kbl (b := t1) rfl h6) ?_
    obtain ⟨t7, hc8, hF⟩ := bind_some hF
    refine WOps.call T.call12 (evs_cons rfl evs_nil) rfl ?_
    refine (lx_IsWord_calls k a0 (hGl.ext (S5.keepF hFG)) (St.outF (Bs := []) S5 hFG) hc8).mono ?_
    rintro _ w9 ⟨rfl, T10⟩
    have S11 := St.callN (As := []) S5 T10
    change St _ _ _ [] at S11
    refine ⟨_, rfl, ?_⟩
    refine WOps.on rfl (kbl (b := t1) rfl h6) ?_
    refine WOps.p (G.move rfl) rfl ?_
    refine WOps.on rfl (kbl (b := t1) rfl h6) ?_
    obtain ⟨t12, hc13, hF⟩ := bind_some hF
    refine WOps.call T.call13 (evs_cons rfl evs_nil) rfl ?_
    refine (rf_IsWord_calls k a0 hc13).mono ?_
    rintro _ w14 ⟨rfl, T15⟩
    have S16 := St.callN (As := []) S11 T15
    change St _ _ _ [] at S16
    refine ⟨_, rfl, ?_⟩
    refine WOps.on rfl (kbl (b := t1) rfl h6) ?_
    refine WOps.p (G.eqlb Tryd.underlying4 rfl rfl rfl) rfl ?_
    refine WOps.p (G.pick_t (kb (b := t1) rfl h6) rfl) rfl ?_
    refine WOps.p (G.move rfl) rfl ?_
    rcases ite_some hF with ⟨h17, hF⟩ | ⟨h17, hF⟩
    ·
      refine WOps.on rfl (kbl (b := (t7 == t12)) rfl h17) ?_
      refine WOps.p (G.move rfl) rfl ?_
      refine WOps.on rfl (kbl (b := (t7 == t12)) rfl h17) ?_
      obtain ⟨t18, hc19, hF⟩ := bind_some hF
      refine WOps.call T.call14 (evs_cons rfl evs_nil) rfl ?_
      refine (lx_IsName_calls k a0 (hGl.ext (S16.keepF hFG)) (St.outF (Bs := []) S16 hFG) hc19).mono ?_
      rintro _ w20 ⟨rfl, T21⟩
      have S22 := St.callN (As := []) S16 T21
      change St _ _ _ [] at S22
      refine ⟨_, rfl, ?_⟩
      refine WOps.on rfl (kbl (b := (t7 == t12)) rfl h17) ?_
      refine WOps.p (G.move rfl) rfl ?_
      refine WOps.on rfl (kbl (b := (t7 == t12)) rfl h17) ?_
      obtain ⟨t23, hc24, hF⟩ := bind_some hF
      refine WOps.call T.call15 (evs_cons rfl evs_nil) rfl ?_
      refine (rf_IsName_calls k a0 hc24).mono ?_
      rintro _ w25 ⟨rfl, T26⟩
      have S27 := St.callN (As := []) S22 T26
      change St _ _ _ [] at S27
      refine ⟨_, rfl, ?_⟩
      refine WOps.on rfl (kbl (b := (t7 == t12)) rfl h17) ?_
      refine WOps.p (G.eqlb Tryd.underlying4 rfl rfl rfl) rfl ?_
      refine WOps.p (G.pick_t (kb (b := (t7 == t12)) rfl h17) rfl) rfl ?_
      refine WOps.p (G.assign rfl) rfl ?_
      refine WOps.nil ?_
      refine WEx.then_ ?_
      refine WCode.forget (l' := [(2, .bool (t18 == t23))]) ⟨rfl, trivial⟩ ?_
      refine WCode.ret ?_
      obtain rfl := some_eq hF
      refine WEx.ret1 rfl rfl ?_
      exact ⟨rfl, St.keep (As := []) S27⟩
    ·
      refine WOps.off rfl (kbl (b := (t7 == t12)) rfl (Bool.eq_false_iff.2 h17)) rfl rfl ?_
      refine WOps.off rfl (kbl (b := (t7 == t12)) rfl (Bool.eq_false_iff.2 h17)) rfl rfl ?_
      refine WOps.off rfl (kbl (b := (t7 == t12)) rfl (Bool.eq_false_iff.2 h17)) rfl rfl ?_
      refine WOps.off rfl (kbl (b := (t7 == t12)) rfl (Bool.eq_false_iff.2 h17)) rfl rfl ?_
      refine WOps.off rfl (kbl (b := (t7 == t12)) rfl (Bool.eq_false_iff.2 h17)) rfl rfl ?_
      refine WOps.p (G.pick_f (kb (b := (t7 == t12)) rfl (Bool.eq_false_iff.2 h17)) rfl) rfl ?_
      refine WOps.p (G.assign rfl) rfl ?_
      refine WOps.nil ?_
      refine WEx.then_ ?_
      refine WCode.forget (l' := [(2, .bool false)]) ⟨rfl, trivial⟩ ?_
      refine WCode.ret ?_
      obtain rfl := some_eq hF
      refine WEx.ret1 rfl rfl ?_
      exact ⟨rfl, St.keep (As := []) S16⟩
  ·
    refine WOps.off rfl (kbl (b := t1) rfl (Bool.eq_false_iff.2 h6)) rfl rfl ?_
    refine WOps.off rfl (kbl (b := t1) rfl (Bool.eq_false_iff.2 h6)) rfl rfl ?_
    refine WOps.off rfl (kbl (b := t1) rfl (Bool.eq_false_iff.2 h6)) rfl rfl ?_
    refine WOps.off rfl (kbl (b := t1) rfl (Bool.eq_false_iff.2 h6)) rfl rfl ?_
    refine WOps.off rfl (kbl (b := t1) rfl (Bool.eq_false_iff.2 h6)) rfl rfl ?_
    refine WOps.p (G.pick_f (kb (b := t1) rfl (Bool.eq_false_iff.2 h6)) rfl) rfl ?_
    refine WOps.p (G.move rfl) rfl ?_
    refine WOps.off rfl rfl rfl rfl ?_
    refine WOps.off rfl rfl rfl rfl ?_
    refine WOps.off rfl rfl rfl rfl ?_
    refine WOps.off rfl rfl rfl rfl ?_
    refine WOps.off rfl rfl rfl rfl ?_
    refine WOps.p (G.pick_f rfl rfl) rfl ?_
    refine WOps.p (G.assign rfl) rfl ?_
    refine WOps.nil ?_
    refine WEx.then_ ?_
    refine WCode.forget (l' := [(2, .bool false)]) ⟨rfl, trivial⟩ ?_
    refine WCode.ret ?_
    obtain rfl := some_eq hF
    refine WEx.ret1 rfl rfl ?_
    exact ⟨rfl, St.keep (As := []) S5⟩

def lw_within (k : Nat) (a0 : Int) : Option Bool := (if 97 ≤ a0 then (if a0 ≤ 122 then (some true) else (if 65 ≤ a0 then (if a0 ≤ 90 then (some true) else (if 48 ≤ a0 then (if a0 ≤ 57 then (some true) else (some (decide (a0 = 95)))) else (some (decide (a0 = 95))))) else (if 48 ≤ a0 then (if a0 ≤ 57 then (some true) else (some (decide (a0 = 95)))) else (some (decide (a0 = 95)))))) else (if 65 ≤ a0 then (if a0 ≤ 90 then (some true) else (if 48 ≤ a0 then (if a0 ≤ 57 then (some true) else (some (decide (a0 = 95)))) else (some (decide (a0 = 95))))) else (if 48 ≤ a0 then (if a0 ≤ 57 then (some true) else (some (decide (a0 = 95)))) else (some (decide (a0 = 95))))))
set_option maxRecDepth 100000 in
set_option maxHeartbeats 1000000 in
theorem lw_within_calls (k : Nat) (a0 : Int) {w : World} {r_ : Bool} (h_ : lw_within k a0 = some r_) :
    Calls Tryd.prog 19 [.int .u8 a0].toArray w fun e w' => e = .returned (.bool r_) ∧ St w (KS []) w' [] := by
  have hF := h_
  clear h_
  unfold lw_within at hF
  have S := St.ofFalse (As := []) (St.init0 w)
  refine enter 29 [(0, .int .u8 a0)] Tryd.func19 rfl rfl rfl rfl ?_
  refine WCode.seq ?_
  refine WCode.region ?_
  refine WOps.p (G.assign rfl) rfl ?_
  refine WOps.nil ?_
  refine WEx.then_ ?_
  refine WCode.seq ?_
  refine WCode.region ?_
  refine WOps.p (G.move rfl) rfl ?_
  refine WOps.p (G.geq rfl rfl rfl) rfl ?_
  refine WOps.p (G.move rfl) rfl ?_
  rcases ite_some hF with ⟨h1, hF⟩ | ⟨h1, hF⟩
  ·
    refine WOps.on rfl (kbl (b := decide (97 ≤ a0)) rfl (decide_eq_true h1)) ?_
    refine WOps.p (G.move rfl) rfl ?_
    refine WOps.on rfl (kbl (b := decide (97 ≤ a0)) rfl (decide_eq_true h1)) ?_
    refine WOps.p (G.leq rfl rfl rfl) rfl ?_
    refine WOps.p (G.pick_t (kb (b := decide (97 ≤ a0)) rfl (decide_eq_true h1)) rfl) rfl ?_
    refine WOps.p (G.move rfl) rfl ?_
    rcases ite_some hF with ⟨h2, hF⟩ | ⟨h2, hF⟩
    ·
      refine WOps.off rfl (kbl (b := decide (a0 ≤ 122)) rfl (decide_eq_true h2)) rfl rfl ?_
      refine WOps.off rfl (kbl (b := decide (a0 ≤ 122)) rfl (decide_eq_true h2)) rfl rfl ?_
      refine WOps.off rfl (kbl (b := decide (a0 ≤ 122)) rfl (decide_eq_true h2)) rfl rfl ?_
      refine WOps.off rfl rfl rfl rfl ?_
      refine WOps.off rfl rfl rfl rfl ?_
      refine WOps.off rfl (kbl (b := decide (a0 ≤ 122)) rfl (decide_eq_true h2)) rfl rfl ?_
      refine WOps.p (G.pick_t (kb (b := decide (a0 ≤ 122)) rfl (decide_eq_true h2)) rfl) rfl ?_
      refine WOps.p (G.move rfl) rfl ?_
      refine WOps.off rfl rfl rfl rfl ?_
      refine WOps.off rfl rfl rfl rfl ?_
      refine WOps.off rfl rfl rfl rfl ?_
      refine WOps.off rfl rfl rfl rfl ?_
      refine WOps.off rfl rfl rfl rfl ?_
      refine WOps.off rfl rfl rfl rfl ?_
      refine WOps.p (G.pick_t rfl rfl) rfl ?_
      refine WOps.p (G.move rfl) rfl ?_
      refine WOps.off rfl rfl rfl rfl ?_
      refine WOps.off rfl rfl rfl rfl ?_
      refine WOps.p (G.pick_t rfl rfl) rfl ?_
      refine WOps.p (G.assign rfl) rfl ?_
      refine WOps.nil ?_
      refine WEx.then_ ?_
      refine WCode.forget (l' := [(2, .bool true)]) ⟨rfl, trivial⟩ ?_
      refine WCode.ret ?_
      obtain rfl := some_eq hF
      refine WEx.ret1 rfl rfl ?_
      exact ⟨rfl, St.keep (As := []) S⟩
    ·
      refine WOps.on rfl (kbl (b := decide (a0 ≤ 122)) rfl (decide_eq_false h2)) ?_
      refine WOps.p (G.move rfl) rfl ?_
      refine WOps.on rfl (kbl (b := decide (a0 ≤ 122)) rfl (decide_eq_false h2)) ?_
      refine WOps.p (G.geq rfl rfl rfl) rfl ?_
      refine WOps.on rfl (kbl (b := decide (a0 ≤ 122)) rfl (decide_eq_false h2)) ?_
      refine WOps.p (G.move rfl) rfl ?_
      rcases ite_some hF with ⟨h3, hF⟩ | ⟨h3, hF⟩
      ·
        refine WOps.on rfl (kbl (b := decide (65 ≤ a0)) rfl (decide_eq_true h3)) ?_
        refine WOps.p (G.move rfl) rfl ?_
        refine WOps.on rfl (kbl (b := decide (65 ≤ a0)) rfl (decide_eq_true h3)) ?_
        refine WOps.p (G.leq rfl rfl rfl) rfl ?_
        refine WOps.on rfl (kbl (b := decide (a0 ≤ 122)) rfl (decide_eq_false h2)) ?_
        refine WOps.p (G.pick_t (kb (b := decide (65 ≤ a0)) rfl (decide_eq_true h3)) rfl) rfl ?_
        refine WOps.p (G.pick_f (kb (b := decide (a0 ≤ 122)) rfl (decide_eq_false h2)) rfl) rfl ?_
        refine WOps.p (G.move rfl) rfl ?_
        rcases ite_some hF with ⟨h4, hF⟩ | ⟨h4, hF⟩
        ·
          refine WOps.off rfl (kbl (b := decide (a0 ≤ 90)) rfl (decide_eq_true h4)) rfl rfl ?_
          refine WOps.off rfl (kbl (b := decide (a0 ≤ 90)) rfl (decide_eq_true h4)) rfl rfl ?_
          refine WOps.off rfl (kbl (b := decide (a0 ≤ 90)) rfl (decide_eq_true h4)) rfl rfl ?_
          refine WOps.off rfl rfl rfl rfl ?_
          refine WOps.off rfl rfl rfl rfl ?_
          refine WOps.off rfl (kbl (b := decide (a0 ≤ 90)) rfl (decide_eq_true h4)) rfl rfl ?_
          refine WOps.p (G.pick_t (kb (b := decide (a0 ≤ 90)) rfl (decide_eq_true h4)) rfl) rfl ?_
          refine WOps.p (G.move rfl) rfl ?_
          refine WOps.off rfl rfl rfl rfl ?_
          refine WOps.off rfl rfl rfl rfl ?_
          refine WOps.p (G.pick_t rfl rfl) rfl ?_
          refine WOps.p (G.assign rfl) rfl ?_
          refine WOps.nil ?_
          refine WEx.then_ ?_
          refine WCode.forget (l' := [(2, .bool true)]) ⟨rfl, trivial⟩ ?_
          refine WCode.ret ?_
          obtain rfl := some_eq hF
          refine WEx.ret1 rfl rfl ?_
          exact ⟨rfl, St.keep (As := []) S⟩
        ·
          refine WOps.on rfl (kbl (b := decide (a0 ≤ 90)) rfl (decide_eq_false h4)) ?_
          refine WOps.p (G.move rfl) rfl ?_
          refine WOps.on rfl (kbl (b := decide (a0 ≤ 90)) rfl (decide_eq_false h4)) ?_
          refine WOps.p (G.geq rfl rfl rfl) rfl ?_
          refine WOps.on rfl (kbl (b := decide (a0 ≤ 90)) rfl (decide_eq_false h4)) ?_
          refine WOps.p (G.move rfl) rfl ?_
          rcases ite_some hF with ⟨h5, hF⟩ | ⟨h5, hF⟩
          ·
            refine WOps.on rfl (kbl (b := decide (48 ≤ a0)) rfl (decide_eq_true h5)) ?_
            refine WOps.p (G.move rfl) rfl ?_
            refine WOps.on rfl (kbl (b := decide (48 ≤ a0)) rfl (decide_eq_true h5)) ?_
            refine WOps.p (G.leq rfl rfl rfl) rfl ?_
            refine WOps.on rfl (kbl (b := decide (a0 ≤ 90)) rfl (decide_eq_false h4)) ?_
            refine WOps.p (G.pick_t (kb (b := decide (48 ≤ a0)) rfl (decide_eq_true h5)) rfl) rfl ?_
            refine WOps.p (G.pick_f (kb (b := decide (a0 ≤ 90)) rfl (decide_eq_false h4)) rfl) rfl ?_
            refine WOps.p (G.move rfl) rfl ?_
            rcases ite_some hF with ⟨h6, hF⟩ | ⟨h6, hF⟩
            ·
              refine WOps.off rfl (kbl (b := decide (a0 ≤ 57)) rfl (decide_eq_true h6)) rfl rfl ?_
              refine WOps.off rfl (kbl (b := decide (a0 ≤ 57)) rfl (decide_eq_true h6)) rfl rfl ?_
              refine WOps.p (G.pick_t (kb (b := decide (a0 ≤ 57)) rfl (decide_eq_true h6)) rfl) rfl ?_
              refine WOps.p (G.assign rfl) rfl ?_
              refine WOps.nil ?_
              refine WEx.then_ ?_
              refine WCode.forget (l' := [(2, .bool true)]) ⟨rfl, trivial⟩ ?_
              refine WCode.ret ?_
              obtain rfl := some_eq hF
              refine WEx.ret1 rfl rfl ?_
              exact ⟨rfl, St.keep (As := []) S⟩
            ·
              refine WOps.on rfl (kbl (b := decide (a0 ≤ 57)) rfl (decide_eq_false h6)) ?_
              refine WOps.p (G.move rfl) rfl ?_
              refine WOps.on rfl (kbl (b := decide (a0 ≤ 57)) rfl (decide_eq_false h6)) ?_
              refine WOps.p (G.eql rfl rfl rfl) rfl ?_
              refine WOps.p (G.pick_f (kb (b := decide (a0 ≤ 57)) rfl (decide_eq_false h6)) rfl) rfl ?_
              refine WOps.p (G.assign rfl) rfl ?_
              refine WOps.nil ?_
              refine WEx.then_ ?_
              refine WCode.forget (l' := [(2, .bool (decide (a0 = 95)))]) ⟨rfl, trivial⟩ ?_
              refine WCode.ret ?_
              obtain rfl := some_eq hF
              refine WEx.ret1 rfl rfl ?_
              exact ⟨rfl, St.keep (As := []) S⟩
          ·
            refine WOps.off rfl (kbl (b := decide (48 ≤ a0)) rfl (decide_eq_false h5)) rfl rfl ?_
            refine WOps.off rfl (kbl (b := decide (48 ≤ a0)) rfl (decide_eq_false h5)) rfl rfl ?_
            refine WOps.on rfl (kbl (b := decide (a0 ≤ 90)) rfl (decide_eq_false h4)) ?_
            refine WOps.p (G.pick_f (kb (b := decide (48 ≤ a0)) rfl (decide_eq_false h5)) rfl) rfl ?_
            refine WOps.p (G.pick_f (kb (b := decide (a0 ≤ 90)) rfl (decide_eq_false h4)) rfl) rfl ?_
            refine WOps.p (G.move rfl) rfl ?_
            refine WOps.on rfl rfl ?_
            refine WOps.p (G.move rfl) rfl ?_
            refine WOps.on rfl rfl ?_
            refine WOps.p (G.eql rfl rfl rfl) rfl ?_
            refine WOps.p (G.pick_f rfl rfl) rfl ?_
            refine WOps.p (G.assign rfl) rfl ?_
            refine WOps.nil ?_
            refine WEx.then_ ?_
            refine WCode.forget (l' := [(2, .bool (decide (a0 = 95)))]) ⟨rfl, trivial⟩ ?_
            refine WCode.ret ?_
            obtain rfl := some_eq hF
            refine WEx.ret1 rfl rfl ?_
            exact ⟨rfl, St.keep (As := []) S⟩
      ·
        refine WOps.off rfl (kbl (b := decide (65 ≤ a0)) rfl (decide_eq_false h3)) rfl rfl ?_
        refine WOps.off rfl (kbl (b := decide (65 ≤ a0)) rfl (decide_eq_false h3)) rfl rfl ?_
        refine WOps.on rfl (kbl (b := decide (a0 ≤ 122)) rfl (decide_eq_false h2)) ?_
        refine WOps.p (G.pick_f (kb (b := decide (65 ≤ a0)) rfl (decide_eq_false h3)) rfl) rfl ?_
        refine WOps.p (G.pick_f (kb (b := decide (a0 ≤ 122)) rfl (decide_eq_false h2)) rfl) rfl ?_
        refine WOps.p (G.move rfl) rfl ?_
        refine WOps.on rfl rfl ?_
        refine WOps.p (G.move rfl) rfl ?_
        refine WOps.on rfl rfl ?_
        refine WOps.p (G.geq rfl rfl rfl) rfl ?_
        refine WOps.on rfl rfl ?_
        refine WOps.p (G.move rfl) rfl ?_
        rcases ite_some hF with ⟨h7, hF⟩ | ⟨h7, hF⟩
        ·
          refine WOps.on rfl (kbl (b := decide (48 ≤ a0)) rfl (decide_eq_true h7)) ?_
          refine WOps.p (G.move rfl) rfl ?_
          refine WOps.on rfl (kbl (b := decide (48 ≤ a0)) rfl (decide_eq_true h7)) ?_
          refine WOps.p (G.leq rfl rfl rfl) rfl ?_
          refine WOps.on rfl rfl ?_
          refine WOps.p (G.pick_t (kb (b := decide (48 ≤ a0)) rfl (decide_eq_true h7)) rfl) rfl ?_
          refine WOps.p (G.pick_f rfl rfl) rfl ?_
          refine WOps.p (G.move rfl) rfl ?_
          rcases ite_some hF with ⟨h8, hF⟩ | ⟨h8, hF⟩
          ·
            refine WOps.off rfl (kbl (b := decide (a0 ≤ 57)) rfl (decide_eq_true h8)) rfl rfl ?_
            refine WOps.off rfl (kbl (b := decide (a0 ≤ 57)) rfl (decide_eq_true h8)) rfl rfl ?_
            refine WOps.p (G.pick_t (kb (b := decide (a0 ≤ 57)) rfl (decide_eq_true h8)) rfl) rfl ?_
            refine WOps.p (G.assign rfl) rfl ?_
            refine WOps.nil ?_
            refine WEx.then_ ?_
            refine WCode.forget (l' := [(2, .bool true)]) ⟨rfl, trivial⟩ ?_
            refine WCode.ret ?_
            obtain rfl := some_eq hF
            refine WEx.ret1 rfl rfl ?_
            exact ⟨rfl, St.keep (As := []) S⟩
          ·
            refine WOps.on rfl (kbl (b := decide (a0 ≤ 57)) rfl (decide_eq_false h8)) ?_
            refine WOps.p (G.move rfl) rfl ?_
            refine WOps.on rfl (kbl (b := decide (a0 ≤ 57)) rfl (decide_eq_false h8)) ?_
            refine WOps.p (G.eql rfl rfl rfl) rfl ?_
            refine WOps.p (G.pick_f (kb (b := decide (a0 ≤ 57)) rfl (decide_eq_false h8)) rfl) rfl ?_
            refine WOps.p (G.assign rfl) rfl ?_
            refine WOps.nil ?_
            refine WEx.then_ ?_
            refine WCode.forget (l' := [(2, .bool (decide (a0 = 95)))]) ⟨rfl, trivial⟩ ?_
            refine WCode.ret ?_
            obtain rfl := some_eq hF
            refine WEx.ret1 rfl rfl ?_
            exact ⟨rfl, St.keep (As := []) S⟩
        ·
          refine WOps.off rfl (kbl (b := decide (48 ≤ a0)) rfl (decide_eq_false h7)) rfl rfl ?_
          refine WOps.off rfl (kbl (b := decide (48 ≤ a0)) rfl (decide_eq_false h7)) rfl rfl ?_
          refine WOps.on rfl rfl ?_
          refine WOps.p (G.pick_f (kb (b := decide (48 ≤ a0)) rfl (decide_eq_false h7)) rfl) rfl ?_
          refine WOps.p (G.pick_f rfl rfl) rfl ?_
          refine WOps.p (G.move rfl) rfl ?_
          refine WOps.on rfl rfl ?_
          refine WOps.p (G.move rfl) rfl ?_
          refine WOps.on rfl rfl ?_
          refine WOps.p (G.eql rfl rfl rfl) rfl ?_
          refine WOps.p (G.pick_f rfl rfl) rfl ?_
          refine WOps.p (G.assign rfl) rfl ?_
          refine WOps.nil ?_
          refine WEx.then_ ?_
          refine WCode.forget (l' := [(2, .bool (decide (a0 = 95)))]) ⟨rfl, trivial⟩ ?_
          refine WCode.ret ?_
          obtain rfl := some_eq hF
          refine WEx.ret1 rfl rfl ?_
          exact ⟨rfl, St.keep (As := []) S⟩
  ·
    refine WOps.off rfl (kbl (b := decide (97 ≤ a0)) rfl (decide_eq_false h1)) rfl rfl ?_
    refine WOps.off rfl (kbl (b := decide (97 ≤ a0)) rfl (decide_eq_false h1)) rfl rfl ?_
    refine WOps.p (G.pick_f (kb (b := decide (97 ≤ a0)) rfl (decide_eq_false h1)) rfl) rfl ?_
    refine WOps.p (G.move rfl) rfl ?_
    refine WOps.on rfl rfl ?_
    refine WOps.p (G.move rfl) rfl ?_
    refine WOps.on rfl rfl ?_
    refine WOps.p (G.geq rfl rfl rfl) rfl ?_
    refine WOps.on rfl rfl ?_
    refine WOps.p (G.move rfl) rfl ?_
    rcases ite_some hF with ⟨h9, hF⟩ | ⟨h9, hF⟩
    ·
      refine WOps.on rfl (kbl (b := decide (65 ≤ a0)) rfl (decide_eq_true h9)) ?_
      refine WOps.p (G.move rfl) rfl ?_
      refine WOps.on rfl (kbl (b := decide (65 ≤ a0)) rfl (decide_eq_true h9)) ?_
      refine WOps.p (G.leq rfl rfl rfl) rfl ?_
      refine WOps.on rfl rfl ?_
      refine WOps.p (G.pick_t (kb (b := decide (65 ≤ a0)) rfl (decide_eq_true h9)) rfl) rfl ?_
      refine WOps.p (G.pick_f rfl rfl) rfl ?_
      refine WOps.p (G.move rfl) rfl ?_
      rcases ite_some hF with ⟨h10, hF⟩ | ⟨h10, hF⟩
      ·
        refine WOps.off rfl (kbl (b := decide (a0 ≤ 90)) rfl (decide_eq_true h10)) rfl rfl ?_
        refine WOps.off rfl (kbl (b := decide (a0 ≤ 90)) rfl (decide_eq_true h10)) rfl rfl ?_
        refine WOps.off rfl (kbl (b := decide (a0 ≤ 90)) rfl (decide_eq_true h10)) rfl rfl ?_
        refine WOps.off rfl rfl rfl rfl ?_
        refine WOps.off rfl rfl rfl rfl ?_
        refine WOps.off rfl (kbl (b := decide (a0 ≤ 90)) rfl (decide_eq_true h10)) rfl rfl ?_
        refine WOps.p (G.pick_t (kb (b := decide (a0 ≤ 90)) rfl (decide_eq_true h10)) rfl) rfl ?_
        refine WOps.p (G.move rfl) rfl ?_
        refine WOps.off rfl rfl rfl rfl ?_
        refine WOps.off rfl rfl rfl rfl ?_
        refine WOps.p (G.pick_t rfl rfl) rfl ?_
        refine WOps.p (G.assign rfl) rfl ?_
        refine WOps.nil ?_
        refine WEx.then_ ?_
        refine WCode.forget (l' := [(2, .bool true)]) ⟨rfl, trivial⟩ ?_
        refine WCode.ret ?_
        obtain rfl := some_eq hF
        refine WEx.ret1 rfl rfl ?_
        exact ⟨rfl, St.keep (As := []) S⟩
      ·
        refine WOps.on rfl (kbl (b := decide (a0 ≤ 90)) rfl (decide_eq_false h10)) ?_
        refine WOps.p (G.move rfl) rfl ?_
        refine WOps.on rfl (kbl (b := decide (a0 ≤ 90)) rfl (decide_eq_false h10)) ?_
        refine WOps.p (G.geq rfl rfl rfl) rfl ?_
        refine WOps.on rfl (kbl (b := decide (a0 ≤ 90)) rfl (decide_eq_false h10)) ?_
        refine WOps.p (G.move rfl) rfl ?_
        rcases ite_some hF with ⟨h11, hF⟩ | ⟨h11, hF⟩
        ·
          refine WOps.on rfl (kbl (b := decide (48 ≤ a0)) rfl (decide_eq_true h11)) ?_
          refine WOps.p (G.move rfl) rfl ?_
          refine WOps.on rfl (kbl (b := decide (48 ≤ a0)) rfl (decide_eq_true h11)) ?_
          refine WOps.p (G.leq rfl rfl rfl) rfl ?_
          refine WOps.on rfl (kbl (b := decide (a0 ≤ 90)) rfl (decide_eq_false h10)) ?_
          refine WOps.p (G.pick_t (kb (b := decide (48 ≤ a0)) rfl (decide_eq_true h11)) rfl) rfl ?_
          refine WOps.p (G.pick_f (kb (b := decide (a0 ≤ 90)) rfl (decide_eq_false h10)) rfl) rfl ?_
          refine WOps.p (G.move rfl) rfl ?_
          rcases ite_some hF with ⟨h12, hF⟩ | ⟨h12, hF⟩
          ·
            refine WOps.off rfl (kbl (b := decide (a0 ≤ 57)) rfl (decide_eq_true h12)) rfl rfl ?_
            refine WOps.off rfl (kbl (b := decide (a0 ≤ 57)) rfl (decide_eq_true h12)) rfl rfl ?_
            refine WOps.p (G.pick_t (kb (b := decide (a0 ≤ 57)) rfl (decide_eq_true h12)) rfl) rfl ?_
            refine WOps.p (G.assign rfl) rfl ?_
            refine WOps.nil ?_
            refine WEx.then_ ?_
            refine WCode.forget (l' := [(2, .bool true)]) ⟨rfl, trivial⟩ ?_
            refine WCode.ret ?_
            obtain rfl := some_eq hF
            refine WEx.ret1 rfl rfl ?_
            exact ⟨rfl, St.keep (As := []) S⟩
          ·
            refine WOps.on rfl (kbl (b := decide (a0 ≤ 57)) rfl (decide_eq_false h12)) ?_
            refine WOps.p (G.move rfl) rfl ?_
            refine WOps.on rfl (kbl (b := decide (a0 ≤ 57)) rfl (decide_eq_false h12)) ?_
            refine WOps.p (G.eql rfl rfl rfl) rfl ?_
            refine WOps.p (G.pick_f (kb (b := decide (a0 ≤ 57)) rfl (decide_eq_false h12)) rfl) rfl ?_
            refine WOps.p (G.assign rfl) rfl ?_
            refine WOps.nil ?_
            refine WEx.then_ ?_
            refine WCode.forget (l' := [(2, .bool (decide (a0 = 95)))]) ⟨rfl, trivial⟩ ?_
            refine WCode.ret ?_
            obtain rfl := some_eq hF
            refine WEx.ret1 rfl rfl ?_
            exact ⟨rfl, St.keep (As := []) S⟩
        ·
          refine WOps.off rfl (kbl (b := decide (48 ≤ a0)) rfl (decide_eq_false h11)) rfl rfl ?_
          refine WOps.off rfl (kbl (b := decide (48 ≤ a0)) rfl (decide_eq_false h11)) rfl rfl ?_
          refine WOps.on rfl (kbl (b := decide (a0 ≤ 90)) rfl (decide_eq_false h10)) ?_
          refine WOps.p (G.pick_f (kb (b := decide (48 ≤ a0)) rfl (decide_eq_false h11)) rfl) rfl ?_
          refine WOps.p (G.pick_f (kb (b := decide (a0 ≤ 90)) rfl (decide_eq_false h10)) rfl) rfl ?_
          refine WOps.p (G.move rfl) rfl ?_
          refine WOps.on rfl rfl ?_
          refine WOps.p (G.move rfl) rfl ?_
          refine WOps.on rfl rfl ?_
          refine WOps.p (G.eql rfl rfl rfl) rfl ?_
          refine WOps.p (G.pick_f rfl rfl) rfl ?_
          refine WOps.p (G.assign rfl) rfl ?_
          refine WOps.nil ?_
          refine WEx.then_ ?_
          refine WCode.forget (l' := [(2, .bool (decide (a0 = 95)))]) ⟨rfl, trivial⟩ ?_
          refine WCode.ret ?_
          obtain rfl := some_eq hF
          refine WEx.ret1 rfl rfl ?_
          exact ⟨rfl, St.keep (As := []) S⟩
    ·
      refine WOps.off rfl (kbl (b := decide (65 ≤ a0)) rfl (decide_eq_false h9)) rfl rfl ?_
      refine WOps.off rfl (kbl (b := decide (65 ≤ a0)) rfl (decide_eq_false h9)) rfl rfl ?_
      refine WOps.on rfl rfl ?_
      refine WOps.p (G.pick_f (kb (b := decide (65 ≤ a0)) rfl (decide_eq_false h9)) rfl) rfl ?_
      refine WOps.p (G.pick_f rfl rfl) rfl ?_
      refine WOps.p (G.move rfl) rfl ?_
      refine WOps.on rfl rfl ?_
      refine WOps.p (G.move rfl) rfl ?_
      refine WOps.on rfl rfl ?_
      refine WOps.p (G.geq rfl rfl rfl) rfl ?_
      refine WOps.on rfl rfl ?_
      refine WOps.p (G.move rfl) rfl ?_
      rcases ite_some hF with ⟨h13, hF⟩ | ⟨h13, hF⟩
      ·
        refine WOps.on rfl (kbl (b := decide (48 ≤ a0)) rfl (decide_eq_true h13)) ?_
        refine WOps.p (G.move rfl) rfl ?_
        refine WOps.on rfl (kbl (b := decide (48 ≤ a0)) rfl (decide_eq_true h13)) ?_
        refine WOps.p (G.leq rfl rfl rfl) rfl ?_
        refine WOps.on rfl rfl ?_
        refine WOps.p (G.pick_t (kb (b := decide (48 ≤ a0)) rfl (decide_eq_true h13)) rfl) rfl ?_
        refine WOps.p (G.pick_f rfl rfl) rfl ?_
        refine WOps.p (G.move rfl) rfl ?_
        rcases ite_some hF with ⟨h14, hF⟩ | ⟨h14, hF⟩
        ·
          refine WOps.off rfl (kbl (b := decide (a0 ≤ 57)) rfl (decide_eq_true h14)) rfl rfl ?_
          refine WOps.off rfl (kbl (b := decide (a0 ≤ 57)) rfl (decide_eq_true h14)) rfl rfl ?_
          refine WOps.p (G.pick_t (kb (b := decide (a0 ≤ 57)) rfl (decide_eq_true h14)) rfl) rfl ?_
          refine WOps.p (G.assign rfl) rfl ?_
          refine WOps.nil ?_
          refine WEx.then_ ?_
          refine WCode.forget (l' := [(2, .bool true)]) ⟨rfl, trivial⟩ ?_
          refine WCode.ret ?_
          obtain rfl := some_eq hF
          refine WEx.ret1 rfl rfl ?_
          exact ⟨rfl, St.keep (As := []) S⟩
        ·
          refine WOps.on rfl (kbl (b := decide (a0 ≤ 57)) rfl (decide_eq_false h14)) ?_
          refine WOps.p (G.move rfl) rfl ?_
          refine WOps.on rfl (kbl (b := decide (a0 ≤ 57)) rfl (decide_eq_false h14)) ?_
          refine WOps.p (G.eql rfl rfl rfl) rfl ?_
          refine WOps.p (G.pick_f (kb (b := decide (a0 ≤ 57)) rfl (decide_eq_false h14)) rfl) rfl ?_
          refine WOps.p (G.assign rfl) rfl ?_
          refine WOps.nil ?_
          refine WEx.then_ ?_
          refine WCode.forget (l' := [(2, .bool (decide (a0 = 95)))]) ⟨rfl, trivial⟩ ?_
          refine WCode.ret ?_
          obtain rfl := some_eq hF
          refine WEx.ret1 rfl rfl ?_
          exact ⟨rfl, St.keep (As := []) S⟩
      ·
        refine WOps.off rfl (kbl (b := decide (48 ≤ a0)) rfl (decide_eq_false h13)) rfl rfl ?_
        refine WOps.off rfl (kbl (b := decide (48 ≤ a0)) rfl (decide_eq_false h13)) rfl rfl ?_
        refine WOps.on rfl rfl ?_
        refine WOps.p (G.pick_f (kb (b := decide (48 ≤ a0)) rfl (decide_eq_false h13)) rfl) rfl ?_
        refine WOps.p (G.pick_f rfl rfl) rfl ?_
        refine WOps.p (G.move rfl) rfl ?_
        refine WOps.on rfl rfl ?_
        refine WOps.p (G.move rfl) rfl ?_
        refine WOps.on rfl rfl ?_
        refine WOps.p (G.eql rfl rfl rfl) rfl ?_
        refine WOps.p (G.pick_f rfl rfl) rfl ?_
        refine WOps.p (G.assign rfl) rfl ?_
        refine WOps.nil ?_
        refine WEx.then_ ?_
        refine WCode.forget (l' := [(2, .bool (decide (a0 = 95)))]) ⟨rfl, trivial⟩ ?_
        refine WCode.ret ?_
        obtain rfl := some_eq hF
        refine WEx.ret1 rfl rfl ?_
        exact ⟨rfl, St.keep (As := []) S⟩

def law_Faults.j1 (q20 : Nat) (b17 : Bool) : Option Bool := (some b17)
def law_Faults.j2 (q47 : Nat) (b44 : Bool) : Option Bool := (some b44)
def law_Faults.j4 (q100 : Nat) (b97 : Bool) : Option Bool := (some b97)
def law_Faults.j5 (q110 : Nat) (a0 : List UInt8) (a1 : List UInt8) (t7 : (List Token) × Int × Int) (x107 : Int) : Option Bool := (Option.bind (cut a0 0 x107) fun m129 => (Option.bind (cat m129 ([32] : List UInt8)) fun m131 => (Option.bind (cat m131 a1) fun m133 => (Option.bind (lx_Scan q110 m133) fun t135 => (if 16000 < (m133.length : Int) then (some true) else (if t135.2.1 = t7.2.1 then (some (decide (t135.2.2 = t7.2.2))) else (some false)))))))
def law_Faults.l1 : Nat → List UInt8 → List UInt8 → (List Token) × Int × Int → Int → Option Bool
  | 0, _, _, _, _ => none
  | k115 + 1, a0, a1, t7, x112 => (if x112 < (a0.length : Int) then (if t7.2.1 = 30 then (law_Faults.j5 k115 a0 a1 t7 x112) else (Option.bind (idx a0 x112) fun c121 => (Option.bind (lw_within k115 ((c121).toNat : Int)) fun t123 => (if t123 = true then (law_Faults.l1 k115 a0 a1 t7 (w64 (x112 + 1))) else (law_Faults.j5 k115 a0 a1 t7 x112))))) else (law_Faults.j5 k115 a0 a1 t7 x112))
def law_Faults.j3 (q59 : Nat) (a0 : List UInt8) (a1 : List UInt8) (t7 : (List Token) × Int × Int) (b56 : Bool) : Option Bool := (if b56 = true then (some false) else (Option.bind (cut a0 0 t7.2.2) fun m69 => (Option.bind (lx_Scan q59 m69) fun t71 => (if t71.2.1 = 0 then (if t7.2.1 = 33 then (Option.bind (cut a0 0 t7.2.2) fun m82 => (Option.bind (cat m82 ([47, 42, 32] : List UInt8)) fun m84 => (Option.bind (cat m84 ([42, 47] : List UInt8)) fun m86 => (Option.bind (lx_Scan q59 m86) fun t88 => (if t88.2.1 = 0 then (if t88.2.2 = 0 then (law_Faults.j4 q59 true) else (law_Faults.j4 q59 (decide (16000 < (w64 (t7.2.2 + 5)))))) else (law_Faults.j4 q59 (decide (16000 < (w64 (t7.2.2 + 5)))))))))) else (law_Faults.l1 q59 a0 a1 t7 (w64 (t7.2.2 + 1)))) else (some false)))))
def law_Faults (k : Nat) (a0 : List UInt8) (a1 : List UInt8) : Option Bool := (if 2147467645 < (a1.length : Int) then (some true) else (Option.bind (lw_known k) fun t2 => (Option.bind (lx_Scan k a0) fun t7 => (if t7.2.1 = 0 then (if t2 = true then (if t7.2.2 = 0 then (if 0 < ((t7.1).length : Int) then (Option.bind (idx (t7.1) (w64 (((t7.1).length : Int) - 1))) fun x25 => (law_Faults.j1 k (decide (x25 = (⟨5, ([] : List UInt8), 0, (a0.length : Int)⟩ : Token))))) else (law_Faults.j1 k false)) else (law_Faults.j1 k false)) else (law_Faults.j1 k false)) else (if t7.2.1 = 34 then (if t2 = true then (if 16000 < (a0.length : Int) then (if t7.2.2 = 16000 then (law_Faults.j2 k (decide (((t7.1).length : Int) = 0))) else (law_Faults.j2 k false)) else (law_Faults.j2 k false)) else (law_Faults.j2 k false)) else (if t2 = true then (if ((t7.1).length : Int) = 0 then (if t7.2.2 < 0 then (law_Faults.j3 k a0 a1 t7 true) else (law_Faults.j3 k a0 a1 t7 (decide ((a0.length : Int) ≤ t7.2.2)))) else (law_Faults.j3 k a0 a1 t7 true)) else (law_Faults.j3 k a0 a1 t7 true)))))))
set_option maxRecDepth 100000 in
set_option maxHeartbeats 1000000 in
theorem law_Faults_calls (k : Nat) (a0 : List UInt8) (a1 : List UInt8) {FG : Nat → Prop} {w : World} (hGl : Glob FG w) (hFG : ∀ b, FG b → NK w [] b) {r_ : Bool} (h_ : law_Faults k a0 a1 = some r_) :
    Calls Tryd.prog 6 [.string (bs a0), .string (bs a1)].toArray w fun e w' => e = .returned (.bool r_) ∧ St w (KS []) w' [] := by
  have hF := h_
  clear h_
  unfold law_Faults at hF
  have S := St.ofFalse (As := []) (St.init0 w)
  refine enter 164 [(0, .string (bs a0)), (1, .string (bs a1))] Tryd.func6 rfl rfl rfl rfl ?_
  refine WCode.seq ?_
  refine WCode.region ?_
  refine WOps.p (G.assign rfl) rfl ?_
  refine WOps.nil ?_
  refine WEx.then_ ?_
  refine WCode.seq ?_
  refine WCode.seq ?_
  refine WCode.region ?_
  refine WOps.p (G.move rfl) rfl ?_
  refine WOps.p (G.lenb T.str9 rfl) rfl ?_
  refine WOps.p (G.gtr rfl rfl rfl) rfl ?_
  refine WOps.nil ?_
  refine WEx.then_ ?_
  rcases ite_some hF with ⟨h1, hF⟩ | ⟨h1, hF⟩
  ·
    refine WCode.cond_t (kb (b := decide (2147467645 < (a1.length : Int))) rfl (decide_eq_true h1)) ?_
    refine WCode.seq ?_
    refine WCode.region ?_
    refine WOps.p (G.assign rfl) rfl ?_
    refine WOps.nil ?_
    refine WEx.then_ ?_
    refine WCode.ret ?_
    refine WEx.then_ret ?_
    obtain rfl := some_eq hF
    refine WEx.ret1 rfl rfl ?_
    exact ⟨rfl, St.keep (As := []) S⟩
  ·
    refine WCode.cond_f (kb (b := decide (2147467645 < (a1.length : Int))) rfl (decide_eq_false h1)) ?_
    refine WCode.skip ?_
    refine WEx.then_ ?_
    refine WCode.seq ?_
    refine WCode.region ?_
    obtain ⟨t2, hc3, hF⟩ := bind_some hF
    refine WOps.call T.call7 evs_nil rfl ?_
    refine (lw_known_calls k (hGl.ext (S.keepF hFG)) (St.outF (Bs := []) S hFG) hc3).mono ?_
    rintro _ w4 ⟨rfl, T5⟩
    have S6 := St.callN (As := []) S T5
    change St _ _ _ [] at S6
    refine ⟨_, rfl, ?_⟩
    refine WOps.p (G.assign rfl) rfl ?_
    refine WOps.nil ?_
    refine WEx.then_ ?_
    refine WCode.seq ?_
    refine WCode.region ?_
    refine WOps.p (G.move rfl) rfl ?_
    obtain ⟨t7, hc8, hF⟩ := bind_some hF
    refine WOps.call T.call9 (evs_cons rfl evs_nil) rfl ?_
    refine (lx_Scan_calls k a0 (hGl.ext (S6.keepF hFG)) (St.outF (Bs := []) S6 hFG) hc8).mono ?_
    rintro _ w9 ⟨A12, c13, G14, rfl, hO15, T10⟩
    have S11 := St.callN (As := []) S6 T10
    change St _ _ _ [G14] at S11
    refine ⟨_, rfl, ?_⟩
    refine WOps.p (G.move rfl) rfl ?_
    refine WOps.p (G.extract rfl rfl) rfl ?_
    refine WOps.p (G.extract rfl rfl) rfl ?_
    refine WOps.p (G.extract rfl rfl) rfl ?_
    refine WOps.p (G.assign rfl) rfl ?_
    refine WOps.p (G.assign rfl) rfl ?_
    refine WOps.p (G.assign rfl) rfl ?_
    refine WOps.nil ?_
    refine WEx.then_ ?_
    refine WCode.forget (l' := [(0, .string (bs a0)), (1, .string (bs a1)), (5, .bool t2), (6, .slice A12 (t7.1).length c13), (7, .int .i64 t7.2.1), (8, .int .i64 t7.2.2)]) ⟨rfl, rfl, rfl, rfl, rfl, rfl, trivial⟩ ?_
    refine WCode.seq ?_
    refine WCode.seq ?_
    refine WCode.region ?_
    refine WOps.p (G.move rfl) rfl ?_
    refine WOps.p (G.eql rfl rfl rfl) rfl ?_
    refine WOps.nil ?_
    refine WEx.then_ ?_
    rcases ite_some hF with ⟨h16, hF⟩ | ⟨h16, hF⟩
    ·
      refine WCode.cond_t (kb (b := decide (t7.2.1 = 0)) rfl (decide_eq_true h16)) ?_
      refine WCode.cutseq (fun l_ w_ => ∃ q20 : Nat, ∃ b17 : Bool, l_ = [(4, .bool b17)] ∧ law_Faults.j1 q20 b17 = some r_ ∧ St w (KS []) w_ []) ?_ ?_
      ·
        refine WCode.region ?_
        refine WOps.p (G.move rfl) rfl ?_
        refine WOps.p (G.move rfl) rfl ?_
        rcases ite_some hF with ⟨h22, hF⟩ | ⟨h22, hF⟩
        ·
          refine WOps.on rfl (kbl (b := t2) rfl h22) ?_
          refine WOps.p (G.move rfl) rfl ?_
          refine WOps.on rfl (kbl (b := t2) rfl h22) ?_
          refine WOps.p (G.eql rfl rfl rfl) rfl ?_
          refine WOps.p (G.pick_t (kb (b := t2) rfl h22) rfl) rfl ?_
          refine WOps.p (G.move rfl) rfl ?_
          rcases ite_some hF with ⟨h23, hF⟩ | ⟨h23, hF⟩
          ·
            refine WOps.on rfl (kbl (b := decide (t7.2.2 = 0)) rfl (decide_eq_true h23)) ?_
            refine WOps.p (G.move rfl) rfl ?_
            refine WOps.on rfl (kbl (b := decide (t7.2.2 = 0)) rfl (decide_eq_true h23)) ?_
            refine WOps.p (G.len T.el25 rfl) rfl ?_
            refine WOps.on rfl (kbl (b := decide (t7.2.2 = 0)) rfl (decide_eq_true h23)) ?_
            refine WOps.p (G.gtr rfl rfl rfl) rfl ?_
            refine WOps.p (G.pick_t (kb (b := decide (t7.2.2 = 0)) rfl (decide_eq_true h23)) rfl) rfl ?_
            refine WOps.p (G.move rfl) rfl ?_
            rcases ite_some hF with ⟨h24, hF⟩ | ⟨h24, hF⟩
            ·
              refine WOps.on rfl (kbl (b := decide (0 < ((t7.1).length : Int))) rfl (decide_eq_true h24)) ?_
              refine WOps.p (G.move rfl) rfl ?_
              refine WOps.on rfl (kbl (b := decide (0 < ((t7.1).length : Int))) rfl (decide_eq_true h24)) ?_
              refine WOps.p (G.move rfl) rfl ?_
              refine WOps.on rfl (kbl (b := decide (0 < ((t7.1).length : Int))) rfl (decide_eq_true h24)) ?_
              refine WOps.p (G.len T.el25 rfl) rfl ?_
              refine WOps.on rfl (kbl (b := decide (0 < ((t7.1).length : Int))) rfl (decide_eq_true h24)) ?_
              refine WOps.p (G.sub rfl rfl (r := (w64 (((t7.1).length : Int) - 1))) rfl) rfl ?_
              refine WOps.on rfl (kbl (b := decide (0 < ((t7.1).length : Int))) rfl (decide_eq_true h24)) ?_
              obtain ⟨x25, hc26, hF⟩ := bind_some hF
              obtain ⟨j27, ej28, hj29, hl30⟩ := idx_spec hc26
              obtain ⟨b31, o32, cs33, eA34, hf35, hc36, hr37⟩ := SlR.at_ (hO15.rd (fun b o hb => S11.grp 0 rfl hb)) hj29
              have hq38 : cs33 = [.int .i64 x25.Kind, .string (bs x25.Text), .int .i64 x25.Number, .int .i64 x25.At] := hr37
              subst hq38
              change cellsAt _ _ (o32 + j27 * 4) [.int .i64 x25.Kind, .string (bs x25.Text), .int .i64 x25.Number, .int .i64 x25.At] at hc36
              refine WOps.p (G.idx T.el25 rfl eA34 rfl ej28 hl30) rfl ?_
              refine WOps.on rfl (kbl (b := decide (0 < ((t7.1).length : Int))) rfl (decide_eq_true h24)) ?_
              refine WOps.r (G.loada T.agg37_4 rfl (cs := [.int .i64 x25.Kind, .string (bs x25.Text), .int .i64 x25.Number, .int .i64 x25.At]) hc36) rfl ?_
              refine WOps.on rfl (kbl (b := decide (0 < ((t7.1).length : Int))) rfl (decide_eq_true h24)) ?_
              refine WOps.p (G.move rfl) rfl ?_
              refine WOps.on rfl (kbl (b := decide (0 < ((t7.1).length : Int))) rfl (decide_eq_true h24)) ?_
              refine WOps.p (G.lenb T.str9 rfl) rfl ?_
              refine WOps.on rfl (kbl (b := decide (0 < ((t7.1).length : Int))) rfl (decide_eq_true h24)) ?_
              refine WOps.p (G.build (cells := #[.int .i64 5, .string (bs ([] : List UInt8)), .int .i64 0, .int .i64 (a0.length : Int)]) (evp_spec (evp_cons rfl (evp_cons rfl evp_nil))) (by kernel_rfl)) rfl ?_
              refine WOps.on rfl (kbl (b := decide (0 < ((t7.1).length : Int))) rfl (decide_eq_true h24)) ?_
              refine WOps.p (G.eqa rfl rfl (by kernel_rfl) (Token.eqIn37 x25 (⟨5, ([] : List UInt8), 0, (a0.length : Int)⟩ : Token)) rfl) rfl ?_
              refine WOps.p (G.pick_t (kb (b := decide (0 < ((t7.1).length : Int))) rfl (decide_eq_true h24)) rfl) rfl ?_
              refine WOps.p (G.assign rfl) rfl ?_
              refine WOps.nil ?_
              have S39 := St.keep (As := []) S11
              refine WEx.cutend _ ?_ ⟨k, decide (x25 = (⟨5, ([] : List UInt8), 0, (a0.length : Int)⟩ : Token)), rfl, hF, S39⟩
              exact ⟨rfl, trivial⟩
            ·
              refine WOps.off rfl (kbl (b := decide (0 < ((t7.1).length : Int))) rfl (decide_eq_false h24)) rfl rfl ?_
              refine WOps.off rfl (kbl (b := decide (0 < ((t7.1).length : Int))) rfl (decide_eq_false h24)) rfl rfl ?_
              refine WOps.off rfl (kbl (b := decide (0 < ((t7.1).length : Int))) rfl (decide_eq_false h24)) rfl rfl ?_
              refine WOps.off rfl (kbl (b := decide (0 < ((t7.1).length : Int))) rfl (decide_eq_false h24)) rfl rfl ?_
              refine WOps.off rfl (kbl (b := decide (0 < ((t7.1).length : Int))) rfl (decide_eq_false h24)) rfl rfl ?_
              refine WOps.off rfl (kbl (b := decide (0 < ((t7.1).length : Int))) rfl (decide_eq_false h24)) rfl rfl ?_
              refine WOps.off rfl (kbl (b := decide (0 < ((t7.1).length : Int))) rfl (decide_eq_false h24)) rfl rfl ?_
              refine WOps.off rfl (kbl (b := decide (0 < ((t7.1).length : Int))) rfl (decide_eq_false h24)) rfl rfl ?_
              refine WOps.off rfl (kbl (b := decide (0 < ((t7.1).length : Int))) rfl (decide_eq_false h24)) rfl rfl ?_
              refine WOps.off rfl (kbl (b := decide (0 < ((t7.1).length : Int))) rfl (decide_eq_false h24)) rfl rfl ?_
              refine WOps.p (G.pick_f (kb (b := decide (0 < ((t7.1).length : Int))) rfl (decide_eq_false h24)) rfl) rfl ?_
              refine WOps.p (G.assign rfl) rfl ?_
              refine WOps.nil ?_
              have S40 := St.keep (As := []) S11
              refine WEx.cutend _ ?_ ⟨k, false, rfl, hF, S40⟩
              exact ⟨rfl, trivial⟩
          ·
            refine WOps.off rfl (kbl (b := decide (t7.2.2 = 0)) rfl (decide_eq_false h23)) rfl rfl ?_
            refine WOps.off rfl (kbl (b := decide (t7.2.2 = 0)) rfl (decide_eq_false h23)) rfl rfl ?_
            refine WOps.off rfl (kbl (b := decide (t7.2.2 = 0)) rfl (decide_eq_false h23)) rfl rfl ?_
            refine WOps.p (G.pick_f (kb (b := decide (t7.2.2 = 0)) rfl (decide_eq_false h23)) rfl) rfl ?_
            refine WOps.p (G.move rfl) rfl ?_
            refine WOps.off rfl rfl rfl rfl ?_
            refine WOps.off rfl rfl rfl rfl ?_
            refine WOps.off rfl rfl rfl rfl ?_
            refine WOps.off rfl rfl rfl rfl ?_
            refine WOps.off rfl rfl rfl rfl ?_
            refine WOps.off rfl rfl rfl rfl ?_
            refine WOps.off rfl rfl rfl rfl ?_
            refine WOps.off rfl rfl rfl rfl ?_
            refine WOps.off rfl rfl rfl rfl ?_
            refine WOps.off rfl rfl rfl rfl ?_
            refine WOps.p (G.pick_f rfl rfl) rfl ?_
            refine WOps.p (G.assign rfl) rfl ?_
            refine WOps.nil ?_
            have S41 := St.keep (As := []) S11
            refine WEx.cutend _ ?_ ⟨k, false, rfl, hF, S41⟩
            exact ⟨rfl, trivial⟩
        ·
          refine WOps.off rfl (kbl (b := t2) rfl (Bool.eq_false_iff.2 h22)) rfl rfl ?_
          refine WOps.off rfl (kbl (b := t2) rfl (Bool.eq_false_iff.2 h22)) rfl rfl ?_
          refine WOps.p (G.pick_f (kb (b := t2) rfl (Bool.eq_false_iff.2 h22)) rfl) rfl ?_
          refine WOps.p (G.move rfl) rfl ?_
          refine WOps.off rfl rfl rfl rfl ?_
          refine WOps.off rfl rfl rfl rfl ?_
          refine WOps.off rfl rfl rfl rfl ?_
          refine WOps.p (G.pick_f rfl rfl) rfl ?_
          refine WOps.p (G.move rfl) rfl ?_
          refine WOps.off rfl rfl rfl rfl ?_
          refine WOps.off rfl rfl rfl rfl ?_
          refine WOps.off rfl rfl rfl rfl ?_
          refine WOps.off rfl rfl rfl rfl ?_
          refine WOps.off rfl rfl rfl rfl ?_
          refine WOps.off rfl rfl rfl rfl ?_
          refine WOps.off rfl rfl rfl rfl ?_
          refine WOps.off rfl rfl rfl rfl ?_
          refine WOps.off rfl rfl rfl rfl ?_
          refine WOps.off rfl rfl rfl rfl ?_
          refine WOps.p (G.pick_f rfl rfl) rfl ?_
          refine WOps.p (G.assign rfl) rfl ?_
          refine WOps.nil ?_
          have S42 := St.keep (As := []) S11
          refine WEx.cutend _ ?_ ⟨k, false, rfl, hF, S42⟩
          exact ⟨rfl, trivial⟩
      ·
        rintro _ w18 ⟨q20, b17, rfl, hF, S19⟩
        unfold law_Faults.j1 at hF
        refine WCode.ret ?_
        refine WEx.then_ret ?_
        obtain rfl := some_eq hF
        refine WEx.ret1 rfl rfl ?_
        exact ⟨rfl, St.keep (As := []) S19⟩
    ·
      refine WCode.cond_f (kb (b := decide (t7.2.1 = 0)) rfl (decide_eq_false h16)) ?_
      refine WCode.skip ?_
      refine WEx.then_ ?_
      refine WCode.seq ?_
      refine WCode.seq ?_
      refine WCode.region ?_
      refine WOps.p (G.move rfl) rfl ?_
      refine WOps.p (G.eql rfl rfl rfl) rfl ?_
      refine WOps.nil ?_
      refine WEx.then_ ?_
      rcases ite_some hF with ⟨h43, hF⟩ | ⟨h43, hF⟩
      ·
        refine WCode.cond_t (kb (b := decide (t7.2.1 = 34)) rfl (decide_eq_true h43)) ?_
        refine WCode.cutseq (fun l_ w_ => ∃ q47 : Nat, ∃ b44 : Bool, l_ = [(4, .bool b44)] ∧ law_Faults.j2 q47 b44 = some r_ ∧ St w (KS []) w_ []) ?_ ?_
        ·
          refine WCode.region ?_
          refine WOps.p (G.move rfl) rfl ?_
          refine WOps.p (G.move rfl) rfl ?_
          rcases ite_some hF with ⟨h49, hF⟩ | ⟨h49, hF⟩
          ·
            refine WOps.on rfl (kbl (b := t2) rfl h49) ?_
            refine WOps.p (G.move rfl) rfl ?_
            refine WOps.on rfl (kbl (b := t2) rfl h49) ?_
            refine WOps.p (G.lenb T.str9 rfl) rfl ?_
            refine WOps.on rfl (kbl (b := t2) rfl h49) ?_
            refine WOps.p (G.gtr rfl rfl rfl) rfl ?_
            refine WOps.p (G.pick_t (kb (b := t2) rfl h49) rfl) rfl ?_
            refine WOps.p (G.move rfl) rfl ?_
            rcases ite_some hF with ⟨h50, hF⟩ | ⟨h50, hF⟩
            ·
              refine WOps.on rfl (kbl (b := decide (16000 < (a0.length : Int))) rfl (decide_eq_true h50)) ?_
              refine WOps.p (G.move rfl) rfl ?_
              refine WOps.on rfl (kbl (b := decide (16000 < (a0.length : Int))) rfl (decide_eq_true h50)) ?_
              refine WOps.p (G.eql rfl rfl rfl) rfl ?_
              refine WOps.p (G.pick_t (kb (b := decide (16000 < (a0.length : Int))) rfl (decide_eq_true h50)) rfl) rfl ?_
              refine WOps.p (G.move rfl) rfl ?_
              rcases ite_some hF with ⟨h51, hF⟩ | ⟨h51, hF⟩
              ·
                refine WOps.on rfl (kbl (b := decide (t7.2.2 = 16000)) rfl (decide_eq_true h51)) ?_
                refine WOps.p (G.move rfl) rfl ?_
                refine WOps.on rfl (kbl (b := decide (t7.2.2 = 16000)) rfl (decide_eq_true h51)) ?_
                refine WOps.p (G.len T.el25 rfl) rfl ?_
                refine WOps.on rfl (kbl (b := decide (t7.2.2 = 16000)) rfl (decide_eq_true h51)) ?_
                refine WOps.p (G.eql rfl rfl rfl) rfl ?_
                refine WOps.p (G.pick_t (kb (b := decide (t7.2.2 = 16000)) rfl (decide_eq_true h51)) rfl) rfl ?_
                refine WOps.p (G.assign rfl) rfl ?_
                refine WOps.nil ?_
                have S52 := St.keep (As := []) S11
                refine WEx.cutend _ ?_ ⟨k, decide (((t7.1).length : Int) = 0), rfl, hF, S52⟩
                exact ⟨rfl, trivial⟩
              ·
                refine WOps.off rfl (kbl (b := decide (t7.2.2 = 16000)) rfl (decide_eq_false h51)) rfl rfl ?_
                refine WOps.off rfl (kbl (b := decide (t7.2.2 = 16000)) rfl (decide_eq_false h51)) rfl rfl ?_
                refine WOps.off rfl (kbl (b := decide (t7.2.2 = 16000)) rfl (decide_eq_false h51)) rfl rfl ?_
                refine WOps.p (G.pick_f (kb (b := decide (t7.2.2 = 16000)) rfl (decide_eq_false h51)) rfl) rfl ?_
                refine WOps.p (G.assign rfl) rfl ?_
                refine WOps.nil ?_
                have S53 := St.keep (As := []) S11
                refine WEx.cutend _ ?_ ⟨k, false, rfl, hF, S53⟩
                exact ⟨rfl, trivial⟩
            ·
              refine WOps.off rfl (kbl (b := decide (16000 < (a0.length : Int))) rfl (decide_eq_false h50)) rfl rfl ?_
              refine WOps.off rfl (kbl (b := decide (16000 < (a0.length : Int))) rfl (decide_eq_false h50)) rfl rfl ?_
              refine WOps.p (G.pick_f (kb (b := decide (16000 < (a0.length : Int))) rfl (decide_eq_false h50)) rfl) rfl ?_
              refine WOps.p (G.move rfl) rfl ?_
              refine WOps.off rfl rfl rfl rfl ?_
              refine WOps.off rfl rfl rfl rfl ?_
              refine WOps.off rfl rfl rfl rfl ?_
              refine WOps.p (G.pick_f rfl rfl) rfl ?_
              refine WOps.p (G.assign rfl) rfl ?_
              refine WOps.nil ?_
              have S54 := St.keep (As := []) S11
              refine WEx.cutend _ ?_ ⟨k, false, rfl, hF, S54⟩
              exact ⟨rfl, trivial⟩
          ·
            refine WOps.off rfl (kbl (b := t2) rfl (Bool.eq_false_iff.2 h49)) rfl rfl ?_
            refine WOps.off rfl (kbl (b := t2) rfl (Bool.eq_false_iff.2 h49)) rfl rfl ?_
            refine WOps.off rfl (kbl (b := t2) rfl (Bool.eq_false_iff.2 h49)) rfl rfl ?_
            refine WOps.p (G.pick_f (kb (b := t2) rfl (Bool.eq_false_iff.2 h49)) rfl) rfl ?_
            refine WOps.p (G.move rfl) rfl ?_
            refine WOps.off rfl rfl rfl rfl ?_
            refine WOps.off rfl rfl rfl rfl ?_
            refine WOps.p (G.pick_f rfl rfl) rfl ?_
            refine WOps.p (G.move rfl) rfl ?_
            refine WOps.off rfl rfl rfl rfl ?_
            refine WOps.off rfl rfl rfl rfl ?_
            refine WOps.off rfl rfl rfl rfl ?_
            refine WOps.p (G.pick_f rfl rfl) rfl ?_
            refine WOps.p (G.assign rfl) rfl ?_
            refine WOps.nil ?_
            have S55 := St.keep (As := []) S11
            refine WEx.cutend _ ?_ ⟨k, false, rfl, hF, S55⟩
            exact ⟨rfl, trivial⟩
        ·
          rintro _ w45 ⟨q47, b44, rfl, hF, S46⟩
          unfold law_Faults.j2 at hF
          refine WCode.ret ?_
          refine WEx.then_ret ?_
          obtain rfl := some_eq hF
          refine WEx.ret1 rfl rfl ?_
          exact ⟨rfl, St.keep (As := []) S46⟩
      ·
        refine WCode.cond_f (kb (b := decide (t7.2.1 = 34)) rfl (decide_eq_false h43)) ?_
        refine WCode.skip ?_
        refine WEx.then_ ?_
        refine WCode.seq ?_
        refine WCode.cutseq (fun l_ w_ => ∃ q59 : Nat, ∃ b56 : Bool, l_ = [(0, .string (bs a0)), (1, .string (bs a1)), (7, .int .i64 t7.2.1), (8, .int .i64 t7.2.2), (87, .bool b56)] ∧ law_Faults.j3 q59 a0 a1 t7 b56 = some r_ ∧ St w (KS []) w_ []) ?_ ?_
        ·
          refine WCode.region ?_
          refine WOps.p (G.move rfl) rfl ?_
          refine WOps.p (G.not rfl rfl) rfl ?_
          refine WOps.p (G.move rfl) rfl ?_
          rcases ite_some hF with ⟨h61, hF⟩ | ⟨h61, hF⟩
          ·
            refine WOps.on rfl (kbl (b := !t2) rfl (show (!t2) = false from by rw [h61]; rfl)) ?_
            refine WOps.p (G.move rfl) rfl ?_
            refine WOps.on rfl (kbl (b := !t2) rfl (show (!t2) = false from by rw [h61]; rfl)) ?_
            refine WOps.p (G.len T.el25 rfl) rfl ?_
            refine WOps.on rfl (kbl (b := !t2) rfl (show (!t2) = false from by rw [h61]; rfl)) ?_
            refine WOps.p (G.neq rfl rfl rfl) rfl ?_
            refine WOps.p (G.pick_f (kb (b := !t2) rfl (show (!t2) = false from by rw [h61]; rfl)) rfl) rfl ?_
            refine WOps.p (G.move rfl) rfl ?_
            rcases ite_some hF with ⟨h62, hF⟩ | ⟨h62, hF⟩
            ·
              refine WOps.on rfl (kbl (b := !(decide (((t7.1).length : Int) = 0))) rfl (show (!(decide (((t7.1).length : Int) = 0))) = false from by rw [(decide_eq_true h62)]; rfl)) ?_
              refine WOps.p (G.move rfl) rfl ?_
              refine WOps.on rfl (kbl (b := !(decide (((t7.1).length : Int) = 0))) rfl (show (!(decide (((t7.1).length : Int) = 0))) = false from by rw [(decide_eq_true h62)]; rfl)) ?_
              refine WOps.p (G.lss rfl rfl rfl) rfl ?_
              refine WOps.p (G.pick_f (kb (b := !(decide (((t7.1).length : Int) = 0))) rfl (show (!(decide (((t7.1).length : Int) = 0))) = false from by rw [(decide_eq_true h62)]; rfl)) rfl) rfl ?_
              refine WOps.p (G.move rfl) rfl ?_
              rcases ite_some hF with ⟨h63, hF⟩ | ⟨h63, hF⟩
              ·
                refine WOps.off rfl (kbl (b := decide (t7.2.2 < 0)) rfl (decide_eq_true h63)) rfl rfl ?_
                refine WOps.off rfl (kbl (b := decide (t7.2.2 < 0)) rfl (decide_eq_true h63)) rfl rfl ?_
                refine WOps.off rfl (kbl (b := decide (t7.2.2 < 0)) rfl (decide_eq_true h63)) rfl rfl ?_
                refine WOps.off rfl (kbl (b := decide (t7.2.2 < 0)) rfl (decide_eq_true h63)) rfl rfl ?_
                refine WOps.p (G.pick_t (kb (b := decide (t7.2.2 < 0)) rfl (decide_eq_true h63)) rfl) rfl ?_
                refine WOps.nil ?_
                have S64 := St.keep (As := []) S11
                refine WEx.cutend _ ?_ ⟨k, true, rfl, hF, S64⟩
                exact ⟨rfl, rfl, rfl, rfl, rfl, trivial⟩
              ·
                refine WOps.on rfl (kbl (b := decide (t7.2.2 < 0)) rfl (decide_eq_false h63)) ?_
                refine WOps.p (G.move rfl) rfl ?_
                refine WOps.on rfl (kbl (b := decide (t7.2.2 < 0)) rfl (decide_eq_false h63)) ?_
                refine WOps.p (G.move rfl) rfl ?_
                refine WOps.on rfl (kbl (b := decide (t7.2.2 < 0)) rfl (decide_eq_false h63)) ?_
                refine WOps.p (G.lenb T.str9 rfl) rfl ?_
                refine WOps.on rfl (kbl (b := decide (t7.2.2 < 0)) rfl (decide_eq_false h63)) ?_
                refine WOps.p (G.geq rfl rfl rfl) rfl ?_
                refine WOps.p (G.pick_f (kb (b := decide (t7.2.2 < 0)) rfl (decide_eq_false h63)) rfl) rfl ?_
                refine WOps.nil ?_
                have S65 := St.keep (As := []) S11
                refine WEx.cutend _ ?_ ⟨k, decide ((a0.length : Int) ≤ t7.2.2), rfl, hF, S65⟩
                exact ⟨rfl, rfl, rfl, rfl, rfl, trivial⟩
            ·
              refine WOps.off rfl (kbl (b := !(decide (((t7.1).length : Int) = 0))) rfl (show (!(decide (((t7.1).length : Int) = 0))) = true from by rw [(decide_eq_false h62)]; rfl)) rfl rfl ?_
              refine WOps.off rfl (kbl (b := !(decide (((t7.1).length : Int) = 0))) rfl (show (!(decide (((t7.1).length : Int) = 0))) = true from by rw [(decide_eq_false h62)]; rfl)) rfl rfl ?_
              refine WOps.p (G.pick_t (kb (b := !(decide (((t7.1).length : Int) = 0))) rfl (show (!(decide (((t7.1).length : Int) = 0))) = true from by rw [(decide_eq_false h62)]; rfl)) rfl) rfl ?_
              refine WOps.p (G.move rfl) rfl ?_
              refine WOps.off rfl rfl rfl rfl ?_
              refine WOps.off rfl rfl rfl rfl ?_
              refine WOps.off rfl rfl rfl rfl ?_
              refine WOps.off rfl rfl rfl rfl ?_
              refine WOps.p (G.pick_t rfl rfl) rfl ?_
              refine WOps.nil ?_
              have S66 := St.keep (As := []) S11
              refine WEx.cutend _ ?_ ⟨k, true, rfl, hF, S66⟩
              exact ⟨rfl, rfl, rfl, rfl, rfl, trivial⟩
          ·
            refine WOps.off rfl (kbl (b := !t2) rfl (show (!t2) = true from by rw [(Bool.eq_false_iff.2 h61)]; rfl)) rfl rfl ?_
            refine WOps.off rfl (kbl (b := !t2) rfl (show (!t2) = true from by rw [(Bool.eq_false_iff.2 h61)]; rfl)) rfl rfl ?_
            refine WOps.off rfl (kbl (b := !t2) rfl (show (!t2) = true from by rw [(Bool.eq_false_iff.2 h61)]; rfl)) rfl rfl ?_
            refine WOps.p (G.pick_t (kb (b := !t2) rfl (show (!t2) = true from by rw [(Bool.eq_false_iff.2 h61)]; rfl)) rfl) rfl ?_
            refine WOps.p (G.move rfl) rfl ?_
            refine WOps.off rfl rfl rfl rfl ?_
            refine WOps.off rfl rfl rfl rfl ?_
            refine WOps.p (G.pick_t rfl rfl) rfl ?_
            refine WOps.p (G.move rfl) rfl ?_
            refine WOps.off rfl rfl rfl rfl ?_
            refine WOps.off rfl rfl rfl rfl ?_
            refine WOps.off rfl rfl rfl rfl ?_
            refine WOps.off rfl rfl rfl rfl ?_
            refine WOps.p (G.pick_t rfl rfl) rfl ?_
            refine WOps.nil ?_
            have S67 := St.keep (As := []) S11
            refine WEx.cutend _ ?_ ⟨k, true, rfl, hF, S67⟩
            exact ⟨rfl, rfl, rfl, rfl, rfl, trivial⟩
        ·
          rintro _ w57 ⟨q59, b56, rfl, hF, S58⟩
          unfold law_Faults.j3 at hF
          rcases ite_some hF with ⟨h68, hF⟩ | ⟨h68, hF⟩
          ·
            refine WCode.cond_t (kb (b := b56) rfl h68) ?_
            refine WCode.seq ?_
            refine WCode.region ?_
            refine WOps.p (G.assign rfl) rfl ?_
            refine WOps.nil ?_
            refine WEx.then_ ?_
            refine WCode.ret ?_
            refine WEx.then_ret ?_
            obtain rfl := some_eq hF
            refine WEx.ret1 rfl rfl ?_
            exact ⟨rfl, St.keep (As := []) S58⟩
          ·
            refine WCode.cond_f (kb (b := b56) rfl (Bool.eq_false_iff.2 h68)) ?_
            refine WCode.skip ?_
            refine WEx.then_ ?_
            refine WCode.seq ?_
            refine WCode.region ?_
            refine WOps.p (G.move rfl) rfl ?_
            refine WOps.p (G.move rfl) rfl ?_
            obtain ⟨m69, hc70, hF⟩ := bind_some hF
            refine WOps.p (G.cutb_h T.str9 rfl rfl hc70) rfl ?_
            obtain ⟨t71, hc72, hF⟩ := bind_some hF
            refine WOps.call T.call9 (evs_cons rfl evs_nil) rfl ?_
            refine (lx_Scan_calls q59 m69 (hGl.ext (S58.keepF hFG)) (St.outF (Bs := []) S58 hFG) hc72).mono ?_
            rintro _ w73 ⟨A76, c77, G78, rfl, hO79, T74⟩
            have S75 := St.callN (As := []) S58 T74
            change St _ _ _ [G78] at S75
            refine ⟨_, rfl, ?_⟩
            refine WOps.p (G.move rfl) rfl ?_
            refine WOps.p (G.extract rfl rfl) rfl ?_
            refine WOps.p (G.extract rfl rfl) rfl ?_
            refine WOps.p (G.extract rfl rfl) rfl ?_
            refine WOps.p (G.assign rfl) rfl ?_
            refine WOps.p (G.assign rfl) rfl ?_
            refine WOps.p (G.assign rfl) rfl ?_
            refine WOps.nil ?_
            refine WEx.then_ ?_
            refine WCode.forget (l' := [(0, .string (bs a0)), (1, .string (bs a1)), (7, .int .i64 t7.2.1), (8, .int .i64 t7.2.2), (10, .int .i64 t71.2.1)]) ⟨rfl, rfl, rfl, rfl, rfl, trivial⟩ ?_
            refine WCode.seq ?_
            refine WCode.seq ?_
            refine WCode.region ?_
            refine WOps.p (G.move rfl) rfl ?_
            refine WOps.p (G.neq rfl rfl rfl) rfl ?_
            refine WOps.nil ?_
            refine WEx.then_ ?_
            rcases ite_some hF with ⟨h80, hF⟩ | ⟨h80, hF⟩
            ·
              refine WCode.cond_f (kb (b := !(decide (t71.2.1 = 0))) rfl (show (!(decide (t71.2.1 = 0))) = false from by rw [(decide_eq_true h80)]; rfl)) ?_
              refine WCode.skip ?_
              refine WEx.then_ ?_
              refine WCode.seq ?_
              refine WCode.seq ?_
              refine WCode.region ?_
              refine WOps.p (G.move rfl) rfl ?_
              refine WOps.p (G.eql rfl rfl rfl) rfl ?_
              refine WOps.nil ?_
              refine WEx.then_ ?_
              rcases ite_some hF with ⟨h81, hF⟩ | ⟨h81, hF⟩
              ·
                refine WCode.cond_t (kb (b := decide (t7.2.1 = 33)) rfl (decide_eq_true h81)) ?_
                refine WCode.seq ?_
                refine WCode.region ?_
                refine WOps.p (G.move rfl) rfl ?_
                refine WOps.p (G.move rfl) rfl ?_
                obtain ⟨m82, hc83, hF⟩ := bind_some hF
                refine WOps.p (G.cutb_h T.str9 rfl rfl hc83) rfl ?_
                obtain ⟨m84, hc85, hF⟩ := bind_some hF
                refine WOps.p (G.catb rfl rfl hc85) rfl ?_
                obtain ⟨m86, hc87, hF⟩ := bind_some hF
                refine WOps.p (G.catb rfl rfl hc87) rfl ?_
                obtain ⟨t88, hc89, hF⟩ := bind_some hF
                refine WOps.call T.call9 (evs_cons rfl evs_nil) rfl ?_
                refine (lx_Scan_calls q59 m86 (hGl.ext (S75.keepF hFG)) (St.outF (Bs := []) S75 hFG) hc89).mono ?_
                rintro _ w90 ⟨A93, c94, G95, rfl, hO96, T91⟩
                have S92 := St.callN (As := []) S75 T91
                change St _ _ _ [G95, G78] at S92
                refine ⟨_, rfl, ?_⟩
                refine WOps.p (G.move rfl) rfl ?_
                refine WOps.p (G.extract rfl rfl) rfl ?_
                refine WOps.p (G.extract rfl rfl) rfl ?_
                refine WOps.p (G.extract rfl rfl) rfl ?_
                refine WOps.p (G.assign rfl) rfl ?_
                refine WOps.p (G.assign rfl) rfl ?_
                refine WOps.p (G.assign rfl) rfl ?_
                refine WOps.nil ?_
                refine WEx.then_ ?_
                refine WCode.forget (l' := [(8, .int .i64 t7.2.2), (13, .int .i64 t88.2.1), (14, .int .i64 t88.2.2)]) ⟨rfl, rfl, rfl, trivial⟩ ?_
                refine WCode.cutseq (fun l_ w_ => ∃ q100 : Nat, ∃ b97 : Bool, l_ = [(4, .bool b97)] ∧ law_Faults.j4 q100 b97 = some r_ ∧ St w (KS []) w_ []) ?_ ?_
                ·
                  refine WCode.region ?_
                  refine WOps.p (G.move rfl) rfl ?_
                  refine WOps.p (G.eql rfl rfl rfl) rfl ?_
                  refine WOps.p (G.move rfl) rfl ?_
                  rcases ite_some hF with ⟨h102, hF⟩ | ⟨h102, hF⟩
                  ·
                    refine WOps.on rfl (kbl (b := decide (t88.2.1 = 0)) rfl (decide_eq_true h102)) ?_
                    refine WOps.p (G.move rfl) rfl ?_
                    refine WOps.on rfl (kbl (b := decide (t88.2.1 = 0)) rfl (decide_eq_true h102)) ?_
                    refine WOps.p (G.eql rfl rfl rfl) rfl ?_
                    refine WOps.p (G.pick_t (kb (b := decide (t88.2.1 = 0)) rfl (decide_eq_true h102)) rfl) rfl ?_
                    refine WOps.p (G.move rfl) rfl ?_
                    rcases ite_some hF with ⟨h103, hF⟩ | ⟨h103, hF⟩
                    ·
                      refine WOps.off rfl (kbl (b := decide (t88.2.2 = 0)) rfl (decide_eq_true h103)) rfl rfl ?_
                      refine WOps.off rfl (kbl (b := decide (t88.2.2 = 0)) rfl (decide_eq_true h103)) rfl rfl ?_
                      refine WOps.off rfl (kbl (b := decide (t88.2.2 = 0)) rfl (decide_eq_true h103)) rfl rfl ?_
                      refine WOps.p (G.pick_t (kb (b := decide (t88.2.2 = 0)) rfl (decide_eq_true h103)) rfl) rfl ?_
                      refine WOps.p (G.assign rfl) rfl ?_
                      refine WOps.nil ?_
                      have S104 := St.keep (As := []) S92
                      refine WEx.cutend _ ?_ ⟨q59, true, rfl, hF, S104⟩
                      exact ⟨rfl, trivial⟩
                    ·
                      refine WOps.on rfl (kbl (b := decide (t88.2.2 = 0)) rfl (decide_eq_false h103)) ?_
                      refine WOps.p (G.move rfl) rfl ?_
                      refine WOps.on rfl (kbl (b := decide (t88.2.2 = 0)) rfl (decide_eq_false h103)) ?_
                      refine WOps.p (G.add rfl rfl (r := (w64 (t7.2.2 + 5))) rfl) rfl ?_
                      refine WOps.on rfl (kbl (b := decide (t88.2.2 = 0)) rfl (decide_eq_false h103)) ?_
                      refine WOps.p (G.gtr rfl rfl rfl) rfl ?_
                      refine WOps.p (G.pick_f (kb (b := decide (t88.2.2 = 0)) rfl (decide_eq_false h103)) rfl) rfl ?_
                      refine WOps.p (G.assign rfl) rfl ?_
                      refine WOps.nil ?_
                      have S105 := St.keep (As := []) S92
                      refine WEx.cutend _ ?_ ⟨q59, decide (16000 < (w64 (t7.2.2 + 5))), rfl, hF, S105⟩
                      exact ⟨rfl, trivial⟩
                  ·
                    refine WOps.off rfl (kbl (b := decide (t88.2.1 = 0)) rfl (decide_eq_false h102)) rfl rfl ?_
                    refine WOps.off rfl (kbl (b := decide (t88.2.1 = 0)) rfl (decide_eq_false h102)) rfl rfl ?_
                    refine WOps.p (G.pick_f (kb (b := decide (t88.2.1 = 0)) rfl (decide_eq_false h102)) rfl) rfl ?_
                    refine WOps.p (G.move rfl) rfl ?_
                    refine WOps.on rfl rfl ?_
                    refine WOps.p (G.move rfl) rfl ?_
                    refine WOps.on rfl rfl ?_
                    refine WOps.p (G.add rfl rfl (r := (w64 (t7.2.2 + 5))) rfl) rfl ?_
                    refine WOps.on rfl rfl ?_
                    refine WOps.p (G.gtr rfl rfl rfl) rfl ?_
                    refine WOps.p (G.pick_f rfl rfl) rfl ?_
                    refine WOps.p (G.assign rfl) rfl ?_
                    refine WOps.nil ?_
                    have S106 := St.keep (As := []) S92
                    refine WEx.cutend _ ?_ ⟨q59, decide (16000 < (w64 (t7.2.2 + 5))), rfl, hF, S106⟩
                    exact ⟨rfl, trivial⟩
                ·
                  rintro _ w98 ⟨q100, b97, rfl, hF, S99⟩
                  unfold law_Faults.j4 at hF
                  refine WCode.ret ?_
                  refine WEx.then_ret ?_
                  obtain rfl := some_eq hF
                  refine WEx.ret1 rfl rfl ?_
                  exact ⟨rfl, St.keep (As := []) S99⟩
              ·
                refine WCode.cond_f (kb (b := decide (t7.2.1 = 33)) rfl (decide_eq_false h81)) ?_
                refine WCode.skip ?_
                refine WEx.then_ ?_
                refine WCode.seq ?_
                refine WCode.region ?_
                refine WOps.p (G.move rfl) rfl ?_
                refine WOps.p (G.add rfl rfl (r := (w64 (t7.2.2 + 1))) rfl) rfl ?_
                refine WOps.p (G.assign rfl) rfl ?_
                refine WOps.nil ?_
                refine WEx.then_ ?_
                refine WCode.cutseq (fun l_ w_ => ∃ q110 : Nat, ∃ x107 : Int, l_ = [(0, .string (bs a0)), (1, .string (bs a1)), (7, .int .i64 t7.2.1), (8, .int .i64 t7.2.2), (15, .int .i64 x107)] ∧ law_Faults.j5 q110 a0 a1 t7 x107 = some r_ ∧ St w (KS []) w_ []) ?_ ?_
                ·
                  refine WCode.block ?_
                  have S117 := St.keep (As := []) S75
                  refine WCode.forget (l' := [(0, .string (bs a0)), (1, .string (bs a1)), (7, .int .i64 t7.2.1), (8, .int .i64 t7.2.2), (15, .int .i64 (w64 (t7.2.2 + 1)))]) ⟨rfl, rfl, rfl, rfl, rfl, trivial⟩ ?_
                  refine WCode.loop (fun n_ l_ w_ => ∃ x112 : Int, l_ = [(0, .string (bs a0)), (1, .string (bs a1)), (7, .int .i64 t7.2.1), (8, .int .i64 t7.2.2), (15, .int .i64 x112)] ∧ law_Faults.l1 n_ a0 a1 t7 x112 = some r_ ∧ St w (KS []) w_ []) q59 ⟨w64 (t7.2.2 + 1), rfl, hF, S117⟩ ?_
                  rintro n116 _ w113 ⟨x112, rfl, hF, S114⟩
                  obtain _ | k115 := n116
                  · exact nomatch (show (none : Option Bool) = some r_ from hF)
                  rw [law_Faults.l1] at hF
                  refine WCode.seq ?_
                  refine WCode.seq ?_
                  refine WCode.region ?_
                  refine WOps.p (G.move rfl) rfl ?_
                  refine WOps.p (G.move rfl) rfl ?_
                  refine WOps.p (G.lenb T.str9 rfl) rfl ?_
                  refine WOps.p (G.lss rfl rfl rfl) rfl ?_
                  refine WOps.p (G.move rfl) rfl ?_
                  rcases ite_some hF with ⟨h119, hF⟩ | ⟨h119, hF⟩
                  ·
                    refine WOps.on rfl (kbl (b := decide (x112 < (a0.length : Int))) rfl (decide_eq_true h119)) ?_
                    refine WOps.p (G.move rfl) rfl ?_
                    refine WOps.on rfl (kbl (b := decide (x112 < (a0.length : Int))) rfl (decide_eq_true h119)) ?_
                    refine WOps.p (G.neq rfl rfl rfl) rfl ?_
                    refine WOps.p (G.pick_t (kb (b := decide (x112 < (a0.length : Int))) rfl (decide_eq_true h119)) rfl) rfl ?_
                    refine WOps.p (G.move rfl) rfl ?_
                    rcases ite_some hF with ⟨h120, hF⟩ | ⟨h120, hF⟩
                    ·
                      refine WOps.off rfl (kbl (b := !(decide (t7.2.1 = 30))) rfl (show (!(decide (t7.2.1 = 30))) = false from by rw [(decide_eq_true h120)]; rfl)) rfl rfl ?_
                      refine WOps.off rfl (kbl (b := !(decide (t7.2.1 = 30))) rfl (show (!(decide (t7.2.1 = 30))) = false from by rw [(decide_eq_true h120)]; rfl)) rfl rfl ?_
                      refine WOps.off rfl (kbl (b := !(decide (t7.2.1 = 30))) rfl (show (!(decide (t7.2.1 = 30))) = false from by rw [(decide_eq_true h120)]; rfl)) rfl rfl ?_
                      refine WOps.off rfl (kbl (b := !(decide (t7.2.1 = 30))) rfl (show (!(decide (t7.2.1 = 30))) = false from by rw [(decide_eq_true h120)]; rfl)) rfl rfl ?_
                      refine WOps.p (G.pick_f (kb (b := !(decide (t7.2.1 = 30))) rfl (show (!(decide (t7.2.1 = 30))) = false from by rw [(decide_eq_true h120)]; rfl)) rfl) rfl ?_
                      refine WOps.nil ?_
                      refine WEx.then_ ?_
                      refine WCode.cond_f rfl ?_
                      refine WCode.exit ?_
                      refine WEx.then_exit ?_
                      refine WEx.then_exit ?_
                      refine WEx.in_exit ?_
                      refine WEx.cutend _ ?_ ⟨k115, x112, rfl, hF, S114⟩
                      exact ⟨rfl, rfl, rfl, rfl, rfl, trivial⟩
                    ·
                      refine WOps.on rfl (kbl (b := !(decide (t7.2.1 = 30))) rfl (show (!(decide (t7.2.1 = 30))) = true from by rw [(decide_eq_false h120)]; rfl)) ?_
                      refine WOps.p (G.move rfl) rfl ?_
                      refine WOps.on rfl (kbl (b := !(decide (t7.2.1 = 30))) rfl (show (!(decide (t7.2.1 = 30))) = true from by rw [(decide_eq_false h120)]; rfl)) ?_
                      refine WOps.p (G.move rfl) rfl ?_
                      refine WOps.on rfl (kbl (b := !(decide (t7.2.1 = 30))) rfl (show (!(decide (t7.2.1 = 30))) = true from by rw [(decide_eq_false h120)]; rfl)) ?_
                      obtain ⟨c121, hc122, hF⟩ := bind_some hF
                      refine WOps.p (G.idxb T.str9 rfl rfl hc122) rfl ?_
                      refine WOps.on rfl (kbl (b := !(decide (t7.2.1 = 30))) rfl (show (!(decide (t7.2.1 = 30))) = true from by rw [(decide_eq_false h120)]; rfl)) ?_
                      obtain ⟨t123, hc124, hF⟩ := bind_some hF
                      refine WOps.call T.call19 (evs_cons rfl evs_nil) rfl ?_
                      refine (lw_within_calls k115 ((c121).toNat : Int) hc124).mono ?_
                      rintro _ w125 ⟨rfl, T126⟩
                      have S127 := St.callN (As := []) S114 T126
                      change St _ _ _ [] at S127
                      refine ⟨_, rfl, ?_⟩
                      refine WOps.p (G.pick_t (kb (b := !(decide (t7.2.1 = 30))) rfl (show (!(decide (t7.2.1 = 30))) = true from by rw [(decide_eq_false h120)]; rfl)) rfl) rfl ?_
                      refine WOps.nil ?_
                      refine WEx.then_ ?_
                      rcases ite_some hF with ⟨h128, hF⟩ | ⟨h128, hF⟩
                      ·
                        refine WCode.cond_t (kb (b := t123) rfl h128) ?_
                        refine WCode.skip ?_
                        refine WEx.then_ ?_
                        refine WCode.block ?_
                        refine WCode.region ?_
                        refine WOps.p (G.move rfl) rfl ?_
                        refine WOps.p (G.add rfl rfl (r := (w64 (x112 + 1))) rfl) rfl ?_
                        refine WOps.p (G.assign rfl) rfl ?_
                        refine WOps.nil ?_
                        refine WEx.in_normal ?_
                        refine WEx.again _ _ (by omega) ?_ ⟨w64 (x112 + 1), rfl, hF, S127⟩
                        exact ⟨rfl, rfl, rfl, rfl, rfl, trivial⟩
                      ·
                        refine WCode.cond_f (kb (b := t123) rfl (Bool.eq_false_iff.2 h128)) ?_
                        refine WCode.exit ?_
                        refine WEx.then_exit ?_
                        refine WEx.then_exit ?_
                        refine WEx.in_exit ?_
                        refine WEx.cutend _ ?_ ⟨k115, x112, rfl, hF, S127⟩
                        exact ⟨rfl, rfl, rfl, rfl, rfl, trivial⟩
                  ·
                    refine WOps.off rfl (kbl (b := decide (x112 < (a0.length : Int))) rfl (decide_eq_false h119)) rfl rfl ?_
                    refine WOps.off rfl (kbl (b := decide (x112 < (a0.length : Int))) rfl (decide_eq_false h119)) rfl rfl ?_
                    refine WOps.p (G.pick_f (kb (b := decide (x112 < (a0.length : Int))) rfl (decide_eq_false h119)) rfl) rfl ?_
                    refine WOps.p (G.move rfl) rfl ?_
                    refine WOps.off rfl rfl rfl rfl ?_
                    refine WOps.off rfl rfl rfl rfl ?_
                    refine WOps.off rfl rfl rfl rfl ?_
                    refine WOps.off rfl rfl rfl rfl ?_
                    refine WOps.p (G.pick_f rfl rfl) rfl ?_
                    refine WOps.nil ?_
                    refine WEx.then_ ?_
                    refine WCode.cond_f rfl ?_
                    refine WCode.exit ?_
                    refine WEx.then_exit ?_
                    refine WEx.then_exit ?_
                    refine WEx.in_exit ?_
                    refine WEx.cutend _ ?_ ⟨k115, x112, rfl, hF, S114⟩
                    exact ⟨rfl, rfl, rfl, rfl, rfl, trivial⟩
                ·
                  rintro _ w108 ⟨q110, x107, rfl, hF, S109⟩
                  unfold law_Faults.j5 at hF
                  refine WCode.seq ?_
                  refine WCode.region ?_
                  refine WOps.p (G.move rfl) rfl ?_
                  refine WOps.p (G.move rfl) rfl ?_
                  obtain ⟨m129, hc130, hF⟩ := bind_some hF
                  refine WOps.p (G.cutb_h T.str9 rfl rfl hc130) rfl ?_
                  obtain ⟨m131, hc132, hF⟩ := bind_some hF
                  refine WOps.p (G.catb rfl rfl hc132) rfl ?_
                  refine WOps.p (G.move rfl) rfl ?_
                  obtain ⟨m133, hc134, hF⟩ := bind_some hF
                  refine WOps.p (G.catb rfl rfl hc134) rfl ?_
                  refine WOps.p (G.assign rfl) rfl ?_
                  refine WOps.nil ?_
                  refine WEx.then_ ?_
                  refine WCode.seq ?_
                  refine WCode.region ?_
                  refine WOps.p (G.move rfl) rfl ?_
                  obtain ⟨t135, hc136, hF⟩ := bind_some hF
                  refine WOps.call T.call9 (evs_cons rfl evs_nil) rfl ?_
                  refine (lx_Scan_calls q110 m133 (hGl.ext (S109.keepF hFG)) (St.outF (Bs := []) S109 hFG) hc136).mono ?_
                  rintro _ w137 ⟨A140, c141, G142, rfl, hO143, T138⟩
                  have S139 := St.callN (As := []) S109 T138
                  change St _ _ _ [G142] at S139
                  refine ⟨_, rfl, ?_⟩
                  refine WOps.p (G.move rfl) rfl ?_
                  refine WOps.p (G.extract rfl rfl) rfl ?_
                  refine WOps.p (G.extract rfl rfl) rfl ?_
                  refine WOps.p (G.extract rfl rfl) rfl ?_
                  refine WOps.p (G.assign rfl) rfl ?_
                  refine WOps.p (G.assign rfl) rfl ?_
                  refine WOps.p (G.assign rfl) rfl ?_
                  refine WOps.nil ?_
                  refine WEx.then_ ?_
                  refine WCode.forget (l' := [(7, .int .i64 t7.2.1), (8, .int .i64 t7.2.2), (16, .string (bs m133)), (18, .int .i64 t135.2.1), (19, .int .i64 t135.2.2)]) ⟨rfl, rfl, rfl, rfl, rfl, trivial⟩ ?_
                  refine WCode.seq ?_
                  refine WCode.region ?_
                  refine WOps.p (G.move rfl) rfl ?_
                  refine WOps.p (G.lenb T.str9 rfl) rfl ?_
                  refine WOps.p (G.gtr rfl rfl rfl) rfl ?_
                  refine WOps.p (G.move rfl) rfl ?_
                  rcases ite_some hF with ⟨h144, hF⟩ | ⟨h144, hF⟩
                  ·
                    refine WOps.off rfl (kbl (b := decide (16000 < (m133.length : Int))) rfl (decide_eq_true h144)) rfl rfl ?_
                    refine WOps.off rfl (kbl (b := decide (16000 < (m133.length : Int))) rfl (decide_eq_true h144)) rfl rfl ?_
                    refine WOps.off rfl (kbl (b := decide (16000 < (m133.length : Int))) rfl (decide_eq_true h144)) rfl rfl ?_
                    refine WOps.off rfl (kbl (b := decide (16000 < (m133.length : Int))) rfl (decide_eq_true h144)) rfl rfl ?_
                    refine WOps.off rfl rfl rfl rfl ?_
                    refine WOps.off rfl rfl rfl rfl ?_
                    refine WOps.off rfl rfl rfl rfl ?_
                    refine WOps.off rfl (kbl (b := decide (16000 < (m133.length : Int))) rfl (decide_eq_true h144)) rfl rfl ?_
                    refine WOps.p (G.pick_t (kb (b := decide (16000 < (m133.length : Int))) rfl (decide_eq_true h144)) rfl) rfl ?_
                    refine WOps.p (G.assign rfl) rfl ?_
                    refine WOps.nil ?_
                    refine WEx.then_ ?_
                    refine WCode.forget (l' := [(4, .bool true)]) ⟨rfl, trivial⟩ ?_
                    refine WCode.ret ?_
                    obtain rfl := some_eq hF
                    refine WEx.ret1 rfl rfl ?_
                    exact ⟨rfl, St.keep (As := []) S139⟩
                  ·
                    refine WOps.on rfl (kbl (b := decide (16000 < (m133.length : Int))) rfl (decide_eq_false h144)) ?_
                    refine WOps.p (G.move rfl) rfl ?_
                    refine WOps.on rfl (kbl (b := decide (16000 < (m133.length : Int))) rfl (decide_eq_false h144)) ?_
                    refine WOps.p (G.move rfl) rfl ?_
                    refine WOps.on rfl (kbl (b := decide (16000 < (m133.length : Int))) rfl (decide_eq_false h144)) ?_
                    refine WOps.p (G.eql rfl rfl rfl) rfl ?_
                    refine WOps.on rfl (kbl (b := decide (16000 < (m133.length : Int))) rfl (decide_eq_false h144)) ?_
                    refine WOps.p (G.move rfl) rfl ?_
                    rcases ite_some hF with ⟨h145, hF⟩ | ⟨h145, hF⟩
                    ·
                      refine WOps.on rfl (kbl (b := decide (t135.2.1 = t7.2.1)) rfl (decide_eq_true h145)) ?_
                      refine WOps.p (G.move rfl) rfl ?_
                      refine WOps.on rfl (kbl (b := decide (t135.2.1 = t7.2.1)) rfl (decide_eq_true h145)) ?_
                      refine WOps.p (G.move rfl) rfl ?_
                      refine WOps.on rfl (kbl (b := decide (t135.2.1 = t7.2.1)) rfl (decide_eq_true h145)) ?_
                      refine WOps.p (G.eql rfl rfl rfl) rfl ?_
                      refine WOps.on rfl (kbl (b := decide (16000 < (m133.length : Int))) rfl (decide_eq_false h144)) ?_
                      refine WOps.p (G.pick_t (kb (b := decide (t135.2.1 = t7.2.1)) rfl (decide_eq_true h145)) rfl) rfl ?_
                      refine WOps.p (G.pick_f (kb (b := decide (16000 < (m133.length : Int))) rfl (decide_eq_false h144)) rfl) rfl ?_
                      refine WOps.p (G.assign rfl) rfl ?_
                      refine WOps.nil ?_
                      refine WEx.then_ ?_
                      refine WCode.forget (l' := [(4, .bool (decide (t135.2.2 = t7.2.2)))]) ⟨rfl, trivial⟩ ?_
                      refine WCode.ret ?_
                      obtain rfl := some_eq hF
                      refine WEx.ret1 rfl rfl ?_
                      exact ⟨rfl, St.keep (As := []) S139⟩
                    ·
                      refine WOps.off rfl (kbl (b := decide (t135.2.1 = t7.2.1)) rfl (decide_eq_false h145)) rfl rfl ?_
                      refine WOps.off rfl (kbl (b := decide (t135.2.1 = t7.2.1)) rfl (decide_eq_false h145)) rfl rfl ?_
                      refine WOps.off rfl (kbl (b := decide (t135.2.1 = t7.2.1)) rfl (decide_eq_false h145)) rfl rfl ?_
                      refine WOps.on rfl (kbl (b := decide (16000 < (m133.length : Int))) rfl (decide_eq_false h144)) ?_
                      refine WOps.p (G.pick_f (kb (b := decide (t135.2.1 = t7.2.1)) rfl (decide_eq_false h145)) rfl) rfl ?_
                      refine WOps.p (G.pick_f (kb (b := decide (16000 < (m133.length : Int))) rfl (decide_eq_false h144)) rfl) rfl ?_
                      refine WOps.p (G.assign rfl) rfl ?_
                      refine WOps.nil ?_
                      refine WEx.then_ ?_
                      refine WCode.forget (l' := [(4, .bool false)]) ⟨rfl, trivial⟩ ?_
                      refine WCode.ret ?_
                      obtain rfl := some_eq hF
                      refine WEx.ret1 rfl rfl ?_
                      exact ⟨rfl, St.keep (As := []) S139⟩
            ·
              refine WCode.cond_t (kb (b := !(decide (t71.2.1 = 0))) rfl (show (!(decide (t71.2.1 = 0))) = true from by rw [(decide_eq_false h80)]; rfl)) ?_
              refine WCode.seq ?_
              refine WCode.region ?_
              refine WOps.p (G.assign rfl) rfl ?_
              refine WOps.nil ?_
              refine WEx.then_ ?_
              refine WCode.ret ?_
              refine WEx.then_ret ?_
              obtain rfl := some_eq hF
              refine WEx.ret1 rfl rfl ?_
              exact ⟨rfl, St.keep (As := []) S75⟩

end Go.Proofs.YtpdpfiaediadgaaDoor
