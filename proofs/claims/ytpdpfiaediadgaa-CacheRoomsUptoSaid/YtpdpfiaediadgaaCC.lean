/- Functions and their walks (printed by auto.py over the engine). -/
import Derived.Test.YtpdpfiaediadgaaProg
import Derived.Test.YtpdpfiaediadgaaCK
namespace Go.Proofs.Ytpdpfiaediadgaa
open Go Go.Eng
set_option linter.unusedSimpArgs false
set_option linter.unusedVariables false

theorem T.fld96_1 : fldOff Try.prog 96 1 = some 1 := by kernel_rfl
theorem T.one94 : isOneT Try.prog 94 = true := by kernel_rfl
theorem T.size93_2 : sizeT Try.prog 93 = some 2 := by kernel_rfl
theorem T.zero93 : zeroOf Try.prog 93 = some (.agg #[.bool false, .string (bs ([] : List UInt8))]) := by kernel_rfl


theorem T.key94 : KeyOk Try.prog 3 M94.k := KeyOk.int Try.underlying3

set_option maxRecDepth 100000 in
set_option maxHeartbeats 1000000 in
theorem cz_size_calls {w : World} {pc b : Nat} {x0 x1 x2 x3 x5 x6 : Int} (hc : w.heap[pc]? = some (.cells #[.int .i64 x0, .int .i64 x1, .int .i64 x2, .int .i64 x3, .map (some b), .int .i64 x5, .int .i64 x6] 89 (0, 0))) (a1 : Entry) :
    Calls Try.prog 57 [.pointer (some ⟨pc, 0, none⟩), .agg #[.bool a1.done, .string (bs a1.reply)]].toArray w fun e w' => e = .returned (.int .i64 (szE x3 a1)) ∧ St w (KS []) w' [] := by
 have S := St.ofFalse (As := []) (St.init0 w)
 refine enter 15 [(0, .pointer (some ⟨pc, 0, none⟩)), (1, .agg #[.bool a1.done, .string (bs a1.reply)])] Try.func57 rfl rfl rfl rfl ?_
 refine WCode.seq ?_
 refine WCode.region ?_
 obtain ⟨b1, w2, E3, S4, X5, L6⟩ := St.box S Try.prog 93 (.agg #[.bool a1.done, .string (bs a1.reply)])
 change St _ _ _ [[(b1, .cells #[.bool a1.done, .string (bs a1.reply)] 93 (0, 0))]] at S4
 refine WOps.e (E3 rfl) rfl ?_
 refine WOps.p (G.assign rfl) rfl ?_
 refine WOps.nil ?_
 refine WEx.then_ ?_
 refine WCode.seq ?_
 refine WCode.seq ?_
 refine WCode.region ?_
 refine WOps.p (G.field T.fld93_0 rfl (show 0 + 0 = 0 from rfl)) rfl ?_
 refine WOps.r (G.load1 T.one4 rfl (cell_blk (S4.blk 0 rfl) rfl)) rfl ?_
 refine WOps.nil ?_
 refine WEx.then_ ?_
 by_cases h7 : a1.done = true
 ·
  refine WCode.cond_t (kb (b := a1.done) rfl h7) ?_
  refine WCode.seq ?_
  refine WCode.region ?_
  refine WOps.p (G.field T.fld93_1 rfl (show 0 + 1 = 1 from rfl)) rfl ?_
  refine WOps.r (G.load1 T.one9 rfl (cell_blk (S4.blk 0 rfl) rfl)) rfl ?_
  refine WOps.p (G.lenb T.str9 rfl) rfl ?_
  refine WOps.p (G.assign rfl) rfl ?_
  refine WOps.nil ?_
  refine WEx.then_ ?_
  refine WCode.ret ?_
  refine WEx.then_ret ?_
  refine WEx.ret1 rfl rfl ?_
  exact ⟨by unfold szE; first | rw [if_pos (by assumption)] | rw [if_neg (by assumption)], St.keep (As := []) S4⟩
 ·
  refine WCode.cond_f (kb (b := a1.done) rfl (Bool.eq_false_iff.2 h7)) ?_
  refine WCode.skip ?_
  refine WEx.then_ ?_
  refine WCode.seq ?_
  refine WCode.region ?_
  refine WOps.p (G.move rfl) rfl ?_
  refine WOps.p (G.nilp rfl) rfl ?_
  refine WOps.p (G.field T.fld89_0 rfl (show 0 + 0 = 0 from rfl)) rfl ?_
  refine WOps.p (G.field T.fld26_3 rfl (show 0 + 3 = 3 from rfl)) rfl ?_
  refine WOps.r (G.load1 T.one3 rfl (cell_blk ((S4.fr pc (lt_of_blk hc) (by simp [KS, keys])).trans hc) rfl)) rfl ?_
  refine WOps.p (G.assign rfl) rfl ?_
  refine WOps.nil ?_
  refine WEx.then_ ?_
  refine WCode.forget (l' := [(4, .int .i64 x3)]) ⟨rfl, trivial⟩ ?_
  refine WCode.ret ?_
  refine WEx.ret1 rfl rfl ?_
  exact ⟨by unfold szE; first | rw [if_pos (by assumption)] | rw [if_neg (by assumption)], St.keep (As := []) S4⟩

def cu_hit (k : Nat) (m : List (Int × Entry)) (a2 : Int) : Option Bool := (if (mget m a2).isSome = true then (Option.bind (mget m a2) fun x10 => (if x10.done = true then (some false) else (some true))) else (some false))
set_option maxRecDepth 100000 in
set_option maxHeartbeats 1000000 in
theorem cu_hit_calls (k : Nat) {w : World} {pc b p bk : Nat} {x0 x1 x2 x3 x5 x6 : Int} {wt : Int} {Y : List (WhoC × Nat)} (m : List (Int × Entry)) (a1 : WhoC) (a2 : Int) (hc : w.heap[pc]? = some (.cells #[.int .i64 x0, .int .i64 x1, .int .i64 x2, .int .i64 x3, .map (some b), .int .i64 x5, .int .i64 x6] 89 (0, 0))) (hM : MapR M87.k ptv w b Y) (hY : mget Y a1 = some p) (hp : w.heap[p]? = some (.cells #[.int .i64 wt, .map (some bk)] 96 (0, 0))) (hk : MapR M94.k M94.v w bk m) {r_ : Bool} (h_ : cu_hit k m a2 = some r_) :
    Calls Try.prog 36 [.pointer (some ⟨pc, 0, none⟩), .agg #[.int .i64 a1.Address, .int .i64 a1.Instance], .int .i64 a2].toArray w fun e w' => e = .returned (if r_ = true then ptv p else .pointer none) ∧ St w (KS []) w' [] := by
 have hF := h_
 clear h_
 unfold cu_hit at hF
 have S := St.ofFalse (As := []) (St.init0 w)
 refine enter 34 [(0, .pointer (some ⟨pc, 0, none⟩)), (1, .agg #[.int .i64 a1.Address, .int .i64 a1.Instance]), (2, .int .i64 a2)] Try.func36 rfl rfl rfl rfl ?_
 refine WCode.seq ?_
 refine WCode.region ?_
 obtain ⟨b1, w2, E3, S4, X5, L6⟩ := St.box S Try.prog 34 (.agg #[.int .i64 a1.Address, .int .i64 a1.Instance])
 change St _ _ _ [[(b1, .cells #[.int .i64 a1.Address, .int .i64 a1.Instance] 34 (0, 0))]] at S4
 refine WOps.e (E3 rfl) rfl ?_
 refine WOps.p (G.assign rfl) rfl ?_
 refine WOps.nil ?_
 refine WEx.then_ ?_
 refine WCode.seq ?_
 refine WCode.draw [⟨0, 0, []⟩, ⟨1, 0, []⟩, ⟨2, 0, []⟩, ⟨3, 1, [5, 6]⟩, ⟨4, 1, [5, 6]⟩, ⟨5, 2, []⟩, ⟨6, 0, []⟩] T.mixed (by kernel_rfl) (by intro _ _ d _ _ h; cases d <;> exact h) rfl (by kernel_rfl) ?_
 have S7 := S4.drew
 generalize w2.drew = w8 at *
 refine WD.p rfl (G.move rfl) rfl ?_
 refine WD.p rfl (G.nilp rfl) rfl ?_
 refine WD.p rfl (G.field T.fld89_1 rfl (show 0 + 4 = 4 from rfl)) rfl ?_
 refine WD.r rfl (G.load1 T.one87 rfl (cell_blk ((S7.fr pc (lt_of_blk hc) (by simp [KS, keys])).trans hc) rfl)) rfl ?_
 refine WD.r rfl (G.loada T.agg34_2 rfl (cs := [.int .i64 a1.Address, .int .i64 a1.Instance]) (cellsAt.of_blk (S7.blk 0 rfl) rfl)) rfl ?_
 refine WD.e rfl (GR.e (G.mapgot1 T.key87 Try.underlying87 (hM.move (S7.fr _ (MapR.lt hM) (by simp [KS, keys]))) rfl rfl hY)) rfl ?_
 refine WD.p rfl (G.assign rfl) rfl ?_
 refine WD.nil ?_
 refine WEx.then_ ?_
 refine WCode.forget (l' := [(2, .int .i64 a2), (7, .pointer (some ⟨p, 0, none⟩))]) ⟨rfl, rfl, trivial⟩ ?_
 refine WCode.seq ?_
 refine WCode.seq ?_
 refine WCode.region ?_
 refine WOps.p (G.move rfl) rfl ?_
 refine WOps.p (G.eqp_nil Try.underlying90 rfl rfl rfl) rfl ?_
 refine WOps.nil ?_
 refine WEx.then_ ?_
 refine WCode.cond_f rfl ?_
 refine WCode.skip ?_
 refine WEx.then_ ?_
 refine WCode.seq ?_
 refine WCode.seq ?_
 refine WCode.region ?_
 refine WOps.p (G.move rfl) rfl ?_
 refine WOps.p (G.nilp rfl) rfl ?_
 refine WOps.p (G.field T.fld96_1 rfl (show 0 + 1 = 1 from rfl)) rfl ?_
 refine WOps.r (G.load1 T.one94 rfl (cell_blk ((S7.fr p (lt_of_blk hp) (by simp [KS, keys])).trans hp) rfl)) rfl ?_
 refine WOps.p (G.move rfl) rfl ?_
 rcases ite_some hF with ⟨h9, hF⟩ | ⟨h9, hF⟩
 ·
  obtain ⟨x10, hc11, hF⟩ := bind_some hF
  refine WOps.r (G.mapget1 T.key94 Try.underlying94 (hk.move (S7.fr _ (MapR.lt hk) (by simp [KS, keys]))) rfl rfl hc11) rfl ?_
  refine WOps.p (G.move rfl) rfl ?_
  refine WOps.p (G.extract rfl rfl) rfl ?_
  refine WOps.p (G.extract rfl rfl) rfl ?_
  obtain ⟨b12, w13, E14, S15, X16, L17⟩ := St.var S7 (z := .agg #[.bool false, .string (bs ([] : List UInt8))]) T.zero93
  change St _ _ _ [[(b12, .cells #[.bool false, .string (bs ([] : List UInt8))] 93 (0, 0))], [(b1, .cells #[.int .i64 a1.Address, .int .i64 a1.Instance] 34 (0, 0))]] at S15
  refine WOps.e E14 rfl ?_
  obtain ⟨w18, E19, S20⟩ := St.store (P := Try.prog) S15 0 93 (.agg #[.bool x10.done, .string (bs x10.reply)]) (off := 0) (cur' := #[.bool x10.done, .string (bs x10.reply)]) rfl T.size93_2 rfl rfl rfl
  change St _ _ _ [[(b12, .cells #[.bool x10.done, .string (bs x10.reply)] 93 (0, 0))], [(b1, .cells #[.int .i64 a1.Address, .int .i64 a1.Instance] 34 (0, 0))]] at S20
  refine WOps.u (E19 rfl rfl) ?_
  refine WOps.p (G.assign rfl) rfl ?_
  refine WOps.nil ?_
  refine WEx.then_ ?_
  refine WCode.forget (l' := [(7, .pointer (some ⟨p, 0, none⟩)), (8, .pointer (some ⟨b12, 0, none⟩)), (9, .bool true)]) ⟨rfl, rfl, rfl, trivial⟩ ?_
  refine WCode.seq ?_
  refine WCode.region ?_
  refine WOps.p (G.move rfl) rfl ?_
  refine WOps.p (G.not rfl rfl) rfl ?_
  refine WOps.p (G.move rfl) rfl ?_
  refine WOps.on rfl rfl ?_
  refine WOps.p (G.field T.fld93_0 rfl (show 0 + 0 = 0 from rfl)) rfl ?_
  refine WOps.on rfl rfl ?_
  refine WOps.r (G.load1 T.one4 rfl (cell_blk (S20.blk 0 rfl) rfl)) rfl ?_
  refine WOps.p (G.pick_f rfl rfl) rfl ?_
  refine WOps.nil ?_
  refine WEx.then_ ?_
  rcases ite_some hF with ⟨h21, hF⟩ | ⟨h21, hF⟩
  ·
   refine WCode.cond_t (kb (b := x10.done) rfl h21) ?_
   refine WCode.seq ?_
   refine WCode.region ?_
   refine WOps.p (G.assign rfl) rfl ?_
   refine WOps.nil ?_
   refine WEx.then_ ?_
   refine WCode.ret ?_
   refine WEx.then_ret ?_
   obtain rfl := some_eq hF
   refine WEx.ret1 rfl rfl ?_
   exact ⟨rfl, St.keep (As := []) S20⟩
  ·
   refine WCode.cond_f (kb (b := x10.done) rfl (Bool.eq_false_iff.2 h21)) ?_
   refine WCode.skip ?_
   refine WEx.then_ ?_
   refine WCode.seq ?_
   refine WCode.region ?_
   refine WOps.p (G.move rfl) rfl ?_
   refine WOps.p (G.assign rfl) rfl ?_
   refine WOps.nil ?_
   refine WEx.then_ ?_
   refine WCode.forget (l' := [(6, .pointer (some ⟨p, 0, none⟩))]) ⟨rfl, trivial⟩ ?_
   refine WCode.ret ?_
   obtain rfl := some_eq hF
   refine WEx.ret1 rfl rfl ?_
   exact ⟨rfl, St.keep (As := []) S20⟩
 ·
  have hn22 := Option.not_isSome_iff_eq_none.1 h9
  refine WOps.r (G.mapget0 T.key94 Try.underlying94 T.zero93 (hk.move (S7.fr _ (MapR.lt hk) (by simp [KS, keys]))) rfl rfl hn22) rfl ?_
  refine WOps.p (G.move rfl) rfl ?_
  refine WOps.p (G.extract rfl rfl) rfl ?_
  refine WOps.p (G.extract rfl rfl) rfl ?_
  obtain ⟨b23, w24, E25, S26, X27, L28⟩ := St.var S7 (z := .agg #[.bool false, .string (bs ([] : List UInt8))]) T.zero93
  change St _ _ _ [[(b23, .cells #[.bool false, .string (bs ([] : List UInt8))] 93 (0, 0))], [(b1, .cells #[.int .i64 a1.Address, .int .i64 a1.Instance] 34 (0, 0))]] at S26
  refine WOps.e E25 rfl ?_
  obtain ⟨w29, E30, S31⟩ := St.store (P := Try.prog) S26 0 93 (.agg #[.bool false, .string (bs ([] : List UInt8))]) (off := 0) (cur' := #[.bool false, .string (bs ([] : List UInt8))]) rfl T.size93_2 rfl rfl rfl
  change St _ _ _ [[(b23, .cells #[.bool false, .string (bs ([] : List UInt8))] 93 (0, 0))], [(b1, .cells #[.int .i64 a1.Address, .int .i64 a1.Instance] 34 (0, 0))]] at S31
  refine WOps.u (E30 rfl rfl) ?_
  refine WOps.p (G.assign rfl) rfl ?_
  refine WOps.nil ?_
  refine WEx.then_ ?_
  refine WCode.forget (l' := [(7, .pointer (some ⟨p, 0, none⟩)), (8, .pointer (some ⟨b23, 0, none⟩)), (9, .bool false)]) ⟨rfl, rfl, rfl, trivial⟩ ?_
  refine WCode.seq ?_
  refine WCode.region ?_
  refine WOps.p (G.move rfl) rfl ?_
  refine WOps.p (G.not rfl rfl) rfl ?_
  refine WOps.p (G.move rfl) rfl ?_
  refine WOps.off rfl rfl rfl rfl ?_
  refine WOps.off rfl rfl rfl rfl ?_
  refine WOps.p (G.pick_t rfl rfl) rfl ?_
  refine WOps.nil ?_
  refine WEx.then_ ?_
  refine WCode.cond_t rfl ?_
  refine WCode.seq ?_
  refine WCode.region ?_
  refine WOps.p (G.assign rfl) rfl ?_
  refine WOps.nil ?_
  refine WEx.then_ ?_
  refine WCode.ret ?_
  refine WEx.then_ret ?_
  obtain rfl := some_eq hF
  refine WEx.ret1 rfl rfl ?_
  exact ⟨rfl, St.keep (As := []) S31⟩

def cu_miss (k : Nat) (m : List (Int × Entry)) (a2 : Int) : Option Bool := (some false)
set_option maxRecDepth 100000 in
set_option maxHeartbeats 1000000 in
theorem cu_miss_calls (k : Nat) {w : World} {pc b p bk : Nat} {x0 x1 x2 x3 x5 x6 : Int} {wt : Int} {Y : List (WhoC × Nat)} (m : List (Int × Entry)) (a1 : WhoC) (a2 : Int) (hc : w.heap[pc]? = some (.cells #[.int .i64 x0, .int .i64 x1, .int .i64 x2, .int .i64 x3, .map (some b), .int .i64 x5, .int .i64 x6] 89 (0, 0))) (hM : MapR M87.k ptv w b Y) (hY : mget Y a1 = none) {r_ : Bool} (h_ : cu_miss k m a2 = some r_) :
    Calls Try.prog 36 [.pointer (some ⟨pc, 0, none⟩), .agg #[.int .i64 a1.Address, .int .i64 a1.Instance], .int .i64 a2].toArray w fun e w' => e = .returned (if r_ = true then ptv p else .pointer none) ∧ St w (KS []) w' [] := by
 have hF := h_
 clear h_
 unfold cu_miss at hF
 have S := St.ofFalse (As := []) (St.init0 w)
 refine enter 34 [(0, .pointer (some ⟨pc, 0, none⟩)), (1, .agg #[.int .i64 a1.Address, .int .i64 a1.Instance]), (2, .int .i64 a2)] Try.func36 rfl rfl rfl rfl ?_
 refine WCode.seq ?_
 refine WCode.region ?_
 obtain ⟨b1, w2, E3, S4, X5, L6⟩ := St.box S Try.prog 34 (.agg #[.int .i64 a1.Address, .int .i64 a1.Instance])
 change St _ _ _ [[(b1, .cells #[.int .i64 a1.Address, .int .i64 a1.Instance] 34 (0, 0))]] at S4
 refine WOps.e (E3 rfl) rfl ?_
 refine WOps.p (G.assign rfl) rfl ?_
 refine WOps.nil ?_
 refine WEx.then_ ?_
 refine WCode.seq ?_
 refine WCode.draw [⟨0, 0, []⟩, ⟨1, 0, []⟩, ⟨2, 0, []⟩, ⟨3, 1, [5, 6]⟩, ⟨4, 1, [5, 6]⟩, ⟨5, 2, []⟩, ⟨6, 0, []⟩] T.mixed (by kernel_rfl) (by intro _ _ d _ _ h; cases d <;> exact h) rfl (by kernel_rfl) ?_
 have S7 := S4.drew
 generalize w2.drew = w8 at *
 refine WD.p rfl (G.move rfl) rfl ?_
 refine WD.p rfl (G.nilp rfl) rfl ?_
 refine WD.p rfl (G.field T.fld89_1 rfl (show 0 + 4 = 4 from rfl)) rfl ?_
 refine WD.r rfl (G.load1 T.one87 rfl (cell_blk ((S7.fr pc (lt_of_blk hc) (by simp [KS, keys])).trans hc) rfl)) rfl ?_
 refine WD.r rfl (G.loada T.agg34_2 rfl (cs := [.int .i64 a1.Address, .int .i64 a1.Instance]) (cellsAt.of_blk (S7.blk 0 rfl) rfl)) rfl ?_
 refine WD.e rfl (GR.e (G.mapgot0 T.key87 Try.underlying87 T.zero90 (hM.move (S7.fr _ (MapR.lt hM) (by simp [KS, keys]))) rfl rfl hY)) rfl ?_
 refine WD.p rfl (G.assign rfl) rfl ?_
 refine WD.nil ?_
 refine WEx.then_ ?_
 refine WCode.forget (l' := [(2, .int .i64 a2), (7, .pointer none)]) ⟨rfl, rfl, trivial⟩ ?_
 refine WCode.seq ?_
 refine WCode.seq ?_
 refine WCode.region ?_
 refine WOps.p (G.move rfl) rfl ?_
 refine WOps.p (G.eqp_nil Try.underlying90 rfl rfl rfl) rfl ?_
 refine WOps.nil ?_
 refine WEx.then_ ?_
 refine WCode.cond_t rfl ?_
 refine WCode.seq ?_
 refine WCode.region ?_
 refine WOps.p (G.assign rfl) rfl ?_
 refine WOps.nil ?_
 refine WEx.then_ ?_
 refine WCode.ret ?_
 refine WEx.then_ret ?_
 obtain rfl := some_eq hF
 refine WEx.ret1 rfl rfl ?_
 exact ⟨rfl, St.keep (As := []) S7⟩

end Go.Proofs.Ytpdpfiaediadgaa
