/- Functions and their walks (printed by auto.py over the engine). -/
import Derived.Test.YtpdpfiaediadgaaDoorProg
import Derived.Test.YtpdpfiaediadgaaDoorLexB
namespace Go.Proofs.YtpdpfiaediadgaaDoor
open Go Go.Eng
set_option linter.unusedSimpArgs false
set_option linter.unusedVariables false

theorem T.agg41_4 : isAggT Tryd.prog 41 4 = true := by kernel_rfl
theorem T.call16 : Callable Tryd.prog 16 := Callable.mk Tryd.func16 (by kernel_rfl) (by kernel_rfl)
theorem T.call17 : Callable Tryd.prog 17 := Callable.mk Tryd.func17 (by kernel_rfl) (by kernel_rfl)
theorem T.call18 : Callable Tryd.prog 18 := Callable.mk Tryd.func18 (by kernel_rfl) (by kernel_rfl)
theorem T.call29 : Callable Tryd.prog 29 := Callable.mk Tryd.func29 (by kernel_rfl) (by kernel_rfl)
theorem T.call30 : Callable Tryd.prog 30 := Callable.mk Tryd.func30 (by kernel_rfl) (by kernel_rfl)
theorem T.call31 : Callable Tryd.prog 31 := Callable.mk Tryd.func31 (by kernel_rfl) (by kernel_rfl)
theorem T.el33 : slEl Tryd.prog 33 = some 4 := by kernel_rfl
theorem T.el34 : slEl Tryd.prog 34 = some 1 := by kernel_rfl
theorem T.elt62 : Elt Tryd.prog 62 5 1 1 := elt_mk (z := .int .u8 0) Tryd.underlying62 (by kernel_rfl) rfl
theorem T.fld41_0 : fldOff Tryd.prog 41 0 = some 0 := by kernel_rfl
theorem T.fld41_1 : fldOff Tryd.prog 41 1 = some 1 := by kernel_rfl
theorem T.fld41_2 : fldOff Tryd.prog 41 2 = some 2 := by kernel_rfl
theorem T.fld41_3 : fldOff Tryd.prog 41 3 = some 3 := by kernel_rfl
theorem T.one34 : isOneT Tryd.prog 34 = true := by kernel_rfl
theorem T.size5_1 : sizeT Tryd.prog 5 = some 1 := by kernel_rfl
structure Piece where
  What : Int
  N : Int
  S : List UInt8
  Gap : List Int
  deriving DecidableEq
def Piece.rp : Rp Piece where
  sz := 4
  rd := fun w F x cs => ∃ A1 : Option Addr, ∃ c1 : Nat, cs = [.int .i64 x.What, .int .i64 x.N, .string (bs x.S), .slice A1 (x.Gap).length c1] ∧ SlR (Rp.int .i64) w F A1 c1 (x.Gap)
  own := fun _ _ _ => False
  len := by rintro _ _ _ _ ⟨_, _, rfl, _⟩; rfl
  one := by rintro _ _ _ _ ⟨_, _, rfl, _⟩; exact one_of_all rfl
  lenO := by intro _ _ _ h; exact h.elim
  oneO := by intro _ _ _ h; exact h.elim
  ext := by rintro _ _ _ _ _ ⟨A1, c1, rfl, h1⟩ hE; exact ⟨A1, c1, rfl, h1.ext hE⟩
  mono := by rintro _ _ _ _ _ ⟨A1, c1, rfl, h1⟩ hF; exact ⟨A1, c1, rfl, h1.mono hF⟩
  low := by intro _ _ _ _ h; exact h.elim

mutual
def lw_run.j2 : Nat → List UInt8 → List UInt8 → Int → Bool → Option (List UInt8)
  | 0, _, _, _, _ => none
  | k43 + 1, a0, l28, x31, b37 => (if b37 = true then (Option.bind (idx a0 x31) fun c45 => (Option.bind (idx ([97, 98, 99, 100, 101, 102, 103, 104, 105, 106, 107, 108, 109, 110, 111, 112, 113, 114, 115, 116, 117, 118, 119, 120, 121, 122, 65, 66, 67, 68, 69, 70, 71, 72, 73, 74, 75, 76, 77, 78, 79, 80, 81, 82, 83, 84, 85, 86, 87, 88, 89, 90, 48, 49, 50, 51, 52, 53, 54, 55, 56, 57, 95] : List UInt8) (Int.tmod ((c45).toNat : Int) 63)) fun c47 => (Option.bind (cat l28 ([c47] : List UInt8)) fun l55 => (lw_run.l1 k43 a0 l55 (w64 (x31 + 1)))))) else (some l28))
def lw_run.l1 : Nat → List UInt8 → List UInt8 → Int → Option (List UInt8)
  | 0, _, _, _ => none
  | k34 + 1, a0, l28, x31 => (if x31 < (a0.length : Int) then (lw_run.j2 k34 a0 l28 x31 (decide (x31 < 32))) else (lw_run.j2 k34 a0 l28 x31 false))
end
def lw_run.j1 (q14 : Nat) (a0 : List UInt8) (l9 : List UInt8) : Option (List UInt8) := (lw_run.l1 q14 a0 l9 1)
def lw_run (k : Nat) (a0 : List UInt8) : Option (List UInt8) := (if 0 < (a0.length : Int) then (Option.bind (idx a0 0) fun c17 => (Option.bind (idx ([97, 98, 99, 100, 101, 102, 103, 104, 105, 106, 107, 108, 109, 110, 111, 112, 113, 114, 115, 116, 117, 118, 119, 120, 121, 122, 65, 66, 67, 68, 69, 70, 71, 72, 73, 74, 75, 76, 77, 78, 79, 80, 81, 82, 83, 84, 85, 86, 87, 88, 89, 90, 48, 49, 50, 51, 52, 53, 54, 55, 56, 57, 95] : List UInt8) (Int.tmod ((c17).toNat : Int) 52)) fun c19 => (lw_run.j1 k a0 ([c19] : List UInt8)))) else (lw_run.j1 k a0 ([(113 : UInt8)] : List UInt8)))
set_option maxRecDepth 100000 in
set_option maxHeartbeats 1000000 in
theorem lw_run_calls (k : Nat) (a0 : List UInt8) {w : World} {r_ : (List UInt8)} (h_ : lw_run k a0 = some r_) :
    Calls Tryd.prog 30 [.string (bs a0)].toArray w fun e w' => e = .returned (.string (bs r_)) ∧ St w (KS []) w' [] := by
  have hF := h_
  clear h_
  unfold lw_run at hF
  have S := St.ofFalse (As := []) (St.init0 w)
  refine enter 37 [(0, .string (bs a0))] Tryd.func30 rfl rfl rfl rfl ?_
  refine WCode.seq ?_
  refine WCode.region ?_
  refine WOps.p (G.assign rfl) rfl ?_
  refine WOps.nil ?_
  refine WEx.then_ ?_
  refine WCode.seq ?_
  refine WCode.region ?_
  obtain ⟨b1, w2, E3, S4, X5, L6⟩ := St.lit S (P := Tryd.prog) (t := 62) (e := 5) (n := 1) (vs := [(0, .int .u8 113)]) (cs := #[.int .u8 113]) (by kernel_rfl)
  change St _ _ _ [[(b1, .cells #[.int .u8 113] 5 (0, 0))]] at S4
  refine WOps.e (E3 (evp_cons rfl evp_nil)) rfl ?_
  refine WOps.p (G.assign rfl) rfl ?_
  refine WOps.nil ?_
  refine WEx.then_ ?_
  refine WCode.cutseq (fun l_ w_ => ∃ q14 : Nat, ∃ A7 : Option Addr, ∃ c8 : Nat, ∃ l9 : List UInt8, ∃ G10 : Grp, l_ = [(0, .string (bs a0)), (3, .slice A7 l9.length c8)] ∧ lw_run.j1 q14 a0 l9 = some r_ ∧ (SlO 5 Rp.u8 (.slice A7 l9.length c8) l9 G10) ∧ St w (KS []) w_ [G10]) ?_ ?_
  ·
    refine WCode.seq ?_
    refine WCode.region ?_
    refine WOps.p (G.move rfl) rfl ?_
    refine WOps.p (G.lenb T.str9 rfl) rfl ?_
    refine WOps.p (G.gtr rfl rfl rfl) rfl ?_
    refine WOps.nil ?_
    refine WEx.then_ ?_
    rcases ite_some hF with ⟨h16, hF⟩ | ⟨h16, hF⟩
    ·
      refine WCode.cond_t (kb (b := decide (0 < (a0.length : Int))) rfl (decide_eq_true h16)) ?_
      refine WCode.region ?_
      refine WOps.p (G.move rfl) rfl ?_
      refine WOps.p (G.move rfl) rfl ?_
      obtain ⟨c17, hc18, hF⟩ := bind_some hF
      refine WOps.p (G.idxb T.str9 rfl rfl hc18) rfl ?_
      refine WOps.p (G.convi (by kernel_rfl) Tryd.underlying3 rfl (r := ((c17).toNat : Int)) (u8_i64 _)) rfl ?_
      refine WOps.p (G.remk rfl rfl (by decide)) rfl ?_
      obtain ⟨c19, hc20, hF⟩ := bind_some hF
      refine WOps.p (G.idxb T.str9 rfl rfl hc20) rfl ?_
      refine WOps.p (G.idx (o := 0) (j := 0) T.el62 rfl rfl rfl rfl (by decide) : GP _ _ _ _ (.pointer (some ⟨b1, 0, none⟩))) rfl ?_
      obtain ⟨w21, E22, S23⟩ := St.store (P := Tryd.prog) S4 0 5 (.int .u8 ((c19).toNat : Int)) (off := 0) (cur' := #[.int .u8 ((c19).toNat : Int)]) rfl T.size5_1 rfl rfl rfl
      change St _ _ _ [[(b1, .cells #[.int .u8 ((c19).toNat : Int)] 5 (0, 0))]] at S23
      refine WOps.u (E22 rfl rfl) ?_
      refine WOps.nil ?_
      have hO24 : SlO 5 Rp.u8 (.slice (some ⟨b1, 0, none⟩) ([c19] : List UInt8).length 1) ([c19] : List UInt8) ([(b1, .cells #[.int .u8 ((c19).toNat : Int)] 5 (0, 0))] ++ []) := SlO.lit (GM := []) ⟨_, _, [], [], rfl, rfl, ⟨rfl, rfl⟩, ⟨rfl, rfl⟩⟩ rfl (Nat.le_of_ble_eq_true rfl) (Nat.le_of_ble_eq_true rfl)
      rw [List.append_nil] at hO24
      refine WEx.cutend _ ?_ ⟨k, some ⟨b1, 0, none⟩, 1, ([c19] : List UInt8), [(b1, .cells #[.int .u8 ((c19).toNat : Int)] 5 (0, 0))], rfl, hF, hO24, S23⟩
      exact ⟨rfl, rfl, trivial⟩
    ·
      refine WCode.cond_f (kb (b := decide (0 < (a0.length : Int))) rfl (decide_eq_false h16)) ?_
      refine WCode.skip ?_
      have hO25 : SlO 5 Rp.u8 (.slice (some ⟨b1, 0, none⟩) ([(113 : UInt8)] : List UInt8).length 1) ([(113 : UInt8)] : List UInt8) ([(b1, .cells #[.int .u8 113] 5 (0, 0))] ++ []) := SlO.lit (GM := []) ⟨_, _, [], [], rfl, rfl, ⟨rfl, rfl⟩, ⟨rfl, rfl⟩⟩ rfl (Nat.le_of_ble_eq_true rfl) (Nat.le_of_ble_eq_true rfl)
      rw [List.append_nil] at hO25
      refine WEx.cutend _ ?_ ⟨k, some ⟨b1, 0, none⟩, 1, ([(113 : UInt8)] : List UInt8), [(b1, .cells #[.int .u8 113] 5 (0, 0))], rfl, hF, hO25, S4⟩
      exact ⟨rfl, rfl, trivial⟩
  ·
    rintro _ w12 ⟨q14, A7, c8, l9, G10, rfl, hF, hO11, S13⟩
    unfold lw_run.j1 at hF
    refine WCode.seq ?_
    refine WCode.seq ?_
    refine WCode.region ?_
    refine WOps.p (G.assign rfl) rfl ?_
    refine WOps.nil ?_
    refine WEx.then_ ?_
    refine WCode.block ?_
    refine WCode.forget (l' := [(0, .string (bs a0)), (3, .slice A7 l9.length c8), (4, .int .i64 1)]) ⟨rfl, rfl, rfl, trivial⟩ ?_
    refine WCode.loop (fun n_ l_ w_ => ∃ A26 : Option Addr, ∃ c27 : Nat, ∃ l28 : List UInt8, ∃ G29 : Grp, ∃ x31 : Int, l_ = [(0, .string (bs a0)), (3, .slice A26 l28.length c27), (4, .int .i64 x31)] ∧ lw_run.l1 n_ a0 l28 x31 = some r_ ∧ (SlO 5 Rp.u8 (.slice A26 l28.length c27) l28 G29) ∧ St w (KS []) w_ [G29]) q14 ⟨A7, c8, l9, G10, 1, rfl, hF, hO11, S13⟩ ?_
    rintro n35 _ w32 ⟨A26, c27, l28, G29, x31, rfl, hF, hO30, S33⟩
    obtain _ | k34 := n35
    · exact nomatch (show (none : Option (List UInt8)) = some r_ from hF)
    rw [lw_run.l1] at hF
    refine WCode.seq ?_
    refine WCode.cutseq (fun l_ w_ => ∃ q40 : Nat, ∃ b37 : Bool, l_ = [(0, .string (bs a0)), (3, .slice A26 l28.length c27), (4, .int .i64 x31), (23, .bool b37)] ∧ lw_run.j2 q40 a0 l28 x31 b37 = some r_ ∧ q40 ≤ k34 ∧ St w (KS []) w_ [G29]) ?_ ?_
    ·
      refine WCode.region ?_
      refine WOps.p (G.move rfl) rfl ?_
      refine WOps.p (G.move rfl) rfl ?_
      refine WOps.p (G.lenb T.str9 rfl) rfl ?_
      refine WOps.p (G.lss rfl rfl rfl) rfl ?_
      refine WOps.p (G.move rfl) rfl ?_
      rcases ite_some hF with ⟨h42, hF⟩ | ⟨h42, hF⟩
      ·
        refine WOps.on rfl (kbl (b := decide (x31 < (a0.length : Int))) rfl (decide_eq_true h42)) ?_
        refine WOps.p (G.move rfl) rfl ?_
        refine WOps.on rfl (kbl (b := decide (x31 < (a0.length : Int))) rfl (decide_eq_true h42)) ?_
        refine WOps.p (G.lss rfl rfl rfl) rfl ?_
        refine WOps.p (G.pick_t (kb (b := decide (x31 < (a0.length : Int))) rfl (decide_eq_true h42)) rfl) rfl ?_
        refine WOps.nil ?_
        refine WEx.cutend _ ?_ ⟨k34, decide (x31 < 32), rfl, hF, (by omega), S33⟩
        exact ⟨rfl, rfl, rfl, rfl, trivial⟩
      ·
        refine WOps.off rfl (kbl (b := decide (x31 < (a0.length : Int))) rfl (decide_eq_false h42)) rfl rfl ?_
        refine WOps.off rfl (kbl (b := decide (x31 < (a0.length : Int))) rfl (decide_eq_false h42)) rfl rfl ?_
        refine WOps.p (G.pick_f (kb (b := decide (x31 < (a0.length : Int))) rfl (decide_eq_false h42)) rfl) rfl ?_
        refine WOps.nil ?_
        refine WEx.cutend _ ?_ ⟨k34, false, rfl, hF, (by omega), S33⟩
        exact ⟨rfl, rfl, rfl, rfl, trivial⟩
    ·
      rintro _ w38 ⟨q40, b37, rfl, hF, hq41, S39⟩
      obtain _ | k43 := q40
      · exact nomatch (show (none : Option (List UInt8)) = some r_ from hF)
      rw [lw_run.j2] at hF
      rcases ite_some hF with ⟨h44, hF⟩ | ⟨h44, hF⟩
      ·
        refine WCode.cond_t (kb (b := b37) rfl h44) ?_
        refine WCode.skip ?_
        refine WEx.then_ ?_
        refine WCode.seq ?_
        refine WCode.block ?_
        refine WCode.region ?_
        refine WOps.p (G.move rfl) rfl ?_
        refine WOps.p (G.move rfl) rfl ?_
        refine WOps.p (G.move rfl) rfl ?_
        obtain ⟨c45, hc46, hF⟩ := bind_some hF
        refine WOps.p (G.idxb T.str9 rfl rfl hc46) rfl ?_
        refine WOps.p (G.convi (by kernel_rfl) Tryd.underlying3 rfl (r := ((c45).toNat : Int)) (u8_i64 _)) rfl ?_
        refine WOps.p (G.remk rfl rfl (by decide)) rfl ?_
        obtain ⟨c47, hc48, hF⟩ := bind_some hF
        refine WOps.p (G.idxb T.str9 rfl rfl hc48) rfl ?_
        obtain ⟨b49, w50, E51, S52, X53, L54⟩ := St.lit S39 (P := Tryd.prog) (t := 62) (e := 5) (n := 1) (vs := [(0, .int .u8 ((c47).toNat : Int))]) (cs := #[.int .u8 ((c47).toNat : Int)]) (by kernel_rfl)
        change St _ _ _ [[(b49, .cells #[.int .u8 ((c47).toNat : Int)] 5 (0, 0))], G29] at S52
        refine WOps.e (E51 (evp_cons rfl evp_nil)) rfl ?_
        obtain ⟨l55, hc56, hF⟩ := bind_some hF
        have S57 := S52.front 1 rfl
        change St _ _ _ [G29, [(b49, .cells #[.int .u8 ((c47).toNat : Int)] 5 (0, 0))]] at S57
        obtain ⟨A58, c59, G60, w61, E62, hO63, S64, hk65⟩ := St.appP (P := Tryd.prog) (r := Rp.u8) (M := ([c47] : List UInt8)) S57 T.elt62 rfl hO30 (Rd.of_blk (S57.blk 1 rfl) (n := 1) (sz := 1) rfl) ⟨_, _, [], [], rfl, rfl, ⟨rfl, rfl⟩, ⟨rfl, rfl⟩⟩ rfl hc56
        change St _ _ _ [G60, [(b49, .cells #[.int .u8 ((c47).toNat : Int)] 5 (0, 0))]] at S64
        refine WOps.e (E62 rfl rfl) rfl ?_
        refine WOps.p (G.assign rfl) rfl ?_
        refine WOps.nil ?_
        refine WEx.in_normal ?_
        refine WEx.then_ ?_
        refine WCode.forget (l' := [(0, .string (bs a0)), (3, .slice A58 l55.length c59), (4, .int .i64 x31)]) ⟨rfl, rfl, rfl, trivial⟩ ?_
        refine WCode.region ?_
        refine WOps.p (G.move rfl) rfl ?_
        refine WOps.p (G.add rfl rfl (r := (w64 (x31 + 1))) rfl) rfl ?_
        refine WOps.p (G.assign rfl) rfl ?_
        refine WOps.nil ?_
        have S66 := St.keep (As := [G60]) S64
        refine WEx.again _ _ (by omega) ?_ ⟨A58, c59, l55, G60, w64 (x31 + 1), rfl, hF, hO63, S66⟩
        exact ⟨rfl, rfl, rfl, trivial⟩
      ·
        refine WCode.cond_f (kb (b := b37) rfl (Bool.eq_false_iff.2 h44)) ?_
        refine WCode.exit ?_
        refine WEx.then_exit ?_
        refine WEx.then_exit ?_
        refine WEx.in_exit ?_
        refine WEx.then_ ?_
        refine WCode.seq ?_
        refine WCode.region ?_
        refine WOps.p (G.move rfl) rfl ?_
        refine WOps.r (G.strb Tryd.underlying62 Tryd.underlying5 Tryd.underlying9 rfl (hO30.rd (fun b o hb => S39.grp 0 rfl hb))) rfl ?_
        refine WOps.p (G.assign rfl) rfl ?_
        refine WOps.nil ?_
        refine WEx.then_ ?_
        refine WCode.ret ?_
        obtain rfl := some_eq hF
        refine WEx.ret1 rfl rfl ?_
        exact ⟨rfl, St.keep (As := []) S39⟩

def lw_digits.l1 : Nat → Int → Int → List UInt8 → Option (List UInt8)
  | 0, _, _, _ => none
  | k10 + 1, a1, x6, s7 => (if 0 < x6 then (Option.bind (cut ([48, 49, 50, 51, 52, 53, 54, 55, 56, 57, 97, 98, 99, 100, 101, 102] : List UInt8) (Int.tmod x6 a1) (w64 ((Int.tmod x6 a1) + 1))) fun m16 => (Option.bind (cat m16 s7) fun m18 => (lw_digits.l1 k10 a1 (w64 (Int.tdiv x6 a1)) m18))) else (some s7))
def lw_digits (k : Nat) (a0 : Int) (a1 : Int) : Option (List UInt8) := (if a1 = 0 then none else (Option.bind (cut ([48, 49, 50, 51, 52, 53, 54, 55, 56, 57, 97, 98, 99, 100, 101, 102] : List UInt8) (Int.tmod a0 a1) (w64 ((Int.tmod a0 a1) + 1))) fun m4 => (lw_digits.l1 k a1 (w64 (Int.tdiv a0 a1)) m4)))
set_option maxRecDepth 100000 in
set_option maxHeartbeats 1000000 in
theorem lw_digits_calls (k : Nat) (a0 : Int) (a1 : Int) {w : World} {r_ : (List UInt8)} (h_ : lw_digits k a0 a1 = some r_) :
    Calls Tryd.prog 31 [.int .i64 a0, .int .i64 a1].toArray w fun e w' => e = .returned (.string (bs r_)) ∧ St w (KS []) w' [] := by
  have hF := h_
  clear h_
  unfold lw_digits at hF
  have S := St.ofFalse (As := []) (St.init0 w)
  refine enter 33 [(0, .int .i64 a0), (1, .int .i64 a1)] Tryd.func31 rfl rfl rfl rfl ?_
  refine WCode.seq ?_
  refine WCode.region ?_
  refine WOps.p (G.assign rfl) rfl ?_
  refine WOps.nil ?_
  refine WEx.then_ ?_
  refine WCode.seq ?_
  refine WCode.draw [⟨0, 0, []⟩, ⟨1, 0, []⟩, ⟨2, 0, []⟩, ⟨3, 0, []⟩, ⟨4, 0, []⟩, ⟨5, 0, []⟩, ⟨6, 0, []⟩, ⟨7, 0, []⟩, ⟨8, 0, []⟩] T.mixed (by kernel_rfl) (by intro _ _ d _ _ h; cases d <;> exact h) rfl (by kernel_rfl) ?_
  have S1 := S.drew
  generalize w.drew = w2 at *
  refine WD.p rfl (G.move rfl) rfl ?_
  refine WD.p rfl (G.move rfl) rfl ?_
  obtain ⟨h3, hF⟩ := nguard_some hF
  refine WD.p rfl (G.remk rfl rfl h3) rfl ?_
  refine WD.p rfl (G.move rfl) rfl ?_
  refine WD.p rfl (G.move rfl) rfl ?_
  refine WD.p rfl (G.remk rfl rfl h3) rfl ?_
  refine WD.p rfl (G.add rfl rfl (r := (w64 ((Int.tmod a0 a1) + 1))) rfl) rfl ?_
  obtain ⟨m4, hc5, hF⟩ := bind_some hF
  refine WD.p rfl (G.cutb_lh T.str9 rfl rfl rfl hc5) rfl ?_
  refine WD.p rfl (G.assign rfl) rfl ?_
  refine WD.nil ?_
  refine WEx.then_ ?_
  refine WCode.seq ?_
  refine WCode.seq ?_
  refine WCode.region ?_
  refine WOps.p (G.move rfl) rfl ?_
  refine WOps.p (G.move rfl) rfl ?_
  refine WOps.p (G.quok rfl rfl h3) rfl ?_
  refine WOps.p (G.assign rfl) rfl ?_
  refine WOps.nil ?_
  refine WEx.then_ ?_
  refine WCode.forget (l' := [(0, .int .i64 (w64 (Int.tdiv a0 a1))), (1, .int .i64 a1), (5, .string (bs m4))]) ⟨rfl, rfl, rfl, trivial⟩ ?_
  refine WCode.block ?_
  refine WCode.forget (l' := [(0, .int .i64 (w64 (Int.tdiv a0 a1))), (1, .int .i64 a1), (5, .string (bs m4))]) ⟨rfl, rfl, rfl, trivial⟩ ?_
  refine WCode.loop (fun n_ l_ w_ => ∃ x6 : Int, ∃ s7 : List UInt8, l_ = [(0, .int .i64 x6), (1, .int .i64 a1), (5, .string (bs s7))] ∧ lw_digits.l1 n_ a1 x6 s7 = some r_ ∧ St w (KS []) w_ []) k ⟨w64 (Int.tdiv a0 a1), m4, rfl, hF, S1⟩ ?_
  rintro n11 _ w8 ⟨x6, s7, rfl, hF, S9⟩
  obtain _ | k10 := n11
  · exact nomatch (show (none : Option (List UInt8)) = some r_ from hF)
  rw [lw_digits.l1] at hF
  refine WCode.seq ?_
  refine WCode.seq ?_
  refine WCode.region ?_
  refine WOps.p (G.move rfl) rfl ?_
  refine WOps.p (G.gtr rfl rfl rfl) rfl ?_
  refine WOps.nil ?_
  refine WEx.then_ ?_
  rcases ite_some hF with ⟨h13, hF⟩ | ⟨h13, hF⟩
  ·
    refine WCode.cond_t (kb (b := decide (0 < x6)) rfl (decide_eq_true h13)) ?_
    refine WCode.skip ?_
    refine WEx.then_ ?_
    refine WCode.seq ?_
    refine WCode.block ?_
    refine WCode.draw [⟨0, 0, []⟩, ⟨1, 0, []⟩, ⟨2, 0, []⟩, ⟨3, 0, []⟩, ⟨4, 0, []⟩, ⟨5, 0, []⟩, ⟨6, 0, []⟩, ⟨7, 0, []⟩, ⟨8, 0, []⟩, ⟨9, 0, []⟩, ⟨10, 0, []⟩] T.mixed (by kernel_rfl) (by intro _ _ d _ _ h; cases d <;> exact h) rfl (by kernel_rfl) ?_
    have S14 := S9.drew
    generalize w8.drew = w15 at *
    refine WD.p rfl (G.move rfl) rfl ?_
    refine WD.p rfl (G.move rfl) rfl ?_
    refine WD.p rfl (G.remk rfl rfl h3) rfl ?_
    refine WD.p rfl (G.move rfl) rfl ?_
    refine WD.p rfl (G.move rfl) rfl ?_
    refine WD.p rfl (G.remk rfl rfl h3) rfl ?_
    refine WD.p rfl (G.add rfl rfl (r := (w64 ((Int.tmod x6 a1) + 1))) rfl) rfl ?_
    obtain ⟨m16, hc17, hF⟩ := bind_some hF
    refine WD.p rfl (G.cutb_lh T.str9 rfl rfl rfl hc17) rfl ?_
    refine WD.p rfl (G.move rfl) rfl ?_
    obtain ⟨m18, hc19, hF⟩ := bind_some hF
    refine WD.p rfl (G.catb rfl rfl hc19) rfl ?_
    refine WD.p rfl (G.assign rfl) rfl ?_
    refine WD.nil ?_
    refine WEx.in_normal ?_
    refine WEx.then_ ?_
    refine WCode.forget (l' := [(0, .int .i64 x6), (1, .int .i64 a1), (5, .string (bs m18))]) ⟨rfl, rfl, rfl, trivial⟩ ?_
    refine WCode.region ?_
    refine WOps.p (G.move rfl) rfl ?_
    refine WOps.p (G.move rfl) rfl ?_
    refine WOps.p (G.quok rfl rfl h3) rfl ?_
    refine WOps.p (G.assign rfl) rfl ?_
    refine WOps.nil ?_
    refine WEx.again _ _ (by omega) ?_ ⟨w64 (Int.tdiv x6 a1), m18, rfl, hF, S14⟩
    exact ⟨rfl, rfl, rfl, trivial⟩
  ·
    refine WCode.cond_f (kb (b := decide (0 < x6)) rfl (decide_eq_false h13)) ?_
    refine WCode.exit ?_
    refine WEx.then_exit ?_
    refine WEx.then_exit ?_
    refine WEx.in_exit ?_
    refine WEx.then_ ?_
    refine WCode.seq ?_
    refine WCode.region ?_
    refine WOps.p (G.move rfl) rfl ?_
    refine WOps.p (G.assign rfl) rfl ?_
    refine WOps.nil ?_
    refine WEx.then_ ?_
    refine WCode.ret ?_
    obtain rfl := some_eq hF
    refine WEx.ret1 rfl rfl ?_
    exact ⟨rfl, St.keep (As := []) S9⟩

def lw_token.j1 (q32 : Nat) (t19 : (List UInt8)) (x29 : Int) : Option (Token × (List UInt8)) := (some ((⟨x29, t19, 0, 0⟩ : Token), t19))
def lw_token.j2 (q44 : Nat) (a0 : Piece) (t13 : Int) (b41 : Bool) : Option (Token × (List UInt8)) := (if b41 = true then (Option.bind (lw_digits q44 (w64 (-a0.N)) 10) fun t54 => (Option.bind (cat ([45] : List UInt8) t54) fun m59 => (some ((⟨3, ([] : List UInt8), a0.N, 0⟩ : Token), m59)))) else (Option.bind (lw_digits q44 t13 10) fun t64 => (some ((⟨3, ([] : List UInt8), t13, 0⟩ : Token), t64))))
def lw_token (k : Nat) (a0 : Piece) : Option (Token × (List UInt8)) := (Option.bind (lw_pick k a0.N 4294967296) fun t13 => (if a0.What = 0 then (Option.bind (lw_run k a0.S) fun t19 => (Option.bind (lx_IsWord k t19) fun t24 => (if t24 = true then (lw_token.j1 k t19 2) else (lw_token.j1 k t19 1)))) else (if a0.What = 1 then (if a0.N < 0 then (lw_token.j2 k a0 t13 (decide ((-2147483648) ≤ a0.N))) else (lw_token.j2 k a0 t13 false)) else (if a0.What = 2 then (Option.bind (lw_digits k t13 16) fun t73 => (Option.bind (cat ([48, 120] : List UInt8) t73) fun m78 => (some ((⟨3, ([] : List UInt8), t13, 0⟩ : Token), m78)))) else (if a0.What = 3 then (Option.bind (lw_digits k t13 8) fun t84 => (Option.bind (cat ([48] : List UInt8) t84) fun m89 => (some ((⟨3, ([] : List UInt8), t13, 0⟩ : Token), m89)))) else (Option.bind (lw_pick k a0.N 13) fun t94 => (Option.bind (cut ([123, 125, 40, 41, 91, 93, 60, 62, 61, 59, 58, 44, 42] : List UInt8) t94 (w64 (t94 + 1))) fun m99 => (some ((⟨4, m99, 0, 0⟩ : Token), m99)))))))))
set_option maxRecDepth 100000 in
set_option maxHeartbeats 1000000 in
theorem lw_token_calls (k : Nat) (a0 : Piece) {A0_1 : Option Addr} {c0_1 : Nat} {F0_1 : Nat → Prop} {FG : Nat → Prop} {w : World} (hR0_1 : SlR (Rp.int .i64) w F0_1 A0_1 c0_1 a0.Gap) (hF0_1 : ∀ b, F0_1 b → NK w [] b) (hGl : Glob FG w) (hFG : ∀ b, FG b → NK w [] b) {r_ : Token × (List UInt8)} (h_ : lw_token k a0 = some r_) :
    Calls Tryd.prog 17 [.agg #[.int .i64 a0.What, .int .i64 a0.N, .string (bs a0.S), .slice A0_1 a0.Gap.length c0_1]].toArray w fun e w' => e = .returned (.tuple #[.agg #[.int .i64 r_.1.Kind, .string (bs r_.1.Text), .int .i64 r_.1.Number, .int .i64 r_.1.At], .string (bs r_.2)]) ∧ St w (KS []) w' [] := by
  have hF := h_
  clear h_
  unfold lw_token at hF
  have S := St.ofFalse (As := []) (St.init0 w)
  refine enter 73 [(0, .agg #[.int .i64 a0.What, .int .i64 a0.N, .string (bs a0.S), .slice A0_1 a0.Gap.length c0_1])] Tryd.func17 rfl rfl rfl rfl ?_
  refine WCode.seq ?_
  refine WCode.region ?_
  obtain ⟨b1, w2, E3, S4, X5, L6⟩ := St.box S Tryd.prog 41 (.agg #[.int .i64 a0.What, .int .i64 a0.N, .string (bs a0.S), .slice A0_1 a0.Gap.length c0_1])
  change St _ _ _ [[(b1, .cells #[.int .i64 a0.What, .int .i64 a0.N, .string (bs a0.S), .slice A0_1 a0.Gap.length c0_1] 41 (0, 0))]] at S4
  refine WOps.e (E3 rfl) rfl ?_
  obtain ⟨b7, w8, E9, S10, X11, L12⟩ := St.var S4 (z := .agg #[.int .i64 0, .string (bs ([] : List UInt8)), .int .i64 0, .int .i64 0]) T.zero37
  change St _ _ _ [[(b7, .cells #[.int .i64 0, .string (bs ([] : List UInt8)), .int .i64 0, .int .i64 0] 37 (0, 0))], [(b1, .cells #[.int .i64 a0.What, .int .i64 a0.N, .string (bs a0.S), .slice A0_1 a0.Gap.length c0_1] 41 (0, 0))]] at S10
  refine WOps.e E9 rfl ?_
  refine WOps.p (G.assign rfl) rfl ?_
  refine WOps.nil ?_
  refine WEx.then_ ?_
  refine WCode.seq ?_
  refine WCode.region ?_
  refine WOps.p (G.field T.fld41_1 rfl (show 0 + 1 = 1 from rfl)) rfl ?_
  refine WOps.r (G.load1 T.one3 rfl (cell_blk (S10.blk 1 rfl) rfl)) rfl ?_
  obtain ⟨t13, hc14, hF⟩ := bind_some hF
  refine WOps.call T.call29 (evs_cons rfl (evs_cons rfl evs_nil)) rfl ?_
  refine (lw_pick_calls k a0.N 4294967296 hc14).mono ?_
  rintro _ w15 ⟨rfl, T16⟩
  have S17 := St.callN (As := []) S10 T16
  change St _ _ _ [[(b7, .cells #[.int .i64 0, .string (bs ([] : List UInt8)), .int .i64 0, .int .i64 0] 37 (0, 0))], [(b1, .cells #[.int .i64 a0.What, .int .i64 a0.N, .string (bs a0.S), .slice A0_1 a0.Gap.length c0_1] 41 (0, 0))]] at S17
  refine ⟨_, rfl, ?_⟩
  refine WOps.p (G.assign rfl) rfl ?_
  refine WOps.nil ?_
  refine WEx.then_ ?_
  refine WCode.seq ?_
  refine WCode.seq ?_
  refine WCode.region ?_
  refine WOps.p (G.field T.fld41_0 rfl (show 0 + 0 = 0 from rfl)) rfl ?_
  refine WOps.r (G.load1 T.one3 rfl (cell_blk (S17.blk 1 rfl) rfl)) rfl ?_
  refine WOps.nil ?_
  refine WEx.then_ ?_
  refine WCode.block ?_
  refine WCode.seq ?_
  refine WCode.region ?_
  refine WOps.p (G.eql rfl rfl rfl) rfl ?_
  refine WOps.p (G.assign rfl) rfl ?_
  refine WOps.nil ?_
  refine WEx.then_ ?_
  rcases ite_some hF with ⟨h18, hF⟩ | ⟨h18, hF⟩
  ·
    refine WCode.cond_t (kb (b := decide (a0.What = 0)) rfl (decide_eq_true h18)) ?_
    refine WCode.seq ?_
    refine WCode.region ?_
    refine WOps.p (G.field T.fld41_2 rfl (show 0 + 2 = 2 from rfl)) rfl ?_
    refine WOps.r (G.load1 T.one9 rfl (cell_blk (S17.blk 1 rfl) rfl)) rfl ?_
    obtain ⟨t19, hc20, hF⟩ := bind_some hF
    refine WOps.call T.call30 (evs_cons rfl evs_nil) rfl ?_
    refine (lw_run_calls k a0.S hc20).mono ?_
    rintro _ w21 ⟨rfl, T22⟩
    have S23 := St.callN (As := []) S17 T22
    change St _ _ _ [[(b7, .cells #[.int .i64 0, .string (bs ([] : List UInt8)), .int .i64 0, .int .i64 0] 37 (0, 0))], [(b1, .cells #[.int .i64 a0.What, .int .i64 a0.N, .string (bs a0.S), .slice A0_1 a0.Gap.length c0_1] 41 (0, 0))]] at S23
    refine ⟨_, rfl, ?_⟩
    refine WOps.p (G.assign rfl) rfl ?_
    refine WOps.nil ?_
    refine WEx.then_ ?_
    refine WCode.forget (l' := [(2, .pointer (some ⟨b7, 0, none⟩)), (5, .string (bs t19))]) ⟨rfl, rfl, trivial⟩ ?_
    refine WCode.seq ?_
    refine WCode.region ?_
    refine WOps.p (G.assign rfl) rfl ?_
    refine WOps.nil ?_
    refine WEx.then_ ?_
    refine WCode.seq ?_
    refine WCode.region ?_
    refine WOps.p (G.move rfl) rfl ?_
    obtain ⟨t24, hc25, hF⟩ := bind_some hF
    refine WOps.call T.call12 (evs_cons rfl evs_nil) rfl ?_
    refine (lx_IsWord_calls k t19 (hGl.ext (S23.keepF hFG)) (St.outF (Bs := []) S23 hFG) hc25).mono ?_
    rintro _ w26 ⟨rfl, T27⟩
    have S28 := St.callN (As := []) S23 T27
    change St _ _ _ [[(b7, .cells #[.int .i64 0, .string (bs ([] : List UInt8)), .int .i64 0, .int .i64 0] 37 (0, 0))], [(b1, .cells #[.int .i64 a0.What, .int .i64 a0.N, .string (bs a0.S), .slice A0_1 a0.Gap.length c0_1] 41 (0, 0))]] at S28
    refine ⟨_, rfl, ?_⟩
    refine WOps.p (G.assign rfl) rfl ?_
    refine WOps.nil ?_
    refine WEx.then_ ?_
    refine WCode.cutseq (fun l_ w_ => ∃ q32 : Nat, ∃ x29 : Int, l_ = [(2, .pointer (some ⟨b7, 0, none⟩)), (5, .string (bs t19)), (6, .int .i64 x29)] ∧ lw_token.j1 q32 t19 x29 = some r_ ∧ St w (KS []) w_ [[(b7, .cells #[.int .i64 0, .string (bs ([] : List UInt8)), .int .i64 0, .int .i64 0] 37 (0, 0))]]) ?_ ?_
    ·
      refine WCode.seq ?_
      refine WCode.region ?_
      refine WOps.p (G.move rfl) rfl ?_
      refine WOps.nil ?_
      refine WEx.then_ ?_
      rcases ite_some hF with ⟨h34, hF⟩ | ⟨h34, hF⟩
      ·
        refine WCode.cond_t (kb (b := t24) rfl h34) ?_
        refine WCode.region ?_
        refine WOps.p (G.assign rfl) rfl ?_
        refine WOps.nil ?_
        have S35 := St.keep (As := [[(b7, .cells #[.int .i64 0, .string (bs ([] : List UInt8)), .int .i64 0, .int .i64 0] 37 (0, 0))]]) S28
        refine WEx.cutend _ ?_ ⟨k, 2, rfl, hF, S35⟩
        exact ⟨rfl, rfl, rfl, trivial⟩
      ·
        refine WCode.cond_f (kb (b := t24) rfl (Bool.eq_false_iff.2 h34)) ?_
        refine WCode.skip ?_
        have S36 := St.keep (As := [[(b7, .cells #[.int .i64 0, .string (bs ([] : List UInt8)), .int .i64 0, .int .i64 0] 37 (0, 0))]]) S28
        refine WEx.cutend _ ?_ ⟨k, 1, rfl, hF, S36⟩
        exact ⟨rfl, rfl, rfl, trivial⟩
    ·
      rintro _ w30 ⟨q32, x29, rfl, hF, S31⟩
      unfold lw_token.j1 at hF
      refine WCode.seq ?_
      refine WCode.region ?_
      refine WOps.p (G.move rfl) rfl ?_
      refine WOps.p (G.move rfl) rfl ?_
      refine WOps.p (G.build (cells := #[.int .i64 x29, .string (bs t19), .int .i64 0, .int .i64 0]) (evp_spec (evp_cons rfl (evp_cons rfl evp_nil))) (by kernel_rfl)) rfl ?_
      refine WOps.p (G.move rfl) rfl ?_
      obtain ⟨w37, E38, S39⟩ := St.store (P := Tryd.prog) S31 0 37 (.agg #[.int .i64 x29, .string (bs t19), .int .i64 0, .int .i64 0]) (off := 0) (cur' := #[.int .i64 x29, .string (bs t19), .int .i64 0, .int .i64 0]) rfl T.size37_4 rfl rfl rfl
      change St _ _ _ [[(b7, .cells #[.int .i64 x29, .string (bs t19), .int .i64 0, .int .i64 0] 37 (0, 0))]] at S39
      refine WOps.u (E38 rfl rfl) ?_
      refine WOps.p (G.assign rfl) rfl ?_
      refine WOps.nil ?_
      refine WEx.then_ ?_
      refine WCode.ret ?_
      refine WEx.in_ret ?_
      refine WEx.then_ret ?_
      obtain rfl := some_eq hF
      refine WEx.retc1 rfl rfl (cs := [.int .i64 x29, .string (bs t19), .int .i64 0, .int .i64 0]) T.agg37_4 (cellsAt.of_blk (S39.blk 0 rfl) rfl) rfl ?_
      exact ⟨rfl, St.keep (As := []) S39⟩
  ·
    refine WCode.cond_f (kb (b := decide (a0.What = 0)) rfl (decide_eq_false h18)) ?_
    refine WCode.seq ?_
    refine WCode.region ?_
    refine WOps.p (G.eql rfl rfl rfl) rfl ?_
    refine WOps.p (G.assign rfl) rfl ?_
    refine WOps.nil ?_
    refine WEx.then_ ?_
    rcases ite_some hF with ⟨h40, hF⟩ | ⟨h40, hF⟩
    ·
      refine WCode.cond_t (kb (b := decide (a0.What = 1)) rfl (decide_eq_true h40)) ?_
      refine WCode.seq ?_
      refine WCode.cutseq (fun l_ w_ => ∃ q44 : Nat, ∃ b41 : Bool, l_ = [(1, .pointer (some ⟨b1, 0, none⟩)), (2, .pointer (some ⟨b7, 0, none⟩)), (4, .int .i64 t13), (36, .bool b41)] ∧ lw_token.j2 q44 a0 t13 b41 = some r_ ∧ St w (KS []) w_ [[(b7, .cells #[.int .i64 0, .string (bs ([] : List UInt8)), .int .i64 0, .int .i64 0] 37 (0, 0))], [(b1, .cells #[.int .i64 a0.What, .int .i64 a0.N, .string (bs a0.S), .slice A0_1 a0.Gap.length c0_1] 41 (0, 0))]]) ?_ ?_
      ·
        refine WCode.region ?_
        refine WOps.p (G.field T.fld41_1 rfl (show 0 + 1 = 1 from rfl)) rfl ?_
        refine WOps.r (G.load1 T.one3 rfl (cell_blk (S17.blk 1 rfl) rfl)) rfl ?_
        refine WOps.p (G.lss rfl rfl rfl) rfl ?_
        refine WOps.p (G.move rfl) rfl ?_
        rcases ite_some hF with ⟨h46, hF⟩ | ⟨h46, hF⟩
        ·
          refine WOps.on rfl (kbl (b := decide (a0.N < 0)) rfl (decide_eq_true h46)) ?_
          refine WOps.p (G.field T.fld41_1 rfl (show 0 + 1 = 1 from rfl)) rfl ?_
          refine WOps.on rfl (kbl (b := decide (a0.N < 0)) rfl (decide_eq_true h46)) ?_
          refine WOps.r (G.load1 T.one3 rfl (cell_blk (S17.blk 1 rfl) rfl)) rfl ?_
          refine WOps.on rfl (kbl (b := decide (a0.N < 0)) rfl (decide_eq_true h46)) ?_
          refine WOps.p (G.geq rfl rfl rfl) rfl ?_
          refine WOps.p (G.pick_t (kb (b := decide (a0.N < 0)) rfl (decide_eq_true h46)) rfl) rfl ?_
          refine WOps.nil ?_
          have S47 := S17.front 1 rfl
          change St _ _ _ [[(b1, .cells #[.int .i64 a0.What, .int .i64 a0.N, .string (bs a0.S), .slice A0_1 a0.Gap.length c0_1] 41 (0, 0))], [(b7, .cells #[.int .i64 0, .string (bs ([] : List UInt8)), .int .i64 0, .int .i64 0] 37 (0, 0))]] at S47
          have S48 := S47.front 1 rfl
          change St _ _ _ [[(b7, .cells #[.int .i64 0, .string (bs ([] : List UInt8)), .int .i64 0, .int .i64 0] 37 (0, 0))], [(b1, .cells #[.int .i64 a0.What, .int .i64 a0.N, .string (bs a0.S), .slice A0_1 a0.Gap.length c0_1] 41 (0, 0))]] at S48
          refine WEx.cutend _ ?_ ⟨k, decide ((-2147483648) ≤ a0.N), rfl, hF, S48⟩
          exact ⟨rfl, rfl, rfl, rfl, trivial⟩
        ·
          refine WOps.off rfl (kbl (b := decide (a0.N < 0)) rfl (decide_eq_false h46)) rfl rfl ?_
          refine WOps.off rfl (kbl (b := decide (a0.N < 0)) rfl (decide_eq_false h46)) rfl rfl ?_
          refine WOps.off rfl (kbl (b := decide (a0.N < 0)) rfl (decide_eq_false h46)) rfl rfl ?_
          refine WOps.p (G.pick_f (kb (b := decide (a0.N < 0)) rfl (decide_eq_false h46)) rfl) rfl ?_
          refine WOps.nil ?_
          have S49 := S17.front 1 rfl
          change St _ _ _ [[(b1, .cells #[.int .i64 a0.What, .int .i64 a0.N, .string (bs a0.S), .slice A0_1 a0.Gap.length c0_1] 41 (0, 0))], [(b7, .cells #[.int .i64 0, .string (bs ([] : List UInt8)), .int .i64 0, .int .i64 0] 37 (0, 0))]] at S49
          have S50 := S49.front 1 rfl
          change St _ _ _ [[(b7, .cells #[.int .i64 0, .string (bs ([] : List UInt8)), .int .i64 0, .int .i64 0] 37 (0, 0))], [(b1, .cells #[.int .i64 a0.What, .int .i64 a0.N, .string (bs a0.S), .slice A0_1 a0.Gap.length c0_1] 41 (0, 0))]] at S50
          refine WEx.cutend _ ?_ ⟨k, false, rfl, hF, S50⟩
          exact ⟨rfl, rfl, rfl, rfl, trivial⟩
      ·
        rintro _ w42 ⟨q44, b41, rfl, hF, S43⟩
        unfold lw_token.j2 at hF
        rcases ite_some hF with ⟨h51, hF⟩ | ⟨h51, hF⟩
        ·
          refine WCode.cond_t (kb (b := b41) rfl h51) ?_
          refine WCode.seq ?_
          refine WCode.drawH (.one 0 0 (.one 3 0 (.one 1 1 (.one 2 0 (.one 4 1 (.one 5 0 (.one 6 2 (.one 7 0 (.one 8 2 (.one 9 0 .nil)))))))))) (fun W_ => cellsAt W_ b1 0 [.int .i64 a0.What, .int .i64 a0.N, .string (bs a0.S), .slice A0_1 a0.Gap.length c0_1] ∧ True) T.mixed (by kernel_rfl) (by intro _ _ d _ _ h; cases d <;> exact h) rfl rfl (by kernel_rfl) ?_ ?_
          all_goals have S52 := S43.drew
          all_goals generalize w42.drew = w53 at *
          · exact ⟨cellsAt.of_blk (S52.blk 1 rfl) rfl, trivial⟩
          refine WH.p rfl wants (G.field T.fld41_1 rfl (show 0 + 1 = 1 from rfl)) rfl ?_
          refine WH.p rfl wants (G.field T.fld41_1 rfl (show 0 + 1 = 1 from rfl)) rfl ?_
          refine WH.r rfl wants (fun _ h_ => G.load1 T.one3 rfl (cellsAt.at h_.1 1 rfl)) rfl ?_
          refine WH.p rfl wants (G.build (cells := #[.int .i64 3, .string (bs ([] : List UInt8)), .int .i64 a0.N, .int .i64 0]) (evp_spec (evp_cons rfl (evp_cons rfl evp_nil))) (by kernel_rfl)) rfl ?_
          refine WH.r rfl wants (fun _ h_ => G.load1 T.one3 rfl (cellsAt.at h_.1 1 rfl)) rfl ?_
          refine WH.p rfl wants (G.neg rfl (r := (w64 (-a0.N))) rfl) rfl ?_
          obtain ⟨t54, hc55, hF⟩ := bind_some hF
          refine WH.call rfl wants T.call31 (evs_cons rfl (evs_cons rfl evs_nil)) rfl ?_
          refine (lw_digits_calls q44 (w64 (-a0.N)) 10 hc55).mono ?_
          rintro _ w56 ⟨rfl, T57⟩
          have S58 := St.callN (As := []) S52 T57
          change St _ _ _ [[(b7, .cells #[.int .i64 0, .string (bs ([] : List UInt8)), .int .i64 0, .int .i64 0] 37 (0, 0))], [(b1, .cells #[.int .i64 a0.What, .int .i64 a0.N, .string (bs a0.S), .slice A0_1 a0.Gap.length c0_1] 41 (0, 0))]] at S58
          refine ⟨_, rfl, ?_⟩
          refine ⟨⟨cellsAt.of_blk (S58.blk 1 rfl) rfl, trivial⟩, ?_⟩
          obtain ⟨m59, hc60, hF⟩ := bind_some hF
          refine WH.p rfl wants (G.catb rfl rfl hc60) rfl ?_
          obtain ⟨w61, E62, S63⟩ := St.store (P := Tryd.prog) S58 0 37 (.agg #[.int .i64 3, .string (bs ([] : List UInt8)), .int .i64 a0.N, .int .i64 0]) (off := 0) (cur' := #[.int .i64 3, .string (bs ([] : List UInt8)), .int .i64 a0.N, .int .i64 0]) rfl T.size37_4 rfl rfl rfl
          change St _ _ _ [[(b7, .cells #[.int .i64 3, .string (bs ([] : List UInt8)), .int .i64 a0.N, .int .i64 0] 37 (0, 0))], [(b1, .cells #[.int .i64 a0.What, .int .i64 a0.N, .string (bs a0.S), .slice A0_1 a0.Gap.length c0_1] 41 (0, 0))]] at S63
          refine WH.u rfl wants (E62 rfl rfl) ⟨cellsAt.of_blk (S63.blk 1 rfl) rfl, trivial⟩ ?_
          refine WH.p rfl wants (G.assign rfl) rfl ?_
          refine WH.nil ?_
          refine WEx.then_ ?_
          refine WCode.forget (l' := [(2, .pointer (some ⟨b7, 0, none⟩)), (3, .string (bs m59))]) ⟨rfl, rfl, trivial⟩ ?_
          refine WCode.ret ?_
          refine WEx.then_ret ?_
          refine WEx.in_ret ?_
          refine WEx.then_ret ?_
          obtain rfl := some_eq hF
          refine WEx.retc1 rfl rfl (cs := [.int .i64 3, .string (bs ([] : List UInt8)), .int .i64 a0.N, .int .i64 0]) T.agg37_4 (cellsAt.of_blk (S63.blk 0 rfl) rfl) rfl ?_
          exact ⟨rfl, St.keep (As := []) S63⟩
        ·
          refine WCode.cond_f (kb (b := b41) rfl (Bool.eq_false_iff.2 h51)) ?_
          refine WCode.skip ?_
          refine WEx.then_ ?_
          refine WCode.seq ?_
          refine WCode.region ?_
          refine WOps.p (G.move rfl) rfl ?_
          refine WOps.p (G.build (cells := #[.int .i64 3, .string (bs ([] : List UInt8)), .int .i64 t13, .int .i64 0]) (evp_spec (evp_cons rfl (evp_cons rfl evp_nil))) (by kernel_rfl)) rfl ?_
          refine WOps.p (G.move rfl) rfl ?_
          obtain ⟨t64, hc65, hF⟩ := bind_some hF
          refine WOps.call T.call31 (evs_cons rfl (evs_cons rfl evs_nil)) rfl ?_
          refine (lw_digits_calls q44 t13 10 hc65).mono ?_
          rintro _ w66 ⟨rfl, T67⟩
          have S68 := St.callN (As := []) S43 T67
          change St _ _ _ [[(b7, .cells #[.int .i64 0, .string (bs ([] : List UInt8)), .int .i64 0, .int .i64 0] 37 (0, 0))], [(b1, .cells #[.int .i64 a0.What, .int .i64 a0.N, .string (bs a0.S), .slice A0_1 a0.Gap.length c0_1] 41 (0, 0))]] at S68
          refine ⟨_, rfl, ?_⟩
          obtain ⟨w69, E70, S71⟩ := St.store (P := Tryd.prog) S68 0 37 (.agg #[.int .i64 3, .string (bs ([] : List UInt8)), .int .i64 t13, .int .i64 0]) (off := 0) (cur' := #[.int .i64 3, .string (bs ([] : List UInt8)), .int .i64 t13, .int .i64 0]) rfl T.size37_4 rfl rfl rfl
          change St _ _ _ [[(b7, .cells #[.int .i64 3, .string (bs ([] : List UInt8)), .int .i64 t13, .int .i64 0] 37 (0, 0))], [(b1, .cells #[.int .i64 a0.What, .int .i64 a0.N, .string (bs a0.S), .slice A0_1 a0.Gap.length c0_1] 41 (0, 0))]] at S71
          refine WOps.u (E70 rfl rfl) ?_
          refine WOps.p (G.assign rfl) rfl ?_
          refine WOps.nil ?_
          refine WEx.then_ ?_
          refine WCode.ret ?_
          refine WEx.in_ret ?_
          refine WEx.then_ret ?_
          obtain rfl := some_eq hF
          refine WEx.retc1 rfl rfl (cs := [.int .i64 3, .string (bs ([] : List UInt8)), .int .i64 t13, .int .i64 0]) T.agg37_4 (cellsAt.of_blk (S71.blk 0 rfl) rfl) rfl ?_
          exact ⟨rfl, St.keep (As := []) S71⟩
    ·
      refine WCode.cond_f (kb (b := decide (a0.What = 1)) rfl (decide_eq_false h40)) ?_
      refine WCode.seq ?_
      refine WCode.region ?_
      refine WOps.p (G.eql rfl rfl rfl) rfl ?_
      refine WOps.p (G.assign rfl) rfl ?_
      refine WOps.nil ?_
      refine WEx.then_ ?_
      refine WCode.forget (l' := [(1, .pointer (some ⟨b1, 0, none⟩)), (2, .pointer (some ⟨b7, 0, none⟩)), (4, .int .i64 t13), (14, .int .i64 a0.What), (49, .bool (decide (a0.What = 2)))]) ⟨rfl, rfl, rfl, rfl, rfl, trivial⟩ ?_
      rcases ite_some hF with ⟨h72, hF⟩ | ⟨h72, hF⟩
      ·
        refine WCode.cond_t (kb (b := decide (a0.What = 2)) rfl (decide_eq_true h72)) ?_
        refine WCode.seq ?_
        refine WCode.region ?_
        refine WOps.p (G.move rfl) rfl ?_
        refine WOps.p (G.build (cells := #[.int .i64 3, .string (bs ([] : List UInt8)), .int .i64 t13, .int .i64 0]) (evp_spec (evp_cons rfl (evp_cons rfl evp_nil))) (by kernel_rfl)) rfl ?_
        refine WOps.p (G.move rfl) rfl ?_
        obtain ⟨t73, hc74, hF⟩ := bind_some hF
        refine WOps.call T.call31 (evs_cons rfl (evs_cons rfl evs_nil)) rfl ?_
        refine (lw_digits_calls k t13 16 hc74).mono ?_
        rintro _ w75 ⟨rfl, T76⟩
        have S77 := St.callN (As := []) S17 T76
        change St _ _ _ [[(b7, .cells #[.int .i64 0, .string (bs ([] : List UInt8)), .int .i64 0, .int .i64 0] 37 (0, 0))], [(b1, .cells #[.int .i64 a0.What, .int .i64 a0.N, .string (bs a0.S), .slice A0_1 a0.Gap.length c0_1] 41 (0, 0))]] at S77
        refine ⟨_, rfl, ?_⟩
        obtain ⟨m78, hc79, hF⟩ := bind_some hF
        refine WOps.p (G.catb rfl rfl hc79) rfl ?_
        obtain ⟨w80, E81, S82⟩ := St.store (P := Tryd.prog) S77 0 37 (.agg #[.int .i64 3, .string (bs ([] : List UInt8)), .int .i64 t13, .int .i64 0]) (off := 0) (cur' := #[.int .i64 3, .string (bs ([] : List UInt8)), .int .i64 t13, .int .i64 0]) rfl T.size37_4 rfl rfl rfl
        change St _ _ _ [[(b7, .cells #[.int .i64 3, .string (bs ([] : List UInt8)), .int .i64 t13, .int .i64 0] 37 (0, 0))], [(b1, .cells #[.int .i64 a0.What, .int .i64 a0.N, .string (bs a0.S), .slice A0_1 a0.Gap.length c0_1] 41 (0, 0))]] at S82
        refine WOps.u (E81 rfl rfl) ?_
        refine WOps.p (G.assign rfl) rfl ?_
        refine WOps.nil ?_
        refine WEx.then_ ?_
        refine WCode.ret ?_
        refine WEx.in_ret ?_
        refine WEx.then_ret ?_
        obtain rfl := some_eq hF
        refine WEx.retc1 rfl rfl (cs := [.int .i64 3, .string (bs ([] : List UInt8)), .int .i64 t13, .int .i64 0]) T.agg37_4 (cellsAt.of_blk (S82.blk 0 rfl) rfl) rfl ?_
        exact ⟨rfl, St.keep (As := []) S82⟩
      ·
        refine WCode.cond_f (kb (b := decide (a0.What = 2)) rfl (decide_eq_false h72)) ?_
        refine WCode.seq ?_
        refine WCode.region ?_
        refine WOps.p (G.eql rfl rfl rfl) rfl ?_
        refine WOps.p (G.assign rfl) rfl ?_
        refine WOps.nil ?_
        refine WEx.then_ ?_
        rcases ite_some hF with ⟨h83, hF⟩ | ⟨h83, hF⟩
        ·
          refine WCode.cond_t (kb (b := decide (a0.What = 3)) rfl (decide_eq_true h83)) ?_
          refine WCode.seq ?_
          refine WCode.region ?_
          refine WOps.p (G.move rfl) rfl ?_
          refine WOps.p (G.build (cells := #[.int .i64 3, .string (bs ([] : List UInt8)), .int .i64 t13, .int .i64 0]) (evp_spec (evp_cons rfl (evp_cons rfl evp_nil))) (by kernel_rfl)) rfl ?_
          refine WOps.p (G.move rfl) rfl ?_
          obtain ⟨t84, hc85, hF⟩ := bind_some hF
          refine WOps.call T.call31 (evs_cons rfl (evs_cons rfl evs_nil)) rfl ?_
          refine (lw_digits_calls k t13 8 hc85).mono ?_
          rintro _ w86 ⟨rfl, T87⟩
          have S88 := St.callN (As := []) S17 T87
          change St _ _ _ [[(b7, .cells #[.int .i64 0, .string (bs ([] : List UInt8)), .int .i64 0, .int .i64 0] 37 (0, 0))], [(b1, .cells #[.int .i64 a0.What, .int .i64 a0.N, .string (bs a0.S), .slice A0_1 a0.Gap.length c0_1] 41 (0, 0))]] at S88
          refine ⟨_, rfl, ?_⟩
          obtain ⟨m89, hc90, hF⟩ := bind_some hF
          refine WOps.p (G.catb rfl rfl hc90) rfl ?_
          obtain ⟨w91, E92, S93⟩ := St.store (P := Tryd.prog) S88 0 37 (.agg #[.int .i64 3, .string (bs ([] : List UInt8)), .int .i64 t13, .int .i64 0]) (off := 0) (cur' := #[.int .i64 3, .string (bs ([] : List UInt8)), .int .i64 t13, .int .i64 0]) rfl T.size37_4 rfl rfl rfl
          change St _ _ _ [[(b7, .cells #[.int .i64 3, .string (bs ([] : List UInt8)), .int .i64 t13, .int .i64 0] 37 (0, 0))], [(b1, .cells #[.int .i64 a0.What, .int .i64 a0.N, .string (bs a0.S), .slice A0_1 a0.Gap.length c0_1] 41 (0, 0))]] at S93
          refine WOps.u (E92 rfl rfl) ?_
          refine WOps.p (G.assign rfl) rfl ?_
          refine WOps.nil ?_
          refine WEx.then_ ?_
          refine WCode.forget (l' := [(2, .pointer (some ⟨b7, 0, none⟩)), (3, .string (bs m89))]) ⟨rfl, rfl, trivial⟩ ?_
          refine WCode.ret ?_
          refine WEx.in_ret ?_
          refine WEx.then_ret ?_
          obtain rfl := some_eq hF
          refine WEx.retc1 rfl rfl (cs := [.int .i64 3, .string (bs ([] : List UInt8)), .int .i64 t13, .int .i64 0]) T.agg37_4 (cellsAt.of_blk (S93.blk 0 rfl) rfl) rfl ?_
          exact ⟨rfl, St.keep (As := []) S93⟩
        ·
          refine WCode.cond_f (kb (b := decide (a0.What = 3)) rfl (decide_eq_false h83)) ?_
          refine WCode.skip ?_
          refine WEx.in_normal ?_
          refine WEx.then_ ?_
          refine WCode.seq ?_
          refine WCode.region ?_
          refine WOps.p (G.field T.fld41_1 rfl (show 0 + 1 = 1 from rfl)) rfl ?_
          refine WOps.r (G.load1 T.one3 rfl (cell_blk (S17.blk 1 rfl) rfl)) rfl ?_
          obtain ⟨t94, hc95, hF⟩ := bind_some hF
          refine WOps.call T.call29 (evs_cons rfl (evs_cons rfl evs_nil)) rfl ?_
          refine (lw_pick_calls k a0.N 13 hc95).mono ?_
          rintro _ w96 ⟨rfl, T97⟩
          have S98 := St.callN (As := []) S17 T97
          change St _ _ _ [[(b7, .cells #[.int .i64 0, .string (bs ([] : List UInt8)), .int .i64 0, .int .i64 0] 37 (0, 0))], [(b1, .cells #[.int .i64 a0.What, .int .i64 a0.N, .string (bs a0.S), .slice A0_1 a0.Gap.length c0_1] 41 (0, 0))]] at S98
          refine ⟨_, rfl, ?_⟩
          refine WOps.p (G.assign rfl) rfl ?_
          refine WOps.nil ?_
          refine WEx.then_ ?_
          refine WCode.seq ?_
          refine WCode.region ?_
          refine WOps.p (G.move rfl) rfl ?_
          refine WOps.p (G.move rfl) rfl ?_
          refine WOps.p (G.add rfl rfl (r := (w64 (t94 + 1))) rfl) rfl ?_
          obtain ⟨m99, hc100, hF⟩ := bind_some hF
          refine WOps.p (G.cutb_lh T.str9 rfl rfl rfl hc100) rfl ?_
          refine WOps.p (G.assign rfl) rfl ?_
          refine WOps.nil ?_
          refine WEx.then_ ?_
          refine WCode.forget (l' := [(2, .pointer (some ⟨b7, 0, none⟩)), (9, .string (bs m99))]) ⟨rfl, rfl, trivial⟩ ?_
          refine WCode.seq ?_
          refine WCode.region ?_
          refine WOps.p (G.move rfl) rfl ?_
          refine WOps.p (G.build (cells := #[.int .i64 4, .string (bs m99), .int .i64 0, .int .i64 0]) (evp_spec (evp_cons rfl (evp_cons rfl evp_nil))) (by kernel_rfl)) rfl ?_
          refine WOps.p (G.move rfl) rfl ?_
          obtain ⟨w101, E102, S103⟩ := St.store (P := Tryd.prog) S98 0 37 (.agg #[.int .i64 4, .string (bs m99), .int .i64 0, .int .i64 0]) (off := 0) (cur' := #[.int .i64 4, .string (bs m99), .int .i64 0, .int .i64 0]) rfl T.size37_4 rfl rfl rfl
          change St _ _ _ [[(b7, .cells #[.int .i64 4, .string (bs m99), .int .i64 0, .int .i64 0] 37 (0, 0))], [(b1, .cells #[.int .i64 a0.What, .int .i64 a0.N, .string (bs a0.S), .slice A0_1 a0.Gap.length c0_1] 41 (0, 0))]] at S103
          refine WOps.u (E102 rfl rfl) ?_
          refine WOps.p (G.assign rfl) rfl ?_
          refine WOps.nil ?_
          refine WEx.then_ ?_
          refine WCode.ret ?_
          obtain rfl := some_eq hF
          refine WEx.retc1 rfl rfl (cs := [.int .i64 4, .string (bs m99), .int .i64 0, .int .i64 0]) T.agg37_4 (cellsAt.of_blk (S103.blk 0 rfl) rfl) rfl ?_
          exact ⟨rfl, St.keep (As := []) S103⟩

def lw_gap.l1 : Nat → List Int → List UInt8 → Int → Option (List UInt8)
  | 0, _, _, _ => none
  | k5 + 1, a0, s1, x2 => (if x2 < (a0.length : Int) then (Option.bind (idx a0 x2) fun x9 => (Option.bind (lw_pick k5 x9 6) fun t23 => (if t23 = 0 then (Option.bind (cat s1 ([9] : List UInt8)) fun m29 => (lw_gap.l1 k5 a0 m29 (w64 (x2 + 1)))) else (if t23 = 1 then (Option.bind (cat s1 ([10] : List UInt8)) fun m32 => (lw_gap.l1 k5 a0 m32 (w64 (x2 + 1)))) else (if t23 = 2 then (Option.bind (cat s1 ([13] : List UInt8)) fun m35 => (lw_gap.l1 k5 a0 m35 (w64 (x2 + 1)))) else (if t23 = 3 then (Option.bind (cat s1 ([47, 42, 42, 47] : List UInt8)) fun m38 => (lw_gap.l1 k5 a0 m38 (w64 (x2 + 1)))) else (if t23 = 4 then (Option.bind (cat s1 ([47, 42, 32, 97, 59, 123, 32, 47, 32, 42, 32, 47, 47, 32, 42, 47] : List UInt8)) fun m41 => (lw_gap.l1 k5 a0 m41 (w64 (x2 + 1)))) else (Option.bind (cat s1 ([32] : List UInt8)) fun m43 => (lw_gap.l1 k5 a0 m43 (w64 (x2 + 1))))))))))) else (some s1))
def lw_gap (k : Nat) (a0 : List Int) : Option (List UInt8) := (lw_gap.l1 k a0 ([32] : List UInt8) 0)
set_option maxRecDepth 100000 in
set_option maxHeartbeats 1000000 in
theorem lw_gap_calls (k : Nat) (a0 : List Int) {A0 : Option Addr} {c0 : Nat} {F0 : Nat → Prop} {w : World} (hR0 : SlR (Rp.int .i64) w F0 A0 c0 a0) (hF0 : ∀ b, F0 b → NK w [] b) {r_ : (List UInt8)} (h_ : lw_gap k a0 = some r_) :
    Calls Tryd.prog 18 [.slice A0 a0.length c0].toArray w fun e w' => e = .returned (.string (bs r_)) ∧ St w (KS []) w' [] := by
  have hF := h_
  clear h_
  unfold lw_gap at hF
  have S := St.ofFalse (As := []) (St.init0 w)
  refine enter 39 [(0, .slice A0 a0.length c0)] Tryd.func18 rfl rfl rfl rfl ?_
  refine WCode.seq ?_
  refine WCode.region ?_
  refine WOps.p (G.assign rfl) rfl ?_
  refine WOps.nil ?_
  refine WEx.then_ ?_
  refine WCode.seq ?_
  refine WCode.region ?_
  refine WOps.p (G.assign rfl) rfl ?_
  refine WOps.nil ?_
  refine WEx.then_ ?_
  refine WCode.seq ?_
  refine WCode.seq ?_
  refine WCode.region ?_
  refine WOps.p (G.assign rfl) rfl ?_
  refine WOps.nil ?_
  refine WEx.then_ ?_
  refine WCode.block ?_
  refine WCode.forget (l' := [(0, .slice A0 a0.length c0), (3, .string (bs ([32] : List UInt8))), (4, .int .i64 0)]) ⟨rfl, rfl, rfl, trivial⟩ ?_
  refine WCode.loop (fun n_ l_ w_ => ∃ s1 : List UInt8, ∃ x2 : Int, l_ = [(0, .slice A0 a0.length c0), (3, .string (bs s1)), (4, .int .i64 x2)] ∧ lw_gap.l1 n_ a0 s1 x2 = some r_ ∧ St w (KS []) w_ []) k ⟨([32] : List UInt8), 0, rfl, hF, S⟩ ?_
  rintro n6 _ w3 ⟨s1, x2, rfl, hF, S4⟩
  obtain _ | k5 := n6
  · exact nomatch (show (none : Option (List UInt8)) = some r_ from hF)
  rw [lw_gap.l1] at hF
  refine WCode.seq ?_
  refine WCode.seq ?_
  refine WCode.region ?_
  refine WOps.p (G.move rfl) rfl ?_
  refine WOps.p (G.move rfl) rfl ?_
  refine WOps.p (G.len T.el34 rfl) rfl ?_
  refine WOps.p (G.lss rfl rfl rfl) rfl ?_
  refine WOps.nil ?_
  refine WEx.then_ ?_
  rcases ite_some hF with ⟨h8, hF⟩ | ⟨h8, hF⟩
  ·
    refine WCode.cond_t (kb (b := decide (x2 < (a0.length : Int))) rfl (decide_eq_true h8)) ?_
    refine WCode.skip ?_
    refine WEx.then_ ?_
    refine WCode.seq ?_
    refine WCode.block ?_
    refine WCode.seq ?_
    refine WCode.region ?_
    refine WOps.p (G.move rfl) rfl ?_
    refine WOps.p (G.move rfl) rfl ?_
    obtain ⟨x9, hc10, hF⟩ := bind_some hF
    obtain ⟨j11, ej12, hj13, hl14⟩ := idx_spec hc10
    obtain ⟨b15, o16, cs17, eA18, hf19, hc20, hr21⟩ := SlR.at_ (hR0.ext (S4.keepF hF0)) hj13
    have hq22 : cs17 = [.int .i64 x9] := hr21
    subst hq22
    change cellsAt _ _ (o16 + j11 * 1) [.int .i64 x9] at hc20
    refine WOps.p (G.idx T.el34 rfl eA18 rfl ej12 hl14) rfl ?_
    refine WOps.r (G.load1 T.one3 rfl (cellsAt.at0 hc20)) rfl ?_
    obtain ⟨t23, hc24, hF⟩ := bind_some hF
    refine WOps.call T.call29 (evs_cons rfl (evs_cons rfl evs_nil)) rfl ?_
    refine (lw_pick_calls k5 x9 6 hc24).mono ?_
    rintro _ w25 ⟨rfl, T26⟩
    have S27 := St.callN (As := []) S4 T26
    change St _ _ _ [] at S27
    refine ⟨_, rfl, ?_⟩
    refine WOps.nil ?_
    refine WEx.then_ ?_
    refine WCode.block ?_
    refine WCode.seq ?_
    refine WCode.region ?_
    refine WOps.p (G.eql rfl rfl rfl) rfl ?_
    refine WOps.p (G.assign rfl) rfl ?_
    refine WOps.nil ?_
    refine WEx.then_ ?_
    rcases ite_some hF with ⟨h28, hF⟩ | ⟨h28, hF⟩
    ·
      refine WCode.cond_t (kb (b := decide (t23 = 0)) rfl (decide_eq_true h28)) ?_
      refine WCode.region ?_
      refine WOps.p (G.move rfl) rfl ?_
      obtain ⟨m29, hc30, hF⟩ := bind_some hF
      refine WOps.p (G.catb rfl rfl hc30) rfl ?_
      refine WOps.p (G.assign rfl) rfl ?_
      refine WOps.nil ?_
      refine WEx.in_normal ?_
      refine WEx.in_normal ?_
      refine WEx.then_ ?_
      refine WCode.forget (l' := [(0, .slice A0 a0.length c0), (3, .string (bs m29)), (4, .int .i64 x2)]) ⟨rfl, rfl, rfl, trivial⟩ ?_
      refine WCode.region ?_
      refine WOps.p (G.move rfl) rfl ?_
      refine WOps.p (G.add rfl rfl (r := (w64 (x2 + 1))) rfl) rfl ?_
      refine WOps.p (G.assign rfl) rfl ?_
      refine WOps.nil ?_
      refine WEx.again _ _ (by omega) ?_ ⟨m29, w64 (x2 + 1), rfl, hF, S27⟩
      exact ⟨rfl, rfl, rfl, trivial⟩
    ·
      refine WCode.cond_f (kb (b := decide (t23 = 0)) rfl (decide_eq_false h28)) ?_
      refine WCode.seq ?_
      refine WCode.region ?_
      refine WOps.p (G.eql rfl rfl rfl) rfl ?_
      refine WOps.p (G.assign rfl) rfl ?_
      refine WOps.nil ?_
      refine WEx.then_ ?_
      refine WCode.forget (l' := [(0, .slice A0 a0.length c0), (3, .string (bs s1)), (4, .int .i64 x2), (15, .int .i64 t23), (22, .bool (decide (t23 = 1)))]) ⟨rfl, rfl, rfl, rfl, rfl, trivial⟩ ?_
      rcases ite_some hF with ⟨h31, hF⟩ | ⟨h31, hF⟩
      ·
        refine WCode.cond_t (kb (b := decide (t23 = 1)) rfl (decide_eq_true h31)) ?_
        refine WCode.region ?_
        refine WOps.p (G.move rfl) rfl ?_
        obtain ⟨m32, hc33, hF⟩ := bind_some hF
        refine WOps.p (G.catb rfl rfl hc33) rfl ?_
        refine WOps.p (G.assign rfl) rfl ?_
        refine WOps.nil ?_
        refine WEx.in_normal ?_
        refine WEx.in_normal ?_
        refine WEx.then_ ?_
        refine WCode.region ?_
        refine WOps.p (G.move rfl) rfl ?_
        refine WOps.p (G.add rfl rfl (r := (w64 (x2 + 1))) rfl) rfl ?_
        refine WOps.p (G.assign rfl) rfl ?_
        refine WOps.nil ?_
        refine WEx.again _ _ (by omega) ?_ ⟨m32, w64 (x2 + 1), rfl, hF, S27⟩
        exact ⟨rfl, rfl, rfl, trivial⟩
      ·
        refine WCode.cond_f (kb (b := decide (t23 = 1)) rfl (decide_eq_false h31)) ?_
        refine WCode.seq ?_
        refine WCode.region ?_
        refine WOps.p (G.eql rfl rfl rfl) rfl ?_
        refine WOps.p (G.assign rfl) rfl ?_
        refine WOps.nil ?_
        refine WEx.then_ ?_
        rcases ite_some hF with ⟨h34, hF⟩ | ⟨h34, hF⟩
        ·
          refine WCode.cond_t (kb (b := decide (t23 = 2)) rfl (decide_eq_true h34)) ?_
          refine WCode.region ?_
          refine WOps.p (G.move rfl) rfl ?_
          obtain ⟨m35, hc36, hF⟩ := bind_some hF
          refine WOps.p (G.catb rfl rfl hc36) rfl ?_
          refine WOps.p (G.assign rfl) rfl ?_
          refine WOps.nil ?_
          refine WEx.in_normal ?_
          refine WEx.in_normal ?_
          refine WEx.then_ ?_
          refine WCode.region ?_
          refine WOps.p (G.move rfl) rfl ?_
          refine WOps.p (G.add rfl rfl (r := (w64 (x2 + 1))) rfl) rfl ?_
          refine WOps.p (G.assign rfl) rfl ?_
          refine WOps.nil ?_
          refine WEx.again _ _ (by omega) ?_ ⟨m35, w64 (x2 + 1), rfl, hF, S27⟩
          exact ⟨rfl, rfl, rfl, trivial⟩
        ·
          refine WCode.cond_f (kb (b := decide (t23 = 2)) rfl (decide_eq_false h34)) ?_
          refine WCode.seq ?_
          refine WCode.region ?_
          refine WOps.p (G.eql rfl rfl rfl) rfl ?_
          refine WOps.p (G.assign rfl) rfl ?_
          refine WOps.nil ?_
          refine WEx.then_ ?_
          rcases ite_some hF with ⟨h37, hF⟩ | ⟨h37, hF⟩
          ·
            refine WCode.cond_t (kb (b := decide (t23 = 3)) rfl (decide_eq_true h37)) ?_
            refine WCode.region ?_
            refine WOps.p (G.move rfl) rfl ?_
            obtain ⟨m38, hc39, hF⟩ := bind_some hF
            refine WOps.p (G.catb rfl rfl hc39) rfl ?_
            refine WOps.p (G.assign rfl) rfl ?_
            refine WOps.nil ?_
            refine WEx.in_normal ?_
            refine WEx.in_normal ?_
            refine WEx.then_ ?_
            refine WCode.region ?_
            refine WOps.p (G.move rfl) rfl ?_
            refine WOps.p (G.add rfl rfl (r := (w64 (x2 + 1))) rfl) rfl ?_
            refine WOps.p (G.assign rfl) rfl ?_
            refine WOps.nil ?_
            refine WEx.again _ _ (by omega) ?_ ⟨m38, w64 (x2 + 1), rfl, hF, S27⟩
            exact ⟨rfl, rfl, rfl, trivial⟩
          ·
            refine WCode.cond_f (kb (b := decide (t23 = 3)) rfl (decide_eq_false h37)) ?_
            refine WCode.seq ?_
            refine WCode.region ?_
            refine WOps.p (G.eql rfl rfl rfl) rfl ?_
            refine WOps.p (G.assign rfl) rfl ?_
            refine WOps.nil ?_
            refine WEx.then_ ?_
            rcases ite_some hF with ⟨h40, hF⟩ | ⟨h40, hF⟩
            ·
              refine WCode.cond_t (kb (b := decide (t23 = 4)) rfl (decide_eq_true h40)) ?_
              refine WCode.region ?_
              refine WOps.p (G.move rfl) rfl ?_
              obtain ⟨m41, hc42, hF⟩ := bind_some hF
              refine WOps.p (G.catb rfl rfl hc42) rfl ?_
              refine WOps.p (G.assign rfl) rfl ?_
              refine WOps.nil ?_
              refine WEx.in_normal ?_
              refine WEx.in_normal ?_
              refine WEx.then_ ?_
              refine WCode.forget (l' := [(0, .slice A0 a0.length c0), (3, .string (bs m41)), (4, .int .i64 x2)]) ⟨rfl, rfl, rfl, trivial⟩ ?_
              refine WCode.region ?_
              refine WOps.p (G.move rfl) rfl ?_
              refine WOps.p (G.add rfl rfl (r := (w64 (x2 + 1))) rfl) rfl ?_
              refine WOps.p (G.assign rfl) rfl ?_
              refine WOps.nil ?_
              refine WEx.again _ _ (by omega) ?_ ⟨m41, w64 (x2 + 1), rfl, hF, S27⟩
              exact ⟨rfl, rfl, rfl, trivial⟩
            ·
              refine WCode.cond_f (kb (b := decide (t23 = 4)) rfl (decide_eq_false h40)) ?_
              refine WCode.region ?_
              refine WOps.p (G.move rfl) rfl ?_
              obtain ⟨m43, hc44, hF⟩ := bind_some hF
              refine WOps.p (G.catb rfl rfl hc44) rfl ?_
              refine WOps.p (G.assign rfl) rfl ?_
              refine WOps.nil ?_
              refine WEx.in_normal ?_
              refine WEx.in_normal ?_
              refine WEx.then_ ?_
              refine WCode.forget (l' := [(0, .slice A0 a0.length c0), (3, .string (bs m43)), (4, .int .i64 x2)]) ⟨rfl, rfl, rfl, trivial⟩ ?_
              refine WCode.region ?_
              refine WOps.p (G.move rfl) rfl ?_
              refine WOps.p (G.add rfl rfl (r := (w64 (x2 + 1))) rfl) rfl ?_
              refine WOps.p (G.assign rfl) rfl ?_
              refine WOps.nil ?_
              refine WEx.again _ _ (by omega) ?_ ⟨m43, w64 (x2 + 1), rfl, hF, S27⟩
              exact ⟨rfl, rfl, rfl, trivial⟩
  ·
    refine WCode.cond_f (kb (b := decide (x2 < (a0.length : Int))) rfl (decide_eq_false h8)) ?_
    refine WCode.exit ?_
    refine WEx.then_exit ?_
    refine WEx.then_exit ?_
    refine WEx.in_exit ?_
    refine WEx.then_ ?_
    refine WCode.seq ?_
    refine WCode.region ?_
    refine WOps.p (G.move rfl) rfl ?_
    refine WOps.p (G.assign rfl) rfl ?_
    refine WOps.nil ?_
    refine WEx.then_ ?_
    refine WCode.ret ?_
    obtain rfl := some_eq hF
    refine WEx.ret1 rfl rfl ?_
    exact ⟨rfl, St.keep (As := []) S4⟩

mutual
def lw_long.j1 : Nat → List Piece → Int → Int → Bool → Option Bool
  | 0, _, _, _, _ => none
  | k14 + 1, a0, x1, x2, b8 => (if b8 = true then (Option.bind (idx a0 x2) fun x16 => (lw_long.l1 k14 a0 (w64 ((w64 (x1 + 40)) + (w64 (20 * (min (x16.Gap.length : Int) 2147483647))))) (w64 (x2 + 1)))) else (some (decide (2147483647 < x1))))
def lw_long.l1 : Nat → List Piece → Int → Int → Option Bool
  | 0, _, _, _ => none
  | k5 + 1, a0, x1, x2 => (if x2 < (a0.length : Int) then (lw_long.j1 k5 a0 x1 x2 (decide (x1 ≤ 2147483647))) else (lw_long.j1 k5 a0 x1 x2 false))
end
def lw_long (k : Nat) (a0 : List Piece) (a1 : List Int) : Option Bool := (lw_long.l1 k a0 (w64 (20 * (min (a1.length : Int) 2147483647))) 0)
set_option maxRecDepth 100000 in
set_option maxHeartbeats 1000000 in
theorem lw_long_calls (k : Nat) (a0 : List Piece) {A0 : Option Addr} {c0 : Nat} {F0 : Nat → Prop} (a1 : List Int) {A1 : Option Addr} {c1 : Nat} {F1 : Nat → Prop} {w : World} (hR0 : SlR Piece.rp w F0 A0 c0 a0) (hF0 : ∀ b, F0 b → NK w [] b) (hR1 : SlR (Rp.int .i64) w F1 A1 c1 a1) (hF1 : ∀ b, F1 b → NK w [] b) {r_ : Bool} (h_ : lw_long k a0 a1 = some r_) :
    Calls Tryd.prog 16 [.slice A0 a0.length c0, .slice A1 a1.length c1].toArray w fun e w' => e = .returned (.bool r_) ∧ St w (KS []) w' [] := by
  have hF := h_
  clear h_
  unfold lw_long at hF
  have S := St.ofFalse (As := []) (St.init0 w)
  refine enter 34 [(0, .slice A0 a0.length c0), (1, .slice A1 a1.length c1)] Tryd.func16 rfl rfl rfl rfl ?_
  refine WCode.seq ?_
  refine WCode.region ?_
  refine WOps.p (G.assign rfl) rfl ?_
  refine WOps.nil ?_
  refine WEx.then_ ?_
  refine WCode.seq ?_
  refine WCode.region ?_
  refine WOps.p (G.move rfl) rfl ?_
  refine WOps.p (G.len T.el34 rfl) rfl ?_
  refine WOps.p (G.min rfl rfl (int_min (a1.length : Int) 2147483647)) rfl ?_
  refine WOps.p (G.mul rfl rfl (r := (w64 (20 * (min (a1.length : Int) 2147483647)))) rfl) rfl ?_
  refine WOps.p (G.assign rfl) rfl ?_
  refine WOps.nil ?_
  refine WEx.then_ ?_
  refine WCode.seq ?_
  refine WCode.seq ?_
  refine WCode.region ?_
  refine WOps.p (G.assign rfl) rfl ?_
  refine WOps.nil ?_
  refine WEx.then_ ?_
  refine WCode.block ?_
  refine WCode.forget (l' := [(0, .slice A0 a0.length c0), (5, .int .i64 (w64 (20 * (min (a1.length : Int) 2147483647)))), (6, .int .i64 0)]) ⟨rfl, rfl, rfl, trivial⟩ ?_
  refine WCode.loop (fun n_ l_ w_ => ∃ x1 : Int, ∃ x2 : Int, l_ = [(0, .slice A0 a0.length c0), (5, .int .i64 x1), (6, .int .i64 x2)] ∧ lw_long.l1 n_ a0 x1 x2 = some r_ ∧ St w (KS []) w_ []) k ⟨w64 (20 * (min (a1.length : Int) 2147483647)), 0, rfl, hF, S⟩ ?_
  rintro n6 _ w3 ⟨x1, x2, rfl, hF, S4⟩
  obtain _ | k5 := n6
  · exact nomatch (show (none : Option Bool) = some r_ from hF)
  rw [lw_long.l1] at hF
  refine WCode.seq ?_
  refine WCode.cutseq (fun l_ w_ => ∃ q11 : Nat, ∃ b8 : Bool, l_ = [(0, .slice A0 a0.length c0), (5, .int .i64 x1), (6, .int .i64 x2), (18, .bool b8)] ∧ lw_long.j1 q11 a0 x1 x2 b8 = some r_ ∧ q11 ≤ k5 ∧ St w (KS []) w_ []) ?_ ?_
  ·
    refine WCode.region ?_
    refine WOps.p (G.move rfl) rfl ?_
    refine WOps.p (G.move rfl) rfl ?_
    refine WOps.p (G.len T.el33 rfl) rfl ?_
    refine WOps.p (G.lss rfl rfl rfl) rfl ?_
    refine WOps.p (G.move rfl) rfl ?_
    rcases ite_some hF with ⟨h13, hF⟩ | ⟨h13, hF⟩
    ·
      refine WOps.on rfl (kbl (b := decide (x2 < (a0.length : Int))) rfl (decide_eq_true h13)) ?_
      refine WOps.p (G.move rfl) rfl ?_
      refine WOps.on rfl (kbl (b := decide (x2 < (a0.length : Int))) rfl (decide_eq_true h13)) ?_
      refine WOps.p (G.leq rfl rfl rfl) rfl ?_
      refine WOps.p (G.pick_t (kb (b := decide (x2 < (a0.length : Int))) rfl (decide_eq_true h13)) rfl) rfl ?_
      refine WOps.nil ?_
      refine WEx.cutend _ ?_ ⟨k5, decide (x1 ≤ 2147483647), rfl, hF, (by omega), S4⟩
      exact ⟨rfl, rfl, rfl, rfl, trivial⟩
    ·
      refine WOps.off rfl (kbl (b := decide (x2 < (a0.length : Int))) rfl (decide_eq_false h13)) rfl rfl ?_
      refine WOps.off rfl (kbl (b := decide (x2 < (a0.length : Int))) rfl (decide_eq_false h13)) rfl rfl ?_
      refine WOps.p (G.pick_f (kb (b := decide (x2 < (a0.length : Int))) rfl (decide_eq_false h13)) rfl) rfl ?_
      refine WOps.nil ?_
      refine WEx.cutend _ ?_ ⟨k5, false, rfl, hF, (by omega), S4⟩
      exact ⟨rfl, rfl, rfl, rfl, trivial⟩
  ·
    rintro _ w9 ⟨q11, b8, rfl, hF, hq12, S10⟩
    obtain _ | k14 := q11
    · exact nomatch (show (none : Option Bool) = some r_ from hF)
    rw [lw_long.j1] at hF
    rcases ite_some hF with ⟨h15, hF⟩ | ⟨h15, hF⟩
    ·
      refine WCode.cond_t (kb (b := b8) rfl h15) ?_
      refine WCode.skip ?_
      refine WEx.then_ ?_
      refine WCode.seq ?_
      refine WCode.block ?_
      refine WCode.region ?_
      refine WOps.p (G.move rfl) rfl ?_
      refine WOps.p (G.add rfl rfl (r := (w64 (x1 + 40))) rfl) rfl ?_
      refine WOps.p (G.move rfl) rfl ?_
      refine WOps.p (G.move rfl) rfl ?_
      obtain ⟨x16, hc17, hF⟩ := bind_some hF
      obtain ⟨j18, ej19, hj20, hl21⟩ := idx_spec hc17
      obtain ⟨b22, o23, cs24, eA25, hf26, hc27, hr28⟩ := SlR.at_ hR0 hj20
      obtain ⟨A29, c30, hq32, hR31⟩ := hr28
      subst hq32
      have hc27 := hc27.move (S10.keepF hF0 _ hf26)
      change cellsAt _ _ (o23 + j18 * 4) [.int .i64 x16.What, .int .i64 x16.N, .string (bs x16.S), .slice A29 x16.Gap.length c30] at hc27
      refine WOps.p (G.idx T.el33 rfl eA25 rfl ej19 hl21) rfl ?_
      refine WOps.p (G.field T.fld41_3 rfl (show o23 + j18 * 4 + 3 = o23 + j18 * 4 + 3 from rfl)) rfl ?_
      refine WOps.r (G.load1 T.one34 rfl (cellsAt.at hc27 3 rfl)) rfl ?_
      refine WOps.p (G.len T.el34 rfl) rfl ?_
      refine WOps.p (G.min rfl rfl (int_min (x16.Gap.length : Int) 2147483647)) rfl ?_
      refine WOps.p (G.mul rfl rfl (r := (w64 (20 * (min (x16.Gap.length : Int) 2147483647)))) rfl) rfl ?_
      refine WOps.p (G.add rfl rfl (r := (w64 ((w64 (x1 + 40)) + (w64 (20 * (min (x16.Gap.length : Int) 2147483647)))))) rfl) rfl ?_
      refine WOps.p (G.assign rfl) rfl ?_
      refine WOps.nil ?_
      refine WEx.in_normal ?_
      refine WEx.then_ ?_
      refine WCode.forget (l' := [(0, .slice A0 a0.length c0), (5, .int .i64 (w64 ((w64 (x1 + 40)) + (w64 (20 * (min (x16.Gap.length : Int) 2147483647)))))), (6, .int .i64 x2)]) ⟨rfl, rfl, rfl, trivial⟩ ?_
      refine WCode.region ?_
      refine WOps.p (G.move rfl) rfl ?_
      refine WOps.p (G.add rfl rfl (r := (w64 (x2 + 1))) rfl) rfl ?_
      refine WOps.p (G.assign rfl) rfl ?_
      refine WOps.nil ?_
      refine WEx.again _ _ (by omega) ?_ ⟨w64 ((w64 (x1 + 40)) + (w64 (20 * (min (x16.Gap.length : Int) 2147483647)))), w64 (x2 + 1), rfl, hF, S10⟩
      exact ⟨rfl, rfl, rfl, trivial⟩
    ·
      refine WCode.cond_f (kb (b := b8) rfl (Bool.eq_false_iff.2 h15)) ?_
      refine WCode.exit ?_
      refine WEx.then_exit ?_
      refine WEx.then_exit ?_
      refine WEx.in_exit ?_
      refine WEx.then_ ?_
      refine WCode.seq ?_
      refine WCode.region ?_
      refine WOps.p (G.move rfl) rfl ?_
      refine WOps.p (G.gtr rfl rfl rfl) rfl ?_
      refine WOps.p (G.assign rfl) rfl ?_
      refine WOps.nil ?_
      refine WEx.then_ ?_
      refine WCode.ret ?_
      obtain rfl := some_eq hF
      refine WEx.ret1 rfl rfl ?_
      exact ⟨rfl, St.keep (As := []) S10⟩

def law_Parts.j4 (q193 : Nat) (b190 : Bool) : Option Bool := (some b190)
def law_Parts.j3 (q153 : Nat) (t7 : Bool) (l15 : List Token) (s150 : List UInt8) : Option Bool := (Option.bind (cat l15 ([(⟨5, ([] : List UInt8), 0, (s150.length : Int)⟩ : Token)] : List Token)) fun l169 => (Option.bind (lx_Scan q153 s150) fun t180 => (if 16000 < (s150.length : Int) then (if t7 = true then (if t180.2.1 = 34 then (if t180.2.2 = 16000 then (law_Parts.j4 q153 (decide (((t180.1).length : Int) = 0))) else (law_Parts.j4 q153 false)) else (law_Parts.j4 q153 false)) else (law_Parts.j4 q153 false)) else (Option.bind (lw_same q153 (t180.1) l169) fun t202 => (if t7 = true then (if t202 = true then (if t180.2.1 = 0 then (some (decide (t180.2.2 = 0))) else (some false)) else (some false)) else (some false))))))
def law_Parts.j1 (q20 : Nat) (a1 : List Int) (t7 : Bool) (s12 : List UInt8) (l15 : List Token) : Option Bool := (if 0 < (a1.length : Int) then (Option.bind (lw_gap q20 a1) fun t156 => (Option.bind (cat s12 t156) fun m161 => (law_Parts.j3 q20 t7 l15 m161))) else (law_Parts.j3 q20 t7 l15 s12))
mutual
def law_Parts.j2 : Nat → List Piece → List Int → Bool → List UInt8 → List Token → Int → Token × (List UInt8) → List UInt8 → Option Bool
  | 0, _, _, _, _, _, _, _, _ => none
  | k124 + 1, a0, a1, t7, s22, l25, x29, t55, s91 => (Option.bind (cat s22 s91) fun m125 => (Option.bind (cat m125 t55.2) fun m130 => (Option.bind (cat l25 ([(⟨t55.1.Kind, t55.1.Text, t55.1.Number, (m125.length : Int)⟩ : Token)] : List Token)) fun l138 => (law_Parts.l1 k124 a0 a1 t7 m130 l138 t55.1.Kind (w64 (x29 + 1))))))
def law_Parts.l1 : Nat → List Piece → List Int → Bool → List UInt8 → List Token → Int → Int → Option Bool
  | 0, _, _, _, _, _, _, _ => none
  | k32 + 1, a0, a1, t7, s22, l25, x28, x29 => (if x29 < (a0.length : Int) then (Option.bind (idx a0 x29) fun x38 => (Option.bind (lw_token k32 x38) fun t55 => (Option.bind (idx a0 x29) fun x69 => (Option.bind (lw_gap k32 x69.Gap) fun t86 => (Option.bind (idx a0 x29) fun x96 => (if (x96.Gap.length : Int) = 0 then (if x28 = 4 then (law_Parts.j2 k32 a0 a1 t7 s22 l25 x29 t55 ([] : List UInt8)) else (if t55.1.Kind = 4 then (law_Parts.j2 k32 a0 a1 t7 s22 l25 x29 t55 ([] : List UInt8)) else (law_Parts.j2 k32 a0 a1 t7 s22 l25 x29 t55 t86))) else (law_Parts.j2 k32 a0 a1 t7 s22 l25 x29 t55 t86))))))) else (law_Parts.j1 k32 a1 t7 s22 l25))
end
def law_Parts (k : Nat) (a0 : List Piece) (a1 : List Int) : Option Bool := (Option.bind (lw_long k a0 a1) fun t1 => (if t1 = true then (some true) else (Option.bind (lw_known k) fun t7 => (law_Parts.l1 k a0 a1 t7 ([] : List UInt8) [] 4 0))))
set_option maxRecDepth 100000 in
set_option maxHeartbeats 1000000 in
theorem law_Parts_calls (k : Nat) (a0 : List Piece) {A0 : Option Addr} {c0 : Nat} {F0 : Nat → Prop} (a1 : List Int) {A1 : Option Addr} {c1 : Nat} {F1 : Nat → Prop} {FG : Nat → Prop} {w : World} (hR0 : SlR Piece.rp w F0 A0 c0 a0) (hF0 : ∀ b, F0 b → NK w [] b) (hR1 : SlR (Rp.int .i64) w F1 A1 c1 a1) (hF1 : ∀ b, F1 b → NK w [] b) (hGl : Glob FG w) (hFG : ∀ b, FG b → NK w [] b) {r_ : Bool} (h_ : law_Parts k a0 a1 = some r_) :
    Calls Tryd.prog 5 [.slice A0 a0.length c0, .slice A1 a1.length c1].toArray w fun e w' => e = .returned (.bool r_) ∧ St w (KS []) w' [] := by
  have hF := h_
  clear h_
  unfold law_Parts at hF
  have S := St.ofFalse (As := []) (St.init0 w)
  refine enter 123 [(0, .slice A0 a0.length c0), (1, .slice A1 a1.length c1)] Tryd.func5 rfl rfl rfl rfl ?_
  refine WCode.seq ?_
  refine WCode.region ?_
  refine WOps.p (G.assign rfl) rfl ?_
  refine WOps.nil ?_
  refine WEx.then_ ?_
  refine WCode.seq ?_
  refine WCode.seq ?_
  refine WCode.region ?_
  refine WOps.p (G.move rfl) rfl ?_
  refine WOps.p (G.move rfl) rfl ?_
  obtain ⟨t1, hc2, hF⟩ := bind_some hF
  refine WOps.call T.call16 (evs_cons rfl (evs_cons rfl evs_nil)) rfl ?_
  refine (lw_long_calls k a0 a1 (hR0.ext (S.keepF hF0)) (St.outF (Bs := []) S hF0) (hR1.ext (S.keepF hF1)) (St.outF (Bs := []) S hF1) hc2).mono ?_
  rintro _ w3 ⟨rfl, T4⟩
  have S5 := St.callN (As := []) S T4
  change St _ _ _ [] at S5
  refine ⟨_, rfl, ?_⟩
  refine WOps.nil ?_
  refine WEx.then_ ?_
  rcases ite_some hF with ⟨h6, hF⟩ | ⟨h6, hF⟩
  ·
    refine WCode.cond_t (kb (b := t1) rfl h6) ?_
    refine WCode.seq ?_
    refine WCode.region ?_
    refine WOps.p (G.assign rfl) rfl ?_
    refine WOps.nil ?_
    refine WEx.then_ ?_
    refine WCode.ret ?_
    refine WEx.then_ret ?_
    obtain rfl := some_eq hF
    refine WEx.ret1 rfl rfl ?_
    exact ⟨rfl, St.keep (As := []) S5⟩
  ·
    refine WCode.cond_f (kb (b := t1) rfl (Bool.eq_false_iff.2 h6)) ?_
    refine WCode.skip ?_
    refine WEx.then_ ?_
    refine WCode.seq ?_
    refine WCode.region ?_
    obtain ⟨t7, hc8, hF⟩ := bind_some hF
    refine WOps.call T.call7 evs_nil rfl ?_
    refine (lw_known_calls k (hGl.ext (S5.keepF hFG)) (St.outF (Bs := []) S5 hFG) hc8).mono ?_
    rintro _ w9 ⟨rfl, T10⟩
    have S11 := St.callN (As := []) S5 T10
    change St _ _ _ [] at S11
    refine ⟨_, rfl, ?_⟩
    refine WOps.p (G.assign rfl) rfl ?_
    refine WOps.nil ?_
    refine WEx.then_ ?_
    refine WCode.seq ?_
    refine WCode.region ?_
    refine WOps.p (G.assign rfl) rfl ?_
    refine WOps.nil ?_
    refine WEx.then_ ?_
    refine WCode.seq ?_
    refine WCode.region ?_
    refine WOps.p (G.assign rfl) rfl ?_
    refine WOps.nil ?_
    refine WEx.then_ ?_
    refine WCode.seq ?_
    refine WCode.region ?_
    refine WOps.p (G.assign rfl) rfl ?_
    refine WOps.nil ?_
    refine WEx.then_ ?_
    refine WCode.cutseq (fun l_ w_ => ∃ q20 : Nat, ∃ s12 : List UInt8, ∃ A13 : Option Addr, ∃ c14 : Nat, ∃ l15 : List Token, ∃ G16 : Grp, l_ = [(1, .slice A1 a1.length c1), (5, .bool t7), (6, .string (bs s12)), (7, .slice A13 l15.length c14)] ∧ law_Parts.j1 q20 a1 t7 s12 l15 = some r_ ∧ (SlO 37 Token.rp (.slice A13 l15.length c14) l15 G16) ∧ St w (KS []) w_ [G16]) ?_ ?_
    ·
      refine WCode.seq ?_
      refine WCode.region ?_
      refine WOps.p (G.assign rfl) rfl ?_
      refine WOps.nil ?_
      refine WEx.then_ ?_
      refine WCode.block ?_
      have S34 := S11.emp
      refine WCode.forget (l' := [(0, .slice A0 a0.length c0), (1, .slice A1 a1.length c1), (5, .bool t7), (6, .string (bs ([] : List UInt8))), (7, .slice none 0 0), (8, .int .i64 4), (9, .int .i64 0)]) ⟨rfl, rfl, rfl, rfl, rfl, rfl, rfl, trivial⟩ ?_
      refine WCode.loop (fun n_ l_ w_ => ∃ s22 : List UInt8, ∃ A23 : Option Addr, ∃ c24 : Nat, ∃ l25 : List Token, ∃ G26 : Grp, ∃ x28 : Int, ∃ x29 : Int, l_ = [(0, .slice A0 a0.length c0), (1, .slice A1 a1.length c1), (5, .bool t7), (6, .string (bs s22)), (7, .slice A23 l25.length c24), (8, .int .i64 x28), (9, .int .i64 x29)] ∧ law_Parts.l1 n_ a0 a1 t7 s22 l25 x28 x29 = some r_ ∧ (SlO 37 Token.rp (.slice A23 l25.length c24) l25 G26) ∧ St w (KS []) w_ [G26]) k ⟨([] : List UInt8), none, 0, [], ([] : Grp), 4, 0, rfl, hF, (SlO.nil 37 Token.rp), S34⟩ ?_
      rintro n33 _ w30 ⟨s22, A23, c24, l25, G26, x28, x29, rfl, hF, hO27, S31⟩
      obtain _ | k32 := n33
      · exact nomatch (show (none : Option Bool) = some r_ from hF)
      rw [law_Parts.l1] at hF
      refine WCode.seq ?_
      refine WCode.seq ?_
      refine WCode.region ?_
      refine WOps.p (G.move rfl) rfl ?_
      refine WOps.p (G.move rfl) rfl ?_
      refine WOps.p (G.len T.el33 rfl) rfl ?_
      refine WOps.p (G.lss rfl rfl rfl) rfl ?_
      refine WOps.nil ?_
      refine WEx.then_ ?_
      rcases ite_some hF with ⟨h37, hF⟩ | ⟨h37, hF⟩
      ·
        refine WCode.cond_t (kb (b := decide (x29 < (a0.length : Int))) rfl (decide_eq_true h37)) ?_
        refine WCode.skip ?_
        refine WEx.then_ ?_
        refine WCode.seq ?_
        refine WCode.block ?_
        refine WCode.seq ?_
        refine WCode.region ?_
        refine WOps.p (G.move rfl) rfl ?_
        refine WOps.p (G.move rfl) rfl ?_
        obtain ⟨x38, hc39, hF⟩ := bind_some hF
        obtain ⟨j40, ej41, hj42, hl43⟩ := idx_spec hc39
        obtain ⟨b44, o45, cs46, eA47, hf48, hc49, hr50⟩ := SlR.at_ hR0 hj42
        obtain ⟨A51, c52, hq54, hR53⟩ := hr50
        subst hq54
        have hc49 := hc49.move (S31.keepF hF0 _ hf48)
        change cellsAt _ _ (o45 + j40 * 4) [.int .i64 x38.What, .int .i64 x38.N, .string (bs x38.S), .slice A51 x38.Gap.length c52] at hc49
        refine WOps.p (G.idx T.el33 rfl eA47 rfl ej41 hl43) rfl ?_
        refine WOps.r (G.loada T.agg41_4 rfl (cs := [.int .i64 x38.What, .int .i64 x38.N, .string (bs x38.S), .slice A51 x38.Gap.length c52]) hc49) rfl ?_
        obtain ⟨t55, hc56, hF⟩ := bind_some hF
        refine WOps.call T.call17 (evs_cons rfl evs_nil) rfl ?_
        refine (lw_token_calls k32 x38 (hR53.ext (S31.keepF hF0)) (St.outF (Bs := []) S31 hF0) (hGl.ext (S31.keepF hFG)) (St.outF (Bs := []) S31 hFG) hc56).mono ?_
        rintro _ w57 ⟨rfl, T58⟩
        have S59 := St.callN (As := []) S31 T58
        change St _ _ _ [G26] at S59
        refine ⟨_, rfl, ?_⟩
        refine WOps.p (G.move rfl) rfl ?_
        refine WOps.p (G.extract rfl rfl) rfl ?_
        refine WOps.p (G.extract rfl rfl) rfl ?_
        obtain ⟨b60, w61, E62, S63, X64, L65⟩ := St.var S59 (z := .agg #[.int .i64 0, .string (bs ([] : List UInt8)), .int .i64 0, .int .i64 0]) T.zero37
        change St _ _ _ [[(b60, .cells #[.int .i64 0, .string (bs ([] : List UInt8)), .int .i64 0, .int .i64 0] 37 (0, 0))], G26] at S63
        refine WOps.e E62 rfl ?_
        obtain ⟨w66, E67, S68⟩ := St.store (P := Tryd.prog) S63 0 37 (.agg #[.int .i64 t55.1.Kind, .string (bs t55.1.Text), .int .i64 t55.1.Number, .int .i64 t55.1.At]) (off := 0) (cur' := #[.int .i64 t55.1.Kind, .string (bs t55.1.Text), .int .i64 t55.1.Number, .int .i64 t55.1.At]) rfl T.size37_4 rfl rfl rfl
        change St _ _ _ [[(b60, .cells #[.int .i64 t55.1.Kind, .string (bs t55.1.Text), .int .i64 t55.1.Number, .int .i64 t55.1.At] 37 (0, 0))], G26] at S68
        refine WOps.u (E67 rfl rfl) ?_
        refine WOps.p (G.assign rfl) rfl ?_
        refine WOps.nil ?_
        refine WEx.then_ ?_
        refine WCode.forget (l' := [(0, .slice A0 a0.length c0), (1, .slice A1 a1.length c1), (5, .bool t7), (6, .string (bs s22)), (7, .slice A23 l25.length c24), (8, .int .i64 x28), (9, .int .i64 x29), (10, .pointer (some ⟨b60, 0, none⟩)), (11, .string (bs t55.2))]) ⟨rfl, rfl, rfl, rfl, rfl, rfl, rfl, rfl, rfl, trivial⟩ ?_
        refine WCode.seq ?_
        refine WCode.region ?_
        refine WOps.p (G.move rfl) rfl ?_
        refine WOps.p (G.move rfl) rfl ?_
        obtain ⟨x69, hc70, hF⟩ := bind_some hF
        obtain ⟨j71, ej72, hj73, hl74⟩ := idx_spec hc70
        obtain ⟨b75, o76, cs77, eA78, hf79, hc80, hr81⟩ := SlR.at_ hR0 hj73
        obtain ⟨A82, c83, hq85, hR84⟩ := hr81
        subst hq85
        have hc80 := hc80.move (S68.keepF hF0 _ hf79)
        change cellsAt _ _ (o76 + j71 * 4) [.int .i64 x69.What, .int .i64 x69.N, .string (bs x69.S), .slice A82 x69.Gap.length c83] at hc80
        refine WOps.p (G.idx T.el33 rfl eA78 rfl ej72 hl74) rfl ?_
        refine WOps.p (G.field T.fld41_3 rfl (show o76 + j71 * 4 + 3 = o76 + j71 * 4 + 3 from rfl)) rfl ?_
        refine WOps.r (G.load1 T.one34 rfl (cellsAt.at hc80 3 rfl)) rfl ?_
        obtain ⟨t86, hc87, hF⟩ := bind_some hF
        refine WOps.call T.call18 (evs_cons rfl evs_nil) rfl ?_
        refine (lw_gap_calls k32 x69.Gap (hR84.ext (S68.keepF hF0)) (St.outF (Bs := []) S68 hF0) hc87).mono ?_
        rintro _ w88 ⟨rfl, T89⟩
        have S90 := St.callN (As := []) S68 T89
        change St _ _ _ [[(b60, .cells #[.int .i64 t55.1.Kind, .string (bs t55.1.Text), .int .i64 t55.1.Number, .int .i64 t55.1.At] 37 (0, 0))], G26] at S90
        refine ⟨_, rfl, ?_⟩
        refine WOps.p (G.assign rfl) rfl ?_
        refine WOps.nil ?_
        refine WEx.then_ ?_
        refine WCode.cutseq (fun l_ w_ => ∃ q94 : Nat, ∃ s91 : List UInt8, l_ = [(0, .slice A0 a0.length c0), (1, .slice A1 a1.length c1), (5, .bool t7), (6, .string (bs s22)), (7, .slice A23 l25.length c24), (9, .int .i64 x29), (10, .pointer (some ⟨b60, 0, none⟩)), (11, .string (bs t55.2)), (12, .string (bs s91))] ∧ law_Parts.j2 q94 a0 a1 t7 s22 l25 x29 t55 s91 = some r_ ∧ q94 ≤ k32 ∧ St w (KS []) w_ [[(b60, .cells #[.int .i64 t55.1.Kind, .string (bs t55.1.Text), .int .i64 t55.1.Number, .int .i64 t55.1.At] 37 (0, 0))], G26]) ?_ ?_
        ·
          refine WCode.seq ?_
          refine WCode.region ?_
          refine WOps.p (G.move rfl) rfl ?_
          refine WOps.p (G.move rfl) rfl ?_
          obtain ⟨x96, hc97, hF⟩ := bind_some hF
          obtain ⟨j98, ej99, hj100, hl101⟩ := idx_spec hc97
          obtain ⟨b102, o103, cs104, eA105, hf106, hc107, hr108⟩ := SlR.at_ hR0 hj100
          obtain ⟨A109, c110, hq112, hR111⟩ := hr108
          subst hq112
          have hc107 := hc107.move (S90.keepF hF0 _ hf106)
          change cellsAt _ _ (o103 + j98 * 4) [.int .i64 x96.What, .int .i64 x96.N, .string (bs x96.S), .slice A109 x96.Gap.length c110] at hc107
          refine WOps.p (G.idx T.el33 rfl eA105 rfl ej99 hl101) rfl ?_
          refine WOps.p (G.field T.fld41_3 rfl (show o103 + j98 * 4 + 3 = o103 + j98 * 4 + 3 from rfl)) rfl ?_
          refine WOps.r (G.load1 T.one34 rfl (cellsAt.at hc107 3 rfl)) rfl ?_
          refine WOps.p (G.len T.el34 rfl) rfl ?_
          refine WOps.p (G.eql rfl rfl rfl) rfl ?_
          refine WOps.p (G.move rfl) rfl ?_
          rcases ite_some hF with ⟨h113, hF⟩ | ⟨h113, hF⟩
          ·
            refine WOps.on rfl (kbl (b := decide ((x96.Gap.length : Int) = 0)) rfl (decide_eq_true h113)) ?_
            refine WOps.p (G.move rfl) rfl ?_
            refine WOps.on rfl (kbl (b := decide ((x96.Gap.length : Int) = 0)) rfl (decide_eq_true h113)) ?_
            refine WOps.p (G.eql rfl rfl rfl) rfl ?_
            refine WOps.on rfl (kbl (b := decide ((x96.Gap.length : Int) = 0)) rfl (decide_eq_true h113)) ?_
            refine WOps.p (G.move rfl) rfl ?_
            rcases ite_some hF with ⟨h114, hF⟩ | ⟨h114, hF⟩
            ·
              refine WOps.off rfl (kbl (b := decide (x28 = 4)) rfl (decide_eq_true h114)) rfl rfl ?_
              refine WOps.off rfl (kbl (b := decide (x28 = 4)) rfl (decide_eq_true h114)) rfl rfl ?_
              refine WOps.off rfl (kbl (b := decide (x28 = 4)) rfl (decide_eq_true h114)) rfl rfl ?_
              refine WOps.on rfl (kbl (b := decide ((x96.Gap.length : Int) = 0)) rfl (decide_eq_true h113)) ?_
              refine WOps.p (G.pick_t (kb (b := decide (x28 = 4)) rfl (decide_eq_true h114)) rfl) rfl ?_
              refine WOps.p (G.pick_t (kb (b := decide ((x96.Gap.length : Int) = 0)) rfl (decide_eq_true h113)) rfl) rfl ?_
              refine WOps.nil ?_
              refine WEx.then_ ?_
              refine WCode.forget (l' := [(0, .slice A0 a0.length c0), (1, .slice A1 a1.length c1), (5, .bool t7), (6, .string (bs s22)), (7, .slice A23 l25.length c24), (9, .int .i64 x29), (10, .pointer (some ⟨b60, 0, none⟩)), (11, .string (bs t55.2)), (12, .string (bs t86)), (49, .int .i64 x28), (50, .bool (decide (x28 = 4))), (51, .bool (decide (x28 = 4))), (52, undef), (53, undef), (54, undef), (55, .bool true), (56, .bool true)]) ⟨rfl, rfl, rfl, rfl, rfl, rfl, rfl, rfl, rfl, rfl, rfl, rfl, rfl, rfl, rfl, rfl, rfl, trivial⟩ ?_
              refine WCode.cond_t rfl ?_
              refine WCode.region ?_
              refine WOps.p (G.assign rfl) rfl ?_
              refine WOps.nil ?_
              have S115 := S90.front 1 rfl
              change St _ _ _ [G26, [(b60, .cells #[.int .i64 t55.1.Kind, .string (bs t55.1.Text), .int .i64 t55.1.Number, .int .i64 t55.1.At] 37 (0, 0))]] at S115
              have S116 := S115.front 1 rfl
              change St _ _ _ [[(b60, .cells #[.int .i64 t55.1.Kind, .string (bs t55.1.Text), .int .i64 t55.1.Number, .int .i64 t55.1.At] 37 (0, 0))], G26] at S116
              refine WEx.cutend _ ?_ ⟨k32, ([] : List UInt8), rfl, hF, (by omega), S116⟩
              exact ⟨rfl, rfl, rfl, rfl, rfl, rfl, rfl, rfl, rfl, trivial⟩
            ·
              refine WOps.on rfl (kbl (b := decide (x28 = 4)) rfl (decide_eq_false h114)) ?_
              refine WOps.p (G.field T.fld37_0 rfl (show 0 + 0 = 0 from rfl)) rfl ?_
              refine WOps.on rfl (kbl (b := decide (x28 = 4)) rfl (decide_eq_false h114)) ?_
              refine WOps.r (G.load1 T.one3 rfl (cell_blk (S90.blk 0 rfl) rfl)) rfl ?_
              refine WOps.on rfl (kbl (b := decide (x28 = 4)) rfl (decide_eq_false h114)) ?_
              refine WOps.p (G.eql rfl rfl rfl) rfl ?_
              refine WOps.on rfl (kbl (b := decide ((x96.Gap.length : Int) = 0)) rfl (decide_eq_true h113)) ?_
              refine WOps.p (G.pick_f (kb (b := decide (x28 = 4)) rfl (decide_eq_false h114)) rfl) rfl ?_
              refine WOps.p (G.pick_t (kb (b := decide ((x96.Gap.length : Int) = 0)) rfl (decide_eq_true h113)) rfl) rfl ?_
              refine WOps.nil ?_
              refine WEx.then_ ?_
              refine WCode.forget (l' := [(0, .slice A0 a0.length c0), (1, .slice A1 a1.length c1), (5, .bool t7), (6, .string (bs s22)), (7, .slice A23 l25.length c24), (9, .int .i64 x29), (10, .pointer (some ⟨b60, 0, none⟩)), (11, .string (bs t55.2)), (12, .string (bs t86)), (49, .int .i64 x28), (50, .bool (decide (x28 = 4))), (51, .bool (decide (x28 = 4))), (52, .pointer (some ⟨b60, 0, none⟩)), (53, .int .i64 t55.1.Kind), (54, .bool (decide (t55.1.Kind = 4))), (55, .bool (decide (t55.1.Kind = 4))), (56, .bool (decide (t55.1.Kind = 4)))]) ⟨rfl, rfl, rfl, rfl, rfl, rfl, rfl, rfl, rfl, rfl, rfl, rfl, rfl, rfl, rfl, rfl, rfl, trivial⟩ ?_
              rcases ite_some hF with ⟨h117, hF⟩ | ⟨h117, hF⟩
              ·
                refine WCode.cond_t (kb (b := decide (t55.1.Kind = 4)) rfl (decide_eq_true h117)) ?_
                refine WCode.region ?_
                refine WOps.p (G.assign rfl) rfl ?_
                refine WOps.nil ?_
                have S118 := S90.front 1 rfl
                change St _ _ _ [G26, [(b60, .cells #[.int .i64 t55.1.Kind, .string (bs t55.1.Text), .int .i64 t55.1.Number, .int .i64 t55.1.At] 37 (0, 0))]] at S118
                have S119 := S118.front 1 rfl
                change St _ _ _ [[(b60, .cells #[.int .i64 t55.1.Kind, .string (bs t55.1.Text), .int .i64 t55.1.Number, .int .i64 t55.1.At] 37 (0, 0))], G26] at S119
                refine WEx.cutend _ ?_ ⟨k32, ([] : List UInt8), rfl, hF, (by omega), S119⟩
                exact ⟨rfl, rfl, rfl, rfl, rfl, rfl, rfl, rfl, rfl, trivial⟩
              ·
                refine WCode.cond_f (kb (b := decide (t55.1.Kind = 4)) rfl (decide_eq_false h117)) ?_
                refine WCode.skip ?_
                have S120 := S90.front 1 rfl
                change St _ _ _ [G26, [(b60, .cells #[.int .i64 t55.1.Kind, .string (bs t55.1.Text), .int .i64 t55.1.Number, .int .i64 t55.1.At] 37 (0, 0))]] at S120
                have S121 := S120.front 1 rfl
                change St _ _ _ [[(b60, .cells #[.int .i64 t55.1.Kind, .string (bs t55.1.Text), .int .i64 t55.1.Number, .int .i64 t55.1.At] 37 (0, 0))], G26] at S121
                refine WEx.cutend _ ?_ ⟨k32, t86, rfl, hF, (by omega), S121⟩
                exact ⟨rfl, rfl, rfl, rfl, rfl, rfl, rfl, rfl, rfl, trivial⟩
          ·
            refine WOps.off rfl (kbl (b := decide ((x96.Gap.length : Int) = 0)) rfl (decide_eq_false h113)) rfl rfl ?_
            refine WOps.off rfl (kbl (b := decide ((x96.Gap.length : Int) = 0)) rfl (decide_eq_false h113)) rfl rfl ?_
            refine WOps.off rfl (kbl (b := decide ((x96.Gap.length : Int) = 0)) rfl (decide_eq_false h113)) rfl rfl ?_
            refine WOps.off rfl rfl rfl rfl ?_
            refine WOps.off rfl rfl rfl rfl ?_
            refine WOps.off rfl rfl rfl rfl ?_
            refine WOps.off rfl (kbl (b := decide ((x96.Gap.length : Int) = 0)) rfl (decide_eq_false h113)) rfl rfl ?_
            refine WOps.p (G.pick_f (kb (b := decide ((x96.Gap.length : Int) = 0)) rfl (decide_eq_false h113)) rfl) rfl ?_
            refine WOps.nil ?_
            refine WEx.then_ ?_
            refine WCode.forget (l' := [(0, .slice A0 a0.length c0), (1, .slice A1 a1.length c1), (5, .bool t7), (6, .string (bs s22)), (7, .slice A23 l25.length c24), (9, .int .i64 x29), (10, .pointer (some ⟨b60, 0, none⟩)), (11, .string (bs t55.2)), (12, .string (bs t86)), (49, undef), (50, undef), (51, undef), (52, undef), (53, undef), (54, undef), (55, undef), (56, .bool false)]) ⟨rfl, rfl, rfl, rfl, rfl, rfl, rfl, rfl, rfl, rfl, rfl, rfl, rfl, rfl, rfl, rfl, rfl, trivial⟩ ?_
            refine WCode.cond_f rfl ?_
            refine WCode.skip ?_
            have S122 := S90.front 1 rfl
            change St _ _ _ [G26, [(b60, .cells #[.int .i64 t55.1.Kind, .string (bs t55.1.Text), .int .i64 t55.1.Number, .int .i64 t55.1.At] 37 (0, 0))]] at S122
            have S123 := S122.front 1 rfl
            change St _ _ _ [[(b60, .cells #[.int .i64 t55.1.Kind, .string (bs t55.1.Text), .int .i64 t55.1.Number, .int .i64 t55.1.At] 37 (0, 0))], G26] at S123
            refine WEx.cutend _ ?_ ⟨k32, t86, rfl, hF, (by omega), S123⟩
            exact ⟨rfl, rfl, rfl, rfl, rfl, rfl, rfl, rfl, rfl, trivial⟩
        ·
          rintro _ w92 ⟨q94, s91, rfl, hF, hq95, S93⟩
          obtain _ | k124 := q94
          · exact nomatch (show (none : Option Bool) = some r_ from hF)
          rw [law_Parts.j2] at hF
          refine WCode.seq ?_
          refine WCode.region ?_
          refine WOps.p (G.move rfl) rfl ?_
          refine WOps.p (G.move rfl) rfl ?_
          obtain ⟨m125, hc126, hF⟩ := bind_some hF
          refine WOps.p (G.catb rfl rfl hc126) rfl ?_
          refine WOps.p (G.assign rfl) rfl ?_
          refine WOps.nil ?_
          refine WEx.then_ ?_
          refine WCode.seq ?_
          refine WCode.region ?_
          refine WOps.p (G.move rfl) rfl ?_
          refine WOps.p (G.lenb T.str9 rfl) rfl ?_
          refine WOps.p (G.field T.fld37_3 rfl (show 0 + 3 = 3 from rfl)) rfl ?_
          obtain ⟨w127, E128, S129⟩ := St.store (P := Tryd.prog) S93 0 3 (.int .i64 (m125.length : Int)) (off := 3) (cur' := #[.int .i64 t55.1.Kind, .string (bs t55.1.Text), .int .i64 t55.1.Number, .int .i64 (m125.length : Int)]) rfl T.size3_1 rfl rfl rfl
          change St _ _ _ [[(b60, .cells #[.int .i64 t55.1.Kind, .string (bs t55.1.Text), .int .i64 t55.1.Number, .int .i64 (m125.length : Int)] 37 (0, 0))], G26] at S129
          refine WOps.u (E128 rfl rfl) ?_
          refine WOps.nil ?_
          refine WEx.then_ ?_
          refine WCode.seq ?_
          refine WCode.region ?_
          refine WOps.p (G.move rfl) rfl ?_
          refine WOps.p (G.move rfl) rfl ?_
          obtain ⟨m130, hc131, hF⟩ := bind_some hF
          refine WOps.p (G.catb rfl rfl hc131) rfl ?_
          refine WOps.p (G.assign rfl) rfl ?_
          refine WOps.nil ?_
          refine WEx.then_ ?_
          refine WCode.forget (l' := [(0, .slice A0 a0.length c0), (1, .slice A1 a1.length c1), (5, .bool t7), (6, .string (bs m130)), (7, .slice A23 l25.length c24), (9, .int .i64 x29), (10, .pointer (some ⟨b60, 0, none⟩))]) ⟨rfl, rfl, rfl, rfl, rfl, rfl, rfl, trivial⟩ ?_
          refine WCode.seq ?_
          refine WCode.region ?_
          refine WOps.p (G.move rfl) rfl ?_
          refine WOps.r (G.loada T.agg37_4 rfl (cs := [.int .i64 t55.1.Kind, .string (bs t55.1.Text), .int .i64 t55.1.Number, .int .i64 (m125.length : Int)]) (cellsAt.of_blk (S129.blk 0 rfl) rfl)) rfl ?_
          obtain ⟨b132, w133, E134, S135, X136, L137⟩ := St.lit S129 (P := Tryd.prog) (t := 25) (e := 37) (n := 1) (vs := [(0, .agg #[.int .i64 t55.1.Kind, .string (bs t55.1.Text), .int .i64 t55.1.Number, .int .i64 (m125.length : Int)])]) (cs := #[.int .i64 t55.1.Kind, .string (bs t55.1.Text), .int .i64 t55.1.Number, .int .i64 (m125.length : Int)]) (by kernel_rfl)
          change St _ _ _ [[(b132, .cells #[.int .i64 t55.1.Kind, .string (bs t55.1.Text), .int .i64 t55.1.Number, .int .i64 (m125.length : Int)] 37 (0, 0))], [(b60, .cells #[.int .i64 t55.1.Kind, .string (bs t55.1.Text), .int .i64 t55.1.Number, .int .i64 (m125.length : Int)] 37 (0, 0))], G26] at S135
          refine WOps.e (E134 (evp_cons rfl evp_nil)) rfl ?_
          obtain ⟨l138, hc139, hF⟩ := bind_some hF
          have S140 := S135.front 2 rfl
          change St _ _ _ [G26, [(b132, .cells #[.int .i64 t55.1.Kind, .string (bs t55.1.Text), .int .i64 t55.1.Number, .int .i64 (m125.length : Int)] 37 (0, 0))], [(b60, .cells #[.int .i64 t55.1.Kind, .string (bs t55.1.Text), .int .i64 t55.1.Number, .int .i64 (m125.length : Int)] 37 (0, 0))]] at S140
          obtain ⟨A141, c142, G143, w144, E145, hO146, S147, hk148⟩ := St.appP (P := Tryd.prog) (r := Token.rp) (M := ([(⟨t55.1.Kind, t55.1.Text, t55.1.Number, (m125.length : Int)⟩ : Token)] : List Token)) S140 T.elt25 rfl hO27 (Rd.of_blk (S140.blk 1 rfl) (n := 1) (sz := 4) rfl) ⟨_, _, [], [], rfl, rfl, ⟨rfl, rfl⟩, ⟨rfl, rfl⟩⟩ rfl hc139
          change St _ _ _ [G143, [(b132, .cells #[.int .i64 t55.1.Kind, .string (bs t55.1.Text), .int .i64 t55.1.Number, .int .i64 (m125.length : Int)] 37 (0, 0))], [(b60, .cells #[.int .i64 t55.1.Kind, .string (bs t55.1.Text), .int .i64 t55.1.Number, .int .i64 (m125.length : Int)] 37 (0, 0))]] at S147
          refine WOps.e (E145 rfl rfl) rfl ?_
          refine WOps.p (G.assign rfl) rfl ?_
          refine WOps.nil ?_
          refine WEx.then_ ?_
          refine WCode.region ?_
          refine WOps.p (G.field T.fld37_0 rfl (show 0 + 0 = 0 from rfl)) rfl ?_
          refine WOps.r (G.load1 T.one3 rfl (cell_blk (S147.blk 2 rfl) rfl)) rfl ?_
          refine WOps.p (G.assign rfl) rfl ?_
          refine WOps.nil ?_
          refine WEx.in_normal ?_
          refine WEx.then_ ?_
          refine WCode.region ?_
          refine WOps.p (G.move rfl) rfl ?_
          refine WOps.p (G.add rfl rfl (r := (w64 (x29 + 1))) rfl) rfl ?_
          refine WOps.p (G.assign rfl) rfl ?_
          refine WOps.nil ?_
          have S149 := St.keep (As := [G143]) S147
          refine WEx.again _ _ (by omega) ?_ ⟨m130, A141, c142, l138, G143, t55.1.Kind, w64 (x29 + 1), rfl, hF, hO146, S149⟩
          exact ⟨rfl, rfl, rfl, rfl, rfl, rfl, rfl, trivial⟩
      ·
        refine WCode.cond_f (kb (b := decide (x29 < (a0.length : Int))) rfl (decide_eq_false h37)) ?_
        refine WCode.exit ?_
        refine WEx.then_exit ?_
        refine WEx.then_exit ?_
        refine WEx.in_exit ?_
        refine WEx.cutend _ ?_ ⟨k32, s22, A23, c24, l25, G26, rfl, hF, hO27, S31⟩
        exact ⟨rfl, rfl, rfl, rfl, trivial⟩
    ·
      rintro _ w18 ⟨q20, s12, A13, c14, l15, G16, rfl, hF, hO17, S19⟩
      unfold law_Parts.j1 at hF
      refine WCode.cutseq (fun l_ w_ => ∃ q153 : Nat, ∃ s150 : List UInt8, l_ = [(5, .bool t7), (6, .string (bs s150)), (7, .slice A13 l15.length c14)] ∧ law_Parts.j3 q153 t7 l15 s150 = some r_ ∧ St w (KS []) w_ [G16]) ?_ ?_
      ·
        refine WCode.seq ?_
        refine WCode.region ?_
        refine WOps.p (G.move rfl) rfl ?_
        refine WOps.p (G.len T.el34 rfl) rfl ?_
        refine WOps.p (G.gtr rfl rfl rfl) rfl ?_
        refine WOps.nil ?_
        refine WEx.then_ ?_
        rcases ite_some hF with ⟨h155, hF⟩ | ⟨h155, hF⟩
        ·
          refine WCode.cond_t (kb (b := decide (0 < (a1.length : Int))) rfl (decide_eq_true h155)) ?_
          refine WCode.region ?_
          refine WOps.p (G.move rfl) rfl ?_
          refine WOps.p (G.move rfl) rfl ?_
          obtain ⟨t156, hc157, hF⟩ := bind_some hF
          refine WOps.call T.call18 (evs_cons rfl evs_nil) rfl ?_
          refine (lw_gap_calls q20 a1 (hR1.ext (S19.keepF hF1)) (St.outF (Bs := []) S19 hF1) hc157).mono ?_
          rintro _ w158 ⟨rfl, T159⟩
          have S160 := St.callN (As := []) S19 T159
          change St _ _ _ [G16] at S160
          refine ⟨_, rfl, ?_⟩
          obtain ⟨m161, hc162, hF⟩ := bind_some hF
          refine WOps.p (G.catb rfl rfl hc162) rfl ?_
          refine WOps.p (G.assign rfl) rfl ?_
          refine WOps.nil ?_
          refine WEx.cutend _ ?_ ⟨q20, m161, rfl, hF, S160⟩
          exact ⟨rfl, rfl, rfl, trivial⟩
        ·
          refine WCode.cond_f (kb (b := decide (0 < (a1.length : Int))) rfl (decide_eq_false h155)) ?_
          refine WCode.skip ?_
          refine WEx.cutend _ ?_ ⟨q20, s12, rfl, hF, S19⟩
          exact ⟨rfl, rfl, rfl, trivial⟩
      ·
        rintro _ w151 ⟨q153, s150, rfl, hF, S152⟩
        unfold law_Parts.j3 at hF
        refine WCode.seq ?_
        refine WCode.region ?_
        refine WOps.p (G.move rfl) rfl ?_
        refine WOps.p (G.move rfl) rfl ?_
        refine WOps.p (G.lenb T.str9 rfl) rfl ?_
        refine WOps.p (G.build (cells := #[.int .i64 5, .string (bs ([] : List UInt8)), .int .i64 0, .int .i64 (s150.length : Int)]) (evp_spec (evp_cons rfl (evp_cons rfl evp_nil))) (by kernel_rfl)) rfl ?_
        obtain ⟨b163, w164, E165, S166, X167, L168⟩ := St.lit S152 (P := Tryd.prog) (t := 25) (e := 37) (n := 1) (vs := [(0, .agg #[.int .i64 5, .string (bs ([] : List UInt8)), .int .i64 0, .int .i64 (s150.length : Int)])]) (cs := #[.int .i64 5, .string (bs ([] : List UInt8)), .int .i64 0, .int .i64 (s150.length : Int)]) (by kernel_rfl)
        change St _ _ _ [[(b163, .cells #[.int .i64 5, .string (bs ([] : List UInt8)), .int .i64 0, .int .i64 (s150.length : Int)] 37 (0, 0))], G16] at S166
        refine WOps.e (E165 (evp_cons rfl evp_nil)) rfl ?_
        obtain ⟨l169, hc170, hF⟩ := bind_some hF
        have S171 := S166.front 1 rfl
        change St _ _ _ [G16, [(b163, .cells #[.int .i64 5, .string (bs ([] : List UInt8)), .int .i64 0, .int .i64 (s150.length : Int)] 37 (0, 0))]] at S171
        obtain ⟨A172, c173, G174, w175, E176, hO177, S178, hk179⟩ := St.appP (P := Tryd.prog) (r := Token.rp) (M := ([(⟨5, ([] : List UInt8), 0, (s150.length : Int)⟩ : Token)] : List Token)) S171 T.elt25 rfl hO17 (Rd.of_blk (S171.blk 1 rfl) (n := 1) (sz := 4) rfl) ⟨_, _, [], [], rfl, rfl, ⟨rfl, rfl⟩, ⟨rfl, rfl⟩⟩ rfl hc170
        change St _ _ _ [G174, [(b163, .cells #[.int .i64 5, .string (bs ([] : List UInt8)), .int .i64 0, .int .i64 (s150.length : Int)] 37 (0, 0))]] at S178
        refine WOps.e (E176 rfl rfl) rfl ?_
        refine WOps.p (G.assign rfl) rfl ?_
        refine WOps.nil ?_
        refine WEx.then_ ?_
        refine WCode.seq ?_
        refine WCode.region ?_
        refine WOps.p (G.move rfl) rfl ?_
        obtain ⟨t180, hc181, hF⟩ := bind_some hF
        refine WOps.call T.call9 (evs_cons rfl evs_nil) rfl ?_
        refine (lx_Scan_calls q153 s150 (hGl.ext (S178.keepF hFG)) (St.outF (Bs := []) S178 hFG) hc181).mono ?_
        rintro _ w182 ⟨A185, c186, G187, rfl, hO188, T183⟩
        have S184 := St.callN (As := []) S178 T183
        change St _ _ _ [G187, G174, [(b163, .cells #[.int .i64 5, .string (bs ([] : List UInt8)), .int .i64 0, .int .i64 (s150.length : Int)] 37 (0, 0))]] at S184
        refine ⟨_, rfl, ?_⟩
        refine WOps.p (G.move rfl) rfl ?_
        refine WOps.p (G.extract rfl rfl) rfl ?_
        refine WOps.p (G.extract rfl rfl) rfl ?_
        refine WOps.p (G.extract rfl rfl) rfl ?_
        refine WOps.p (G.assign rfl) rfl ?_
        refine WOps.p (G.assign rfl) rfl ?_
        refine WOps.p (G.assign rfl) rfl ?_
        refine WOps.nil ?_
        refine WEx.then_ ?_
        refine WCode.forget (l' := [(5, .bool t7), (6, .string (bs s150)), (7, .slice A172 l169.length c173), (13, .slice A185 (t180.1).length c186), (14, .int .i64 t180.2.1), (15, .int .i64 t180.2.2)]) ⟨rfl, rfl, rfl, rfl, rfl, rfl, trivial⟩ ?_
        refine WCode.seq ?_
        refine WCode.seq ?_
        refine WCode.region ?_
        refine WOps.p (G.move rfl) rfl ?_
        refine WOps.p (G.lenb T.str9 rfl) rfl ?_
        refine WOps.p (G.gtr rfl rfl rfl) rfl ?_
        refine WOps.nil ?_
        refine WEx.then_ ?_
        rcases ite_some hF with ⟨h189, hF⟩ | ⟨h189, hF⟩
        ·
          refine WCode.cond_t (kb (b := decide (16000 < (s150.length : Int))) rfl (decide_eq_true h189)) ?_
          refine WCode.cutseq (fun l_ w_ => ∃ q193 : Nat, ∃ b190 : Bool, l_ = [(4, .bool b190)] ∧ law_Parts.j4 q193 b190 = some r_ ∧ St w (KS []) w_ []) ?_ ?_
          ·
            refine WCode.region ?_
            refine WOps.p (G.move rfl) rfl ?_
            refine WOps.p (G.move rfl) rfl ?_
            rcases ite_some hF with ⟨h195, hF⟩ | ⟨h195, hF⟩
            ·
              refine WOps.on rfl (kbl (b := t7) rfl h195) ?_
              refine WOps.p (G.move rfl) rfl ?_
              refine WOps.on rfl (kbl (b := t7) rfl h195) ?_
              refine WOps.p (G.eql rfl rfl rfl) rfl ?_
              refine WOps.p (G.pick_t (kb (b := t7) rfl h195) rfl) rfl ?_
              refine WOps.p (G.move rfl) rfl ?_
              rcases ite_some hF with ⟨h196, hF⟩ | ⟨h196, hF⟩
              ·
                refine WOps.on rfl (kbl (b := decide (t180.2.1 = 34)) rfl (decide_eq_true h196)) ?_
                refine WOps.p (G.move rfl) rfl ?_
                refine WOps.on rfl (kbl (b := decide (t180.2.1 = 34)) rfl (decide_eq_true h196)) ?_
                refine WOps.p (G.eql rfl rfl rfl) rfl ?_
                refine WOps.p (G.pick_t (kb (b := decide (t180.2.1 = 34)) rfl (decide_eq_true h196)) rfl) rfl ?_
                refine WOps.p (G.move rfl) rfl ?_
                rcases ite_some hF with ⟨h197, hF⟩ | ⟨h197, hF⟩
                ·
                  refine WOps.on rfl (kbl (b := decide (t180.2.2 = 16000)) rfl (decide_eq_true h197)) ?_
                  refine WOps.p (G.move rfl) rfl ?_
                  refine WOps.on rfl (kbl (b := decide (t180.2.2 = 16000)) rfl (decide_eq_true h197)) ?_
                  refine WOps.p (G.len T.el25 rfl) rfl ?_
                  refine WOps.on rfl (kbl (b := decide (t180.2.2 = 16000)) rfl (decide_eq_true h197)) ?_
                  refine WOps.p (G.eql rfl rfl rfl) rfl ?_
                  refine WOps.p (G.pick_t (kb (b := decide (t180.2.2 = 16000)) rfl (decide_eq_true h197)) rfl) rfl ?_
                  refine WOps.p (G.assign rfl) rfl ?_
                  refine WOps.nil ?_
                  have S198 := St.keep (As := []) S184
                  refine WEx.cutend _ ?_ ⟨q153, decide (((t180.1).length : Int) = 0), rfl, hF, S198⟩
                  exact ⟨rfl, trivial⟩
                ·
                  refine WOps.off rfl (kbl (b := decide (t180.2.2 = 16000)) rfl (decide_eq_false h197)) rfl rfl ?_
                  refine WOps.off rfl (kbl (b := decide (t180.2.2 = 16000)) rfl (decide_eq_false h197)) rfl rfl ?_
                  refine WOps.off rfl (kbl (b := decide (t180.2.2 = 16000)) rfl (decide_eq_false h197)) rfl rfl ?_
                  refine WOps.p (G.pick_f (kb (b := decide (t180.2.2 = 16000)) rfl (decide_eq_false h197)) rfl) rfl ?_
                  refine WOps.p (G.assign rfl) rfl ?_
                  refine WOps.nil ?_
                  have S199 := St.keep (As := []) S184
                  refine WEx.cutend _ ?_ ⟨q153, false, rfl, hF, S199⟩
                  exact ⟨rfl, trivial⟩
              ·
                refine WOps.off rfl (kbl (b := decide (t180.2.1 = 34)) rfl (decide_eq_false h196)) rfl rfl ?_
                refine WOps.off rfl (kbl (b := decide (t180.2.1 = 34)) rfl (decide_eq_false h196)) rfl rfl ?_
                refine WOps.p (G.pick_f (kb (b := decide (t180.2.1 = 34)) rfl (decide_eq_false h196)) rfl) rfl ?_
                refine WOps.p (G.move rfl) rfl ?_
                refine WOps.off rfl rfl rfl rfl ?_
                refine WOps.off rfl rfl rfl rfl ?_
                refine WOps.off rfl rfl rfl rfl ?_
                refine WOps.p (G.pick_f rfl rfl) rfl ?_
                refine WOps.p (G.assign rfl) rfl ?_
                refine WOps.nil ?_
                have S200 := St.keep (As := []) S184
                refine WEx.cutend _ ?_ ⟨q153, false, rfl, hF, S200⟩
                exact ⟨rfl, trivial⟩
            ·
              refine WOps.off rfl (kbl (b := t7) rfl (Bool.eq_false_iff.2 h195)) rfl rfl ?_
              refine WOps.off rfl (kbl (b := t7) rfl (Bool.eq_false_iff.2 h195)) rfl rfl ?_
              refine WOps.p (G.pick_f (kb (b := t7) rfl (Bool.eq_false_iff.2 h195)) rfl) rfl ?_
              refine WOps.p (G.move rfl) rfl ?_
              refine WOps.off rfl rfl rfl rfl ?_
              refine WOps.off rfl rfl rfl rfl ?_
              refine WOps.p (G.pick_f rfl rfl) rfl ?_
              refine WOps.p (G.move rfl) rfl ?_
              refine WOps.off rfl rfl rfl rfl ?_
              refine WOps.off rfl rfl rfl rfl ?_
              refine WOps.off rfl rfl rfl rfl ?_
              refine WOps.p (G.pick_f rfl rfl) rfl ?_
              refine WOps.p (G.assign rfl) rfl ?_
              refine WOps.nil ?_
              have S201 := St.keep (As := []) S184
              refine WEx.cutend _ ?_ ⟨q153, false, rfl, hF, S201⟩
              exact ⟨rfl, trivial⟩
          ·
            rintro _ w191 ⟨q193, b190, rfl, hF, S192⟩
            unfold law_Parts.j4 at hF
            refine WCode.ret ?_
            refine WEx.then_ret ?_
            obtain rfl := some_eq hF
            refine WEx.ret1 rfl rfl ?_
            exact ⟨rfl, St.keep (As := []) S192⟩
        ·
          refine WCode.cond_f (kb (b := decide (16000 < (s150.length : Int))) rfl (decide_eq_false h189)) ?_
          refine WCode.skip ?_
          refine WEx.then_ ?_
          refine WCode.seq ?_
          refine WCode.region ?_
          refine WOps.p (G.move rfl) rfl ?_
          refine WOps.p (G.move rfl) rfl ?_
          obtain ⟨t202, hc203, hF⟩ := bind_some hF
          refine WOps.call T.call10 (evs_cons rfl (evs_cons rfl evs_nil)) rfl ?_
          refine (lw_same_calls q153 (t180.1) l169 (hO188.rd (fun b o hb => S184.grp 0 rfl hb)) (St.outG (Bs := []) S184 0 rfl) (hO177.rd (fun b o hb => S184.grp 1 rfl hb)) (St.outG (Bs := []) S184 1 rfl) hc203).mono ?_
          rintro _ w204 ⟨rfl, T205⟩
          have S206 := St.callN (As := []) S184 T205
          change St _ _ _ [G187, G174, [(b163, .cells #[.int .i64 5, .string (bs ([] : List UInt8)), .int .i64 0, .int .i64 (s150.length : Int)] 37 (0, 0))]] at S206
          refine ⟨_, rfl, ?_⟩
          refine WOps.p (G.assign rfl) rfl ?_
          refine WOps.nil ?_
          refine WEx.then_ ?_
          refine WCode.seq ?_
          refine WCode.region ?_
          refine WOps.p (G.move rfl) rfl ?_
          refine WOps.p (G.move rfl) rfl ?_
          rcases ite_some hF with ⟨h207, hF⟩ | ⟨h207, hF⟩
          ·
            refine WOps.on rfl (kbl (b := t7) rfl h207) ?_
            refine WOps.p (G.move rfl) rfl ?_
            refine WOps.p (G.pick_t (kb (b := t7) rfl h207) rfl) rfl ?_
            refine WOps.p (G.move rfl) rfl ?_
            rcases ite_some hF with ⟨h208, hF⟩ | ⟨h208, hF⟩
            ·
              refine WOps.on rfl (kbl (b := t202) rfl h208) ?_
              refine WOps.p (G.move rfl) rfl ?_
              refine WOps.on rfl (kbl (b := t202) rfl h208) ?_
              refine WOps.p (G.eql rfl rfl rfl) rfl ?_
              refine WOps.p (G.pick_t (kb (b := t202) rfl h208) rfl) rfl ?_
              refine WOps.p (G.move rfl) rfl ?_
              rcases ite_some hF with ⟨h209, hF⟩ | ⟨h209, hF⟩
              ·
                refine WOps.on rfl (kbl (b := decide (t180.2.1 = 0)) rfl (decide_eq_true h209)) ?_
                refine WOps.p (G.move rfl) rfl ?_
                refine WOps.on rfl (kbl (b := decide (t180.2.1 = 0)) rfl (decide_eq_true h209)) ?_
                refine WOps.p (G.eql rfl rfl rfl) rfl ?_
                refine WOps.p (G.pick_t (kb (b := decide (t180.2.1 = 0)) rfl (decide_eq_true h209)) rfl) rfl ?_
                refine WOps.p (G.assign rfl) rfl ?_
                refine WOps.nil ?_
                refine WEx.then_ ?_
                refine WCode.forget (l' := [(4, .bool (decide (t180.2.2 = 0)))]) ⟨rfl, trivial⟩ ?_
                refine WCode.ret ?_
                obtain rfl := some_eq hF
                refine WEx.ret1 rfl rfl ?_
                exact ⟨rfl, St.keep (As := []) S206⟩
              ·
                refine WOps.off rfl (kbl (b := decide (t180.2.1 = 0)) rfl (decide_eq_false h209)) rfl rfl ?_
                refine WOps.off rfl (kbl (b := decide (t180.2.1 = 0)) rfl (decide_eq_false h209)) rfl rfl ?_
                refine WOps.p (G.pick_f (kb (b := decide (t180.2.1 = 0)) rfl (decide_eq_false h209)) rfl) rfl ?_
                refine WOps.p (G.assign rfl) rfl ?_
                refine WOps.nil ?_
                refine WEx.then_ ?_
                refine WCode.forget (l' := [(4, .bool false)]) ⟨rfl, trivial⟩ ?_
                refine WCode.ret ?_
                obtain rfl := some_eq hF
                refine WEx.ret1 rfl rfl ?_
                exact ⟨rfl, St.keep (As := []) S206⟩
            ·
              refine WOps.off rfl (kbl (b := t202) rfl (Bool.eq_false_iff.2 h208)) rfl rfl ?_
              refine WOps.off rfl (kbl (b := t202) rfl (Bool.eq_false_iff.2 h208)) rfl rfl ?_
              refine WOps.p (G.pick_f (kb (b := t202) rfl (Bool.eq_false_iff.2 h208)) rfl) rfl ?_
              refine WOps.p (G.move rfl) rfl ?_
              refine WOps.off rfl rfl rfl rfl ?_
              refine WOps.off rfl rfl rfl rfl ?_
              refine WOps.p (G.pick_f rfl rfl) rfl ?_
              refine WOps.p (G.assign rfl) rfl ?_
              refine WOps.nil ?_
              refine WEx.then_ ?_
              refine WCode.forget (l' := [(4, .bool false)]) ⟨rfl, trivial⟩ ?_
              refine WCode.ret ?_
              obtain rfl := some_eq hF
              refine WEx.ret1 rfl rfl ?_
              exact ⟨rfl, St.keep (As := []) S206⟩
          ·
            refine WOps.off rfl (kbl (b := t7) rfl (Bool.eq_false_iff.2 h207)) rfl rfl ?_
            refine WOps.p (G.pick_f (kb (b := t7) rfl (Bool.eq_false_iff.2 h207)) rfl) rfl ?_
            refine WOps.p (G.move rfl) rfl ?_
            refine WOps.off rfl rfl rfl rfl ?_
            refine WOps.off rfl rfl rfl rfl ?_
            refine WOps.p (G.pick_f rfl rfl) rfl ?_
            refine WOps.p (G.move rfl) rfl ?_
            refine WOps.off rfl rfl rfl rfl ?_
            refine WOps.off rfl rfl rfl rfl ?_
            refine WOps.p (G.pick_f rfl rfl) rfl ?_
            refine WOps.p (G.assign rfl) rfl ?_
            refine WOps.nil ?_
            refine WEx.then_ ?_
            refine WCode.forget (l' := [(4, .bool false)]) ⟨rfl, trivial⟩ ?_
            refine WCode.ret ?_
            obtain rfl := some_eq hF
            refine WEx.ret1 rfl rfl ?_
            exact ⟨rfl, St.keep (As := []) S206⟩

end Go.Proofs.YtpdpfiaediadgaaDoor
