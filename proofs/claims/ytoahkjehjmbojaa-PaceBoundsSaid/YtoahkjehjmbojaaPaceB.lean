/- Walks (printed by gen.py over the engine). -/
import Derived.Test.YtoahkjehjmbojaaPaceA
namespace Go.Proofs.Ytoahkjehjmbojaa
open Go Go.Eng
set_option linter.unusedSimpArgs false
set_option linter.unusedVariables false
theorem T.fld140_0 : fldOff Try.prog 140 0 = some 0 := by kernel_rfl
theorem T.fld140_1 : fldOff Try.prog 140 1 = some 1 := by kernel_rfl
theorem T.fld140_2 : fldOff Try.prog 140 2 = some 2 := by kernel_rfl
theorem T.fld64_0 : fldOff Try.prog 64 0 = some 0 := by kernel_rfl
theorem T.fld64_1 : fldOff Try.prog 64 1 = some 1 := by kernel_rfl
theorem T.fld64_2 : fldOff Try.prog 64 2 = some 2 := by kernel_rfl
theorem T.one4 : isOneT Try.prog 4 = true := by kernel_rfl
theorem T.one62 : isOneT Try.prog 62 = true := by kernel_rfl
theorem T.size4_1 : sizeT Try.prog 4 = some 1 := by kernel_rfl
theorem T.size62_1 : sizeT Try.prog 62 = some 1 := by kernel_rfl

abbrev MG (T p : Nat) (hd : Bool) (m s : Nat) : Grp := [(p, .cells #[.bool hd, .float .f32 m, .float .f32 s] T (0, 0))]
def cl (n : Int) : Int := if n < 0 then 0 else if 1048576 < n then 1048576 else n
/-- What a meter comes to that has heard before. -/
def HearS (m s x m' s' : Nat) : Prop := ∃ e part e' d r : Nat, floatBits .sub .f32 x m = some e ∧ floatBits .quo .f32 e 1090519040 = some part ∧ floatBits .add .f32 m part = some m' ∧
  (if (FloatKind.f32.format.order e 0 == some .lt) = true then Op.negFloat .f32 e = e' else e = e') ∧ floatBits .sub .f32 e' s = some d ∧ floatBits .quo .f32 d 1082130432 = some r ∧ floatBits .add .f32 s r = some s'
def GuessS (m s : Nat) (n : Int) : Prop := ∃ four g : Nat, floatBits .mul .f32 1082130432 s = some four ∧ floatBits .add .f32 m four = some g ∧
  (if (FloatKind.f32.format.order g 1233125376 == some .gt || FloatKind.f32.format.order g 1233125376 == some .eq) = true then n = 1048576
   else ∃ k, floatToIntVal .f32 g .i64 = some k ∧ (-4000000000000000000 ≤ k ∧ k ≤ 4000000000000000000) ∧ (if (FloatKind.f32.format.order (floatOfInt .f32 k) g == some .lt) = true then n = k + 1 else n = k))

set_option maxRecDepth 100000 in
set_option maxHeartbeats 1000000 in
theorem pace_New {w : World} :
    Calls Try.prog 33 [].toArray w fun e w' => ∃ p, e = .returned (.pointer (some ⟨p, 0, none⟩)) ∧ St w (fun _ => False) w' [MG 140 p false 0 0] := by
  have S := St.init0 w
  refine enter 3 [] Try.func33 rfl rfl rfl rfl ?_
  refine WCode.seq ?_
  refine WCode.region ?_
  refine WOps.p (G.assign rfl) rfl ?_
  refine WOps.nil ?_
  refine WEx.then_ ?_
  refine WCode.seq ?_
  refine WCode.region ?_
  refine WOps.p (G.build (cells := #[.bool false, .float .f32 0, .float .f32 0]) (evp_spec (evp_nil)) (by kernel_rfl)) rfl ?_
  obtain ⟨b1, w2, E3, S4, X5, L6⟩ := St.box S Try.prog 140 (.agg #[.bool false, .float .f32 0, .float .f32 0])
  change St _ _ _ [[(b1, .cells #[.bool false, .float .f32 0, .float .f32 0] 140 (0, 0))]] at S4
  refine WOps.e (E3 rfl) rfl ?_
  refine WOps.p (G.assign rfl) rfl ?_
  refine WOps.nil ?_
  refine WEx.forget (l' := [(0, .pointer (some ⟨b1, 0, none⟩))]) ⟨rfl, trivial⟩ ?_
  refine WEx.then_ ?_
  refine WCode.ret ?_
  refine WEx.ret1 rfl rfl ?_
  exact ⟨_, rfl, S4⟩

set_option maxRecDepth 100000 in
set_option maxHeartbeats 1000000 in
theorem pace_Mean {w : World} {p m s : Nat} {hd : Bool} (hp : Hp w (MG 140 p hd m s)) :
    Calls Try.prog 34 [.pointer (some ⟨p, 0, none⟩)].toArray w fun e w' => e = .returned (.float .f32 m) ∧ St w (· ∈ keys (MG 140 p hd m s)) w' [MG 140 p hd m s] := by
  have S : St w (· ∈ keys (MG 140 p hd m s)) w [[(p, .cells #[.bool hd, .float .f32 m, .float .f32 s] 140 (0, 0))]] := St.init (Gs := [MG 140 p hd m s]) (by simpa using hp)
  refine enter 7 [(0, .pointer (some ⟨p, 0, none⟩))] Try.func34 rfl rfl rfl rfl ?_
  refine WCode.seq ?_
  refine WCode.region ?_
  refine WOps.p (G.assign rfl) rfl ?_
  refine WOps.nil ?_
  refine WEx.then_ ?_
  refine WCode.seq ?_
  refine WCode.region ?_
  refine WOps.p (G.move rfl) rfl ?_
  refine WOps.p (G.nilp rfl) rfl ?_
  refine WOps.p (G.field T.fld140_1 rfl (show 0 + 1 = 1 from rfl)) rfl ?_
  refine WOps.r (G.load1 T.one62 rfl (cell_blk (S.blk 0 rfl) rfl)) rfl ?_
  refine WOps.p (G.assign rfl) rfl ?_
  refine WOps.nil ?_
  refine WEx.forget (l' := [(2, .float .f32 m)]) ⟨rfl, trivial⟩ ?_
  refine WEx.then_ ?_
  refine WCode.ret ?_
  refine WEx.ret1 rfl rfl ?_
  exact ⟨rfl, St.keep (As := [[(p, .cells #[.bool hd, .float .f32 m, .float .f32 s] 140 (0, 0))]]) S⟩

set_option maxRecDepth 100000 in
set_option maxHeartbeats 1000000 in
theorem pace_Spread {w : World} {p m s : Nat} {hd : Bool} (hp : Hp w (MG 140 p hd m s)) :
    Calls Try.prog 35 [.pointer (some ⟨p, 0, none⟩)].toArray w fun e w' => e = .returned (.float .f32 s) ∧ St w (· ∈ keys (MG 140 p hd m s)) w' [MG 140 p hd m s] := by
  have S : St w (· ∈ keys (MG 140 p hd m s)) w [[(p, .cells #[.bool hd, .float .f32 m, .float .f32 s] 140 (0, 0))]] := St.init (Gs := [MG 140 p hd m s]) (by simpa using hp)
  refine enter 7 [(0, .pointer (some ⟨p, 0, none⟩))] Try.func35 rfl rfl rfl rfl ?_
  refine WCode.seq ?_
  refine WCode.region ?_
  refine WOps.p (G.assign rfl) rfl ?_
  refine WOps.nil ?_
  refine WEx.then_ ?_
  refine WCode.seq ?_
  refine WCode.region ?_
  refine WOps.p (G.move rfl) rfl ?_
  refine WOps.p (G.nilp rfl) rfl ?_
  refine WOps.p (G.field T.fld140_2 rfl (show 0 + 2 = 2 from rfl)) rfl ?_
  refine WOps.r (G.load1 T.one62 rfl (cell_blk (S.blk 0 rfl) rfl)) rfl ?_
  refine WOps.p (G.assign rfl) rfl ?_
  refine WOps.nil ?_
  refine WEx.forget (l' := [(2, .float .f32 s)]) ⟨rfl, trivial⟩ ?_
  refine WEx.then_ ?_
  refine WCode.ret ?_
  refine WEx.ret1 rfl rfl ?_
  exact ⟨rfl, St.keep (As := [[(p, .cells #[.bool hd, .float .f32 m, .float .f32 s] 140 (0, 0))]]) S⟩

set_option maxRecDepth 100000 in
set_option maxHeartbeats 1000000 in
theorem pace_Hear0 {w : World} {p m s : Nat} (hp : Hp w (MG 140 p false m s)) (n : Int) (hn : i64 n) {x q : Nat} (hx : floatOfInt .f32 (cl n) = x) (hq : floatBits .quo .f32 x 1073741824 = some q) :
    Calls Try.prog 38 [.pointer (some ⟨p, 0, none⟩), .int .i64 n].toArray w fun e w' => e = .returned (.tuple #[]) ∧ St w (· ∈ keys (MG 140 p false m s)) w' [MG 140 p true x q] := by
  have S : St w (· ∈ keys (MG 140 p false m s)) w [[(p, .cells #[.bool false, .float .f32 m, .float .f32 s] 140 (0, 0))]] := St.init (Gs := [MG 140 p false m s]) (by simpa using hp)
  refine enter 66 [(0, .pointer (some ⟨p, 0, none⟩)), (1, .int .i64 n)] Try.func38 rfl rfl rfl rfl ?_
  refine WCode.seq ?_
  refine WCode.region ?_
  refine WOps.p (G.move rfl) rfl ?_
  refine WOps.p (G.min rfl rfl (show _ = (if 1048576 < n then 1048576 else n) from rfl)) rfl ?_
  refine WOps.p (G.max rfl rfl (show _ = (cl n) from (by unfold cl; (repeat' split) <;> omega))) rfl ?_
  refine WOps.p (G.itof (k := .f32) (by kernel_rfl) Try.underlying62 rfl (r := x) hx) rfl ?_
  refine WOps.p (G.assign rfl) rfl ?_
  refine WOps.nil ?_
  refine WEx.forget (l' := [(0, .pointer (some ⟨p, 0, none⟩)), (4, .float .f32 x)]) ⟨rfl, rfl, trivial⟩ ?_
  refine WEx.then_ ?_
  refine WCode.seq ?_
  refine WCode.seq ?_
  refine WCode.region ?_
  refine WOps.p (G.move rfl) rfl ?_
  refine WOps.p (G.nilp rfl) rfl ?_
  refine WOps.p (G.field T.fld140_0 rfl (show 0 + 0 = 0 from rfl)) rfl ?_
  refine WOps.r (G.load1 T.one4 rfl (cell_blk (S.blk 0 rfl) rfl)) rfl ?_
  refine WOps.p (G.not rfl rfl) rfl ?_
  refine WOps.nil ?_
  refine WEx.forget (l' := [(0, .pointer (some ⟨p, 0, none⟩)), (4, .float .f32 x), (16, .bool true)]) ⟨rfl, rfl, rfl, trivial⟩ ?_
  refine WEx.then_ ?_
  refine WCode.cond_t rfl ?_
  refine WCode.seq ?_
  refine WCode.region ?_
  refine WOps.tail fun r_ hr_ => ?_
  refine WOps.p (G.move rfl) rfl ?_
  subst hr_
  refine WOps.tail fun r_ hr_ => ?_
  refine WOps.p (G.move rfl) rfl ?_
  subst hr_
  refine WOps.tail fun r_ hr_ => ?_
  refine WOps.p (G.move rfl) rfl ?_
  subst hr_
  refine WOps.tail fun r_ hr_ => ?_
  refine WOps.p (G.move rfl) rfl ?_
  subst hr_
  refine WOps.tail fun r_ hr_ => ?_
  refine WOps.p (G.move rfl) rfl ?_
  subst hr_
  refine WOps.tail fun r_ hr_ => ?_
  refine WOps.p (G.farith rfl rfl (r := q) hq) rfl ?_
  subst hr_
  refine WOps.tail fun r_ hr_ => ?_
  refine WOps.p (G.nilp rfl) rfl ?_
  subst hr_
  refine WOps.tail fun r_ hr_ => ?_
  refine WOps.p (G.field T.fld140_0 rfl (show 0 + 0 = 0 from rfl)) rfl ?_
  subst hr_
  refine WOps.tail fun r_ hr_ => ?_
  obtain ⟨w1, E2, S3⟩ := St.store (P := Try.prog) S 0 4 (.bool true) (off := 0) (cur' := #[.bool true, .float .f32 m, .float .f32 s]) rfl T.size4_1 rfl rfl rfl
  change St _ _ _ [[(p, .cells #[.bool true, .float .f32 m, .float .f32 s] 140 (0, 0))]] at S3
  refine WOps.u (E2 rfl rfl) ?_
  subst hr_
  refine WOps.tail fun r_ hr_ => ?_
  refine WOps.p (G.nilp rfl) rfl ?_
  subst hr_
  refine WOps.tail fun r_ hr_ => ?_
  refine WOps.p (G.field T.fld140_1 rfl (show 0 + 1 = 1 from rfl)) rfl ?_
  subst hr_
  refine WOps.tail fun r_ hr_ => ?_
  obtain ⟨w5, E6, S7⟩ := St.store (P := Try.prog) S3 0 62 (.float .f32 x) (off := 1) (cur' := #[.bool true, .float .f32 x, .float .f32 s]) rfl T.size62_1 rfl rfl rfl
  change St _ _ _ [[(p, .cells #[.bool true, .float .f32 x, .float .f32 s] 140 (0, 0))]] at S7
  refine WOps.u (E6 rfl rfl) ?_
  subst hr_
  refine WOps.tail fun r_ hr_ => ?_
  refine WOps.p (G.nilp rfl) rfl ?_
  subst hr_
  refine WOps.tail fun r_ hr_ => ?_
  refine WOps.p (G.field T.fld140_2 rfl (show 0 + 2 = 2 from rfl)) rfl ?_
  subst hr_
  refine WOps.tail fun r_ hr_ => ?_
  obtain ⟨w9, E10, S11⟩ := St.store (P := Try.prog) S7 0 62 (.float .f32 q) (off := 2) (cur' := #[.bool true, .float .f32 x, .float .f32 q]) rfl T.size62_1 rfl rfl rfl
  change St _ _ _ [[(p, .cells #[.bool true, .float .f32 x, .float .f32 q] 140 (0, 0))]] at S11
  refine WOps.u (E10 rfl rfl) ?_
  subst hr_
  refine WOps.nil ?_
  refine WEx.forget (l' := [(0, .pointer (some ⟨p, 0, none⟩)), (4, .float .f32 x)]) ⟨rfl, rfl, trivial⟩ ?_
  refine WEx.then_ ?_
  refine WCode.ret ?_
  refine WEx.then_ret ?_
  refine WEx.ret0 rfl ?_
  exact ⟨rfl, St.keep (As := [[(p, .cells #[.bool true, .float .f32 x, .float .f32 q] 140 (0, 0))]]) S11⟩

set_option maxRecDepth 100000 in
set_option maxHeartbeats 1000000 in
theorem pace_Hear1 {w : World} {p m s : Nat} (hp : Hp w (MG 140 p true m s)) (n : Int) (hn : i64 n) {x m' s' : Nat} (hx : floatOfInt .f32 (cl n) = x) (h : HearS m s x m' s') :
    Calls Try.prog 38 [.pointer (some ⟨p, 0, none⟩), .int .i64 n].toArray w fun e w' => e = .returned (.tuple #[]) ∧ St w (· ∈ keys (MG 140 p true m s)) w' [MG 140 p true m' s'] := by
  obtain ⟨e1, part, e2, d, r, he, hpa, hm', hneg, hd, hr, hs'⟩ := h
  have cs : ((FloatKind.f32.format.order e1 0 == some .lt) = true) ∨ ((FloatKind.f32.format.order e1 0 == some .lt) = false) := Bool.eq_false_or_eq_true _
  rcases cs with hlt | hlt
  · have hne := hneg; rw [hlt] at hne
    have S : St w (· ∈ keys (MG 140 p true m s)) w [[(p, .cells #[.bool true, .float .f32 m, .float .f32 s] 140 (0, 0))]] := St.init (Gs := [MG 140 p true m s]) (by simpa using hp)
    refine enter 66 [(0, .pointer (some ⟨p, 0, none⟩)), (1, .int .i64 n)] Try.func38 rfl rfl rfl rfl ?_
    refine WCode.seq ?_
    refine WCode.region ?_
    refine WOps.p (G.move rfl) rfl ?_
    refine WOps.p (G.min rfl rfl (show _ = (if 1048576 < n then 1048576 else n) from rfl)) rfl ?_
    refine WOps.p (G.max rfl rfl (show _ = (cl n) from (by unfold cl; (repeat' split) <;> omega))) rfl ?_
    refine WOps.p (G.itof (k := .f32) (by kernel_rfl) Try.underlying62 rfl (r := x) hx) rfl ?_
    refine WOps.p (G.assign rfl) rfl ?_
    refine WOps.nil ?_
    refine WEx.forget (l' := [(0, .pointer (some ⟨p, 0, none⟩)), (4, .float .f32 x)]) ⟨rfl, rfl, trivial⟩ ?_
    refine WEx.then_ ?_
    refine WCode.seq ?_
    refine WCode.seq ?_
    refine WCode.region ?_
    refine WOps.p (G.move rfl) rfl ?_
    refine WOps.p (G.nilp rfl) rfl ?_
    refine WOps.p (G.field T.fld140_0 rfl (show 0 + 0 = 0 from rfl)) rfl ?_
    refine WOps.r (G.load1 T.one4 rfl (cell_blk (S.blk 0 rfl) rfl)) rfl ?_
    refine WOps.p (G.not rfl rfl) rfl ?_
    refine WOps.nil ?_
    refine WEx.forget (l' := [(0, .pointer (some ⟨p, 0, none⟩)), (4, .float .f32 x), (16, .bool false)]) ⟨rfl, rfl, rfl, trivial⟩ ?_
    refine WEx.then_ ?_
    refine WCode.cond_f rfl ?_
    refine WCode.skip ?_
    refine WEx.then_ ?_
    refine WCode.forget (l' := [(0, .pointer (some ⟨p, 0, none⟩)), (4, .float .f32 x)]) ⟨rfl, rfl, trivial⟩ ?_
    refine WCode.seq ?_
    refine WCode.region ?_
    refine WOps.p (G.move rfl) rfl ?_
    refine WOps.p (G.move rfl) rfl ?_
    refine WOps.p (G.nilp rfl) rfl ?_
    refine WOps.p (G.field T.fld140_1 rfl (show 0 + 1 = 1 from rfl)) rfl ?_
    refine WOps.r (G.load1 T.one62 rfl (cell_blk (S.blk 0 rfl) rfl)) rfl ?_
    refine WOps.p (G.farith rfl rfl (r := e1) he) rfl ?_
    refine WOps.p (G.assign rfl) rfl ?_
    refine WOps.nil ?_
    refine WEx.forget (l' := [(0, .pointer (some ⟨p, 0, none⟩)), (5, .float .f32 e1)]) ⟨rfl, rfl, trivial⟩ ?_
    refine WEx.then_ ?_
    refine WCode.seq ?_
    refine WCode.region ?_
    refine WOps.p (G.move rfl) rfl ?_
    refine WOps.p (G.farith rfl rfl (r := part) hpa) rfl ?_
    refine WOps.p (G.assign rfl) rfl ?_
    refine WOps.nil ?_
    refine WEx.forget (l' := [(0, .pointer (some ⟨p, 0, none⟩)), (5, .float .f32 e1), (6, .float .f32 part)]) ⟨rfl, rfl, rfl, trivial⟩ ?_
    refine WEx.then_ ?_
    refine WCode.seq ?_
    refine WCode.region ?_
    refine WOps.p (G.move rfl) rfl ?_
    refine WOps.p (G.move rfl) rfl ?_
    refine WOps.p (G.nilp rfl) rfl ?_
    refine WOps.p (G.field T.fld140_1 rfl (show 0 + 1 = 1 from rfl)) rfl ?_
    refine WOps.r (G.load1 T.one62 rfl (cell_blk (S.blk 0 rfl) rfl)) rfl ?_
    refine WOps.p (G.move rfl) rfl ?_
    refine WOps.p (G.farith rfl rfl (r := m') hm') rfl ?_
    refine WOps.p (G.nilp rfl) rfl ?_
    refine WOps.p (G.field T.fld140_1 rfl (show 0 + 1 = 1 from rfl)) rfl ?_
    obtain ⟨w1, E2, S3⟩ := St.store (P := Try.prog) S 0 62 (.float .f32 m') (off := 1) (cur' := #[.bool true, .float .f32 m', .float .f32 s]) rfl T.size62_1 rfl rfl rfl
    change St _ _ _ [[(p, .cells #[.bool true, .float .f32 m', .float .f32 s] 140 (0, 0))]] at S3
    refine WOps.u (E2 rfl rfl) ?_
    refine WOps.nil ?_
    refine WEx.forget (l' := [(0, .pointer (some ⟨p, 0, none⟩)), (5, .float .f32 e1)]) ⟨rfl, rfl, trivial⟩ ?_
    refine WEx.then_ ?_
    refine WCode.seq ?_
    refine WCode.seq ?_
    refine WCode.region ?_
    refine WOps.p (G.move rfl) rfl ?_
    refine WOps.p (G.flss rfl rfl (v := true) hlt) rfl ?_
    refine WOps.nil ?_
    refine WEx.forget (l' := [(0, .pointer (some ⟨p, 0, none⟩)), (5, .float .f32 e1), (47, .bool true)]) ⟨rfl, rfl, rfl, trivial⟩ ?_
    refine WEx.then_ ?_
    refine WCode.cond_t rfl ?_
    refine WCode.region ?_
    refine WOps.p (G.move rfl) rfl ?_
    refine WOps.p (G.fneg rfl (r := e2) hne) rfl ?_
    refine WOps.p (G.assign rfl) rfl ?_
    refine WOps.nil ?_
    refine WEx.forget (l' := [(0, .pointer (some ⟨p, 0, none⟩)), (5, .float .f32 e2)]) ⟨rfl, rfl, trivial⟩ ?_
    refine WEx.then_ ?_
    refine WCode.seq ?_
    refine WCode.region ?_
    refine WOps.p (G.move rfl) rfl ?_
    refine WOps.p (G.move rfl) rfl ?_
    refine WOps.p (G.nilp rfl) rfl ?_
    refine WOps.p (G.field T.fld140_2 rfl (show 0 + 2 = 2 from rfl)) rfl ?_
    refine WOps.r (G.load1 T.one62 rfl (cell_blk (S3.blk 0 rfl) rfl)) rfl ?_
    refine WOps.p (G.farith rfl rfl (r := d) hd) rfl ?_
    refine WOps.p (G.farith rfl rfl (r := r) hr) rfl ?_
    refine WOps.p (G.assign rfl) rfl ?_
    refine WOps.nil ?_
    refine WEx.forget (l' := [(0, .pointer (some ⟨p, 0, none⟩)), (7, .float .f32 r)]) ⟨rfl, rfl, trivial⟩ ?_
    refine WEx.then_ ?_
    refine WCode.region ?_
    refine WOps.p (G.move rfl) rfl ?_
    refine WOps.p (G.move rfl) rfl ?_
    refine WOps.p (G.nilp rfl) rfl ?_
    refine WOps.p (G.field T.fld140_2 rfl (show 0 + 2 = 2 from rfl)) rfl ?_
    refine WOps.r (G.load1 T.one62 rfl (cell_blk (S3.blk 0 rfl) rfl)) rfl ?_
    refine WOps.p (G.move rfl) rfl ?_
    refine WOps.p (G.farith rfl rfl (r := s') hs') rfl ?_
    refine WOps.p (G.nilp rfl) rfl ?_
    refine WOps.p (G.field T.fld140_2 rfl (show 0 + 2 = 2 from rfl)) rfl ?_
    obtain ⟨w5, E6, S7⟩ := St.store (P := Try.prog) S3 0 62 (.float .f32 s') (off := 2) (cur' := #[.bool true, .float .f32 m', .float .f32 s']) rfl T.size62_1 rfl rfl rfl
    change St _ _ _ [[(p, .cells #[.bool true, .float .f32 m', .float .f32 s'] 140 (0, 0))]] at S7
    refine WOps.u (E6 rfl rfl) ?_
    refine WOps.nil ?_
    refine WEx.forget (l' := []) trivial ?_
    refine WEx.end0 rfl ?_
    exact ⟨rfl, St.keep (As := [[(p, .cells #[.bool true, .float .f32 m', .float .f32 s'] 140 (0, 0))]]) S7⟩
  · have hne := hneg; rw [hlt] at hne
    have S : St w (· ∈ keys (MG 140 p true m s)) w [[(p, .cells #[.bool true, .float .f32 m, .float .f32 s] 140 (0, 0))]] := St.init (Gs := [MG 140 p true m s]) (by simpa using hp)
    refine enter 66 [(0, .pointer (some ⟨p, 0, none⟩)), (1, .int .i64 n)] Try.func38 rfl rfl rfl rfl ?_
    refine WCode.seq ?_
    refine WCode.region ?_
    refine WOps.p (G.move rfl) rfl ?_
    refine WOps.p (G.min rfl rfl (show _ = (if 1048576 < n then 1048576 else n) from rfl)) rfl ?_
    refine WOps.p (G.max rfl rfl (show _ = (cl n) from (by unfold cl; (repeat' split) <;> omega))) rfl ?_
    refine WOps.p (G.itof (k := .f32) (by kernel_rfl) Try.underlying62 rfl (r := x) hx) rfl ?_
    refine WOps.p (G.assign rfl) rfl ?_
    refine WOps.nil ?_
    refine WEx.forget (l' := [(0, .pointer (some ⟨p, 0, none⟩)), (4, .float .f32 x)]) ⟨rfl, rfl, trivial⟩ ?_
    refine WEx.then_ ?_
    refine WCode.seq ?_
    refine WCode.seq ?_
    refine WCode.region ?_
    refine WOps.p (G.move rfl) rfl ?_
    refine WOps.p (G.nilp rfl) rfl ?_
    refine WOps.p (G.field T.fld140_0 rfl (show 0 + 0 = 0 from rfl)) rfl ?_
    refine WOps.r (G.load1 T.one4 rfl (cell_blk (S.blk 0 rfl) rfl)) rfl ?_
    refine WOps.p (G.not rfl rfl) rfl ?_
    refine WOps.nil ?_
    refine WEx.forget (l' := [(0, .pointer (some ⟨p, 0, none⟩)), (4, .float .f32 x), (16, .bool false)]) ⟨rfl, rfl, rfl, trivial⟩ ?_
    refine WEx.then_ ?_
    refine WCode.cond_f rfl ?_
    refine WCode.skip ?_
    refine WEx.then_ ?_
    refine WCode.forget (l' := [(0, .pointer (some ⟨p, 0, none⟩)), (4, .float .f32 x)]) ⟨rfl, rfl, trivial⟩ ?_
    refine WCode.seq ?_
    refine WCode.region ?_
    refine WOps.p (G.move rfl) rfl ?_
    refine WOps.p (G.move rfl) rfl ?_
    refine WOps.p (G.nilp rfl) rfl ?_
    refine WOps.p (G.field T.fld140_1 rfl (show 0 + 1 = 1 from rfl)) rfl ?_
    refine WOps.r (G.load1 T.one62 rfl (cell_blk (S.blk 0 rfl) rfl)) rfl ?_
    refine WOps.p (G.farith rfl rfl (r := e1) he) rfl ?_
    refine WOps.p (G.assign rfl) rfl ?_
    refine WOps.nil ?_
    refine WEx.forget (l' := [(0, .pointer (some ⟨p, 0, none⟩)), (5, .float .f32 e1)]) ⟨rfl, rfl, trivial⟩ ?_
    refine WEx.then_ ?_
    refine WCode.seq ?_
    refine WCode.region ?_
    refine WOps.p (G.move rfl) rfl ?_
    refine WOps.p (G.farith rfl rfl (r := part) hpa) rfl ?_
    refine WOps.p (G.assign rfl) rfl ?_
    refine WOps.nil ?_
    refine WEx.forget (l' := [(0, .pointer (some ⟨p, 0, none⟩)), (5, .float .f32 e1), (6, .float .f32 part)]) ⟨rfl, rfl, rfl, trivial⟩ ?_
    refine WEx.then_ ?_
    refine WCode.seq ?_
    refine WCode.region ?_
    refine WOps.p (G.move rfl) rfl ?_
    refine WOps.p (G.move rfl) rfl ?_
    refine WOps.p (G.nilp rfl) rfl ?_
    refine WOps.p (G.field T.fld140_1 rfl (show 0 + 1 = 1 from rfl)) rfl ?_
    refine WOps.r (G.load1 T.one62 rfl (cell_blk (S.blk 0 rfl) rfl)) rfl ?_
    refine WOps.p (G.move rfl) rfl ?_
    refine WOps.p (G.farith rfl rfl (r := m') hm') rfl ?_
    refine WOps.p (G.nilp rfl) rfl ?_
    refine WOps.p (G.field T.fld140_1 rfl (show 0 + 1 = 1 from rfl)) rfl ?_
    obtain ⟨w1, E2, S3⟩ := St.store (P := Try.prog) S 0 62 (.float .f32 m') (off := 1) (cur' := #[.bool true, .float .f32 m', .float .f32 s]) rfl T.size62_1 rfl rfl rfl
    change St _ _ _ [[(p, .cells #[.bool true, .float .f32 m', .float .f32 s] 140 (0, 0))]] at S3
    refine WOps.u (E2 rfl rfl) ?_
    refine WOps.nil ?_
    refine WEx.forget (l' := [(0, .pointer (some ⟨p, 0, none⟩)), (5, .float .f32 e1)]) ⟨rfl, rfl, trivial⟩ ?_
    refine WEx.then_ ?_
    refine WCode.seq ?_
    refine WCode.seq ?_
    refine WCode.region ?_
    refine WOps.p (G.move rfl) rfl ?_
    refine WOps.p (G.flss rfl rfl (v := false) hlt) rfl ?_
    refine WOps.nil ?_
    refine WEx.forget (l' := [(0, .pointer (some ⟨p, 0, none⟩)), (5, .float .f32 e1), (47, .bool false)]) ⟨rfl, rfl, rfl, trivial⟩ ?_
    refine WEx.then_ ?_
    refine WCode.cond_f rfl ?_
    refine WCode.skip ?_
    refine WEx.then_ ?_
    refine WCode.forget (l' := [(0, .pointer (some ⟨p, 0, none⟩)), (5, .float .f32 e1)]) ⟨rfl, rfl, trivial⟩ ?_
    refine WCode.seq ?_
    refine WCode.region ?_
    refine WOps.p (G.move rfl) rfl ?_
    refine WOps.p (G.move rfl) rfl ?_
    refine WOps.p (G.nilp rfl) rfl ?_
    refine WOps.p (G.field T.fld140_2 rfl (show 0 + 2 = 2 from rfl)) rfl ?_
    refine WOps.r (G.load1 T.one62 rfl (cell_blk (S3.blk 0 rfl) rfl)) rfl ?_
    refine WOps.p (G.farith rfl rfl (r := d) (by simp only [Bool.false_eq_true, if_false] at hne; rw [hne]; exact hd)) rfl ?_
    refine WOps.p (G.farith rfl rfl (r := r) hr) rfl ?_
    refine WOps.p (G.assign rfl) rfl ?_
    refine WOps.nil ?_
    refine WEx.forget (l' := [(0, .pointer (some ⟨p, 0, none⟩)), (7, .float .f32 r)]) ⟨rfl, rfl, trivial⟩ ?_
    refine WEx.then_ ?_
    refine WCode.region ?_
    refine WOps.p (G.move rfl) rfl ?_
    refine WOps.p (G.move rfl) rfl ?_
    refine WOps.p (G.nilp rfl) rfl ?_
    refine WOps.p (G.field T.fld140_2 rfl (show 0 + 2 = 2 from rfl)) rfl ?_
    refine WOps.r (G.load1 T.one62 rfl (cell_blk (S3.blk 0 rfl) rfl)) rfl ?_
    refine WOps.p (G.move rfl) rfl ?_
    refine WOps.p (G.farith rfl rfl (r := s') hs') rfl ?_
    refine WOps.p (G.nilp rfl) rfl ?_
    refine WOps.p (G.field T.fld140_2 rfl (show 0 + 2 = 2 from rfl)) rfl ?_
    obtain ⟨w5, E6, S7⟩ := St.store (P := Try.prog) S3 0 62 (.float .f32 s') (off := 2) (cur' := #[.bool true, .float .f32 m', .float .f32 s']) rfl T.size62_1 rfl rfl rfl
    change St _ _ _ [[(p, .cells #[.bool true, .float .f32 m', .float .f32 s'] 140 (0, 0))]] at S7
    refine WOps.u (E6 rfl rfl) ?_
    refine WOps.nil ?_
    refine WEx.forget (l' := []) trivial ?_
    refine WEx.end0 rfl ?_
    exact ⟨rfl, St.keep (As := [[(p, .cells #[.bool true, .float .f32 m', .float .f32 s'] 140 (0, 0))]]) S7⟩

set_option maxRecDepth 100000 in
set_option maxHeartbeats 1000000 in
theorem pace_Guess0 {w : World} {p m s : Nat} (hp : Hp w (MG 140 p false m s)) :
    Calls Try.prog 36 [.pointer (some ⟨p, 0, none⟩)].toArray w fun e w' => e = .returned (.int .i64 0) ∧ St w (· ∈ keys (MG 140 p false m s)) w' [MG 140 p false m s] := by
  have S : St w (· ∈ keys (MG 140 p false m s)) w [[(p, .cells #[.bool false, .float .f32 m, .float .f32 s] 140 (0, 0))]] := St.init (Gs := [MG 140 p false m s]) (by simpa using hp)
  refine enter 33 [(0, .pointer (some ⟨p, 0, none⟩))] Try.func36 rfl rfl rfl rfl ?_
  refine WCode.seq ?_
  refine WCode.region ?_
  refine WOps.p (G.assign rfl) rfl ?_
  refine WOps.nil ?_
  refine WEx.then_ ?_
  refine WCode.seq ?_
  refine WCode.seq ?_
  refine WCode.region ?_
  refine WOps.p (G.move rfl) rfl ?_
  refine WOps.p (G.nilp rfl) rfl ?_
  refine WOps.p (G.field T.fld140_0 rfl (show 0 + 0 = 0 from rfl)) rfl ?_
  refine WOps.r (G.load1 T.one4 rfl (cell_blk (S.blk 0 rfl) rfl)) rfl ?_
  refine WOps.p (G.not rfl rfl) rfl ?_
  refine WOps.nil ?_
  refine WEx.forget (l' := [(0, .pointer (some ⟨p, 0, none⟩)), (2, .int .i64 0), (10, .bool true)]) ⟨rfl, rfl, rfl, trivial⟩ ?_
  refine WEx.then_ ?_
  refine WCode.cond_t rfl ?_
  refine WCode.seq ?_
  refine WCode.region ?_
  refine WOps.p (G.assign rfl) rfl ?_
  refine WOps.nil ?_
  refine WEx.forget (l' := [(0, .pointer (some ⟨p, 0, none⟩)), (2, .int .i64 0)]) ⟨rfl, rfl, trivial⟩ ?_
  refine WEx.then_ ?_
  refine WCode.ret ?_
  refine WEx.then_ret ?_
  refine WEx.ret1 rfl rfl ?_
  exact ⟨rfl, St.keep (As := [[(p, .cells #[.bool false, .float .f32 m, .float .f32 s] 140 (0, 0))]]) S⟩

set_option maxRecDepth 100000 in
set_option maxHeartbeats 1000000 in
theorem pace_GuessA {w : World} {p m s : Nat} (hp : Hp w (MG 140 p true m s)) {four g1 : Nat} (h4 : floatBits .mul .f32 1082130432 s = some four) (hg : floatBits .add .f32 m four = some g1) (hge : (FloatKind.f32.format.order g1 1233125376 == some .gt || FloatKind.f32.format.order g1 1233125376 == some .eq) = true) :
    Calls Try.prog 36 [.pointer (some ⟨p, 0, none⟩)].toArray w fun e w' => e = .returned (.int .i64 1048576) ∧ St w (· ∈ keys (MG 140 p true m s)) w' [MG 140 p true m s] := by
  have S : St w (· ∈ keys (MG 140 p true m s)) w [[(p, .cells #[.bool true, .float .f32 m, .float .f32 s] 140 (0, 0))]] := St.init (Gs := [MG 140 p true m s]) (by simpa using hp)
  refine enter 33 [(0, .pointer (some ⟨p, 0, none⟩))] Try.func36 rfl rfl rfl rfl ?_
  refine WCode.seq ?_
  refine WCode.region ?_
  refine WOps.p (G.assign rfl) rfl ?_
  refine WOps.nil ?_
  refine WEx.then_ ?_
  refine WCode.seq ?_
  refine WCode.seq ?_
  refine WCode.region ?_
  refine WOps.p (G.move rfl) rfl ?_
  refine WOps.p (G.nilp rfl) rfl ?_
  refine WOps.p (G.field T.fld140_0 rfl (show 0 + 0 = 0 from rfl)) rfl ?_
  refine WOps.r (G.load1 T.one4 rfl (cell_blk (S.blk 0 rfl) rfl)) rfl ?_
  refine WOps.p (G.not rfl rfl) rfl ?_
  refine WOps.nil ?_
  refine WEx.forget (l' := [(0, .pointer (some ⟨p, 0, none⟩)), (2, .int .i64 0), (10, .bool false)]) ⟨rfl, rfl, rfl, trivial⟩ ?_
  refine WEx.then_ ?_
  refine WCode.cond_f rfl ?_
  refine WCode.skip ?_
  refine WEx.then_ ?_
  refine WCode.forget (l' := [(0, .pointer (some ⟨p, 0, none⟩)), (2, .int .i64 0)]) ⟨rfl, rfl, trivial⟩ ?_
  refine WCode.seq ?_
  refine WCode.region ?_
  refine WOps.p (G.move rfl) rfl ?_
  refine WOps.p (G.nilp rfl) rfl ?_
  refine WOps.p (G.field T.fld140_2 rfl (show 0 + 2 = 2 from rfl)) rfl ?_
  refine WOps.r (G.load1 T.one62 rfl (cell_blk (S.blk 0 rfl) rfl)) rfl ?_
  refine WOps.p (G.farith rfl rfl (r := four) h4) rfl ?_
  refine WOps.p (G.assign rfl) rfl ?_
  refine WOps.nil ?_
  refine WEx.forget (l' := [(0, .pointer (some ⟨p, 0, none⟩)), (2, .int .i64 0), (3, .float .f32 four)]) ⟨rfl, rfl, rfl, trivial⟩ ?_
  refine WEx.then_ ?_
  refine WCode.seq ?_
  refine WCode.region ?_
  refine WOps.p (G.move rfl) rfl ?_
  refine WOps.p (G.nilp rfl) rfl ?_
  refine WOps.p (G.field T.fld140_1 rfl (show 0 + 1 = 1 from rfl)) rfl ?_
  refine WOps.r (G.load1 T.one62 rfl (cell_blk (S.blk 0 rfl) rfl)) rfl ?_
  refine WOps.p (G.move rfl) rfl ?_
  refine WOps.p (G.farith rfl rfl (r := g1) hg) rfl ?_
  refine WOps.p (G.assign rfl) rfl ?_
  refine WOps.nil ?_
  refine WEx.forget (l' := [(2, .int .i64 0), (4, .float .f32 g1)]) ⟨rfl, rfl, trivial⟩ ?_
  refine WEx.then_ ?_
  refine WCode.seq ?_
  refine WCode.seq ?_
  refine WCode.region ?_
  refine WOps.p (G.move rfl) rfl ?_
  refine WOps.p (G.fgeq rfl rfl (v := true) hge) rfl ?_
  refine WOps.nil ?_
  refine WEx.forget (l' := [(2, .int .i64 0), (4, .float .f32 g1), (23, .bool true)]) ⟨rfl, rfl, rfl, trivial⟩ ?_
  refine WEx.then_ ?_
  refine WCode.cond_t rfl ?_
  refine WCode.seq ?_
  refine WCode.region ?_
  refine WOps.p (G.assign rfl) rfl ?_
  refine WOps.nil ?_
  refine WEx.forget (l' := [(2, .int .i64 1048576), (4, .float .f32 g1)]) ⟨rfl, rfl, trivial⟩ ?_
  refine WEx.then_ ?_
  refine WCode.ret ?_
  refine WEx.then_ret ?_
  refine WEx.ret1 rfl rfl ?_
  exact ⟨rfl, St.keep (As := [[(p, .cells #[.bool true, .float .f32 m, .float .f32 s] 140 (0, 0))]]) S⟩

set_option maxRecDepth 100000 in
set_option maxHeartbeats 1000000 in
theorem pace_GuessB {w : World} {p m s : Nat} (hp : Hp w (MG 140 p true m s)) {four g1 : Nat} (h4 : floatBits .mul .f32 1082130432 s = some four) (hg : floatBits .add .f32 m four = some g1) {k : Int} (hge : (FloatKind.f32.format.order g1 1233125376 == some .gt || FloatKind.f32.format.order g1 1233125376 == some .eq) = false) (hk : floatToIntVal .f32 g1 .i64 = some k) (hlt : (FloatKind.f32.format.order (floatOfInt .f32 k) g1 == some .lt) = false) :
    Calls Try.prog 36 [.pointer (some ⟨p, 0, none⟩)].toArray w fun e w' => e = .returned (.int .i64 k) ∧ St w (· ∈ keys (MG 140 p true m s)) w' [MG 140 p true m s] := by
  have S : St w (· ∈ keys (MG 140 p true m s)) w [[(p, .cells #[.bool true, .float .f32 m, .float .f32 s] 140 (0, 0))]] := St.init (Gs := [MG 140 p true m s]) (by simpa using hp)
  refine enter 33 [(0, .pointer (some ⟨p, 0, none⟩))] Try.func36 rfl rfl rfl rfl ?_
  refine WCode.seq ?_
  refine WCode.region ?_
  refine WOps.p (G.assign rfl) rfl ?_
  refine WOps.nil ?_
  refine WEx.then_ ?_
  refine WCode.seq ?_
  refine WCode.seq ?_
  refine WCode.region ?_
  refine WOps.p (G.move rfl) rfl ?_
  refine WOps.p (G.nilp rfl) rfl ?_
  refine WOps.p (G.field T.fld140_0 rfl (show 0 + 0 = 0 from rfl)) rfl ?_
  refine WOps.r (G.load1 T.one4 rfl (cell_blk (S.blk 0 rfl) rfl)) rfl ?_
  refine WOps.p (G.not rfl rfl) rfl ?_
  refine WOps.nil ?_
  refine WEx.forget (l' := [(0, .pointer (some ⟨p, 0, none⟩)), (2, .int .i64 0), (10, .bool false)]) ⟨rfl, rfl, rfl, trivial⟩ ?_
  refine WEx.then_ ?_
  refine WCode.cond_f rfl ?_
  refine WCode.skip ?_
  refine WEx.then_ ?_
  refine WCode.forget (l' := [(0, .pointer (some ⟨p, 0, none⟩)), (2, .int .i64 0)]) ⟨rfl, rfl, trivial⟩ ?_
  refine WCode.seq ?_
  refine WCode.region ?_
  refine WOps.p (G.move rfl) rfl ?_
  refine WOps.p (G.nilp rfl) rfl ?_
  refine WOps.p (G.field T.fld140_2 rfl (show 0 + 2 = 2 from rfl)) rfl ?_
  refine WOps.r (G.load1 T.one62 rfl (cell_blk (S.blk 0 rfl) rfl)) rfl ?_
  refine WOps.p (G.farith rfl rfl (r := four) h4) rfl ?_
  refine WOps.p (G.assign rfl) rfl ?_
  refine WOps.nil ?_
  refine WEx.forget (l' := [(0, .pointer (some ⟨p, 0, none⟩)), (2, .int .i64 0), (3, .float .f32 four)]) ⟨rfl, rfl, rfl, trivial⟩ ?_
  refine WEx.then_ ?_
  refine WCode.seq ?_
  refine WCode.region ?_
  refine WOps.p (G.move rfl) rfl ?_
  refine WOps.p (G.nilp rfl) rfl ?_
  refine WOps.p (G.field T.fld140_1 rfl (show 0 + 1 = 1 from rfl)) rfl ?_
  refine WOps.r (G.load1 T.one62 rfl (cell_blk (S.blk 0 rfl) rfl)) rfl ?_
  refine WOps.p (G.move rfl) rfl ?_
  refine WOps.p (G.farith rfl rfl (r := g1) hg) rfl ?_
  refine WOps.p (G.assign rfl) rfl ?_
  refine WOps.nil ?_
  refine WEx.forget (l' := [(2, .int .i64 0), (4, .float .f32 g1)]) ⟨rfl, rfl, trivial⟩ ?_
  refine WEx.then_ ?_
  refine WCode.seq ?_
  refine WCode.seq ?_
  refine WCode.region ?_
  refine WOps.p (G.move rfl) rfl ?_
  refine WOps.p (G.fgeq rfl rfl (v := false) hge) rfl ?_
  refine WOps.nil ?_
  refine WEx.forget (l' := [(2, .int .i64 0), (4, .float .f32 g1), (23, .bool false)]) ⟨rfl, rfl, rfl, trivial⟩ ?_
  refine WEx.then_ ?_
  refine WCode.cond_f rfl ?_
  refine WCode.skip ?_
  refine WEx.then_ ?_
  refine WCode.forget (l' := [(2, .int .i64 0), (4, .float .f32 g1)]) ⟨rfl, rfl, trivial⟩ ?_
  refine WCode.seq ?_
  refine WCode.region ?_
  refine WOps.p (G.move rfl) rfl ?_
  refine WOps.p (G.ftoi (by kernel_rfl) Try.underlying3 rfl (n := k) hk) rfl ?_
  refine WOps.p (G.assign rfl) rfl ?_
  refine WOps.nil ?_
  refine WEx.forget (l' := [(2, .int .i64 0), (4, .float .f32 g1), (5, .int .i64 k)]) ⟨rfl, rfl, rfl, trivial⟩ ?_
  refine WEx.then_ ?_
  refine WCode.seq ?_
  refine WCode.seq ?_
  refine WCode.region ?_
  refine WOps.p (G.move rfl) rfl ?_
  refine WOps.p (G.itof (k := .f32) (by kernel_rfl) Try.underlying62 rfl (r := (floatOfInt .f32 k)) rfl) rfl ?_
  refine WOps.p (G.move rfl) rfl ?_
  refine WOps.p (G.flss rfl rfl (v := false) hlt) rfl ?_
  refine WOps.nil ?_
  refine WEx.forget (l' := [(2, .int .i64 0), (5, .int .i64 k), (29, .bool false)]) ⟨rfl, rfl, rfl, trivial⟩ ?_
  refine WEx.then_ ?_
  refine WCode.cond_f rfl ?_
  refine WCode.skip ?_
  refine WEx.then_ ?_
  refine WCode.forget (l' := [(2, .int .i64 0), (5, .int .i64 k)]) ⟨rfl, rfl, trivial⟩ ?_
  refine WCode.seq ?_
  refine WCode.region ?_
  refine WOps.p (G.move rfl) rfl ?_
  refine WOps.p (G.assign rfl) rfl ?_
  refine WOps.nil ?_
  refine WEx.forget (l' := [(2, .int .i64 k)]) ⟨rfl, trivial⟩ ?_
  refine WEx.then_ ?_
  refine WCode.ret ?_
  refine WEx.ret1 rfl rfl ?_
  exact ⟨rfl, St.keep (As := [[(p, .cells #[.bool true, .float .f32 m, .float .f32 s] 140 (0, 0))]]) S⟩

set_option maxRecDepth 100000 in
set_option maxHeartbeats 1000000 in
theorem pace_GuessC {w : World} {p m s : Nat} (hp : Hp w (MG 140 p true m s)) {four g1 : Nat} (h4 : floatBits .mul .f32 1082130432 s = some four) (hg : floatBits .add .f32 m four = some g1) {k : Int} (hge : (FloatKind.f32.format.order g1 1233125376 == some .gt || FloatKind.f32.format.order g1 1233125376 == some .eq) = false) (hk : floatToIntVal .f32 g1 .i64 = some k) (hlt : (FloatKind.f32.format.order (floatOfInt .f32 k) g1 == some .lt) = true) (hkr : -4000000000000000000 ≤ k ∧ k ≤ 4000000000000000000) :
    Calls Try.prog 36 [.pointer (some ⟨p, 0, none⟩)].toArray w fun e w' => e = .returned (.int .i64 (k + 1)) ∧ St w (· ∈ keys (MG 140 p true m s)) w' [MG 140 p true m s] := by
  have S : St w (· ∈ keys (MG 140 p true m s)) w [[(p, .cells #[.bool true, .float .f32 m, .float .f32 s] 140 (0, 0))]] := St.init (Gs := [MG 140 p true m s]) (by simpa using hp)
  refine enter 33 [(0, .pointer (some ⟨p, 0, none⟩))] Try.func36 rfl rfl rfl rfl ?_
  refine WCode.seq ?_
  refine WCode.region ?_
  refine WOps.p (G.assign rfl) rfl ?_
  refine WOps.nil ?_
  refine WEx.then_ ?_
  refine WCode.seq ?_
  refine WCode.seq ?_
  refine WCode.region ?_
  refine WOps.p (G.move rfl) rfl ?_
  refine WOps.p (G.nilp rfl) rfl ?_
  refine WOps.p (G.field T.fld140_0 rfl (show 0 + 0 = 0 from rfl)) rfl ?_
  refine WOps.r (G.load1 T.one4 rfl (cell_blk (S.blk 0 rfl) rfl)) rfl ?_
  refine WOps.p (G.not rfl rfl) rfl ?_
  refine WOps.nil ?_
  refine WEx.forget (l' := [(0, .pointer (some ⟨p, 0, none⟩)), (2, .int .i64 0), (10, .bool false)]) ⟨rfl, rfl, rfl, trivial⟩ ?_
  refine WEx.then_ ?_
  refine WCode.cond_f rfl ?_
  refine WCode.skip ?_
  refine WEx.then_ ?_
  refine WCode.forget (l' := [(0, .pointer (some ⟨p, 0, none⟩)), (2, .int .i64 0)]) ⟨rfl, rfl, trivial⟩ ?_
  refine WCode.seq ?_
  refine WCode.region ?_
  refine WOps.p (G.move rfl) rfl ?_
  refine WOps.p (G.nilp rfl) rfl ?_
  refine WOps.p (G.field T.fld140_2 rfl (show 0 + 2 = 2 from rfl)) rfl ?_
  refine WOps.r (G.load1 T.one62 rfl (cell_blk (S.blk 0 rfl) rfl)) rfl ?_
  refine WOps.p (G.farith rfl rfl (r := four) h4) rfl ?_
  refine WOps.p (G.assign rfl) rfl ?_
  refine WOps.nil ?_
  refine WEx.forget (l' := [(0, .pointer (some ⟨p, 0, none⟩)), (2, .int .i64 0), (3, .float .f32 four)]) ⟨rfl, rfl, rfl, trivial⟩ ?_
  refine WEx.then_ ?_
  refine WCode.seq ?_
  refine WCode.region ?_
  refine WOps.p (G.move rfl) rfl ?_
  refine WOps.p (G.nilp rfl) rfl ?_
  refine WOps.p (G.field T.fld140_1 rfl (show 0 + 1 = 1 from rfl)) rfl ?_
  refine WOps.r (G.load1 T.one62 rfl (cell_blk (S.blk 0 rfl) rfl)) rfl ?_
  refine WOps.p (G.move rfl) rfl ?_
  refine WOps.p (G.farith rfl rfl (r := g1) hg) rfl ?_
  refine WOps.p (G.assign rfl) rfl ?_
  refine WOps.nil ?_
  refine WEx.forget (l' := [(2, .int .i64 0), (4, .float .f32 g1)]) ⟨rfl, rfl, trivial⟩ ?_
  refine WEx.then_ ?_
  refine WCode.seq ?_
  refine WCode.seq ?_
  refine WCode.region ?_
  refine WOps.p (G.move rfl) rfl ?_
  refine WOps.p (G.fgeq rfl rfl (v := false) hge) rfl ?_
  refine WOps.nil ?_
  refine WEx.forget (l' := [(2, .int .i64 0), (4, .float .f32 g1), (23, .bool false)]) ⟨rfl, rfl, rfl, trivial⟩ ?_
  refine WEx.then_ ?_
  refine WCode.cond_f rfl ?_
  refine WCode.skip ?_
  refine WEx.then_ ?_
  refine WCode.forget (l' := [(2, .int .i64 0), (4, .float .f32 g1)]) ⟨rfl, rfl, trivial⟩ ?_
  refine WCode.seq ?_
  refine WCode.region ?_
  refine WOps.p (G.move rfl) rfl ?_
  refine WOps.p (G.ftoi (by kernel_rfl) Try.underlying3 rfl (n := k) hk) rfl ?_
  refine WOps.p (G.assign rfl) rfl ?_
  refine WOps.nil ?_
  refine WEx.forget (l' := [(2, .int .i64 0), (4, .float .f32 g1), (5, .int .i64 k)]) ⟨rfl, rfl, rfl, trivial⟩ ?_
  refine WEx.then_ ?_
  refine WCode.seq ?_
  refine WCode.seq ?_
  refine WCode.region ?_
  refine WOps.p (G.move rfl) rfl ?_
  refine WOps.p (G.itof (k := .f32) (by kernel_rfl) Try.underlying62 rfl (r := (floatOfInt .f32 k)) rfl) rfl ?_
  refine WOps.p (G.move rfl) rfl ?_
  refine WOps.p (G.flss rfl rfl (v := true) hlt) rfl ?_
  refine WOps.nil ?_
  refine WEx.forget (l' := [(2, .int .i64 0), (5, .int .i64 k), (29, .bool true)]) ⟨rfl, rfl, rfl, trivial⟩ ?_
  refine WEx.then_ ?_
  refine WCode.cond_t rfl ?_
  refine WCode.region ?_
  refine WOps.p (G.move rfl) rfl ?_
  refine WOps.p (G.add rfl rfl (show IntKind.i64.wrap (k + 1) = (k + 1) from IntWalk.i64_in _ (by omega))) rfl ?_
  refine WOps.p (G.assign rfl) rfl ?_
  refine WOps.nil ?_
  refine WEx.forget (l' := [(2, .int .i64 0), (5, .int .i64 (k + 1))]) ⟨rfl, rfl, trivial⟩ ?_
  refine WEx.then_ ?_
  refine WCode.seq ?_
  refine WCode.region ?_
  refine WOps.p (G.move rfl) rfl ?_
  refine WOps.p (G.assign rfl) rfl ?_
  refine WOps.nil ?_
  refine WEx.forget (l' := [(2, .int .i64 (k + 1))]) ⟨rfl, trivial⟩ ?_
  refine WEx.then_ ?_
  refine WCode.ret ?_
  refine WEx.ret1 rfl rfl ?_
  exact ⟨rfl, St.keep (As := [[(p, .cells #[.bool true, .float .f32 m, .float .f32 s] 140 (0, 0))]]) S⟩

theorem pace_Guess1 {w : World} {p m s : Nat} (hp : Hp w (MG 140 p true m s)) {n : Int} (h : GuessS m s n) : Calls Try.prog 36 [.pointer (some ⟨p, 0, none⟩)].toArray w fun e w' => e = .returned (.int .i64 n) ∧ St w (· ∈ keys (MG 140 p true m s)) w' [MG 140 p true m s] := by
  obtain ⟨four, g1, h4, hg, hn⟩ := h
  split at hn
  · rename_i hge
    rw [hn]; exact pace_GuessA hp h4 hg hge
  · rename_i hge
    have hge' := Bool.eq_false_iff.2 hge
    obtain ⟨k, hk, hkr, hn⟩ := hn
    split at hn
    · rename_i hlt
      rw [hn]; exact pace_GuessC hp h4 hg hge' hk hlt hkr
    · rename_i hlt
      rw [hn]; exact pace_GuessB hp h4 hg hge' hk (Bool.eq_false_iff.2 hlt)

set_option maxRecDepth 100000 in
set_option maxHeartbeats 1000000 in
theorem ref_Hear0 {w : World} {p m s : Nat} (hp : Hp w (MG 64 p false m s)) (n : Int) (hn : i64 n) {x q : Nat} (hx : floatOfInt .f32 (cl n) = x) (hq : floatBits .quo .f32 x 1073741824 = some q) :
    Calls Try.prog 39 [.pointer (some ⟨p, 0, none⟩), .int .i64 n].toArray w fun e w' => e = .returned (.tuple #[]) ∧ St w (· ∈ keys (MG 64 p false m s)) w' [MG 64 p true x q] := by
  have S : St w (· ∈ keys (MG 64 p false m s)) w [[(p, .cells #[.bool false, .float .f32 m, .float .f32 s] 64 (0, 0))]] := St.init (Gs := [MG 64 p false m s]) (by simpa using hp)
  refine enter 67 [(0, .pointer (some ⟨p, 0, none⟩)), (1, .int .i64 n)] Try.func39 rfl rfl rfl rfl ?_
  refine WCode.seq ?_
  refine WCode.region ?_
  refine WOps.p (G.move rfl) rfl ?_
  refine WOps.p (G.max rfl rfl (show _ = (if 0 > n then 0 else n) from rfl)) rfl ?_
  refine WOps.p (G.min rfl rfl (show _ = (cl n) from (by unfold cl; (repeat' split) <;> omega))) rfl ?_
  refine WOps.p (G.itof (k := .f32) (by kernel_rfl) Try.underlying62 rfl (r := x) hx) rfl ?_
  refine WOps.p (G.assign rfl) rfl ?_
  refine WOps.nil ?_
  refine WEx.forget (l' := [(0, .pointer (some ⟨p, 0, none⟩)), (4, .float .f32 x)]) ⟨rfl, rfl, trivial⟩ ?_
  refine WEx.then_ ?_
  refine WCode.seq ?_
  refine WCode.seq ?_
  refine WCode.region ?_
  refine WOps.p (G.move rfl) rfl ?_
  refine WOps.p (G.nilp rfl) rfl ?_
  refine WOps.p (G.field T.fld64_0 rfl (show 0 + 0 = 0 from rfl)) rfl ?_
  refine WOps.r (G.load1 T.one4 rfl (cell_blk (S.blk 0 rfl) rfl)) rfl ?_
  refine WOps.p (G.not rfl rfl) rfl ?_
  refine WOps.nil ?_
  refine WEx.forget (l' := [(0, .pointer (some ⟨p, 0, none⟩)), (4, .float .f32 x), (16, .bool true)]) ⟨rfl, rfl, rfl, trivial⟩ ?_
  refine WEx.then_ ?_
  refine WCode.cond_t rfl ?_
  refine WCode.seq ?_
  refine WCode.region ?_
  refine WOps.p (G.move rfl) rfl ?_
  refine WOps.p (G.nilp rfl) rfl ?_
  refine WOps.p (G.field T.fld64_0 rfl (show 0 + 0 = 0 from rfl)) rfl ?_
  obtain ⟨w1, E2, S3⟩ := St.store (P := Try.prog) S 0 4 (.bool true) (off := 0) (cur' := #[.bool true, .float .f32 m, .float .f32 s]) rfl T.size4_1 rfl rfl rfl
  change St _ _ _ [[(p, .cells #[.bool true, .float .f32 m, .float .f32 s] 64 (0, 0))]] at S3
  refine WOps.u (E2 rfl rfl) ?_
  refine WOps.nil ?_
  refine WEx.forget (l' := [(0, .pointer (some ⟨p, 0, none⟩)), (4, .float .f32 x)]) ⟨rfl, rfl, trivial⟩ ?_
  refine WEx.then_ ?_
  refine WCode.seq ?_
  refine WCode.region ?_
  refine WOps.p (G.move rfl) rfl ?_
  refine WOps.p (G.move rfl) rfl ?_
  refine WOps.p (G.nilp rfl) rfl ?_
  refine WOps.p (G.field T.fld64_1 rfl (show 0 + 1 = 1 from rfl)) rfl ?_
  obtain ⟨w5, E6, S7⟩ := St.store (P := Try.prog) S3 0 62 (.float .f32 x) (off := 1) (cur' := #[.bool true, .float .f32 x, .float .f32 s]) rfl T.size62_1 rfl rfl rfl
  change St _ _ _ [[(p, .cells #[.bool true, .float .f32 x, .float .f32 s] 64 (0, 0))]] at S7
  refine WOps.u (E6 rfl rfl) ?_
  refine WOps.nil ?_
  refine WEx.forget (l' := [(0, .pointer (some ⟨p, 0, none⟩)), (4, .float .f32 x)]) ⟨rfl, rfl, trivial⟩ ?_
  refine WEx.then_ ?_
  refine WCode.seq ?_
  refine WCode.region ?_
  refine WOps.p (G.move rfl) rfl ?_
  refine WOps.p (G.move rfl) rfl ?_
  refine WOps.p (G.farith rfl rfl (r := q) hq) rfl ?_
  refine WOps.p (G.nilp rfl) rfl ?_
  refine WOps.p (G.field T.fld64_2 rfl (show 0 + 2 = 2 from rfl)) rfl ?_
  obtain ⟨w9, E10, S11⟩ := St.store (P := Try.prog) S7 0 62 (.float .f32 q) (off := 2) (cur' := #[.bool true, .float .f32 x, .float .f32 q]) rfl T.size62_1 rfl rfl rfl
  change St _ _ _ [[(p, .cells #[.bool true, .float .f32 x, .float .f32 q] 64 (0, 0))]] at S11
  refine WOps.u (E10 rfl rfl) ?_
  refine WOps.nil ?_
  refine WEx.forget (l' := [(0, .pointer (some ⟨p, 0, none⟩)), (4, .float .f32 x)]) ⟨rfl, rfl, trivial⟩ ?_
  refine WEx.then_ ?_
  refine WCode.ret ?_
  refine WEx.then_ret ?_
  refine WEx.ret0 rfl ?_
  exact ⟨rfl, St.keep (As := [[(p, .cells #[.bool true, .float .f32 x, .float .f32 q] 64 (0, 0))]]) S11⟩

set_option maxRecDepth 100000 in
set_option maxHeartbeats 1000000 in
theorem ref_Hear1 {w : World} {p m s : Nat} (hp : Hp w (MG 64 p true m s)) (n : Int) (hn : i64 n) {x m' s' : Nat} (hx : floatOfInt .f32 (cl n) = x) (h : HearS m s x m' s') :
    Calls Try.prog 39 [.pointer (some ⟨p, 0, none⟩), .int .i64 n].toArray w fun e w' => e = .returned (.tuple #[]) ∧ St w (· ∈ keys (MG 64 p true m s)) w' [MG 64 p true m' s'] := by
  obtain ⟨e1, part, e2, d, r, he, hpa, hm', hneg, hd, hr, hs'⟩ := h
  have cs : ((FloatKind.f32.format.order e1 0 == some .lt) = true) ∨ ((FloatKind.f32.format.order e1 0 == some .lt) = false) := Bool.eq_false_or_eq_true _
  rcases cs with hlt | hlt
  · have hne := hneg; rw [hlt] at hne
    have S : St w (· ∈ keys (MG 64 p true m s)) w [[(p, .cells #[.bool true, .float .f32 m, .float .f32 s] 64 (0, 0))]] := St.init (Gs := [MG 64 p true m s]) (by simpa using hp)
    refine enter 67 [(0, .pointer (some ⟨p, 0, none⟩)), (1, .int .i64 n)] Try.func39 rfl rfl rfl rfl ?_
    refine WCode.seq ?_
    refine WCode.region ?_
    refine WOps.p (G.move rfl) rfl ?_
    refine WOps.p (G.max rfl rfl (show _ = (if 0 > n then 0 else n) from rfl)) rfl ?_
    refine WOps.p (G.min rfl rfl (show _ = (cl n) from (by unfold cl; (repeat' split) <;> omega))) rfl ?_
    refine WOps.p (G.itof (k := .f32) (by kernel_rfl) Try.underlying62 rfl (r := x) hx) rfl ?_
    refine WOps.p (G.assign rfl) rfl ?_
    refine WOps.nil ?_
    refine WEx.forget (l' := [(0, .pointer (some ⟨p, 0, none⟩)), (4, .float .f32 x)]) ⟨rfl, rfl, trivial⟩ ?_
    refine WEx.then_ ?_
    refine WCode.seq ?_
    refine WCode.seq ?_
    refine WCode.region ?_
    refine WOps.p (G.move rfl) rfl ?_
    refine WOps.p (G.nilp rfl) rfl ?_
    refine WOps.p (G.field T.fld64_0 rfl (show 0 + 0 = 0 from rfl)) rfl ?_
    refine WOps.r (G.load1 T.one4 rfl (cell_blk (S.blk 0 rfl) rfl)) rfl ?_
    refine WOps.p (G.not rfl rfl) rfl ?_
    refine WOps.nil ?_
    refine WEx.forget (l' := [(0, .pointer (some ⟨p, 0, none⟩)), (4, .float .f32 x), (16, .bool false)]) ⟨rfl, rfl, rfl, trivial⟩ ?_
    refine WEx.then_ ?_
    refine WCode.cond_f rfl ?_
    refine WCode.skip ?_
    refine WEx.then_ ?_
    refine WCode.forget (l' := [(0, .pointer (some ⟨p, 0, none⟩)), (4, .float .f32 x)]) ⟨rfl, rfl, trivial⟩ ?_
    refine WCode.seq ?_
    refine WCode.region ?_
    refine WOps.p (G.move rfl) rfl ?_
    refine WOps.p (G.move rfl) rfl ?_
    refine WOps.p (G.nilp rfl) rfl ?_
    refine WOps.p (G.field T.fld64_1 rfl (show 0 + 1 = 1 from rfl)) rfl ?_
    refine WOps.r (G.load1 T.one62 rfl (cell_blk (S.blk 0 rfl) rfl)) rfl ?_
    refine WOps.p (G.farith rfl rfl (r := e1) he) rfl ?_
    refine WOps.p (G.assign rfl) rfl ?_
    refine WOps.nil ?_
    refine WEx.forget (l' := [(0, .pointer (some ⟨p, 0, none⟩)), (5, .float .f32 e1)]) ⟨rfl, rfl, trivial⟩ ?_
    refine WEx.then_ ?_
    refine WCode.seq ?_
    refine WCode.region ?_
    refine WOps.p (G.move rfl) rfl ?_
    refine WOps.p (G.farith rfl rfl (r := part) hpa) rfl ?_
    refine WOps.p (G.assign rfl) rfl ?_
    refine WOps.nil ?_
    refine WEx.forget (l' := [(0, .pointer (some ⟨p, 0, none⟩)), (5, .float .f32 e1), (6, .float .f32 part)]) ⟨rfl, rfl, rfl, trivial⟩ ?_
    refine WEx.then_ ?_
    refine WCode.seq ?_
    refine WCode.region ?_
    refine WOps.p (G.move rfl) rfl ?_
    refine WOps.p (G.move rfl) rfl ?_
    refine WOps.p (G.nilp rfl) rfl ?_
    refine WOps.p (G.field T.fld64_1 rfl (show 0 + 1 = 1 from rfl)) rfl ?_
    refine WOps.r (G.load1 T.one62 rfl (cell_blk (S.blk 0 rfl) rfl)) rfl ?_
    refine WOps.p (G.move rfl) rfl ?_
    refine WOps.p (G.farith rfl rfl (r := m') hm') rfl ?_
    refine WOps.p (G.nilp rfl) rfl ?_
    refine WOps.p (G.field T.fld64_1 rfl (show 0 + 1 = 1 from rfl)) rfl ?_
    obtain ⟨w1, E2, S3⟩ := St.store (P := Try.prog) S 0 62 (.float .f32 m') (off := 1) (cur' := #[.bool true, .float .f32 m', .float .f32 s]) rfl T.size62_1 rfl rfl rfl
    change St _ _ _ [[(p, .cells #[.bool true, .float .f32 m', .float .f32 s] 64 (0, 0))]] at S3
    refine WOps.u (E2 rfl rfl) ?_
    refine WOps.nil ?_
    refine WEx.forget (l' := [(0, .pointer (some ⟨p, 0, none⟩)), (5, .float .f32 e1), (6, .float .f32 part)]) ⟨rfl, rfl, rfl, trivial⟩ ?_
    refine WEx.then_ ?_
    refine WCode.seq ?_
    refine WCode.seq ?_
    refine WCode.region ?_
    refine WOps.p (G.move rfl) rfl ?_
    refine WOps.p (G.flss rfl rfl (v := true) hlt) rfl ?_
    refine WOps.nil ?_
    refine WEx.forget (l' := [(0, .pointer (some ⟨p, 0, none⟩)), (5, .float .f32 e1), (6, .float .f32 part), (47, .bool true)]) ⟨rfl, rfl, rfl, rfl, trivial⟩ ?_
    refine WEx.then_ ?_
    refine WCode.cond_t rfl ?_
    refine WCode.region ?_
    refine WOps.p (G.move rfl) rfl ?_
    refine WOps.p (G.fneg rfl (r := e2) hne) rfl ?_
    refine WOps.p (G.assign rfl) rfl ?_
    refine WOps.nil ?_
    refine WEx.forget (l' := [(0, .pointer (some ⟨p, 0, none⟩)), (5, .float .f32 e2), (6, .float .f32 part)]) ⟨rfl, rfl, rfl, trivial⟩ ?_
    refine WEx.then_ ?_
    refine WCode.seq ?_
    refine WCode.region ?_
    refine WOps.p (G.move rfl) rfl ?_
    refine WOps.p (G.move rfl) rfl ?_
    refine WOps.p (G.nilp rfl) rfl ?_
    refine WOps.p (G.field T.fld64_2 rfl (show 0 + 2 = 2 from rfl)) rfl ?_
    refine WOps.r (G.load1 T.one62 rfl (cell_blk (S3.blk 0 rfl) rfl)) rfl ?_
    refine WOps.p (G.farith rfl rfl (r := d) hd) rfl ?_
    refine WOps.p (G.assign rfl) rfl ?_
    refine WOps.nil ?_
    refine WEx.forget (l' := [(0, .pointer (some ⟨p, 0, none⟩)), (6, .float .f32 part), (7, .float .f32 d)]) ⟨rfl, rfl, rfl, trivial⟩ ?_
    refine WEx.then_ ?_
    refine WCode.seq ?_
    refine WCode.region ?_
    refine WOps.p (G.move rfl) rfl ?_
    refine WOps.p (G.farith rfl rfl (r := r) hr) rfl ?_
    refine WOps.p (G.assign rfl) rfl ?_
    refine WOps.nil ?_
    refine WEx.forget (l' := [(0, .pointer (some ⟨p, 0, none⟩)), (6, .float .f32 r)]) ⟨rfl, rfl, trivial⟩ ?_
    refine WEx.then_ ?_
    refine WCode.region ?_
    refine WOps.p (G.move rfl) rfl ?_
    refine WOps.p (G.move rfl) rfl ?_
    refine WOps.p (G.nilp rfl) rfl ?_
    refine WOps.p (G.field T.fld64_2 rfl (show 0 + 2 = 2 from rfl)) rfl ?_
    refine WOps.r (G.load1 T.one62 rfl (cell_blk (S3.blk 0 rfl) rfl)) rfl ?_
    refine WOps.p (G.move rfl) rfl ?_
    refine WOps.p (G.farith rfl rfl (r := s') hs') rfl ?_
    refine WOps.p (G.nilp rfl) rfl ?_
    refine WOps.p (G.field T.fld64_2 rfl (show 0 + 2 = 2 from rfl)) rfl ?_
    obtain ⟨w5, E6, S7⟩ := St.store (P := Try.prog) S3 0 62 (.float .f32 s') (off := 2) (cur' := #[.bool true, .float .f32 m', .float .f32 s']) rfl T.size62_1 rfl rfl rfl
    change St _ _ _ [[(p, .cells #[.bool true, .float .f32 m', .float .f32 s'] 64 (0, 0))]] at S7
    refine WOps.u (E6 rfl rfl) ?_
    refine WOps.nil ?_
    refine WEx.forget (l' := []) trivial ?_
    refine WEx.end0 rfl ?_
    exact ⟨rfl, St.keep (As := [[(p, .cells #[.bool true, .float .f32 m', .float .f32 s'] 64 (0, 0))]]) S7⟩
  · have hne := hneg; rw [hlt] at hne
    have S : St w (· ∈ keys (MG 64 p true m s)) w [[(p, .cells #[.bool true, .float .f32 m, .float .f32 s] 64 (0, 0))]] := St.init (Gs := [MG 64 p true m s]) (by simpa using hp)
    refine enter 67 [(0, .pointer (some ⟨p, 0, none⟩)), (1, .int .i64 n)] Try.func39 rfl rfl rfl rfl ?_
    refine WCode.seq ?_
    refine WCode.region ?_
    refine WOps.p (G.move rfl) rfl ?_
    refine WOps.p (G.max rfl rfl (show _ = (if 0 > n then 0 else n) from rfl)) rfl ?_
    refine WOps.p (G.min rfl rfl (show _ = (cl n) from (by unfold cl; (repeat' split) <;> omega))) rfl ?_
    refine WOps.p (G.itof (k := .f32) (by kernel_rfl) Try.underlying62 rfl (r := x) hx) rfl ?_
    refine WOps.p (G.assign rfl) rfl ?_
    refine WOps.nil ?_
    refine WEx.forget (l' := [(0, .pointer (some ⟨p, 0, none⟩)), (4, .float .f32 x)]) ⟨rfl, rfl, trivial⟩ ?_
    refine WEx.then_ ?_
    refine WCode.seq ?_
    refine WCode.seq ?_
    refine WCode.region ?_
    refine WOps.p (G.move rfl) rfl ?_
    refine WOps.p (G.nilp rfl) rfl ?_
    refine WOps.p (G.field T.fld64_0 rfl (show 0 + 0 = 0 from rfl)) rfl ?_
    refine WOps.r (G.load1 T.one4 rfl (cell_blk (S.blk 0 rfl) rfl)) rfl ?_
    refine WOps.p (G.not rfl rfl) rfl ?_
    refine WOps.nil ?_
    refine WEx.forget (l' := [(0, .pointer (some ⟨p, 0, none⟩)), (4, .float .f32 x), (16, .bool false)]) ⟨rfl, rfl, rfl, trivial⟩ ?_
    refine WEx.then_ ?_
    refine WCode.cond_f rfl ?_
    refine WCode.skip ?_
    refine WEx.then_ ?_
    refine WCode.forget (l' := [(0, .pointer (some ⟨p, 0, none⟩)), (4, .float .f32 x)]) ⟨rfl, rfl, trivial⟩ ?_
    refine WCode.seq ?_
    refine WCode.region ?_
    refine WOps.p (G.move rfl) rfl ?_
    refine WOps.p (G.move rfl) rfl ?_
    refine WOps.p (G.nilp rfl) rfl ?_
    refine WOps.p (G.field T.fld64_1 rfl (show 0 + 1 = 1 from rfl)) rfl ?_
    refine WOps.r (G.load1 T.one62 rfl (cell_blk (S.blk 0 rfl) rfl)) rfl ?_
    refine WOps.p (G.farith rfl rfl (r := e1) he) rfl ?_
    refine WOps.p (G.assign rfl) rfl ?_
    refine WOps.nil ?_
    refine WEx.forget (l' := [(0, .pointer (some ⟨p, 0, none⟩)), (5, .float .f32 e1)]) ⟨rfl, rfl, trivial⟩ ?_
    refine WEx.then_ ?_
    refine WCode.seq ?_
    refine WCode.region ?_
    refine WOps.p (G.move rfl) rfl ?_
    refine WOps.p (G.farith rfl rfl (r := part) hpa) rfl ?_
    refine WOps.p (G.assign rfl) rfl ?_
    refine WOps.nil ?_
    refine WEx.forget (l' := [(0, .pointer (some ⟨p, 0, none⟩)), (5, .float .f32 e1), (6, .float .f32 part)]) ⟨rfl, rfl, rfl, trivial⟩ ?_
    refine WEx.then_ ?_
    refine WCode.seq ?_
    refine WCode.region ?_
    refine WOps.p (G.move rfl) rfl ?_
    refine WOps.p (G.move rfl) rfl ?_
    refine WOps.p (G.nilp rfl) rfl ?_
    refine WOps.p (G.field T.fld64_1 rfl (show 0 + 1 = 1 from rfl)) rfl ?_
    refine WOps.r (G.load1 T.one62 rfl (cell_blk (S.blk 0 rfl) rfl)) rfl ?_
    refine WOps.p (G.move rfl) rfl ?_
    refine WOps.p (G.farith rfl rfl (r := m') hm') rfl ?_
    refine WOps.p (G.nilp rfl) rfl ?_
    refine WOps.p (G.field T.fld64_1 rfl (show 0 + 1 = 1 from rfl)) rfl ?_
    obtain ⟨w1, E2, S3⟩ := St.store (P := Try.prog) S 0 62 (.float .f32 m') (off := 1) (cur' := #[.bool true, .float .f32 m', .float .f32 s]) rfl T.size62_1 rfl rfl rfl
    change St _ _ _ [[(p, .cells #[.bool true, .float .f32 m', .float .f32 s] 64 (0, 0))]] at S3
    refine WOps.u (E2 rfl rfl) ?_
    refine WOps.nil ?_
    refine WEx.forget (l' := [(0, .pointer (some ⟨p, 0, none⟩)), (5, .float .f32 e1), (6, .float .f32 part)]) ⟨rfl, rfl, rfl, trivial⟩ ?_
    refine WEx.then_ ?_
    refine WCode.seq ?_
    refine WCode.seq ?_
    refine WCode.region ?_
    refine WOps.p (G.move rfl) rfl ?_
    refine WOps.p (G.flss rfl rfl (v := false) hlt) rfl ?_
    refine WOps.nil ?_
    refine WEx.forget (l' := [(0, .pointer (some ⟨p, 0, none⟩)), (5, .float .f32 e1), (6, .float .f32 part), (47, .bool false)]) ⟨rfl, rfl, rfl, rfl, trivial⟩ ?_
    refine WEx.then_ ?_
    refine WCode.cond_f rfl ?_
    refine WCode.skip ?_
    refine WEx.then_ ?_
    refine WCode.forget (l' := [(0, .pointer (some ⟨p, 0, none⟩)), (5, .float .f32 e1), (6, .float .f32 part)]) ⟨rfl, rfl, rfl, trivial⟩ ?_
    refine WCode.seq ?_
    refine WCode.region ?_
    refine WOps.p (G.move rfl) rfl ?_
    refine WOps.p (G.move rfl) rfl ?_
    refine WOps.p (G.nilp rfl) rfl ?_
    refine WOps.p (G.field T.fld64_2 rfl (show 0 + 2 = 2 from rfl)) rfl ?_
    refine WOps.r (G.load1 T.one62 rfl (cell_blk (S3.blk 0 rfl) rfl)) rfl ?_
    refine WOps.p (G.farith rfl rfl (r := d) (by simp only [Bool.false_eq_true, if_false] at hne; rw [hne]; exact hd)) rfl ?_
    refine WOps.p (G.assign rfl) rfl ?_
    refine WOps.nil ?_
    refine WEx.forget (l' := [(0, .pointer (some ⟨p, 0, none⟩)), (6, .float .f32 part), (7, .float .f32 d)]) ⟨rfl, rfl, rfl, trivial⟩ ?_
    refine WEx.then_ ?_
    refine WCode.seq ?_
    refine WCode.region ?_
    refine WOps.p (G.move rfl) rfl ?_
    refine WOps.p (G.farith rfl rfl (r := r) hr) rfl ?_
    refine WOps.p (G.assign rfl) rfl ?_
    refine WOps.nil ?_
    refine WEx.forget (l' := [(0, .pointer (some ⟨p, 0, none⟩)), (6, .float .f32 r)]) ⟨rfl, rfl, trivial⟩ ?_
    refine WEx.then_ ?_
    refine WCode.region ?_
    refine WOps.p (G.move rfl) rfl ?_
    refine WOps.p (G.move rfl) rfl ?_
    refine WOps.p (G.nilp rfl) rfl ?_
    refine WOps.p (G.field T.fld64_2 rfl (show 0 + 2 = 2 from rfl)) rfl ?_
    refine WOps.r (G.load1 T.one62 rfl (cell_blk (S3.blk 0 rfl) rfl)) rfl ?_
    refine WOps.p (G.move rfl) rfl ?_
    refine WOps.p (G.farith rfl rfl (r := s') hs') rfl ?_
    refine WOps.p (G.nilp rfl) rfl ?_
    refine WOps.p (G.field T.fld64_2 rfl (show 0 + 2 = 2 from rfl)) rfl ?_
    obtain ⟨w5, E6, S7⟩ := St.store (P := Try.prog) S3 0 62 (.float .f32 s') (off := 2) (cur' := #[.bool true, .float .f32 m', .float .f32 s']) rfl T.size62_1 rfl rfl rfl
    change St _ _ _ [[(p, .cells #[.bool true, .float .f32 m', .float .f32 s'] 64 (0, 0))]] at S7
    refine WOps.u (E6 rfl rfl) ?_
    refine WOps.nil ?_
    refine WEx.forget (l' := []) trivial ?_
    refine WEx.end0 rfl ?_
    exact ⟨rfl, St.keep (As := [[(p, .cells #[.bool true, .float .f32 m', .float .f32 s'] 64 (0, 0))]]) S7⟩

set_option maxRecDepth 100000 in
set_option maxHeartbeats 1000000 in
theorem ref_Guess0 {w : World} {p m s : Nat} (hp : Hp w (MG 64 p false m s)) :
    Calls Try.prog 37 [.pointer (some ⟨p, 0, none⟩)].toArray w fun e w' => e = .returned (.int .i64 0) ∧ St w (· ∈ keys (MG 64 p false m s)) w' [MG 64 p false m s] := by
  have S : St w (· ∈ keys (MG 64 p false m s)) w [[(p, .cells #[.bool false, .float .f32 m, .float .f32 s] 64 (0, 0))]] := St.init (Gs := [MG 64 p false m s]) (by simpa using hp)
  refine enter 33 [(0, .pointer (some ⟨p, 0, none⟩))] Try.func37 rfl rfl rfl rfl ?_
  refine WCode.seq ?_
  refine WCode.region ?_
  refine WOps.p (G.assign rfl) rfl ?_
  refine WOps.nil ?_
  refine WEx.then_ ?_
  refine WCode.seq ?_
  refine WCode.seq ?_
  refine WCode.region ?_
  refine WOps.p (G.move rfl) rfl ?_
  refine WOps.p (G.nilp rfl) rfl ?_
  refine WOps.p (G.field T.fld64_0 rfl (show 0 + 0 = 0 from rfl)) rfl ?_
  refine WOps.r (G.load1 T.one4 rfl (cell_blk (S.blk 0 rfl) rfl)) rfl ?_
  refine WOps.p (G.not rfl rfl) rfl ?_
  refine WOps.nil ?_
  refine WEx.forget (l' := [(0, .pointer (some ⟨p, 0, none⟩)), (2, .int .i64 0), (10, .bool true)]) ⟨rfl, rfl, rfl, trivial⟩ ?_
  refine WEx.then_ ?_
  refine WCode.cond_t rfl ?_
  refine WCode.seq ?_
  refine WCode.region ?_
  refine WOps.p (G.assign rfl) rfl ?_
  refine WOps.nil ?_
  refine WEx.forget (l' := [(0, .pointer (some ⟨p, 0, none⟩)), (2, .int .i64 0)]) ⟨rfl, rfl, trivial⟩ ?_
  refine WEx.then_ ?_
  refine WCode.ret ?_
  refine WEx.then_ret ?_
  refine WEx.ret1 rfl rfl ?_
  exact ⟨rfl, St.keep (As := [[(p, .cells #[.bool false, .float .f32 m, .float .f32 s] 64 (0, 0))]]) S⟩

set_option maxRecDepth 100000 in
set_option maxHeartbeats 1000000 in
theorem ref_GuessA {w : World} {p m s : Nat} (hp : Hp w (MG 64 p true m s)) {four g1 : Nat} (h4 : floatBits .mul .f32 1082130432 s = some four) (hg : floatBits .add .f32 m four = some g1) (hge : (FloatKind.f32.format.order g1 1233125376 == some .gt || FloatKind.f32.format.order g1 1233125376 == some .eq) = true) :
    Calls Try.prog 37 [.pointer (some ⟨p, 0, none⟩)].toArray w fun e w' => e = .returned (.int .i64 1048576) ∧ St w (· ∈ keys (MG 64 p true m s)) w' [MG 64 p true m s] := by
  have S : St w (· ∈ keys (MG 64 p true m s)) w [[(p, .cells #[.bool true, .float .f32 m, .float .f32 s] 64 (0, 0))]] := St.init (Gs := [MG 64 p true m s]) (by simpa using hp)
  refine enter 33 [(0, .pointer (some ⟨p, 0, none⟩))] Try.func37 rfl rfl rfl rfl ?_
  refine WCode.seq ?_
  refine WCode.region ?_
  refine WOps.p (G.assign rfl) rfl ?_
  refine WOps.nil ?_
  refine WEx.then_ ?_
  refine WCode.seq ?_
  refine WCode.seq ?_
  refine WCode.region ?_
  refine WOps.p (G.move rfl) rfl ?_
  refine WOps.p (G.nilp rfl) rfl ?_
  refine WOps.p (G.field T.fld64_0 rfl (show 0 + 0 = 0 from rfl)) rfl ?_
  refine WOps.r (G.load1 T.one4 rfl (cell_blk (S.blk 0 rfl) rfl)) rfl ?_
  refine WOps.p (G.not rfl rfl) rfl ?_
  refine WOps.nil ?_
  refine WEx.forget (l' := [(0, .pointer (some ⟨p, 0, none⟩)), (2, .int .i64 0), (10, .bool false)]) ⟨rfl, rfl, rfl, trivial⟩ ?_
  refine WEx.then_ ?_
  refine WCode.cond_f rfl ?_
  refine WCode.skip ?_
  refine WEx.then_ ?_
  refine WCode.forget (l' := [(0, .pointer (some ⟨p, 0, none⟩)), (2, .int .i64 0)]) ⟨rfl, rfl, trivial⟩ ?_
  refine WCode.seq ?_
  refine WCode.region ?_
  refine WOps.p (G.move rfl) rfl ?_
  refine WOps.p (G.nilp rfl) rfl ?_
  refine WOps.p (G.field T.fld64_2 rfl (show 0 + 2 = 2 from rfl)) rfl ?_
  refine WOps.r (G.load1 T.one62 rfl (cell_blk (S.blk 0 rfl) rfl)) rfl ?_
  refine WOps.p (G.farith rfl rfl (r := four) h4) rfl ?_
  refine WOps.p (G.assign rfl) rfl ?_
  refine WOps.nil ?_
  refine WEx.forget (l' := [(0, .pointer (some ⟨p, 0, none⟩)), (2, .int .i64 0), (3, .float .f32 four)]) ⟨rfl, rfl, rfl, trivial⟩ ?_
  refine WEx.then_ ?_
  refine WCode.seq ?_
  refine WCode.region ?_
  refine WOps.p (G.move rfl) rfl ?_
  refine WOps.p (G.nilp rfl) rfl ?_
  refine WOps.p (G.field T.fld64_1 rfl (show 0 + 1 = 1 from rfl)) rfl ?_
  refine WOps.r (G.load1 T.one62 rfl (cell_blk (S.blk 0 rfl) rfl)) rfl ?_
  refine WOps.p (G.move rfl) rfl ?_
  refine WOps.p (G.farith rfl rfl (r := g1) hg) rfl ?_
  refine WOps.p (G.assign rfl) rfl ?_
  refine WOps.nil ?_
  refine WEx.forget (l' := [(2, .int .i64 0), (4, .float .f32 g1)]) ⟨rfl, rfl, trivial⟩ ?_
  refine WEx.then_ ?_
  refine WCode.seq ?_
  refine WCode.seq ?_
  refine WCode.region ?_
  refine WOps.p (G.move rfl) rfl ?_
  refine WOps.p (G.fgeq rfl rfl (v := true) hge) rfl ?_
  refine WOps.nil ?_
  refine WEx.forget (l' := [(2, .int .i64 0), (4, .float .f32 g1), (23, .bool true)]) ⟨rfl, rfl, rfl, trivial⟩ ?_
  refine WEx.then_ ?_
  refine WCode.cond_t rfl ?_
  refine WCode.seq ?_
  refine WCode.region ?_
  refine WOps.p (G.assign rfl) rfl ?_
  refine WOps.nil ?_
  refine WEx.forget (l' := [(2, .int .i64 1048576), (4, .float .f32 g1)]) ⟨rfl, rfl, trivial⟩ ?_
  refine WEx.then_ ?_
  refine WCode.ret ?_
  refine WEx.then_ret ?_
  refine WEx.ret1 rfl rfl ?_
  exact ⟨rfl, St.keep (As := [[(p, .cells #[.bool true, .float .f32 m, .float .f32 s] 64 (0, 0))]]) S⟩

set_option maxRecDepth 100000 in
set_option maxHeartbeats 1000000 in
theorem ref_GuessB {w : World} {p m s : Nat} (hp : Hp w (MG 64 p true m s)) {four g1 : Nat} (h4 : floatBits .mul .f32 1082130432 s = some four) (hg : floatBits .add .f32 m four = some g1) {k : Int} (hge : (FloatKind.f32.format.order g1 1233125376 == some .gt || FloatKind.f32.format.order g1 1233125376 == some .eq) = false) (hk : floatToIntVal .f32 g1 .i64 = some k) (hlt : (FloatKind.f32.format.order (floatOfInt .f32 k) g1 == some .lt) = false) :
    Calls Try.prog 37 [.pointer (some ⟨p, 0, none⟩)].toArray w fun e w' => e = .returned (.int .i64 k) ∧ St w (· ∈ keys (MG 64 p true m s)) w' [MG 64 p true m s] := by
  have S : St w (· ∈ keys (MG 64 p true m s)) w [[(p, .cells #[.bool true, .float .f32 m, .float .f32 s] 64 (0, 0))]] := St.init (Gs := [MG 64 p true m s]) (by simpa using hp)
  refine enter 33 [(0, .pointer (some ⟨p, 0, none⟩))] Try.func37 rfl rfl rfl rfl ?_
  refine WCode.seq ?_
  refine WCode.region ?_
  refine WOps.p (G.assign rfl) rfl ?_
  refine WOps.nil ?_
  refine WEx.then_ ?_
  refine WCode.seq ?_
  refine WCode.seq ?_
  refine WCode.region ?_
  refine WOps.p (G.move rfl) rfl ?_
  refine WOps.p (G.nilp rfl) rfl ?_
  refine WOps.p (G.field T.fld64_0 rfl (show 0 + 0 = 0 from rfl)) rfl ?_
  refine WOps.r (G.load1 T.one4 rfl (cell_blk (S.blk 0 rfl) rfl)) rfl ?_
  refine WOps.p (G.not rfl rfl) rfl ?_
  refine WOps.nil ?_
  refine WEx.forget (l' := [(0, .pointer (some ⟨p, 0, none⟩)), (2, .int .i64 0), (10, .bool false)]) ⟨rfl, rfl, rfl, trivial⟩ ?_
  refine WEx.then_ ?_
  refine WCode.cond_f rfl ?_
  refine WCode.skip ?_
  refine WEx.then_ ?_
  refine WCode.forget (l' := [(0, .pointer (some ⟨p, 0, none⟩)), (2, .int .i64 0)]) ⟨rfl, rfl, trivial⟩ ?_
  refine WCode.seq ?_
  refine WCode.region ?_
  refine WOps.p (G.move rfl) rfl ?_
  refine WOps.p (G.nilp rfl) rfl ?_
  refine WOps.p (G.field T.fld64_2 rfl (show 0 + 2 = 2 from rfl)) rfl ?_
  refine WOps.r (G.load1 T.one62 rfl (cell_blk (S.blk 0 rfl) rfl)) rfl ?_
  refine WOps.p (G.farith rfl rfl (r := four) h4) rfl ?_
  refine WOps.p (G.assign rfl) rfl ?_
  refine WOps.nil ?_
  refine WEx.forget (l' := [(0, .pointer (some ⟨p, 0, none⟩)), (2, .int .i64 0), (3, .float .f32 four)]) ⟨rfl, rfl, rfl, trivial⟩ ?_
  refine WEx.then_ ?_
  refine WCode.seq ?_
  refine WCode.region ?_
  refine WOps.p (G.move rfl) rfl ?_
  refine WOps.p (G.nilp rfl) rfl ?_
  refine WOps.p (G.field T.fld64_1 rfl (show 0 + 1 = 1 from rfl)) rfl ?_
  refine WOps.r (G.load1 T.one62 rfl (cell_blk (S.blk 0 rfl) rfl)) rfl ?_
  refine WOps.p (G.move rfl) rfl ?_
  refine WOps.p (G.farith rfl rfl (r := g1) hg) rfl ?_
  refine WOps.p (G.assign rfl) rfl ?_
  refine WOps.nil ?_
  refine WEx.forget (l' := [(2, .int .i64 0), (4, .float .f32 g1)]) ⟨rfl, rfl, trivial⟩ ?_
  refine WEx.then_ ?_
  refine WCode.seq ?_
  refine WCode.seq ?_
  refine WCode.region ?_
  refine WOps.p (G.move rfl) rfl ?_
  refine WOps.p (G.fgeq rfl rfl (v := false) hge) rfl ?_
  refine WOps.nil ?_
  refine WEx.forget (l' := [(2, .int .i64 0), (4, .float .f32 g1), (23, .bool false)]) ⟨rfl, rfl, rfl, trivial⟩ ?_
  refine WEx.then_ ?_
  refine WCode.cond_f rfl ?_
  refine WCode.skip ?_
  refine WEx.then_ ?_
  refine WCode.forget (l' := [(2, .int .i64 0), (4, .float .f32 g1)]) ⟨rfl, rfl, trivial⟩ ?_
  refine WCode.seq ?_
  refine WCode.region ?_
  refine WOps.p (G.move rfl) rfl ?_
  refine WOps.p (G.ftoi (by kernel_rfl) Try.underlying3 rfl (n := k) hk) rfl ?_
  refine WOps.p (G.assign rfl) rfl ?_
  refine WOps.nil ?_
  refine WEx.forget (l' := [(2, .int .i64 0), (4, .float .f32 g1), (5, .int .i64 k)]) ⟨rfl, rfl, rfl, trivial⟩ ?_
  refine WEx.then_ ?_
  refine WCode.seq ?_
  refine WCode.seq ?_
  refine WCode.region ?_
  refine WOps.p (G.move rfl) rfl ?_
  refine WOps.p (G.itof (k := .f32) (by kernel_rfl) Try.underlying62 rfl (r := (floatOfInt .f32 k)) rfl) rfl ?_
  refine WOps.p (G.move rfl) rfl ?_
  refine WOps.p (G.flss rfl rfl (v := false) hlt) rfl ?_
  refine WOps.nil ?_
  refine WEx.forget (l' := [(2, .int .i64 0), (5, .int .i64 k), (29, .bool false)]) ⟨rfl, rfl, rfl, trivial⟩ ?_
  refine WEx.then_ ?_
  refine WCode.cond_f rfl ?_
  refine WCode.skip ?_
  refine WEx.then_ ?_
  refine WCode.forget (l' := [(2, .int .i64 0), (5, .int .i64 k)]) ⟨rfl, rfl, trivial⟩ ?_
  refine WCode.seq ?_
  refine WCode.region ?_
  refine WOps.p (G.move rfl) rfl ?_
  refine WOps.p (G.assign rfl) rfl ?_
  refine WOps.nil ?_
  refine WEx.forget (l' := [(2, .int .i64 k)]) ⟨rfl, trivial⟩ ?_
  refine WEx.then_ ?_
  refine WCode.ret ?_
  refine WEx.ret1 rfl rfl ?_
  exact ⟨rfl, St.keep (As := [[(p, .cells #[.bool true, .float .f32 m, .float .f32 s] 64 (0, 0))]]) S⟩

set_option maxRecDepth 100000 in
set_option maxHeartbeats 1000000 in
theorem ref_GuessC {w : World} {p m s : Nat} (hp : Hp w (MG 64 p true m s)) {four g1 : Nat} (h4 : floatBits .mul .f32 1082130432 s = some four) (hg : floatBits .add .f32 m four = some g1) {k : Int} (hge : (FloatKind.f32.format.order g1 1233125376 == some .gt || FloatKind.f32.format.order g1 1233125376 == some .eq) = false) (hk : floatToIntVal .f32 g1 .i64 = some k) (hlt : (FloatKind.f32.format.order (floatOfInt .f32 k) g1 == some .lt) = true) (hkr : -4000000000000000000 ≤ k ∧ k ≤ 4000000000000000000) :
    Calls Try.prog 37 [.pointer (some ⟨p, 0, none⟩)].toArray w fun e w' => e = .returned (.int .i64 (k + 1)) ∧ St w (· ∈ keys (MG 64 p true m s)) w' [MG 64 p true m s] := by
  have S : St w (· ∈ keys (MG 64 p true m s)) w [[(p, .cells #[.bool true, .float .f32 m, .float .f32 s] 64 (0, 0))]] := St.init (Gs := [MG 64 p true m s]) (by simpa using hp)
  refine enter 33 [(0, .pointer (some ⟨p, 0, none⟩))] Try.func37 rfl rfl rfl rfl ?_
  refine WCode.seq ?_
  refine WCode.region ?_
  refine WOps.p (G.assign rfl) rfl ?_
  refine WOps.nil ?_
  refine WEx.then_ ?_
  refine WCode.seq ?_
  refine WCode.seq ?_
  refine WCode.region ?_
  refine WOps.p (G.move rfl) rfl ?_
  refine WOps.p (G.nilp rfl) rfl ?_
  refine WOps.p (G.field T.fld64_0 rfl (show 0 + 0 = 0 from rfl)) rfl ?_
  refine WOps.r (G.load1 T.one4 rfl (cell_blk (S.blk 0 rfl) rfl)) rfl ?_
  refine WOps.p (G.not rfl rfl) rfl ?_
  refine WOps.nil ?_
  refine WEx.forget (l' := [(0, .pointer (some ⟨p, 0, none⟩)), (2, .int .i64 0), (10, .bool false)]) ⟨rfl, rfl, rfl, trivial⟩ ?_
  refine WEx.then_ ?_
  refine WCode.cond_f rfl ?_
  refine WCode.skip ?_
  refine WEx.then_ ?_
  refine WCode.forget (l' := [(0, .pointer (some ⟨p, 0, none⟩)), (2, .int .i64 0)]) ⟨rfl, rfl, trivial⟩ ?_
  refine WCode.seq ?_
  refine WCode.region ?_
  refine WOps.p (G.move rfl) rfl ?_
  refine WOps.p (G.nilp rfl) rfl ?_
  refine WOps.p (G.field T.fld64_2 rfl (show 0 + 2 = 2 from rfl)) rfl ?_
  refine WOps.r (G.load1 T.one62 rfl (cell_blk (S.blk 0 rfl) rfl)) rfl ?_
  refine WOps.p (G.farith rfl rfl (r := four) h4) rfl ?_
  refine WOps.p (G.assign rfl) rfl ?_
  refine WOps.nil ?_
  refine WEx.forget (l' := [(0, .pointer (some ⟨p, 0, none⟩)), (2, .int .i64 0), (3, .float .f32 four)]) ⟨rfl, rfl, rfl, trivial⟩ ?_
  refine WEx.then_ ?_
  refine WCode.seq ?_
  refine WCode.region ?_
  refine WOps.p (G.move rfl) rfl ?_
  refine WOps.p (G.nilp rfl) rfl ?_
  refine WOps.p (G.field T.fld64_1 rfl (show 0 + 1 = 1 from rfl)) rfl ?_
  refine WOps.r (G.load1 T.one62 rfl (cell_blk (S.blk 0 rfl) rfl)) rfl ?_
  refine WOps.p (G.move rfl) rfl ?_
  refine WOps.p (G.farith rfl rfl (r := g1) hg) rfl ?_
  refine WOps.p (G.assign rfl) rfl ?_
  refine WOps.nil ?_
  refine WEx.forget (l' := [(2, .int .i64 0), (4, .float .f32 g1)]) ⟨rfl, rfl, trivial⟩ ?_
  refine WEx.then_ ?_
  refine WCode.seq ?_
  refine WCode.seq ?_
  refine WCode.region ?_
  refine WOps.p (G.move rfl) rfl ?_
  refine WOps.p (G.fgeq rfl rfl (v := false) hge) rfl ?_
  refine WOps.nil ?_
  refine WEx.forget (l' := [(2, .int .i64 0), (4, .float .f32 g1), (23, .bool false)]) ⟨rfl, rfl, rfl, trivial⟩ ?_
  refine WEx.then_ ?_
  refine WCode.cond_f rfl ?_
  refine WCode.skip ?_
  refine WEx.then_ ?_
  refine WCode.forget (l' := [(2, .int .i64 0), (4, .float .f32 g1)]) ⟨rfl, rfl, trivial⟩ ?_
  refine WCode.seq ?_
  refine WCode.region ?_
  refine WOps.p (G.move rfl) rfl ?_
  refine WOps.p (G.ftoi (by kernel_rfl) Try.underlying3 rfl (n := k) hk) rfl ?_
  refine WOps.p (G.assign rfl) rfl ?_
  refine WOps.nil ?_
  refine WEx.forget (l' := [(2, .int .i64 0), (4, .float .f32 g1), (5, .int .i64 k)]) ⟨rfl, rfl, rfl, trivial⟩ ?_
  refine WEx.then_ ?_
  refine WCode.seq ?_
  refine WCode.seq ?_
  refine WCode.region ?_
  refine WOps.p (G.move rfl) rfl ?_
  refine WOps.p (G.itof (k := .f32) (by kernel_rfl) Try.underlying62 rfl (r := (floatOfInt .f32 k)) rfl) rfl ?_
  refine WOps.p (G.move rfl) rfl ?_
  refine WOps.p (G.flss rfl rfl (v := true) hlt) rfl ?_
  refine WOps.nil ?_
  refine WEx.forget (l' := [(2, .int .i64 0), (5, .int .i64 k), (29, .bool true)]) ⟨rfl, rfl, rfl, trivial⟩ ?_
  refine WEx.then_ ?_
  refine WCode.cond_t rfl ?_
  refine WCode.region ?_
  refine WOps.p (G.move rfl) rfl ?_
  refine WOps.p (G.add rfl rfl (show IntKind.i64.wrap (k + 1) = (k + 1) from IntWalk.i64_in _ (by omega))) rfl ?_
  refine WOps.p (G.assign rfl) rfl ?_
  refine WOps.nil ?_
  refine WEx.forget (l' := [(2, .int .i64 0), (5, .int .i64 (k + 1))]) ⟨rfl, rfl, trivial⟩ ?_
  refine WEx.then_ ?_
  refine WCode.seq ?_
  refine WCode.region ?_
  refine WOps.p (G.move rfl) rfl ?_
  refine WOps.p (G.assign rfl) rfl ?_
  refine WOps.nil ?_
  refine WEx.forget (l' := [(2, .int .i64 (k + 1))]) ⟨rfl, trivial⟩ ?_
  refine WEx.then_ ?_
  refine WCode.ret ?_
  refine WEx.ret1 rfl rfl ?_
  exact ⟨rfl, St.keep (As := [[(p, .cells #[.bool true, .float .f32 m, .float .f32 s] 64 (0, 0))]]) S⟩

theorem ref_Guess1 {w : World} {p m s : Nat} (hp : Hp w (MG 64 p true m s)) {n : Int} (h : GuessS m s n) : Calls Try.prog 37 [.pointer (some ⟨p, 0, none⟩)].toArray w fun e w' => e = .returned (.int .i64 n) ∧ St w (· ∈ keys (MG 64 p true m s)) w' [MG 64 p true m s] := by
  obtain ⟨four, g1, h4, hg, hn⟩ := h
  split at hn
  · rename_i hge
    rw [hn]; exact ref_GuessA hp h4 hg hge
  · rename_i hge
    have hge' := Bool.eq_false_iff.2 hge
    obtain ⟨k, hk, hkr, hn⟩ := hn
    split at hn
    · rename_i hlt
      rw [hn]; exact ref_GuessC hp h4 hg hge' hk hlt hkr
    · rename_i hlt
      rw [hn]; exact ref_GuessB hp h4 hg hge' hk (Bool.eq_false_iff.2 hlt)

end Go.Proofs.Ytoahkjehjmbojaa
