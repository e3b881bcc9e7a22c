/- Walks (printed by gen.py over the engine). -/
import Derived.Test.YtoahkjehjmbojaaAirB
namespace Go.Proofs.Ytoahkjehjmbojaa
open Go Go.Eng
set_option linter.unusedSimpArgs false
set_option linter.unusedVariables false
theorem T.call69 : Callable Try.prog 69 := Callable.mk Try.func69 (by kernel_rfl) (by kernel_rfl)

/-- Which of n things the raw number speaks of; sums that stay within the bound. -/
def pickZ (c : Int) (n : Nat) : Int := Int.tmod (if c < 0 then -(c + 1) else c) n
theorem tmod_in (x : Int) (n : Nat) (hx : 0 ≤ x) (h0 : 0 < n) (h1 : n ≤ 4000000000) : IntKind.i64.wrap (Int.tmod x n) = Int.tmod x n := by
  have h2 : 0 ≤ Int.tmod x n := Int.tmod_nonneg _ hx
  have h3 : Int.tmod x n < n := Int.tmod_lt_of_pos _ (by omega)
  exact IntWalk.i64_in _ (by omega)
theorem pickZ_in (c : Int) (n : Nat) (h0 : 0 < n) : 0 ≤ pickZ c n ∧ pickZ c n < n := by
  unfold pickZ
  exact ⟨Int.tmod_nonneg _ (by split <;> omega), Int.tmod_lt_of_pos _ (by omega)⟩
def addZ (n m : Int) : Int := if 2147483647 - n < m then 2147483648 else n + m
theorem addZ_in (n m : Int) (hn : 0 ≤ n) (hm : 0 ≤ m) : 0 ≤ addZ n m ∧ addZ n m ≤ 2147483648 := by
  unfold addZ; split <;> omega

set_option maxRecDepth 100000 in
set_option maxHeartbeats 1000000 in
theorem ref_Deliver {p : Nat} {L : List Pk} {tm : Int} {GA : Grp} {w : World} (hA : AirG 135 p L tm GA) (hp : Hp w GA) (hL : L.length ≤ 1000) (n : Int) :
    Calls Try.prog 69 [.pointer (some ⟨p, 0, none⟩), .int .i64 n].toArray w fun e w' => e = .returned (.tuple #[(delP L n).v, .int .i64 (delE L n)]) ∧ ∃ G', AirG 135 p (delL L n) tm G' ∧ St w (· ∈ keys GA) w' [G'] := by
  have cs : (n < 0) ∨ (0 ≤ n ∧ (L.length : Int) ≤ n) ∨ (isAt L n) := by unfold isAt; omega
  rcases cs with h | h | h
  · have S := St.init (Gs := [GA]) (by simpa using hp)
    have S := (S : St w (· ∈ keys [GA].flatten) w [GA])
    obtain ⟨A1, c2, R3, rfl, hR4⟩ := hA
    have hle := hR4.shape
    obtain ⟨_, _, hv, hle, _⟩ := hle; cases hv
    have S5 := S.split
    refine enter 48 [(0, .pointer (some ⟨p, 0, none⟩)), (1, .int .i64 n)] Try.func69 rfl rfl rfl rfl ?_
    refine WCode.seq ?_
    refine WCode.region ?_
    obtain ⟨b6, w7, E8, S9, X10, L11⟩ := St.var S5 T.zero37
    change St _ _ _ [[(b6, .cells #[.int .i64 0, .int .i64 0, .string ⟨#[]⟩] 37 (0, 0))], [(p, .cells #[.slice A1 L.length c2, .int .i64 tm] 135 (0, 0))], R3] at S9
    refine WOps.e E8 rfl ?_
    refine WOps.p (G.assign rfl) rfl ?_
    refine WOps.nil ?_
    refine WEx.then_ ?_
    refine WCode.seq ?_
    refine WCode.seq ?_
    refine WCode.region ?_
    refine WOps.p (G.move rfl) rfl ?_
    refine WOps.p (G.lss rfl rfl (b := true) (decide_eq_true (by omega))) rfl ?_
    refine WOps.p (G.move rfl) rfl ?_
    refine WOps.off rfl rfl rfl rfl ?_
    refine WOps.off rfl rfl rfl rfl ?_
    refine WOps.off rfl rfl rfl rfl ?_
    refine WOps.off rfl rfl rfl rfl ?_
    refine WOps.off rfl rfl rfl rfl ?_
    refine WOps.off rfl rfl rfl rfl ?_
    refine WOps.off rfl rfl rfl rfl ?_
    refine WOps.p (G.pick_t rfl rfl) rfl ?_
    refine WOps.nil ?_
    refine WEx.forget (l' := [(0, .pointer (some ⟨p, 0, none⟩)), (1, .int .i64 n), (4, .pointer (some ⟨b6, 0, none⟩)), (5, .int .i64 0), (18, .bool true)]) ⟨rfl, rfl, rfl, rfl, rfl, trivial⟩ ?_
    refine WEx.then_ ?_
    refine WCode.cond_t rfl ?_
    refine WCode.seq ?_
    refine WCode.region ?_
    refine WOps.p (G.build (cells := #[.int .i64 0, .int .i64 0, .string ⟨#[]⟩]) (evp_spec (evp_nil)) (by kernel_rfl)) rfl ?_
    obtain ⟨w12, E13, S14⟩ := St.store (P := Try.prog) S9 0 37 (.agg #[.int .i64 0, .int .i64 0, .string ⟨#[]⟩]) (off := 0) (cur' := #[.int .i64 0, .int .i64 0, .string ⟨#[]⟩]) rfl T.size37_3 rfl rfl rfl
    change St _ _ _ [[(b6, .cells #[.int .i64 0, .int .i64 0, .string ⟨#[]⟩] 37 (0, 0))], [(p, .cells #[.slice A1 L.length c2, .int .i64 tm] 135 (0, 0))], R3] at S14
    refine WOps.u (E13 rfl rfl) ?_
    refine WOps.p (G.assign rfl) rfl ?_
    refine WOps.nil ?_
    refine WEx.forget (l' := [(0, .pointer (some ⟨p, 0, none⟩)), (1, .int .i64 n), (4, .pointer (some ⟨b6, 0, none⟩)), (5, .int .i64 130)]) ⟨rfl, rfl, rfl, rfl, trivial⟩ ?_
    refine WEx.then_ ?_
    refine WCode.ret ?_
    refine WEx.then_ret ?_
    refine WEx.retc1 rfl rfl (cs := [.int .i64 0, .int .i64 0, .string ⟨#[]⟩]) T.agg37_3 (cellsAt.of_blk (S14.blk 0 rfl) rfl) rfl ?_
    have hn : ¬ isAt L n := fun h2 => by have := h2.1; have := h2.2; omega
    have S16 := S14.front 2 rfl
    change St _ _ _ [R3, [(b6, .cells #[.int .i64 0, .int .i64 0, .string ⟨#[]⟩] 37 (0, 0))], [(p, .cells #[.slice A1 L.length c2, .int .i64 tm] 135 (0, 0))]] at S16
    have S17 := S16.front 2 rfl
    change St _ _ _ [[(p, .cells #[.slice A1 L.length c2, .int .i64 tm] 135 (0, 0))], R3, [(b6, .cells #[.int .i64 0, .int .i64 0, .string ⟨#[]⟩] 37 (0, 0))]] at S17
    refine ⟨?_, _, ⟨A1, c2, R3, by rw [delL, if_neg hn], by rw [delL, if_neg hn]; exact hR4⟩, by simpa using St.keep (As := [_]) S17.join⟩
    rw [delP, delE, if_neg hn, if_neg hn]; rfl
  · have S := St.init (Gs := [GA]) (by simpa using hp)
    have S := (S : St w (· ∈ keys [GA].flatten) w [GA])
    obtain ⟨A1, c2, R3, rfl, hR4⟩ := hA
    have hle := hR4.shape
    obtain ⟨_, _, hv, hle, _⟩ := hle; cases hv
    have S5 := S.split
    refine enter 48 [(0, .pointer (some ⟨p, 0, none⟩)), (1, .int .i64 n)] Try.func69 rfl rfl rfl rfl ?_
    refine WCode.seq ?_
    refine WCode.region ?_
    obtain ⟨b6, w7, E8, S9, X10, L11⟩ := St.var S5 T.zero37
    change St _ _ _ [[(b6, .cells #[.int .i64 0, .int .i64 0, .string ⟨#[]⟩] 37 (0, 0))], [(p, .cells #[.slice A1 L.length c2, .int .i64 tm] 135 (0, 0))], R3] at S9
    refine WOps.e E8 rfl ?_
    refine WOps.p (G.assign rfl) rfl ?_
    refine WOps.nil ?_
    refine WEx.then_ ?_
    refine WCode.seq ?_
    refine WCode.seq ?_
    refine WCode.region ?_
    refine WOps.p (G.move rfl) rfl ?_
    refine WOps.p (G.lss rfl rfl (b := false) (decide_eq_false (by omega))) rfl ?_
    refine WOps.p (G.move rfl) rfl ?_
    refine WOps.on rfl rfl ?_
    refine WOps.p (G.move rfl) rfl ?_
    refine WOps.on rfl rfl ?_
    refine WOps.p (G.move rfl) rfl ?_
    refine WOps.on rfl rfl ?_
    refine WOps.p (G.nilp rfl) rfl ?_
    refine WOps.on rfl rfl ?_
    refine WOps.p (G.field T.fld135_0 rfl (show 0 + 0 = 0 from rfl)) rfl ?_
    refine WOps.on rfl rfl ?_
    refine WOps.r (G.load1 T.one43 rfl (cell_blk (S9.blk 1 rfl) rfl)) rfl ?_
    refine WOps.on rfl rfl ?_
    refine WOps.p (G.len T.el43 rfl) rfl ?_
    refine WOps.on rfl rfl ?_
    refine WOps.p (G.geq rfl rfl (b := true) (decide_eq_true (by omega))) rfl ?_
    refine WOps.p (G.pick_f rfl rfl) rfl ?_
    refine WOps.nil ?_
    refine WEx.forget (l' := [(0, .pointer (some ⟨p, 0, none⟩)), (1, .int .i64 n), (4, .pointer (some ⟨b6, 0, none⟩)), (5, .int .i64 0), (18, .bool true)]) ⟨rfl, rfl, rfl, rfl, rfl, trivial⟩ ?_
    refine WEx.then_ ?_
    refine WCode.cond_t rfl ?_
    refine WCode.seq ?_
    refine WCode.region ?_
    refine WOps.p (G.build (cells := #[.int .i64 0, .int .i64 0, .string ⟨#[]⟩]) (evp_spec (evp_nil)) (by kernel_rfl)) rfl ?_
    obtain ⟨w12, E13, S14⟩ := St.store (P := Try.prog) S9 0 37 (.agg #[.int .i64 0, .int .i64 0, .string ⟨#[]⟩]) (off := 0) (cur' := #[.int .i64 0, .int .i64 0, .string ⟨#[]⟩]) rfl T.size37_3 rfl rfl rfl
    change St _ _ _ [[(b6, .cells #[.int .i64 0, .int .i64 0, .string ⟨#[]⟩] 37 (0, 0))], [(p, .cells #[.slice A1 L.length c2, .int .i64 tm] 135 (0, 0))], R3] at S14
    refine WOps.u (E13 rfl rfl) ?_
    refine WOps.p (G.assign rfl) rfl ?_
    refine WOps.nil ?_
    refine WEx.forget (l' := [(0, .pointer (some ⟨p, 0, none⟩)), (1, .int .i64 n), (4, .pointer (some ⟨b6, 0, none⟩)), (5, .int .i64 130)]) ⟨rfl, rfl, rfl, rfl, trivial⟩ ?_
    refine WEx.then_ ?_
    refine WCode.ret ?_
    refine WEx.then_ret ?_
    refine WEx.retc1 rfl rfl (cs := [.int .i64 0, .int .i64 0, .string ⟨#[]⟩]) T.agg37_3 (cellsAt.of_blk (S14.blk 0 rfl) rfl) rfl ?_
    have hn : ¬ isAt L n := fun h2 => by have := h2.1; have := h2.2; omega
    have S16 := S14.front 2 rfl
    change St _ _ _ [R3, [(b6, .cells #[.int .i64 0, .int .i64 0, .string ⟨#[]⟩] 37 (0, 0))], [(p, .cells #[.slice A1 L.length c2, .int .i64 tm] 135 (0, 0))]] at S16
    have S17 := S16.front 2 rfl
    change St _ _ _ [[(p, .cells #[.slice A1 L.length c2, .int .i64 tm] 135 (0, 0))], R3, [(b6, .cells #[.int .i64 0, .int .i64 0, .string ⟨#[]⟩] 37 (0, 0))]] at S17
    refine ⟨?_, _, ⟨A1, c2, R3, by rw [delL, if_neg hn], by rw [delL, if_neg hn]; exact hR4⟩, by simpa using St.keep (As := [_]) S17.join⟩
    rw [delP, delE, if_neg hn, if_neg hn]; rfl
  · obtain ⟨j, x, rfl, hj⟩ := at_nat h
    have hjl : j < L.length := (List.getElem?_eq_some_iff.1 hj).1
    have S := St.init (Gs := [GA]) (by simpa using hp)
    have S := (S : St w (· ∈ keys [GA].flatten) w [GA])
    obtain ⟨A1, c2, R3, rfl, hR4⟩ := hA
    have hle := hR4.shape
    obtain ⟨_, _, hv, hle, _⟩ := hle; cases hv
    have S5 := S.split
    refine enter 48 [(0, .pointer (some ⟨p, 0, none⟩)), (1, .int .i64 (j : Int))] Try.func69 rfl rfl rfl rfl ?_
    refine WCode.seq ?_
    refine WCode.region ?_
    obtain ⟨b6, w7, E8, S9, X10, L11⟩ := St.var S5 T.zero37
    change St _ _ _ [[(b6, .cells #[.int .i64 0, .int .i64 0, .string ⟨#[]⟩] 37 (0, 0))], [(p, .cells #[.slice A1 L.length c2, .int .i64 tm] 135 (0, 0))], R3] at S9
    refine WOps.e E8 rfl ?_
    refine WOps.p (G.assign rfl) rfl ?_
    refine WOps.nil ?_
    refine WEx.then_ ?_
    refine WCode.seq ?_
    refine WCode.seq ?_
    refine WCode.region ?_
    refine WOps.p (G.move rfl) rfl ?_
    refine WOps.p (G.lss rfl rfl (b := false) (decide_eq_false (by omega))) rfl ?_
    refine WOps.p (G.move rfl) rfl ?_
    refine WOps.on rfl rfl ?_
    refine WOps.p (G.move rfl) rfl ?_
    refine WOps.on rfl rfl ?_
    refine WOps.p (G.move rfl) rfl ?_
    refine WOps.on rfl rfl ?_
    refine WOps.p (G.nilp rfl) rfl ?_
    refine WOps.on rfl rfl ?_
    refine WOps.p (G.field T.fld135_0 rfl (show 0 + 0 = 0 from rfl)) rfl ?_
    refine WOps.on rfl rfl ?_
    refine WOps.r (G.load1 T.one43 rfl (cell_blk (S9.blk 1 rfl) rfl)) rfl ?_
    refine WOps.on rfl rfl ?_
    refine WOps.p (G.len T.el43 rfl) rfl ?_
    refine WOps.on rfl rfl ?_
    refine WOps.p (G.geq rfl rfl (b := false) (decide_eq_false (by omega))) rfl ?_
    refine WOps.p (G.pick_f rfl rfl) rfl ?_
    refine WOps.nil ?_
    refine WEx.forget (l' := [(0, .pointer (some ⟨p, 0, none⟩)), (1, .int .i64 (j : Int)), (4, .pointer (some ⟨b6, 0, none⟩)), (5, .int .i64 0), (18, .bool false)]) ⟨rfl, rfl, rfl, rfl, rfl, trivial⟩ ?_
    refine WEx.then_ ?_
    refine WCode.cond_f rfl ?_
    refine WCode.skip ?_
    refine WEx.then_ ?_
    refine WCode.forget (l' := [(0, .pointer (some ⟨p, 0, none⟩)), (1, .int .i64 (j : Int)), (4, .pointer (some ⟨b6, 0, none⟩)), (5, .int .i64 0)]) ⟨rfl, rfl, rfl, rfl, trivial⟩ ?_
    refine WCode.seq ?_
    refine WCode.region ?_
    refine WOps.p (G.move rfl) rfl ?_
    refine WOps.p (G.nilp rfl) rfl ?_
    refine WOps.p (G.field T.fld135_0 rfl (show 0 + 0 = 0 from rfl)) rfl ?_
    refine WOps.r (G.load1 T.one43 rfl (cell_blk (S9.blk 1 rfl) rfl)) rfl ?_
    refine WOps.p (G.move rfl) rfl ?_
    obtain ⟨b12, o13, ea14, ca15⟩ := Rd.at_ Pk.len (hR4.rd (fun b o hb => S9.grp 2 rfl hb)).2 hj rfl
    cases ea14
    refine WOps.p (G.index T.el43 rfl rfl (j := j) hjl rfl) rfl ?_
    refine WOps.r (G.loada T.agg37_3 rfl (cs := [.int .i64 x.f, .int .i64 x.t, .string x.d]) ca15) rfl ?_
    obtain ⟨b16, w17, E18, S19, X20, L21⟩ := St.var S9 T.zero37
    have c22 := ca15.ext X20
    change St _ _ _ [[(b16, .cells #[.int .i64 0, .int .i64 0, .string ⟨#[]⟩] 37 (0, 0))], [(b6, .cells #[.int .i64 0, .int .i64 0, .string ⟨#[]⟩] 37 (0, 0))], [(p, .cells #[.slice (some ⟨b12, o13, none⟩) L.length c2, .int .i64 tm] 135 (0, 0))], R3] at S19
    refine WOps.e E18 rfl ?_
    obtain ⟨w23, E24, S25⟩ := St.store (P := Try.prog) S19 0 37 (.agg #[.int .i64 x.f, .int .i64 x.t, .string x.d]) (off := 0) (cur' := #[.int .i64 x.f, .int .i64 x.t, .string x.d]) rfl T.size37_3 rfl rfl rfl
    change St _ _ _ [[(b16, .cells #[.int .i64 x.f, .int .i64 x.t, .string x.d] 37 (0, 0))], [(b6, .cells #[.int .i64 0, .int .i64 0, .string ⟨#[]⟩] 37 (0, 0))], [(p, .cells #[.slice (some ⟨b12, o13, none⟩) L.length c2, .int .i64 tm] 135 (0, 0))], R3] at S25
    refine WOps.u (E24 rfl rfl) ?_
    refine WOps.nil ?_
    refine WEx.forget (l' := [(0, .pointer (some ⟨p, 0, none⟩)), (1, .int .i64 (j : Int)), (4, .pointer (some ⟨b6, 0, none⟩)), (5, .int .i64 0), (6, .pointer (some ⟨b16, 0, none⟩))]) ⟨rfl, rfl, rfl, rfl, rfl, trivial⟩ ?_
    refine WEx.then_ ?_
    refine WCode.seq ?_
    refine WCode.region ?_
    refine WOps.p (G.assign rfl) rfl ?_
    refine WOps.nil ?_
    refine WEx.then_ ?_
    refine WCode.seq ?_
    refine WCode.region ?_
    refine WOps.p (G.move rfl) rfl ?_
    refine WOps.p (G.move rfl) rfl ?_
    refine WOps.p (G.nilp rfl) rfl ?_
    refine WOps.p (G.field T.fld135_0 rfl (show 0 + 0 = 0 from rfl)) rfl ?_
    refine WOps.r (G.load1 T.one43 rfl (cell_blk (S25.blk 2 rfl) rfl)) rfl ?_
    refine WOps.p (G.move rfl) rfl ?_
    refine WOps.p (G.slice_h T.el43 rfl (h := j) rfl (by omega)) rfl ?_
    have S27 := S25.emp
    have h028 : RowG 37 3 (.slice none 0 0) 0 [] [] := ⟨by simp, .inl ⟨_, rfl, rfl, rfl⟩⟩
    obtain ⟨A29, c30, G31, w32, E33, hR34, S35⟩ := St.append (P := Try.prog) S27 0 rfl T.elt43 h028 (Rd.take (hR4.rd (fun b o hb => S27.grp 4 rfl hb)).2 (m := j) (by omega)) (fun u hu => Pk.ones L u (List.mem_of_mem_take hu)) (by simp only [maxLen]; omega) (by omega)
    change St _ _ _ [G31, [(b16, .cells #[.int .i64 x.f, .int .i64 x.t, .string x.d] 37 (0, 0))], [(b6, .cells #[.int .i64 0, .int .i64 0, .string ⟨#[]⟩] 37 (0, 0))], [(p, .cells #[.slice (some ⟨b12, o13, none⟩) L.length c2, .int .i64 tm] 135 (0, 0))], R3] at S35
    refine WOps.e (E33 rfl rfl) rfl ?_
    refine WOps.p (G.assign rfl) rfl ?_
    refine WOps.nil ?_
    refine WEx.forget (l' := [(0, .pointer (some ⟨p, 0, none⟩)), (1, .int .i64 (j : Int)), (4, .pointer (some ⟨b6, 0, none⟩)), (5, .int .i64 0), (6, .pointer (some ⟨b16, 0, none⟩)), (7, .slice A29 (0 + j) c30)]) ⟨rfl, rfl, rfl, rfl, rfl, rfl, trivial⟩ ?_
    refine WEx.then_ ?_
    refine WCode.seq ?_
    refine WCode.region ?_
    refine WOps.p (G.move rfl) rfl ?_
    refine WOps.p (G.move rfl) rfl ?_
    refine WOps.p (G.move rfl) rfl ?_
    refine WOps.p (G.nilp rfl) rfl ?_
    refine WOps.p (G.field T.fld135_0 rfl (show 0 + 0 = 0 from rfl)) rfl ?_
    refine WOps.r (G.load1 T.one43 rfl (cell_blk (S35.blk 3 rfl) rfl)) rfl ?_
    refine WOps.p (G.move rfl) rfl ?_
    refine WOps.p (G.add rfl rfl (show IntKind.i64.wrap ((j : Int) + 1) = ((j : Int) + 1) from IntWalk.i64_in _ (by simp only [maxLen] at *; omega))) rfl ?_
    refine WOps.p (G.slice_l T.el43 rfl (lo := j + 1) rfl (by omega)) rfl ?_
    obtain ⟨A36, c37, G38, w39, E40, hR41, S42⟩ := St.append (P := Try.prog) S35 0 rfl T.elt43 hR34 (Rd.drop (hR4.rd (fun b o hb => S35.grp 4 rfl hb)).2 (lo := j + 1) (by omega) hle) (fun u hu => Pk.ones L u (List.mem_of_mem_drop hu)) (by simp only [maxLen]; omega) (by omega)
    change St _ _ _ [G38, [(b16, .cells #[.int .i64 x.f, .int .i64 x.t, .string x.d] 37 (0, 0))], [(b6, .cells #[.int .i64 0, .int .i64 0, .string ⟨#[]⟩] 37 (0, 0))], [(p, .cells #[.slice (some ⟨b12, o13, none⟩) L.length c2, .int .i64 tm] 135 (0, 0))], R3] at S42
    refine WOps.e (E40 rfl rfl) rfl ?_
    refine WOps.p (G.nilp rfl) rfl ?_
    refine WOps.p (G.field T.fld135_0 rfl (show 0 + 0 = 0 from rfl)) rfl ?_
    obtain ⟨w43, E44, S45⟩ := St.store (P := Try.prog) S42 3 43 (.slice A36 ((0 + j) + (L.length - (j + 1))) c37) (off := 0) (cur' := #[.slice A36 ((0 + j) + (L.length - (j + 1))) c37, .int .i64 tm]) rfl T.size43_1 rfl rfl rfl
    change St _ _ _ [G38, [(b16, .cells #[.int .i64 x.f, .int .i64 x.t, .string x.d] 37 (0, 0))], [(b6, .cells #[.int .i64 0, .int .i64 0, .string ⟨#[]⟩] 37 (0, 0))], [(p, .cells #[.slice A36 ((0 + j) + (L.length - (j + 1))) c37, .int .i64 tm] 135 (0, 0))], R3] at S45
    refine WOps.u (E44 rfl rfl) ?_
    refine WOps.nil ?_
    refine WEx.forget (l' := [(4, .pointer (some ⟨b6, 0, none⟩)), (5, .int .i64 0), (6, .pointer (some ⟨b16, 0, none⟩))]) ⟨rfl, rfl, rfl, trivial⟩ ?_
    refine WEx.then_ ?_
    refine WCode.seq ?_
    refine WCode.region ?_
    refine WOps.r (G.loada T.agg37_3 rfl (cs := [.int .i64 x.f, .int .i64 x.t, .string x.d]) (cellsAt.of_blk (S45.blk 1 rfl) rfl)) rfl ?_
    obtain ⟨w47, E48, S49⟩ := St.store (P := Try.prog) S45 2 37 (.agg #[.int .i64 x.f, .int .i64 x.t, .string x.d]) (off := 0) (cur' := #[.int .i64 x.f, .int .i64 x.t, .string x.d]) rfl T.size37_3 rfl rfl rfl
    change St _ _ _ [G38, [(b16, .cells #[.int .i64 x.f, .int .i64 x.t, .string x.d] 37 (0, 0))], [(b6, .cells #[.int .i64 x.f, .int .i64 x.t, .string x.d] 37 (0, 0))], [(p, .cells #[.slice A36 ((0 + j) + (L.length - (j + 1))) c37, .int .i64 tm] 135 (0, 0))], R3] at S49
    refine WOps.u (E48 rfl rfl) ?_
    refine WOps.p (G.assign rfl) rfl ?_
    refine WOps.nil ?_
    refine WEx.forget (l' := [(4, .pointer (some ⟨b6, 0, none⟩)), (5, .int .i64 0)]) ⟨rfl, rfl, trivial⟩ ?_
    refine WEx.then_ ?_
    refine WCode.ret ?_
    refine WEx.retc1 rfl rfl (cs := [.int .i64 x.f, .int .i64 x.t, .string x.d]) T.agg37_3 (cellsAt.of_blk (S49.blk 2 rfl) rfl) rfl ?_
    have S51 := S49.front 3 rfl
    change St _ _ _ [[(p, .cells #[.slice A36 ((0 + j) + (L.length - (j + 1))) c37, .int .i64 tm] 135 (0, 0))], G38, [(b16, .cells #[.int .i64 x.f, .int .i64 x.t, .string x.d] 37 (0, 0))], [(b6, .cells #[.int .i64 x.f, .int .i64 x.t, .string x.d] 37 (0, 0))], R3] at S51
    have S52 := S51.join
    have S53 := St.keep (As := [[(p, .cells #[.slice A36 ((0 + j) + (L.length - (j + 1))) c37, .int .i64 tm] 135 (0, 0))] ++ G38]) S52
    refine ⟨?_, _, AirG.mk hR41 (by rw [delL, if_pos h, Nat.zero_add]; exact erase_len hjl) (by rw [delL, if_pos h, List.nil_append]; exact erase_cells L j), by simpa using S53⟩
    rw [delP, delE, if_pos h, if_pos h, Int.toNat_natCast, hj]; rfl

set_option maxRecDepth 100000 in
set_option maxHeartbeats 1000000 in
theorem ref_Drop {p : Nat} {L : List Pk} {tm : Int} {GA : Grp} {w : World} (hA : AirG 135 p L tm GA) (hp : Hp w GA) (hL : L.length ≤ 1000) (n : Int) :
    Calls Try.prog 70 [.pointer (some ⟨p, 0, none⟩), .int .i64 n].toArray w fun e w' => e = .returned (.int .i64 (delE L n)) ∧ ∃ G', AirG 135 p (delL L n) tm G' ∧ St w (· ∈ keys GA) w' [G'] := by
  have S := St.init (Gs := [GA]) (by simpa using hp)
  have S := (S : St w (· ∈ keys [GA].flatten) w [GA])
  refine enter 14 [(0, .pointer (some ⟨p, 0, none⟩)), (1, .int .i64 n)] Try.func70 rfl rfl rfl rfl ?_
  refine WCode.seq ?_
  refine WCode.region ?_
  refine WOps.p (G.assign rfl) rfl ?_
  refine WOps.nil ?_
  refine WEx.then_ ?_
  refine WCode.seq ?_
  refine WCode.region ?_
  refine WOps.p (G.move rfl) rfl ?_
  refine WOps.p (G.move rfl) rfl ?_
  refine WOps.call T.call69 (evs_cons rfl (evs_cons rfl evs_nil)) rfl ?_
  refine (ref_Deliver hA S.hp1 hL n).mono ?_
  rintro _ w1 ⟨rfl, G2, hA3, T4⟩
  have S5 := S.call1 T4
  change St _ _ _ [G2] at S5
  refine ⟨_, rfl, ?_⟩
  refine WOps.p (G.move rfl) rfl ?_
  refine WOps.p (G.extract rfl rfl) rfl ?_
  refine WOps.p (G.extract rfl rfl) rfl ?_
  obtain ⟨b6, w7, E8, S9, X10, L11⟩ := St.var S5 T.zero37
  change St _ _ _ [[(b6, .cells #[.int .i64 0, .int .i64 0, .string ⟨#[]⟩] 37 (0, 0))], G2] at S9
  refine WOps.e E8 rfl ?_
  obtain ⟨w12, E13, S14⟩ := St.store (P := Try.prog) S9 0 37 (.agg #[.int .i64 ((delP L n).f), .int .i64 ((delP L n).t), .string ((delP L n).d)]) (off := 0) (cur' := #[.int .i64 ((delP L n).f), .int .i64 ((delP L n).t), .string ((delP L n).d)]) rfl T.size37_3 rfl rfl rfl
  change St _ _ _ [[(b6, .cells #[.int .i64 ((delP L n).f), .int .i64 ((delP L n).t), .string ((delP L n).d)] 37 (0, 0))], G2] at S14
  refine WOps.u (E13 rfl rfl) ?_
  refine WOps.p (G.assign rfl) rfl ?_
  refine WOps.nil ?_
  refine WEx.forget (l' := [(4, .int .i64 0), (6, .int .i64 (delE L n))]) ⟨rfl, rfl, trivial⟩ ?_
  refine WEx.then_ ?_
  refine WCode.seq ?_
  refine WCode.region ?_
  refine WOps.p (G.move rfl) rfl ?_
  refine WOps.p (G.assign rfl) rfl ?_
  refine WOps.nil ?_
  refine WEx.forget (l' := [(4, .int .i64 (delE L n))]) ⟨rfl, trivial⟩ ?_
  refine WEx.then_ ?_
  refine WCode.ret ?_
  refine WEx.ret1 rfl rfl ?_
  have S16 := S14.front 1 rfl
  change St _ _ _ [G2, [(b6, .cells #[.int .i64 ((delP L n).f), .int .i64 ((delP L n).t), .string ((delP L n).d)] 37 (0, 0))]] at S16
  exact ⟨rfl, G2, hA3, by simpa using St.keep (As := [G2]) S16⟩

set_option maxRecDepth 100000 in
set_option maxHeartbeats 1000000 in
theorem ref_Double {p : Nat} {L : List Pk} {tm : Int} {GA : Grp} {w : World} (hA : AirG 135 p L tm GA) (hp : Hp w GA) (hL : L.length ≤ 1000) (n : Int) :
    Calls Try.prog 71 [.pointer (some ⟨p, 0, none⟩), .int .i64 n].toArray w fun e w' => e = .returned (.int .i64 (dblE L n)) ∧ ∃ G', AirG 135 p (dblL L n) tm G' ∧ St w (· ∈ keys GA) w' [G'] := by
  have cs : (n < 0) ∨ (0 ≤ n ∧ (L.length : Int) ≤ n) ∨ (isAt L n ∧ 1000 ≤ L.length) ∨ (isAt L n ∧ L.length < 1000) := by unfold isAt; omega
  rcases cs with h | h | h | h
  · have S := St.init (Gs := [GA]) (by simpa using hp)
    have S := (S : St w (· ∈ keys [GA].flatten) w [GA])
    obtain ⟨A1, c2, R3, rfl, hR4⟩ := hA
    have hle := hR4.shape
    obtain ⟨_, _, hv, hle, _⟩ := hle; cases hv
    have S5 := S.split
    refine enter 40 [(0, .pointer (some ⟨p, 0, none⟩)), (1, .int .i64 n)] Try.func71 rfl rfl rfl rfl ?_
    refine WCode.seq ?_
    refine WCode.region ?_
    refine WOps.p (G.assign rfl) rfl ?_
    refine WOps.nil ?_
    refine WEx.then_ ?_
    refine WCode.seq ?_
    refine WCode.block ?_
    refine WCode.seq ?_
    refine WCode.region ?_
    refine WOps.p (G.move rfl) rfl ?_
    refine WOps.p (G.lss rfl rfl (b := true) (decide_eq_true (by omega))) rfl ?_
    refine WOps.p (G.move rfl) rfl ?_
    refine WOps.off rfl rfl rfl rfl ?_
    refine WOps.off rfl rfl rfl rfl ?_
    refine WOps.off rfl rfl rfl rfl ?_
    refine WOps.off rfl rfl rfl rfl ?_
    refine WOps.off rfl rfl rfl rfl ?_
    refine WOps.off rfl rfl rfl rfl ?_
    refine WOps.off rfl rfl rfl rfl ?_
    refine WOps.p (G.pick_t rfl rfl) rfl ?_
    refine WOps.p (G.assign rfl) rfl ?_
    refine WOps.nil ?_
    refine WEx.forget (l' := [(0, .pointer (some ⟨p, 0, none⟩)), (1, .int .i64 n), (4, .int .i64 0), (5, .bool true)]) ⟨rfl, rfl, rfl, rfl, trivial⟩ ?_
    refine WEx.then_ ?_
    refine WCode.cond_t rfl ?_
    refine WCode.seq ?_
    refine WCode.region ?_
    refine WOps.p (G.assign rfl) rfl ?_
    refine WOps.nil ?_
    refine WEx.forget (l' := [(0, .pointer (some ⟨p, 0, none⟩)), (1, .int .i64 n), (4, .int .i64 130)]) ⟨rfl, rfl, rfl, trivial⟩ ?_
    refine WEx.then_ ?_
    refine WCode.ret ?_
    refine WEx.in_ret ?_
    refine WEx.then_ret ?_
    refine WEx.ret1 rfl rfl ?_
    have hn : ¬ isAt L n := fun h2 => by have := h2.1; have := h2.2; omega
    have S6 := S5.front 1 rfl
    change St _ _ _ [R3, [(p, .cells #[.slice A1 L.length c2, .int .i64 tm] 135 (0, 0))]] at S6
    have S7 := S6.front 1 rfl
    change St _ _ _ [[(p, .cells #[.slice A1 L.length c2, .int .i64 tm] 135 (0, 0))], R3] at S7
    refine ⟨by rw [dblE, if_neg hn], _, ⟨A1, c2, R3, by rw [dblL, if_neg hn], by rw [dblL, if_neg hn]; exact hR4⟩, by simpa using St.keep (As := [_]) S7.join⟩
  · have S := St.init (Gs := [GA]) (by simpa using hp)
    have S := (S : St w (· ∈ keys [GA].flatten) w [GA])
    obtain ⟨A1, c2, R3, rfl, hR4⟩ := hA
    have hle := hR4.shape
    obtain ⟨_, _, hv, hle, _⟩ := hle; cases hv
    have S5 := S.split
    refine enter 40 [(0, .pointer (some ⟨p, 0, none⟩)), (1, .int .i64 n)] Try.func71 rfl rfl rfl rfl ?_
    refine WCode.seq ?_
    refine WCode.region ?_
    refine WOps.p (G.assign rfl) rfl ?_
    refine WOps.nil ?_
    refine WEx.then_ ?_
    refine WCode.seq ?_
    refine WCode.block ?_
    refine WCode.seq ?_
    refine WCode.region ?_
    refine WOps.p (G.move rfl) rfl ?_
    refine WOps.p (G.lss rfl rfl (b := false) (decide_eq_false (by omega))) rfl ?_
    refine WOps.p (G.move rfl) rfl ?_
    refine WOps.on rfl rfl ?_
    refine WOps.p (G.move rfl) rfl ?_
    refine WOps.on rfl rfl ?_
    refine WOps.p (G.move rfl) rfl ?_
    refine WOps.on rfl rfl ?_
    refine WOps.p (G.nilp rfl) rfl ?_
    refine WOps.on rfl rfl ?_
    refine WOps.p (G.field T.fld135_0 rfl (show 0 + 0 = 0 from rfl)) rfl ?_
    refine WOps.on rfl rfl ?_
    refine WOps.r (G.load1 T.one43 rfl (cell_blk (S5.blk 0 rfl) rfl)) rfl ?_
    refine WOps.on rfl rfl ?_
    refine WOps.p (G.len T.el43 rfl) rfl ?_
    refine WOps.on rfl rfl ?_
    refine WOps.p (G.geq rfl rfl (b := true) (decide_eq_true (by omega))) rfl ?_
    refine WOps.p (G.pick_f rfl rfl) rfl ?_
    refine WOps.p (G.assign rfl) rfl ?_
    refine WOps.nil ?_
    refine WEx.forget (l' := [(0, .pointer (some ⟨p, 0, none⟩)), (1, .int .i64 n), (4, .int .i64 0), (5, .bool true)]) ⟨rfl, rfl, rfl, rfl, trivial⟩ ?_
    refine WEx.then_ ?_
    refine WCode.cond_t rfl ?_
    refine WCode.seq ?_
    refine WCode.region ?_
    refine WOps.p (G.assign rfl) rfl ?_
    refine WOps.nil ?_
    refine WEx.forget (l' := [(0, .pointer (some ⟨p, 0, none⟩)), (1, .int .i64 n), (4, .int .i64 130)]) ⟨rfl, rfl, rfl, trivial⟩ ?_
    refine WEx.then_ ?_
    refine WCode.ret ?_
    refine WEx.in_ret ?_
    refine WEx.then_ret ?_
    refine WEx.ret1 rfl rfl ?_
    have hn : ¬ isAt L n := fun h2 => by have := h2.1; have := h2.2; omega
    have S6 := S5.front 1 rfl
    change St _ _ _ [R3, [(p, .cells #[.slice A1 L.length c2, .int .i64 tm] 135 (0, 0))]] at S6
    have S7 := S6.front 1 rfl
    change St _ _ _ [[(p, .cells #[.slice A1 L.length c2, .int .i64 tm] 135 (0, 0))], R3] at S7
    refine ⟨by rw [dblE, if_neg hn], _, ⟨A1, c2, R3, by rw [dblL, if_neg hn], by rw [dblL, if_neg hn]; exact hR4⟩, by simpa using St.keep (As := [_]) S7.join⟩
  · obtain ⟨j, x, rfl, hj⟩ := at_nat h.1
    have hjl : j < L.length := (List.getElem?_eq_some_iff.1 hj).1
    have S := St.init (Gs := [GA]) (by simpa using hp)
    have S := (S : St w (· ∈ keys [GA].flatten) w [GA])
    obtain ⟨A1, c2, R3, rfl, hR4⟩ := hA
    have hle := hR4.shape
    obtain ⟨_, _, hv, hle, _⟩ := hle; cases hv
    have S5 := S.split
    refine enter 40 [(0, .pointer (some ⟨p, 0, none⟩)), (1, .int .i64 (j : Int))] Try.func71 rfl rfl rfl rfl ?_
    refine WCode.seq ?_
    refine WCode.region ?_
    refine WOps.p (G.assign rfl) rfl ?_
    refine WOps.nil ?_
    refine WEx.then_ ?_
    refine WCode.seq ?_
    refine WCode.block ?_
    refine WCode.seq ?_
    refine WCode.region ?_
    refine WOps.p (G.move rfl) rfl ?_
    refine WOps.p (G.lss rfl rfl (b := false) (decide_eq_false (by omega))) rfl ?_
    refine WOps.p (G.move rfl) rfl ?_
    refine WOps.on rfl rfl ?_
    refine WOps.p (G.move rfl) rfl ?_
    refine WOps.on rfl rfl ?_
    refine WOps.p (G.move rfl) rfl ?_
    refine WOps.on rfl rfl ?_
    refine WOps.p (G.nilp rfl) rfl ?_
    refine WOps.on rfl rfl ?_
    refine WOps.p (G.field T.fld135_0 rfl (show 0 + 0 = 0 from rfl)) rfl ?_
    refine WOps.on rfl rfl ?_
    refine WOps.r (G.load1 T.one43 rfl (cell_blk (S5.blk 0 rfl) rfl)) rfl ?_
    refine WOps.on rfl rfl ?_
    refine WOps.p (G.len T.el43 rfl) rfl ?_
    refine WOps.on rfl rfl ?_
    refine WOps.p (G.geq rfl rfl (b := false) (decide_eq_false (by omega))) rfl ?_
    refine WOps.p (G.pick_f rfl rfl) rfl ?_
    refine WOps.p (G.assign rfl) rfl ?_
    refine WOps.nil ?_
    refine WEx.forget (l' := [(0, .pointer (some ⟨p, 0, none⟩)), (1, .int .i64 (j : Int)), (4, .int .i64 0), (5, .bool false)]) ⟨rfl, rfl, rfl, rfl, trivial⟩ ?_
    refine WEx.then_ ?_
    refine WCode.cond_f rfl ?_
    refine WCode.seq ?_
    refine WCode.region ?_
    refine WOps.p (G.move rfl) rfl ?_
    refine WOps.p (G.nilp rfl) rfl ?_
    refine WOps.p (G.field T.fld135_0 rfl (show 0 + 0 = 0 from rfl)) rfl ?_
    refine WOps.r (G.load1 T.one43 rfl (cell_blk (S5.blk 0 rfl) rfl)) rfl ?_
    refine WOps.p (G.len T.el43 rfl) rfl ?_
    refine WOps.p (G.geq rfl rfl (b := true) (decide_eq_true (by omega))) rfl ?_
    refine WOps.p (G.assign rfl) rfl ?_
    refine WOps.nil ?_
    refine WEx.forget (l' := [(0, .pointer (some ⟨p, 0, none⟩)), (1, .int .i64 (j : Int)), (4, .int .i64 0), (17, .bool true)]) ⟨rfl, rfl, rfl, rfl, trivial⟩ ?_
    refine WEx.then_ ?_
    refine WCode.cond_t rfl ?_
    refine WCode.seq ?_
    refine WCode.region ?_
    refine WOps.p (G.assign rfl) rfl ?_
    refine WOps.nil ?_
    refine WEx.forget (l' := [(0, .pointer (some ⟨p, 0, none⟩)), (1, .int .i64 (j : Int)), (4, .int .i64 132)]) ⟨rfl, rfl, rfl, trivial⟩ ?_
    refine WEx.then_ ?_
    refine WCode.ret ?_
    refine WEx.in_ret ?_
    refine WEx.then_ret ?_
    refine WEx.ret1 rfl rfl ?_
    have S6 := S5.front 1 rfl
    change St _ _ _ [R3, [(p, .cells #[.slice A1 L.length c2, .int .i64 tm] 135 (0, 0))]] at S6
    have S7 := S6.front 1 rfl
    change St _ _ _ [[(p, .cells #[.slice A1 L.length c2, .int .i64 tm] 135 (0, 0))], R3] at S7
    refine ⟨by rw [dblE, if_pos h.1, putE, if_pos h.2], _, ⟨A1, c2, R3, by rw [dblL, if_pos h.1, putL, if_pos h.2], by rw [dblL, if_pos h.1, putL, if_pos h.2]; exact hR4⟩, by simpa using St.keep (As := [_]) S7.join⟩
  · obtain ⟨j, x, rfl, hj⟩ := at_nat h.1
    have hjl : j < L.length := (List.getElem?_eq_some_iff.1 hj).1
    have S := St.init (Gs := [GA]) (by simpa using hp)
    have S := (S : St w (· ∈ keys [GA].flatten) w [GA])
    obtain ⟨A1, c2, R3, rfl, hR4⟩ := hA
    have hle := hR4.shape
    obtain ⟨_, _, hv, hle, _⟩ := hle; cases hv
    have S5 := S.split
    refine enter 40 [(0, .pointer (some ⟨p, 0, none⟩)), (1, .int .i64 (j : Int))] Try.func71 rfl rfl rfl rfl ?_
    refine WCode.seq ?_
    refine WCode.region ?_
    refine WOps.p (G.assign rfl) rfl ?_
    refine WOps.nil ?_
    refine WEx.then_ ?_
    refine WCode.seq ?_
    refine WCode.block ?_
    refine WCode.seq ?_
    refine WCode.region ?_
    refine WOps.p (G.move rfl) rfl ?_
    refine WOps.p (G.lss rfl rfl (b := false) (decide_eq_false (by omega))) rfl ?_
    refine WOps.p (G.move rfl) rfl ?_
    refine WOps.on rfl rfl ?_
    refine WOps.p (G.move rfl) rfl ?_
    refine WOps.on rfl rfl ?_
    refine WOps.p (G.move rfl) rfl ?_
    refine WOps.on rfl rfl ?_
    refine WOps.p (G.nilp rfl) rfl ?_
    refine WOps.on rfl rfl ?_
    refine WOps.p (G.field T.fld135_0 rfl (show 0 + 0 = 0 from rfl)) rfl ?_
    refine WOps.on rfl rfl ?_
    refine WOps.r (G.load1 T.one43 rfl (cell_blk (S5.blk 0 rfl) rfl)) rfl ?_
    refine WOps.on rfl rfl ?_
    refine WOps.p (G.len T.el43 rfl) rfl ?_
    refine WOps.on rfl rfl ?_
    refine WOps.p (G.geq rfl rfl (b := false) (decide_eq_false (by omega))) rfl ?_
    refine WOps.p (G.pick_f rfl rfl) rfl ?_
    refine WOps.p (G.assign rfl) rfl ?_
    refine WOps.nil ?_
    refine WEx.forget (l' := [(0, .pointer (some ⟨p, 0, none⟩)), (1, .int .i64 (j : Int)), (4, .int .i64 0), (5, .bool false)]) ⟨rfl, rfl, rfl, rfl, trivial⟩ ?_
    refine WEx.then_ ?_
    refine WCode.cond_f rfl ?_
    refine WCode.seq ?_
    refine WCode.region ?_
    refine WOps.p (G.move rfl) rfl ?_
    refine WOps.p (G.nilp rfl) rfl ?_
    refine WOps.p (G.field T.fld135_0 rfl (show 0 + 0 = 0 from rfl)) rfl ?_
    refine WOps.r (G.load1 T.one43 rfl (cell_blk (S5.blk 0 rfl) rfl)) rfl ?_
    refine WOps.p (G.len T.el43 rfl) rfl ?_
    refine WOps.p (G.geq rfl rfl (b := false) (decide_eq_false (by omega))) rfl ?_
    refine WOps.p (G.assign rfl) rfl ?_
    refine WOps.nil ?_
    refine WEx.forget (l' := [(0, .pointer (some ⟨p, 0, none⟩)), (1, .int .i64 (j : Int)), (4, .int .i64 0), (17, .bool false)]) ⟨rfl, rfl, rfl, rfl, trivial⟩ ?_
    refine WEx.then_ ?_
    refine WCode.cond_f rfl ?_
    refine WCode.skip ?_
    refine WEx.in_normal ?_
    refine WEx.then_ ?_
    refine WCode.forget (l' := [(0, .pointer (some ⟨p, 0, none⟩)), (1, .int .i64 (j : Int)), (4, .int .i64 0)]) ⟨rfl, rfl, rfl, trivial⟩ ?_
    refine WCode.seq ?_
    refine WCode.draw [⟨0, 0, []⟩, ⟨1, 0, []⟩, ⟨2, 0, []⟩, ⟨3, 0, []⟩, ⟨5, 0, []⟩, ⟨6, 0, []⟩, ⟨7, 0, []⟩, ⟨9, 0, []⟩, ⟨4, 1, [13, 14, 15, 16]⟩, ⟨8, 1, [10, 11, 12, 13, 14, 15, 16]⟩, ⟨10, 0, []⟩, ⟨11, 1, [12, 13, 14, 15, 16]⟩, ⟨12, 2, []⟩, ⟨13, 2, []⟩, ⟨14, 0, []⟩, ⟨15, 0, []⟩, ⟨16, 2, []⟩] T.mixed (by kernel_rfl) (by intro _ _ d _ _ h; cases d <;> exact h) rfl (by kernel_rfl) ?_
    have S6 := S5.drew
    generalize w.drew = w7 at *
    refine WD.p rfl (G.move rfl) rfl ?_
    refine WD.p rfl (G.move rfl) rfl ?_
    refine WD.p rfl (G.nilp rfl) rfl ?_
    refine WD.p rfl (G.field T.fld135_0 rfl (show 0 + 0 = 0 from rfl)) rfl ?_
    refine WD.p rfl (G.move rfl) rfl ?_
    refine WD.p rfl (G.nilp rfl) rfl ?_
    refine WD.p rfl (G.field T.fld135_0 rfl (show 0 + 0 = 0 from rfl)) rfl ?_
    refine WD.p rfl (G.move rfl) rfl ?_
    refine WD.r rfl (G.load1 T.one43 rfl (cell_blk (S6.blk 0 rfl) rfl)) rfl ?_
    refine WD.r rfl (G.load1 T.one43 rfl (cell_blk (S6.blk 0 rfl) rfl)) rfl ?_
    obtain ⟨b8, o9, ea10, ca11⟩ := Rd.at_ Pk.len (hR4.rd (fun b o hb => S6.grp 1 rfl hb)).2 hj rfl
    cases ea10
    refine WD.p rfl (G.index T.el43 rfl rfl (j := j) hjl rfl) rfl ?_
    refine WD.r rfl (G.loada T.agg37_3 rfl (cs := [.int .i64 x.f, .int .i64 x.t, .string x.d]) ca11) rfl ?_
    obtain ⟨b12, w13, E14, S15, X16, L17⟩ := St.lit S6 (P := Try.prog) (t := 43) (e := 37) (n := 1) (vs := [(0, .agg #[.int .i64 x.f, .int .i64 x.t, .string x.d])]) (cs := #[.int .i64 x.f, .int .i64 x.t, .string x.d]) (by kernel_rfl)
    have c18 := ca11.ext X16
    change St _ _ _ [[(b12, .cells #[.int .i64 x.f, .int .i64 x.t, .string x.d] 37 (0, 0))], [(p, .cells #[.slice (some ⟨b8, o9, none⟩) L.length c2, .int .i64 tm] 135 (0, 0))], R3] at S15
    refine WD.e rfl (E14 (evp_cons rfl evp_nil)) rfl ?_
    obtain ⟨A19, c20, G21, w22, E23, hR24, S25⟩ := St.append (P := Try.prog) S15 2 rfl T.elt43 hR4 (Rd.of_blk (S15.blk 0 rfl) (n := 1) (sz := 3) rfl) x.one (by simp only [maxLen]; omega) (by omega)
    change St _ _ _ [[(b12, .cells #[.int .i64 x.f, .int .i64 x.t, .string x.d] 37 (0, 0))], [(p, .cells #[.slice (some ⟨b8, o9, none⟩) L.length c2, .int .i64 tm] 135 (0, 0))], G21] at S25
    refine WD.e rfl (E23 rfl rfl) rfl ?_
    refine WD.p rfl (G.nilp rfl) rfl ?_
    refine WD.p rfl (G.field T.fld135_0 rfl (show 0 + 0 = 0 from rfl)) rfl ?_
    obtain ⟨w26, E27, S28⟩ := St.store (P := Try.prog) S25 1 43 (.slice A19 (L.length + 1) c20) (off := 0) (cur' := #[.slice A19 (L.length + 1) c20, .int .i64 tm]) rfl T.size43_1 rfl rfl rfl
    change St _ _ _ [[(b12, .cells #[.int .i64 x.f, .int .i64 x.t, .string x.d] 37 (0, 0))], [(p, .cells #[.slice A19 (L.length + 1) c20, .int .i64 tm] 135 (0, 0))], G21] at S28
    refine WD.u rfl (E27 rfl rfl) ?_
    refine WD.nil ?_
    refine WEx.forget (l' := [(4, .int .i64 0)]) ⟨rfl, trivial⟩ ?_
    refine WEx.then_ ?_
    refine WCode.seq ?_
    refine WCode.region ?_
    refine WOps.p (G.assign rfl) rfl ?_
    refine WOps.nil ?_
    refine WEx.then_ ?_
    refine WCode.ret ?_
    refine WEx.ret1 rfl rfl ?_
    have S30 := S28.front 2 rfl
    change St _ _ _ [G21, [(b12, .cells #[.int .i64 x.f, .int .i64 x.t, .string x.d] 37 (0, 0))], [(p, .cells #[.slice A19 (L.length + 1) c20, .int .i64 tm] 135 (0, 0))]] at S30
    have S31 := S30.front 2 rfl
    change St _ _ _ [[(p, .cells #[.slice A19 (L.length + 1) c20, .int .i64 tm] 135 (0, 0))], G21, [(b12, .cells #[.int .i64 x.f, .int .i64 x.t, .string x.d] 37 (0, 0))]] at S31
    have S32 := S31.join
    have S33 := St.keep (As := [[(p, .cells #[.slice A19 (L.length + 1) c20, .int .i64 tm] 135 (0, 0))] ++ G21]) S32
    refine ⟨by rw [dblE, if_pos h.1, putE, if_neg (by omega)], _, AirG.mk hR24 (by rw [dblL, if_pos h.1, Int.toNat_natCast, hj, Option.getD_some, putL, if_neg (by omega)]; simp) (by rw [dblL, if_pos h.1, Int.toNat_natCast, hj, Option.getD_some, putL, if_neg (by omega)]; rw [cellsOf_append, cellsOf_one]; rfl), by simpa using S33⟩

set_option maxRecDepth 100000 in
set_option maxHeartbeats 1000000 in
theorem law_pick {w : World} (c : Int) (n : Nat) (hc : -9223372036854775808 ≤ c ∧ c ≤ 9223372036854775807) (h0 : 0 < n) (h1 : n ≤ 4000000000) :
    Calls Try.prog 16 [.int .i64 c, .int .i64 (n : Nat)].toArray w fun e w' => e = .returned (.int .i64 (pickZ c n)) ∧ St w (fun _ => False) w' [] := by
  have cs : (c < 0) ∨ (0 ≤ c) := by omega
  rcases cs with h | h
  · have S := St.init0 w
    refine enter 13 [(0, .int .i64 c), (1, .int .i64 (n : Nat))] Try.func16 rfl rfl rfl rfl ?_
    refine WCode.seq ?_
    refine WCode.region ?_
    refine WOps.p (G.assign rfl) rfl ?_
    refine WOps.nil ?_
    refine WEx.then_ ?_
    refine WCode.seq ?_
    refine WCode.seq ?_
    refine WCode.region ?_
    refine WOps.p (G.move rfl) rfl ?_
    refine WOps.p (G.lss rfl rfl (b := true) (decide_eq_true (by omega))) rfl ?_
    refine WOps.nil ?_
    refine WEx.forget (l' := [(0, .int .i64 c), (1, .int .i64 (n : Nat)), (4, .int .i64 0), (6, .bool true)]) ⟨rfl, rfl, rfl, rfl, trivial⟩ ?_
    refine WEx.then_ ?_
    refine WCode.cond_t rfl ?_
    refine WCode.region ?_
    refine WOps.p (G.move rfl) rfl ?_
    refine WOps.p (G.add rfl rfl (show IntKind.i64.wrap (c + 1) = (c + 1) from IntWalk.i64_in _ (by omega))) rfl ?_
    refine WOps.p (G.neg rfl (show IntKind.i64.wrap (-(c + 1)) = (-(c + 1)) from IntWalk.i64_in _ (by omega))) rfl ?_
    refine WOps.p (G.assign rfl) rfl ?_
    refine WOps.nil ?_
    refine WEx.forget (l' := [(0, .int .i64 (-(c + 1))), (1, .int .i64 (n : Nat)), (4, .int .i64 0)]) ⟨rfl, rfl, rfl, trivial⟩ ?_
    refine WEx.then_ ?_
    refine WCode.seq ?_
    refine WCode.region ?_
    refine WOps.p (G.move rfl) rfl ?_
    refine WOps.p (G.move rfl) rfl ?_
    refine WOps.p (G.rem rfl rfl (by omega) (show _ = pickZ c n from by unfold pickZ; rw [if_pos h])) rfl ?_
    refine WOps.p (G.assign rfl) rfl ?_
    refine WOps.nil ?_
    refine WEx.forget (l' := [(4, .int .i64 (pickZ c n))]) ⟨rfl, trivial⟩ ?_
    refine WEx.then_ ?_
    refine WCode.ret ?_
    refine WEx.ret1 rfl rfl ?_
    exact ⟨rfl, S⟩
  · have S := St.init0 w
    refine enter 13 [(0, .int .i64 c), (1, .int .i64 (n : Nat))] Try.func16 rfl rfl rfl rfl ?_
    refine WCode.seq ?_
    refine WCode.region ?_
    refine WOps.p (G.assign rfl) rfl ?_
    refine WOps.nil ?_
    refine WEx.then_ ?_
    refine WCode.seq ?_
    refine WCode.seq ?_
    refine WCode.region ?_
    refine WOps.p (G.move rfl) rfl ?_
    refine WOps.p (G.lss rfl rfl (b := false) (decide_eq_false (by omega))) rfl ?_
    refine WOps.nil ?_
    refine WEx.forget (l' := [(0, .int .i64 c), (1, .int .i64 (n : Nat)), (4, .int .i64 0), (6, .bool false)]) ⟨rfl, rfl, rfl, rfl, trivial⟩ ?_
    refine WEx.then_ ?_
    refine WCode.cond_f rfl ?_
    refine WCode.skip ?_
    refine WEx.then_ ?_
    refine WCode.forget (l' := [(0, .int .i64 c), (1, .int .i64 (n : Nat)), (4, .int .i64 0)]) ⟨rfl, rfl, rfl, trivial⟩ ?_
    refine WCode.seq ?_
    refine WCode.region ?_
    refine WOps.p (G.move rfl) rfl ?_
    refine WOps.p (G.move rfl) rfl ?_
    refine WOps.p (G.rem rfl rfl (by omega) (show _ = pickZ c n from by unfold pickZ; rw [if_neg (by omega)])) rfl ?_
    refine WOps.p (G.assign rfl) rfl ?_
    refine WOps.nil ?_
    refine WEx.forget (l' := [(4, .int .i64 (pickZ c n))]) ⟨rfl, trivial⟩ ?_
    refine WEx.then_ ?_
    refine WCode.ret ?_
    refine WEx.ret1 rfl rfl ?_
    exact ⟨rfl, S⟩

set_option maxRecDepth 100000 in
set_option maxHeartbeats 1000000 in
theorem law_add {w : World} (n m : Int) (hn : 0 ≤ n ∧ n ≤ 9223372036854775807) (hm : 0 ≤ m ∧ m ≤ 9223372036854775807) :
    Calls Try.prog 66 [.int .i64 n, .int .i64 m].toArray w fun e w' => e = .returned (.int .i64 (addZ n m)) ∧ St w (fun _ => False) w' [] := by
  have cs : (2147483647 - n < m) ∨ (m ≤ 2147483647 - n) := by omega
  rcases cs with h | h
  · have S := St.init0 w
    refine enter 12 [(0, .int .i64 n), (1, .int .i64 m)] Try.func66 rfl rfl rfl rfl ?_
    refine WCode.seq ?_
    refine WCode.region ?_
    refine WOps.p (G.assign rfl) rfl ?_
    refine WOps.nil ?_
    refine WEx.then_ ?_
    refine WCode.seq ?_
    refine WCode.seq ?_
    refine WCode.region ?_
    refine WOps.p (G.move rfl) rfl ?_
    refine WOps.p (G.move rfl) rfl ?_
    refine WOps.p (G.sub rfl rfl (show IntKind.i64.wrap (2147483647 - n) = (2147483647 - n) from IntWalk.i64_in _ (by omega))) rfl ?_
    refine WOps.p (G.gtr rfl rfl (b := true) (decide_eq_true (by omega))) rfl ?_
    refine WOps.nil ?_
    refine WEx.forget (l' := [(0, .int .i64 n), (1, .int .i64 m), (4, .int .i64 0), (8, .bool true)]) ⟨rfl, rfl, rfl, rfl, trivial⟩ ?_
    refine WEx.then_ ?_
    refine WCode.cond_t rfl ?_
    refine WCode.seq ?_
    refine WCode.region ?_
    refine WOps.p (G.assign rfl) rfl ?_
    refine WOps.nil ?_
    refine WEx.forget (l' := [(0, .int .i64 n), (1, .int .i64 m), (4, .int .i64 2147483648)]) ⟨rfl, rfl, rfl, trivial⟩ ?_
    refine WEx.then_ ?_
    refine WCode.ret ?_
    refine WEx.then_ret ?_
    refine WEx.ret1 rfl rfl ?_
    exact ⟨by rw [addZ, if_pos h], S⟩
  · have S := St.init0 w
    refine enter 12 [(0, .int .i64 n), (1, .int .i64 m)] Try.func66 rfl rfl rfl rfl ?_
    refine WCode.seq ?_
    refine WCode.region ?_
    refine WOps.p (G.assign rfl) rfl ?_
    refine WOps.nil ?_
    refine WEx.then_ ?_
    refine WCode.seq ?_
    refine WCode.seq ?_
    refine WCode.region ?_
    refine WOps.p (G.move rfl) rfl ?_
    refine WOps.p (G.move rfl) rfl ?_
    refine WOps.p (G.sub rfl rfl (show IntKind.i64.wrap (2147483647 - n) = (2147483647 - n) from IntWalk.i64_in _ (by omega))) rfl ?_
    refine WOps.p (G.gtr rfl rfl (b := false) (decide_eq_false (by omega))) rfl ?_
    refine WOps.nil ?_
    refine WEx.forget (l' := [(0, .int .i64 n), (1, .int .i64 m), (4, .int .i64 0), (8, .bool false)]) ⟨rfl, rfl, rfl, rfl, trivial⟩ ?_
    refine WEx.then_ ?_
    refine WCode.cond_f rfl ?_
    refine WCode.skip ?_
    refine WEx.then_ ?_
    refine WCode.forget (l' := [(0, .int .i64 n), (1, .int .i64 m), (4, .int .i64 0)]) ⟨rfl, rfl, rfl, trivial⟩ ?_
    refine WCode.seq ?_
    refine WCode.region ?_
    refine WOps.p (G.move rfl) rfl ?_
    refine WOps.p (G.move rfl) rfl ?_
    refine WOps.p (G.add rfl rfl (show IntKind.i64.wrap (n + m) = (n + m) from IntWalk.i64_in _ (by omega))) rfl ?_
    refine WOps.p (G.assign rfl) rfl ?_
    refine WOps.nil ?_
    refine WEx.forget (l' := [(4, .int .i64 (n + m))]) ⟨rfl, trivial⟩ ?_
    refine WEx.then_ ?_
    refine WCode.ret ?_
    refine WEx.ret1 rfl rfl ?_
    exact ⟨by rw [addZ, if_neg (by omega)], S⟩

end Go.Proofs.Ytoahkjehjmbojaa
