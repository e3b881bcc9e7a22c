/- Walks (printed by gen.py over the engine). -/
import Derived.Test.YtoahkjehjmbojaaAirC
namespace Go.Proofs.Ytoahkjehjmbojaa
open Go Go.Eng
set_option linter.unusedSimpArgs false
set_option linter.unusedVariables false
theorem T.call16 : Callable Try.prog 16 := Callable.mk Try.func16 (by kernel_rfl) (by kernel_rfl)
theorem T.call66 : Callable Try.prog 66 := Callable.mk Try.func66 (by kernel_rfl) (by kernel_rfl)
theorem T.el22 : slEl Try.prog 22 = some 7 := by kernel_rfl
theorem T.fld39_3 : fldOff Try.prog 39 3 = some 3 := by kernel_rfl
theorem T.fld39_4 : fldOff Try.prog 39 4 = some 4 := by kernel_rfl

/-- A step of a script. -/
structure Stp where
  k : Int
  on : Int
  n : Int
  many : Int
  f : Int
  t : Int
  d : ByteArray
def Stp.cs (o : Stp) : List Value := [.int .i64 o.k, .int .i64 o.on, .int .i64 o.n, .int .i64 o.many, .int .i64 o.f, .int .i64 o.t, .string o.d]
theorem Stp.len (o : Stp) : o.cs.length = 7 := rfl
def i64 (x : Int) : Prop := -9223372036854775808 ≤ x ∧ x ≤ 9223372036854775807
structure Stp.Ok (o : Stp) : Prop where
  k : i64 o.k
  on : i64 o.on
  n : i64 o.n
  many : i64 o.many
  f : i64 o.f
  t : i64 o.t
  d : o.d.size ≤ 9223372036854775807
def sizeStep (n : Int) (o : Stp) : Int := addZ n (addZ 100000 ((pickZ o.many 1101 + 1) * (if 2147483647 < addZ o.d.size 100 then 2147483647 else addZ o.d.size 100)))
def sizeZ : Int → List Stp → Int
  | n, [] => n
  | n, o :: L => if n ≤ 2147483647 then sizeZ (sizeStep n o) L else n

theorem mul_in (a b : Int) (ha : 0 ≤ a ∧ a ≤ 1101) (hb : 0 ≤ b ∧ b ≤ 2147483648) : 0 ≤ a * b ∧ a * b ≤ 2364440969248 := by
  refine ⟨Int.mul_nonneg ha.1 hb.1, ?_⟩
  have := Int.mul_le_mul ha.2 hb.2 hb.1 (by omega)
  omega
theorem min_in (a : Int) (h : 0 ≤ a) : 0 ≤ (if 2147483647 < a then 2147483647 else a) ∧ (if 2147483647 < a then 2147483647 else a) ≤ 2147483648 := by split <;> omega

set_option maxRecDepth 100000 in
set_option maxHeartbeats 1000000 in
theorem law_same {w : World} {A B : Option Addr} {c d : Nat} {L M : List Pk} (hA : Rd w A L.length 3 (cellsOf Pk.cs L)) (hB : Rd w B M.length 3 (cellsOf Pk.cs M)) (hL : L.length ≤ 100000) :
    Calls Try.prog 23 [.slice A L.length c, .slice B M.length d].toArray w fun e w' => e = .returned (.bool (decide (L = M))) ∧ St w (fun _ => False) w' [] := by
  have cs : (¬ L.length = M.length) ∨ (L.length = M.length) := by omega
  rcases cs with h | h
  · have S := St.init0 w
    refine enter 26 [(0, .slice A L.length c), (1, .slice B M.length d)] Try.func23 rfl rfl rfl rfl ?_
    refine WCode.seq ?_
    refine WCode.region ?_
    refine WOps.p (G.assign rfl) rfl ?_
    refine WOps.nil ?_
    refine WEx.then_ ?_
    refine WCode.seq ?_
    refine WCode.seq ?_
    refine WCode.region ?_
    refine WOps.p (G.move rfl) rfl ?_
    refine WOps.p (G.len T.el43 rfl) rfl ?_
    refine WOps.p (G.move rfl) rfl ?_
    refine WOps.p (G.len T.el43 rfl) rfl ?_
    refine WOps.p (G.neq rfl rfl (b := true) (by simp; omega)) rfl ?_
    refine WOps.nil ?_
    refine WEx.forget (l' := [(0, .slice A L.length c), (1, .slice B M.length d), (4, .bool false), (10, .bool true)]) ⟨rfl, rfl, rfl, rfl, trivial⟩ ?_
    refine WEx.then_ ?_
    refine WCode.cond_t rfl ?_
    refine WCode.seq ?_
    refine WCode.region ?_
    refine WOps.p (G.assign rfl) rfl ?_
    refine WOps.nil ?_
    refine WEx.forget (l' := [(0, .slice A L.length c), (1, .slice B M.length d), (4, .bool false)]) ⟨rfl, rfl, rfl, trivial⟩ ?_
    refine WEx.then_ ?_
    refine WCode.ret ?_
    refine WEx.then_ret ?_
    refine WEx.ret1 rfl rfl ?_
    exact ⟨by rw [decide_eq_false (fun e => h (by rw [e]))], S⟩
  · have S := St.init0 w
    refine enter 26 [(0, .slice A L.length c), (1, .slice B M.length d)] Try.func23 rfl rfl rfl rfl ?_
    refine WCode.seq ?_
    refine WCode.region ?_
    refine WOps.p (G.assign rfl) rfl ?_
    refine WOps.nil ?_
    refine WEx.then_ ?_
    refine WCode.seq ?_
    refine WCode.seq ?_
    refine WCode.region ?_
    refine WOps.p (G.move rfl) rfl ?_
    refine WOps.p (G.len T.el43 rfl) rfl ?_
    refine WOps.p (G.move rfl) rfl ?_
    refine WOps.p (G.len T.el43 rfl) rfl ?_
    refine WOps.p (G.neq rfl rfl (b := false) (by simp; omega)) rfl ?_
    refine WOps.nil ?_
    refine WEx.forget (l' := [(0, .slice A L.length c), (1, .slice B M.length d), (4, .bool false), (10, .bool false)]) ⟨rfl, rfl, rfl, rfl, trivial⟩ ?_
    refine WEx.then_ ?_
    refine WCode.cond_f rfl ?_
    refine WCode.skip ?_
    refine WEx.then_ ?_
    refine WCode.forget (l' := [(0, .slice A L.length c), (1, .slice B M.length d), (4, .bool false)]) ⟨rfl, rfl, rfl, trivial⟩ ?_
    refine WCode.seq ?_
    refine WCode.seq ?_
    refine WCode.region ?_
    refine WOps.p (G.assign rfl) rfl ?_
    refine WOps.nil ?_
    refine WEx.then_ ?_
    refine WCode.block ?_
    refine WCode.forget (l' := [(0, .slice A L.length c), (1, .slice B M.length d), (4, .bool false), (5, .int .i64 0)]) ⟨rfl, rfl, rfl, rfl, trivial⟩ ?_
    refine WCode.loop (fun n_ l_ w' => ∃ i : Nat, l_ = [(0, .slice A L.length c), (1, .slice B M.length d), (4, .bool false), (5, .int .i64 (i : Nat))] ∧ n_ = L.length - i ∧ (i ≤ L.length) ∧ (L.take i = M.take i) ∧ St w (fun _ => False) w' []) _ ⟨0, rfl, rfl, Nat.zero_le _, rfl, S⟩ ?_
    rintro _ _ w1 ⟨i, rfl, rfl, hi, ht, S2⟩
    have cs_ : (i = L.length) ∨ (i < L.length ∧ L[i]? = M[i]?) ∨ (i < L.length ∧ ¬ L[i]? = M[i]?) := (if h1 : i < L.length then if e : L[i]? = M[i]? then .inr (.inl ⟨h1, e⟩) else .inr (.inr ⟨h1, e⟩) else .inl (by omega))
    rcases cs_ with h | h | h
    ·
      refine WCode.seq ?_
      refine WCode.seq ?_
      refine WCode.region ?_
      refine WOps.p (G.move rfl) rfl ?_
      refine WOps.p (G.move rfl) rfl ?_
      refine WOps.p (G.len T.el43 rfl) rfl ?_
      refine WOps.p (G.lss rfl rfl (b := false) (decide_eq_false (by omega))) rfl ?_
      refine WOps.nil ?_
      refine WEx.then_ ?_
      refine WCode.cond_f rfl ?_
      refine WCode.exit ?_
      refine WEx.then_exit ?_
      refine WEx.then_exit ?_
      refine WEx.in_exit ?_
      refine WEx.then_ ?_
      refine WCode.forget (l' := [(4, .bool false)]) ⟨rfl, trivial⟩ ?_
      refine WCode.seq ?_
      refine WCode.region ?_
      refine WOps.p (G.assign rfl) rfl ?_
      refine WOps.nil ?_
      refine WEx.then_ ?_
      refine WCode.ret ?_
      refine WEx.ret1 rfl rfl ?_
      exact ⟨by rw [decide_eq_true (by rw [List.take_of_length_le (by omega), List.take_of_length_le (by omega)] at ht; exact ht)], S2⟩
    ·
      obtain ⟨x, hx⟩ : ∃ x, L[i]? = some x := ⟨_, List.getElem?_eq_getElem (h.1)⟩
      obtain ⟨y, hy⟩ : ∃ x, M[i]? = some x := ⟨_, List.getElem?_eq_getElem (by omega)⟩
      have hxy : x = y := by have := h.2; rw [hx, hy] at this; simpa using this
      refine WCode.seq ?_
      refine WCode.seq ?_
      refine WCode.region ?_
      refine WOps.p (G.move rfl) rfl ?_
      refine WOps.p (G.move rfl) rfl ?_
      refine WOps.p (G.len T.el43 rfl) rfl ?_
      refine WOps.p (G.lss rfl rfl (b := true) (decide_eq_true (by omega))) rfl ?_
      refine WOps.nil ?_
      refine WEx.then_ ?_
      refine WCode.cond_t rfl ?_
      refine WCode.skip ?_
      refine WEx.then_ ?_
      refine WCode.seq ?_
      refine WCode.block ?_
      refine WCode.seq ?_
      refine WCode.draw [⟨0, 0, []⟩, ⟨1, 0, []⟩, ⟨2, 0, []⟩, ⟨4, 0, []⟩, ⟨5, 0, []⟩, ⟨6, 0, []⟩, ⟨3, 1, [8]⟩, ⟨7, 1, [8]⟩, ⟨8, 0, []⟩] T.mixed (by kernel_rfl) (by intro _ _ d _ _ h; cases d <;> exact h) rfl (by kernel_rfl) ?_
      have S3 := S2.drew
      generalize w1.drew = w4 at *
      refine WD.p rfl (G.move rfl) rfl ?_
      refine WD.p rfl (G.move rfl) rfl ?_
      obtain ⟨b5, o6, ea7, ca8⟩ := Rd.at_ Pk.len (hA.ext S3.ext0) hx rfl
      cases ea7
      refine WD.p rfl (G.index T.el43 rfl rfl (j := i) h.1 rfl) rfl ?_
      refine WD.p rfl (G.move rfl) rfl ?_
      refine WD.p rfl (G.move rfl) rfl ?_
      obtain ⟨b9, o10, ea11, ca12⟩ := Rd.at_ Pk.len (hB.ext S3.ext0) hy rfl
      cases ea11
      refine WD.p rfl (G.index T.el43 rfl rfl (j := i) (by omega) rfl) rfl ?_
      refine WD.r rfl (G.loada T.agg37_3 rfl (cs := [.int .i64 x.f, .int .i64 x.t, .string x.d]) ca8) rfl ?_
      refine WD.r rfl (G.loada T.agg37_3 rfl (cs := [.int .i64 y.f, .int .i64 y.t, .string y.d]) ca12) rfl ?_
      refine WD.p rfl (G.neqa rfl rfl (by kernel_rfl) (pk_eqIn x y) (show (!decide (x = y)) = false from by simp [hxy])) rfl ?_
      refine WD.nil ?_
      refine WEx.then_ ?_
      refine WCode.cond_f rfl ?_
      refine WCode.skip ?_
      refine WEx.in_normal ?_
      refine WEx.then_ ?_
      refine WCode.region ?_
      refine WOps.p (G.move rfl) rfl ?_
      refine WOps.p (G.add rfl rfl (show IntKind.i64.wrap ((i : Nat) + 1) = ((i : Nat) + 1) from IntWalk.i64_in _ (by omega))) rfl ?_
      refine WOps.p (G.assign rfl) rfl ?_
      refine WOps.nil ?_
      refine WEx.again _ _ ?_ ?_ ⟨i + 1, rfl, rfl, h.1, (by rw [List.take_add_one, List.take_add_one, ht, hx, hy, hxy]), S3⟩
      · have := h.1; omega
      · exact ⟨rfl, rfl, rfl, rfl, trivial⟩
    ·
      obtain ⟨x, hx⟩ : ∃ x, L[i]? = some x := ⟨_, List.getElem?_eq_getElem (h.1)⟩
      obtain ⟨y, hy⟩ : ∃ x, M[i]? = some x := ⟨_, List.getElem?_eq_getElem (by omega)⟩
      have hxy : ¬ x = y := fun e => h.2 (by rw [hx, hy, e])
      refine WCode.seq ?_
      refine WCode.seq ?_
      refine WCode.region ?_
      refine WOps.p (G.move rfl) rfl ?_
      refine WOps.p (G.move rfl) rfl ?_
      refine WOps.p (G.len T.el43 rfl) rfl ?_
      refine WOps.p (G.lss rfl rfl (b := true) (decide_eq_true (by omega))) rfl ?_
      refine WOps.nil ?_
      refine WEx.then_ ?_
      refine WCode.cond_t rfl ?_
      refine WCode.skip ?_
      refine WEx.then_ ?_
      refine WCode.seq ?_
      refine WCode.block ?_
      refine WCode.seq ?_
      refine WCode.draw [⟨0, 0, []⟩, ⟨1, 0, []⟩, ⟨2, 0, []⟩, ⟨4, 0, []⟩, ⟨5, 0, []⟩, ⟨6, 0, []⟩, ⟨3, 1, [8]⟩, ⟨7, 1, [8]⟩, ⟨8, 0, []⟩] T.mixed (by kernel_rfl) (by intro _ _ d _ _ h; cases d <;> exact h) rfl (by kernel_rfl) ?_
      have S13 := S2.drew
      generalize w1.drew = w14 at *
      refine WD.p rfl (G.move rfl) rfl ?_
      refine WD.p rfl (G.move rfl) rfl ?_
      obtain ⟨b15, o16, ea17, ca18⟩ := Rd.at_ Pk.len (hA.ext S13.ext0) hx rfl
      cases ea17
      refine WD.p rfl (G.index T.el43 rfl rfl (j := i) h.1 rfl) rfl ?_
      refine WD.p rfl (G.move rfl) rfl ?_
      refine WD.p rfl (G.move rfl) rfl ?_
      obtain ⟨b19, o20, ea21, ca22⟩ := Rd.at_ Pk.len (hB.ext S13.ext0) hy rfl
      cases ea21
      refine WD.p rfl (G.index T.el43 rfl rfl (j := i) (by omega) rfl) rfl ?_
      refine WD.r rfl (G.loada T.agg37_3 rfl (cs := [.int .i64 x.f, .int .i64 x.t, .string x.d]) ca18) rfl ?_
      refine WD.r rfl (G.loada T.agg37_3 rfl (cs := [.int .i64 y.f, .int .i64 y.t, .string y.d]) ca22) rfl ?_
      refine WD.p rfl (G.neqa rfl rfl (by kernel_rfl) (pk_eqIn x y) (show (!decide (x = y)) = true from by simp [hxy])) rfl ?_
      refine WD.nil ?_
      refine WEx.then_ ?_
      refine WCode.cond_t rfl ?_
      refine WCode.seq ?_
      refine WCode.region ?_
      refine WOps.p (G.assign rfl) rfl ?_
      refine WOps.nil ?_
      refine WEx.then_ ?_
      refine WCode.ret ?_
      refine WEx.in_ret ?_
      refine WEx.then_ret ?_
      refine WEx.then_ret ?_
      refine WEx.in_ret ?_
      refine WEx.then_ret ?_
      refine WEx.ret1 rfl rfl ?_
      exact ⟨by rw [decide_eq_false (fun e => hxy (by rw [e, hy] at hx; simpa using hx.symm))], S13⟩

set_option maxRecDepth 100000 in
set_option maxHeartbeats 1000000 in
theorem law_size {w : World} {A : Option Addr} {c : Nat} {L : List Stp} (hA : Rd w A L.length 7 (cellsOf Stp.cs L)) (hok : ∀ o ∈ L, o.Ok) (hL : L.length ≤ 9223372036854775807) :
    Calls Try.prog 12 [.slice A L.length c].toArray w fun e w' => e = .returned (.int .i64 (sizeZ 0 L)) ∧ St w (fun _ => False) w' [] := by
  have S := St.init0 w
  refine enter 36 [(0, .slice A L.length c)] Try.func12 rfl rfl rfl rfl ?_
  refine WCode.seq ?_
  refine WCode.region ?_
  refine WOps.p (G.assign rfl) rfl ?_
  refine WOps.nil ?_
  refine WEx.then_ ?_
  refine WCode.seq ?_
  refine WCode.region ?_
  refine WOps.p (G.assign rfl) rfl ?_
  refine WOps.nil ?_
  refine WEx.then_ ?_
  refine WCode.seq ?_
  refine WCode.seq ?_
  refine WCode.region ?_
  refine WOps.p (G.assign rfl) rfl ?_
  refine WOps.nil ?_
  refine WEx.then_ ?_
  refine WCode.block ?_
  refine WCode.forget (l' := [(0, .slice A L.length c), (2, .int .i64 0), (3, .int .i64 0), (4, .int .i64 0)]) ⟨rfl, rfl, rfl, rfl, trivial⟩ ?_
  refine WCode.loop (fun n_ l_ w' => ∃ i : Nat, ∃ n : Int, l_ = [(0, .slice A L.length c), (2, .int .i64 0), (3, .int .i64 n), (4, .int .i64 (i : Nat))] ∧ n_ = L.length - i ∧ (i ≤ L.length) ∧ (0 ≤ n ∧ n ≤ 2147483648) ∧ (sizeZ n (L.drop i) = sizeZ 0 L) ∧ St w (fun _ => False) w' []) _ ⟨0, 0, rfl, rfl, Nat.zero_le _, by omega, rfl, S⟩ ?_
  rintro _ _ w1 ⟨i, n, rfl, rfl, hi, hn, hs, S2⟩
  have cs_ : (i = L.length) ∨ (i < L.length ∧ ¬ n ≤ 2147483647) ∨ (i < L.length ∧ n ≤ 2147483647) := by omega
  rcases cs_ with h | h | h
  ·
    refine WCode.seq ?_
    refine WCode.seq ?_
    refine WCode.region ?_
    refine WOps.p (G.move rfl) rfl ?_
    refine WOps.p (G.move rfl) rfl ?_
    refine WOps.p (G.len T.el22 rfl) rfl ?_
    refine WOps.p (G.lss rfl rfl (b := false) (decide_eq_false (by omega))) rfl ?_
    refine WOps.p (G.move rfl) rfl ?_
    refine WOps.off rfl rfl rfl rfl ?_
    refine WOps.off rfl rfl rfl rfl ?_
    refine WOps.p (G.pick_f rfl rfl) rfl ?_
    refine WOps.nil ?_
    refine WEx.then_ ?_
    refine WCode.cond_f rfl ?_
    refine WCode.exit ?_
    refine WEx.then_exit ?_
    refine WEx.then_exit ?_
    refine WEx.in_exit ?_
    refine WEx.then_ ?_
    refine WCode.forget (l' := [(2, .int .i64 0), (3, .int .i64 n)]) ⟨rfl, rfl, trivial⟩ ?_
    refine WCode.seq ?_
    refine WCode.region ?_
    refine WOps.p (G.move rfl) rfl ?_
    refine WOps.p (G.assign rfl) rfl ?_
    refine WOps.nil ?_
    refine WEx.forget (l' := [(2, .int .i64 n)]) ⟨rfl, trivial⟩ ?_
    refine WEx.then_ ?_
    refine WCode.ret ?_
    refine WEx.ret1 rfl rfl ?_
    rw [← hs]
    exact ⟨by rw [List.drop_of_length_le (by omega), sizeZ], S2⟩
  ·
    refine WCode.seq ?_
    refine WCode.seq ?_
    refine WCode.region ?_
    refine WOps.p (G.move rfl) rfl ?_
    refine WOps.p (G.move rfl) rfl ?_
    refine WOps.p (G.len T.el22 rfl) rfl ?_
    refine WOps.p (G.lss rfl rfl (b := true) (decide_eq_true (by omega))) rfl ?_
    refine WOps.p (G.move rfl) rfl ?_
    refine WOps.on rfl rfl ?_
    refine WOps.p (G.move rfl) rfl ?_
    refine WOps.on rfl rfl ?_
    refine WOps.p (G.leq rfl rfl (b := false) (decide_eq_false (by omega))) rfl ?_
    refine WOps.p (G.pick_t rfl rfl) rfl ?_
    refine WOps.nil ?_
    refine WEx.then_ ?_
    refine WCode.cond_f rfl ?_
    refine WCode.exit ?_
    refine WEx.then_exit ?_
    refine WEx.then_exit ?_
    refine WEx.in_exit ?_
    refine WEx.then_ ?_
    refine WCode.forget (l' := [(2, .int .i64 0), (3, .int .i64 n)]) ⟨rfl, rfl, trivial⟩ ?_
    refine WCode.seq ?_
    refine WCode.region ?_
    refine WOps.p (G.move rfl) rfl ?_
    refine WOps.p (G.assign rfl) rfl ?_
    refine WOps.nil ?_
    refine WEx.forget (l' := [(2, .int .i64 n)]) ⟨rfl, trivial⟩ ?_
    refine WEx.then_ ?_
    refine WCode.ret ?_
    refine WEx.ret1 rfl rfl ?_
    rw [← hs]
    exact ⟨by rw [List.drop_eq_getElem_cons h.1, sizeZ, if_neg (by omega)], S2⟩
  ·
    obtain ⟨x, hx⟩ : ∃ x, L[i]? = some x := ⟨_, List.getElem?_eq_getElem (h.1)⟩
    have ox := hok x (List.mem_of_getElem? hx)
    have omany := ox.many
    have od := ox.d
    unfold i64 at omany
    have hp := pickZ_in x.many 1101 (by omega)
    have ha := addZ_in (x.d.size : Nat) 100 (by omega) (by omega)
    have hm := min_in _ ha.1
    have hM := mul_in (pickZ x.many 1101 + 1) _ (by omega) hm
    refine WCode.seq ?_
    refine WCode.seq ?_
    refine WCode.region ?_
    refine WOps.p (G.move rfl) rfl ?_
    refine WOps.p (G.move rfl) rfl ?_
    refine WOps.p (G.len T.el22 rfl) rfl ?_
    refine WOps.p (G.lss rfl rfl (b := true) (decide_eq_true (by omega))) rfl ?_
    refine WOps.p (G.move rfl) rfl ?_
    refine WOps.on rfl rfl ?_
    refine WOps.p (G.move rfl) rfl ?_
    refine WOps.on rfl rfl ?_
    refine WOps.p (G.leq rfl rfl (b := true) (decide_eq_true (by omega))) rfl ?_
    refine WOps.p (G.pick_t rfl rfl) rfl ?_
    refine WOps.nil ?_
    refine WEx.then_ ?_
    refine WCode.cond_t rfl ?_
    refine WCode.skip ?_
    refine WEx.then_ ?_
    refine WCode.seq ?_
    refine WCode.block ?_
    refine WCode.drawH (.one 0 0 (.one 1 0 (.one 2 0 (.one 3 0 (.one 4 0 (.one 8 0 (.one 9 0 (.one 10 0 (.one 11 0 (.one 12 0 (.one 5 1 (.one 13 1 (.one 14 0 (.one 6 2 (.one 7 0 (.one 15 2 (.one 16 0 (.one 17 0 (.one 18 2 (.one 19 2 (.one 20 0 .nil))))))))))))))))))))) (fun W => Rd W A L.length 7 (cellsOf Stp.cs L) ∧ True) T.mixed (by kernel_rfl) (by intro _ _ d _ _ h; cases d <;> exact h) rfl rfl (by kernel_rfl) ?_ ?_
    all_goals have S3 := S2.drew
    all_goals generalize w1.drew = w4 at *
    · exact ⟨(hA.ext S3.ext0), trivial⟩
    refine WH.p rfl wants (G.move rfl) rfl ?_
    refine WH.p rfl wants (G.move rfl) rfl ?_
    refine WH.p rfl wants (G.move rfl) rfl ?_
    obtain ⟨b5, o6, ea7, ca8⟩ := Rd.at_ Stp.len (hA.ext S3.ext0) hx rfl
    cases ea7
    refine WH.p rfl wants (G.index T.el22 rfl rfl (j := i) h.1 rfl) rfl ?_
    refine WH.p rfl wants (G.field T.fld39_3 rfl (show o6 + i * 7 + 3 = o6 + i * 7 + 3 from rfl)) rfl ?_
    refine WH.p rfl wants (G.move rfl) rfl ?_
    refine WH.p rfl wants (G.move rfl) rfl ?_
    obtain ⟨b9, o10, ea11, ca12⟩ := Rd.at_ Stp.len (hA.ext S3.ext0) hx rfl
    cases ea11
    refine WH.p rfl wants (G.index T.el22 rfl rfl (j := i) h.1 rfl) rfl ?_
    refine WH.p rfl wants (G.field T.fld39_4 rfl (show o6 + i * 7 + 4 = o6 + i * 7 + 4 from rfl)) rfl ?_
    refine WH.p rfl wants (G.field T.fld37_2 rfl (show o6 + i * 7 + 4 + 2 = o6 + i * 7 + 6 from rfl)) rfl ?_
    refine WH.r rfl wants (fun _ h => G.load1 T.one3 rfl (cellsAt.at (Rd.cells Stp.len h.1 hx rfl) 3 rfl)) rfl ?_
    refine WH.r rfl wants (fun _ h => G.load1 T.one9 rfl (cellsAt.at (Rd.cells Stp.len h.1 hx rfl) 6 rfl)) rfl ?_
    refine WH.p rfl wants (G.lens T.str9 rfl) rfl ?_
    refine WH.call rfl wants T.call16 (evs_cons rfl (evs_cons rfl evs_nil)) rfl ?_
    refine (law_pick x.many 1101 omany (by omega) (by omega)).mono ?_
    rintro _ w14 ⟨rfl, T13⟩
    have S15 := S3.call0 T13
    have X16 := T13.ext0
    have c17 := ca12.ext X16
    change St _ _ _ [] at S15
    refine ⟨_, rfl, ?_⟩
    refine ⟨⟨(hA.ext S15.ext0), trivial⟩, ?_⟩
    refine WH.p rfl wants (G.add rfl rfl (show IntKind.i64.wrap ((pickZ x.many 1101) + 1) = ((pickZ x.many 1101) + 1) from IntWalk.i64_in _ (by omega))) rfl ?_
    refine WH.call rfl wants T.call66 (evs_cons rfl (evs_cons rfl evs_nil)) rfl ?_
    refine (law_add (x.d.size : Nat) 100 (by omega) (by omega)).mono ?_
    rintro _ w19 ⟨rfl, T18⟩
    have S20 := S15.call0 T18
    have X21 := T18.ext0
    have c22 := c17.ext X21
    change St _ _ _ [] at S20
    refine ⟨_, rfl, ?_⟩
    refine ⟨⟨(hA.ext S20.ext0), trivial⟩, ?_⟩
    refine WH.p rfl wants (G.min rfl rfl (show _ = (if 2147483647 < addZ (x.d.size : Nat) 100 then 2147483647 else addZ (x.d.size : Nat) 100) from rfl)) rfl ?_
    refine WH.p rfl wants (G.mul rfl rfl (show IntKind.i64.wrap (((pickZ x.many 1101) + 1) * (if 2147483647 < addZ (x.d.size : Nat) 100 then 2147483647 else addZ (x.d.size : Nat) 100)) = ((pickZ x.many 1101 + 1) * (if 2147483647 < addZ (x.d.size : Nat) 100 then 2147483647 else addZ (x.d.size : Nat) 100)) from (IntWalk.i64_in _ (by omega)))) rfl ?_
    refine WH.call rfl wants T.call66 (evs_cons rfl (evs_cons rfl evs_nil)) rfl ?_
    refine (law_add 100000 ((pickZ x.many 1101 + 1) * (if 2147483647 < addZ (x.d.size : Nat) 100 then 2147483647 else addZ (x.d.size : Nat) 100)) (by omega) (by omega)).mono ?_
    rintro _ w24 ⟨rfl, T23⟩
    have S25 := S20.call0 T23
    have X26 := T23.ext0
    have c27 := c22.ext X26
    change St _ _ _ [] at S25
    have ha2 := addZ_in 100000 ((pickZ x.many 1101 + 1) * (if 2147483647 < addZ (x.d.size : Nat) 100 then 2147483647 else addZ (x.d.size : Nat) 100)) (by omega) hM.1
    refine ⟨_, rfl, ?_⟩
    refine ⟨⟨(hA.ext S25.ext0), trivial⟩, ?_⟩
    refine WH.call rfl wants T.call66 (evs_cons rfl (evs_cons rfl evs_nil)) rfl ?_
    refine (law_add n (addZ 100000 ((pickZ x.many 1101 + 1) * (if 2147483647 < addZ (x.d.size : Nat) 100 then 2147483647 else addZ (x.d.size : Nat) 100))) (by omega) (by omega)).mono ?_
    rintro _ w29 ⟨rfl, T28⟩
    have S30 := S25.call0 T28
    have X31 := T28.ext0
    have c32 := c27.ext X31
    change St _ _ _ [] at S30
    have ha3 := addZ_in n (addZ 100000 ((pickZ x.many 1101 + 1) * (if 2147483647 < addZ (x.d.size : Nat) 100 then 2147483647 else addZ (x.d.size : Nat) 100))) hn.1 ha2.1
    refine ⟨_, rfl, ?_⟩
    refine ⟨⟨(hA.ext S30.ext0), trivial⟩, ?_⟩
    refine WH.p rfl wants (G.assign rfl) rfl ?_
    refine WH.nil ?_
    refine WEx.in_normal ?_
    refine WEx.then_ ?_
    refine WCode.region ?_
    refine WOps.p (G.move rfl) rfl ?_
    refine WOps.p (G.add rfl rfl (show IntKind.i64.wrap ((i : Nat) + 1) = ((i : Nat) + 1) from IntWalk.i64_in _ (by omega))) rfl ?_
    refine WOps.p (G.assign rfl) rfl ?_
    refine WOps.nil ?_
    refine WEx.again _ _ ?_ ?_ ⟨i + 1, sizeStep n x, rfl, rfl, h.1, ha3, (by rw [← hs, List.drop_eq_getElem_cons h.1, (List.getElem?_eq_some_iff.1 hx).2, sizeZ, if_pos h.2]), S30⟩
    · have := h.1; omega
    · exact ⟨rfl, rfl, rfl, rfl, trivial⟩

end Go.Proofs.Ytoahkjehjmbojaa
