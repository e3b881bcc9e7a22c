/- CachePlays answers true: its loops. -/
import Derived.Test.YtpdpfiaediadgaaCY
import Derived.Test.YtpdpfiaediadgaaCI
set_option linter.unusedVariables false
set_option linter.unusedSimpArgs false
namespace Go.Proofs.Ytpdpfiaediadgaa
open Go Go.Eng
theorem pick_is (a : Int) {b : Int} (hb : b ≠ 0) : ∃ p, ∀ k, ca_pick k a b = some p := by
  by_cases h : a < 0
  · exact ⟨_, fun k => by unfold ca_pick; rw [if_pos h, if_neg hb]⟩
  · exact ⟨_, fun k => by unfold ca_pick; rw [if_neg h, if_neg hb]⟩
theorem who_is (a : Int) : ∃ p, ∀ k, ca_who k a = some p := by
  obtain ⟨p, hp⟩ := pick_is a (b := 8) (by decide)
  exact ⟨_, fun k => by unfold ca_who; rw [hp, Option.bind_some]⟩
theorem names_is (o : OpC) : ∃ t, ∀ k, ca_names k o = some t := by
  by_cases h : o.Raw = true
  · exact ⟨_, fun k => by unfold ca_names; rw [if_pos h]⟩
  · obtain ⟨p, hp⟩ := who_is o.Who
    obtain ⟨q, hq⟩ := pick_is o.Sequence (b := 100) (by decide)
    obtain ⟨r, hr⟩ := pick_is o.Water (b := 100) (by decide)
    exact ⟨_, fun k => by unfold ca_names; rw [if_neg h, hp, Option.bind_some, hq, Option.bind_some, hr, Option.bind_some]⟩
theorem known_is (k : Nat) : ca_known k = some true := by kernel_rfl
def OptPair (o : Option Cache) (p : Option Cache104) : Prop := (o = none ∧ p = none) ∨ ∃ c x, o = some c ∧ p = some x ∧ Pair c x
theorem new_pair (g : CacheConfig) : ∃ o p e, (∀ k, ca_New k g = some (o, e)) ∧ (∀ k, rc_New k g = some (p, e)) ∧ OptPair o p := by
  by_cases c1 : g.Clients < 1
  · exact ⟨none, none, 150, fun k => by unfold ca_New ca_New.j1; rw [if_pos c1, if_pos (decide_eq_true c1)], fun k => by unfold rc_New; rw [if_pos c1], .inl ⟨rfl, rfl⟩⟩
  by_cases c2 : 64 < g.Clients
  · exact ⟨none, none, 150, fun k => by unfold ca_New ca_New.j1; rw [if_neg c1, if_pos c2, if_pos (decide_eq_true c2)], fun k => by unfold rc_New; rw [if_neg c1, if_pos c2], .inl ⟨rfl, rfl⟩⟩
  by_cases c3 : g.Entries < 1
  · exact ⟨none, none, 150, fun k => by unfold ca_New ca_New.j1; rw [if_neg c1, if_neg c2, if_pos c3, if_pos (decide_eq_true c3)], fun k => by unfold rc_New; rw [if_neg c1, if_neg c2, if_pos c3], .inl ⟨rfl, rfl⟩⟩
  by_cases c4 : 64 < g.Entries
  · exact ⟨none, none, 150, fun k => by unfold ca_New ca_New.j1; rw [if_neg c1, if_neg c2, if_neg c3, if_pos (decide_eq_true c4)], fun k => by unfold rc_New; rw [if_neg c1, if_neg c2, if_neg c3, if_pos c4], .inl ⟨rfl, rfl⟩⟩
  have hd : ¬ decide (64 < g.Entries) = true := by simpa using c4
  have e : ∀ k, ca_New k g = ca_New.j1 k g (decide (64 < g.Entries)) := fun k => by unfold ca_New; rw [if_neg c1, if_neg c2, if_neg c3]
  have e2 : ∀ k, rc_New k g = (if g.Reserve < 64 then (some (none, 150)) else (if 1100 < g.Reserve then (some (none, 150)) else (if g.Bytes < g.Reserve then (some (none, 150)) else (if 1048576 < g.Bytes then (some (none, 150)) else (some (some (⟨g, [], []⟩ : Cache104), 0)))))) := fun k => by unfold rc_New; rw [if_neg c1, if_neg c2, if_neg c3, if_neg c4]
  by_cases c5 : g.Reserve < 64
  · exact ⟨none, none, 150, fun k => by rw [e]; unfold ca_New.j1; rw [if_neg hd, if_pos c5], fun k => by rw [e2, if_pos c5], .inl ⟨rfl, rfl⟩⟩
  by_cases c6 : 1100 < g.Reserve
  · exact ⟨none, none, 150, fun k => by rw [e]; unfold ca_New.j1; rw [if_neg hd, if_neg c5, if_pos c6], fun k => by rw [e2, if_neg c5, if_pos c6], .inl ⟨rfl, rfl⟩⟩
  by_cases c7 : g.Bytes < g.Reserve
  · exact ⟨none, none, 150, fun k => by rw [e]; unfold ca_New.j1; rw [if_neg hd, if_neg c5, if_neg c6, if_pos c7], fun k => by rw [e2, if_neg c5, if_neg c6, if_pos c7], .inl ⟨rfl, rfl⟩⟩
  by_cases c8 : 1048576 < g.Bytes
  · exact ⟨none, none, 150, fun k => by rw [e]; unfold ca_New.j1; rw [if_neg hd, if_neg c5, if_neg c6, if_neg c7, if_pos c8], fun k => by rw [e2, if_neg c5, if_neg c6, if_neg c7, if_pos c8], .inl ⟨rfl, rfl⟩⟩
  have hG : GOk g := ⟨by omega, by omega, by omega, by omega, by omega, by omega, by omega, by omega⟩
  refine ⟨some (mk g []), some ⟨g, [], []⟩, 0, fun k => by rw [e]; unfold ca_New.j1; rw [if_neg hd, if_neg c5, if_neg c6, if_neg c7, if_neg c8]; rfl, fun k => by rw [e2, if_neg c5, if_neg c6, if_neg c7, if_neg c8], .inr ⟨_, _, rfl, rfl, ?_⟩⟩
  exact ⟨g, [], [], [], hG, ⟨by simp, by simp, by have := hG.c1; simp; omega, by have := hG.r1; have := hG.b1; show (0 : Int) ≤ g.Bytes; omega⟩, ⟨rfl, by simp, by simp⟩, rfl, rfl⟩
section
variable {o : Option Cache} {p : Option Cache104} {z : Int}
theorem plays_l4 {i : Int} (H : ∀ c x, Pair c x → Ev (fun k => law_CPlays.l3 k z o p (w64 (i + 1)) x.C.Clients x.C.Entries x.C.Bytes x.C.Reserve x.L x.I c.config.Clients c.config.Entries c.config.Bytes c.config.Reserve c.clients c.entries c.bytes) true) :
    ∀ (n j : Nat), n + j = 100 → ∀ c x, Pair c x → Ev (fun k => law_CPlays.l4 k z o p i (j : Int) x.C.Clients x.C.Entries x.C.Bytes x.C.Reserve x.L x.I c.config.Clients c.config.Entries c.config.Bytes c.config.Reserve c.clients c.entries c.bytes) true
  | 0, j, e, c, x, P => by
    refine Ev.unf' ?_
    simp only [law_CPlays.l4]
    exact Ev.neg (by omega) (H c x P)
  | n + 1, j, e, c, x, P => by
    refine Ev.unf' ?_
    simp only [law_CPlays.l4]
    refine Ev.pos (by omega) ?_
    obtain ⟨c1, x1, h1, P1⟩ := step_ok (names_is _) P
    refine Ev.bind h1 ?_
    obtain ⟨c2, x2, h2, P2⟩ := step_ok (names_is _) P1
    refine Ev.bind h2 ?_
    refine Ev.pos rfl (Ev.pos rfl ?_)
    rw [w64_succ (by omega)]
    exact plays_l4 H n (j + 1) (by omega) c2 x2 P2
theorem plays_l6 {i : Int} (H : ∀ c x, Pair c x → Ev (fun k => law_CPlays.l5 k z o p (w64 (i + 1)) x.C.Clients x.C.Entries x.C.Bytes x.C.Reserve x.L x.I c.config.Clients c.config.Entries c.config.Bytes c.config.Reserve c.clients c.entries c.bytes) true) :
    ∀ (n j : Nat), n + j = 100 → ∀ c x, Pair c x → Ev (fun k => law_CPlays.l6 k z o p i (j : Int) x.C.Clients x.C.Entries x.C.Bytes x.C.Reserve x.L x.I c.config.Clients c.config.Entries c.config.Bytes c.config.Reserve c.clients c.entries c.bytes) true
  | 0, j, e, c, x, P => by
    refine Ev.unf' ?_
    simp only [law_CPlays.l6]
    exact Ev.neg (by omega) (H c x P)
  | n + 1, j, e, c, x, P => by
    refine Ev.unf' ?_
    simp only [law_CPlays.l6]
    refine Ev.pos (by omega) ?_
    obtain ⟨c1, x1, h1, P1⟩ := step_ok (names_is _) P
    refine Ev.bind h1 ?_
    obtain ⟨c2, x2, h2, P2⟩ := step_ok (names_is _) P1
    refine Ev.bind h2 ?_
    refine Ev.pos rfl (Ev.pos rfl ?_)
    rw [w64_succ (by omega)]
    exact plays_l6 H n (j + 1) (by omega) c2 x2 P2
theorem plays_l3 (H : ∀ c x, Pair c x → Ev (fun k => law_CPlays.l2 k (w64 (z + 1)) (some c) (some x) o p) true) :
    ∀ (n i : Nat), n + i = 8 → ∀ c x, Pair c x → Ev (fun k => law_CPlays.l3 k z o p (i : Int) x.C.Clients x.C.Entries x.C.Bytes x.C.Reserve x.L x.I c.config.Clients c.config.Entries c.config.Bytes c.config.Reserve c.clients c.entries c.bytes) true
  | 0, i, e, c, x, P => by
    refine Ev.unf' ?_
    simp only [law_CPlays.l3]
    exact Ev.neg (by omega) (H c x P)
  | n + 1, i, e, c, x, P => by
    refine Ev.unf' ?_
    simp only [law_CPlays.l3]
    refine Ev.pos (by omega) ?_
    refine plays_l4 (fun c x P => ?_) 100 0 rfl c x P
    rw [w64_succ (by omega)]
    exact plays_l3 H n (i + 1) (by omega) c x P
theorem plays_l5 (H : ∀ c x, Pair c x → Ev (fun k => law_CPlays.l2 k (w64 (z + 1)) o p (some c) (some x)) true) :
    ∀ (n i : Nat), n + i = 8 → ∀ c x, Pair c x → Ev (fun k => law_CPlays.l5 k z o p (i : Int) x.C.Clients x.C.Entries x.C.Bytes x.C.Reserve x.L x.I c.config.Clients c.config.Entries c.config.Bytes c.config.Reserve c.clients c.entries c.bytes) true
  | 0, i, e, c, x, P => by
    refine Ev.unf' ?_
    simp only [law_CPlays.l5]
    exact Ev.neg (by omega) (H c x P)
  | n + 1, i, e, c, x, P => by
    refine Ev.unf' ?_
    simp only [law_CPlays.l5]
    refine Ev.pos (by omega) ?_
    refine plays_l6 (fun c x P => ?_) 100 0 rfl c x P
    rw [w64_succ (by omega)]
    exact plays_l5 H n (i + 1) (by omega) c x P
end
theorem plays_l2_2 {o1 o2 : Option Cache} {p1 p2 : Option Cache104} : Ev (fun k => law_CPlays.l2 k (w64 (1 + 1)) o1 p1 o2 p2) true := by
  refine Ev.unf' ?_
  simp only [law_CPlays.l2]
  exact Ev.neg (by decide) Ev.ret
theorem plays_l2_1 {o1 o2 : Option Cache} {p1 p2 : Option Cache104} (h2 : OptPair o2 p2) : Ev (fun k => law_CPlays.l2 k (w64 (0 + 1)) o1 p1 o2 p2) true := by
  rw [show w64 (0 + 1) = 1 from by decide]
  refine Ev.unf' ?_
  simp only [law_CPlays.l2]
  refine Ev.pos (by decide) (Ev.neg (by decide) (Ev.pos (by first | trivial | rfl) ?_))
  rcases h2 with ⟨rfl, rfl⟩ | ⟨c, x, rfl, rfl, P⟩
  · exact Ev.neg (by simp) plays_l2_2
  · refine Ev.pos (by first | trivial | rfl) (Ev.bindc rfl ?_)
    refine Ev.unf' ?_
    simp only [law_CPlays.j2]
    refine Ev.neg (by decide) (Ev.pos (by first | trivial | rfl) (Ev.pos (by first | trivial | rfl) (Ev.pos (by first | trivial | rfl) (Ev.bindc rfl (Ev.bindc rfl ?_)))))
    obtain ⟨c1, x1, h1, P1⟩ := step_ok (names_is _) P
    refine Ev.bind h1 (Ev.pos (by first | trivial | rfl) ?_)
    exact plays_l5 (fun c x P => plays_l2_2) 8 0 rfl c1 x1 P1
theorem plays_l2_0 {o1 o2 : Option Cache} {p1 p2 : Option Cache104} (h1 : OptPair o1 p1) (h2 : OptPair o2 p2) : Ev (fun k => law_CPlays.l2 k 0 o1 p1 o2 p2) true := by
  refine Ev.unf' ?_
  simp only [law_CPlays.l2]
  refine Ev.pos (by decide) (Ev.pos (by first | trivial | rfl) ?_)
  rcases h1 with ⟨rfl, rfl⟩ | ⟨c, x, rfl, rfl, P⟩
  · exact Ev.neg (by simp) (plays_l2_1 h2)
  · refine Ev.pos (by first | trivial | rfl) (Ev.bindc rfl ?_)
    refine Ev.unf' ?_
    simp only [law_CPlays.j2]
    refine Ev.pos (by first | trivial | rfl) (Ev.pos (by first | trivial | rfl) (Ev.pos (by first | trivial | rfl) (Ev.bindc rfl (Ev.bindc rfl ?_))))
    obtain ⟨c1, x1, h1, P1⟩ := step_ok (names_is _) P
    refine Ev.bind h1 (Ev.pos (by first | trivial | rfl) ?_)
    exact plays_l3 (fun c x P => plays_l2_1 h2) 8 0 rfl c1 x1 P1
theorem plays_l1 {l : List OpC} (hl : l.length ≤ lim) : ∀ (b a : List OpC), l = a ++ b → ∀ o1 p1 o2 p2, OptPair o1 p1 → OptPair o2 p2 → Ev (fun k => law_CPlays.l1 k l (a.length : Int) o1 p1 o2 p2) true
  | [], a, e, o1, p1, o2, p2, h1, h2 => by
    refine Ev.unf' ?_
    simp only [law_CPlays.l1]
    have hla : l.length = a.length := by rw [e]; simp
    exact Ev.neg (by omega) (plays_l2_0 h1 h2)
  | x :: b, a, e, o1, p1, o2, p2, h1, h2 => by
    refine Ev.unf' ?_
    simp only [law_CPlays.l1]
    have hla : l.length = a.length + (b.length + 1) := by rw [e]; simp
    refine Ev.pos (by omega) ?_
    have hidx : idx l (a.length : Int) = some x := by rw [idx_at rfl (by omega)]; simp [e]
    refine Ev.bindc hidx ?_
    have ih : ∀ o1 p1 o2 p2, OptPair o1 p1 → OptPair o2 p2 → Ev (fun k => law_CPlays.l1 k l (w64 ((a.length : Int) + 1)) o1 p1 o2 p2) true := fun o1 p1 o2 p2 h1 h2 => by
      rw [w64_succ (by unfold lim at hl; omega)]
      have := plays_l1 hl b (a ++ [x]) (by rw [e]; simp) o1 p1 o2 p2 h1 h2
      rwa [List.length_append, List.length_singleton] at this
    by_cases ho : x.Other = true
    · refine Ev.pos ho ?_
      rcases h2 with ⟨rfl, rfl⟩ | ⟨c, y, rfl, rfl, P⟩
      · exact Ev.neg (by simp) (ih _ _ _ _ h1 (.inl ⟨rfl, rfl⟩))
      · refine Ev.pos rfl (Ev.bindc rfl (Ev.bindc hidx (Ev.pos rfl (Ev.bindc rfl ?_))))
        obtain ⟨c1, y1, e1, P1⟩ := step_ok (names_is x) P
        refine Ev.bind e1 (Ev.pos rfl ?_)
        exact ih _ _ _ _ h1 (.inr ⟨c1, y1, rfl, rfl, P1⟩)
    · refine Ev.neg ho ?_
      rcases h1 with ⟨rfl, rfl⟩ | ⟨c, y, rfl, rfl, P⟩
      · exact Ev.neg (by simp) (ih _ _ _ _ (.inl ⟨rfl, rfl⟩) h2)
      · refine Ev.pos rfl (Ev.bindc rfl (Ev.bindc hidx (Ev.pos rfl (Ev.bindc rfl ?_))))
        obtain ⟨c1, y1, e1, P1⟩ := step_ok (names_is x) P
        refine Ev.bind e1 (Ev.pos rfl ?_)
        exact ih _ _ _ _ (.inr ⟨c1, y1, rfl, rfl, P1⟩) h2
theorem cplays_true (a0 a1 : CacheConfig) (l : List OpC) (hl : l.length ≤ lim) : ∃ k, law_CPlays k a0 a1 l = some true := by
  obtain ⟨o1, p1, e1, n1, m1, h1⟩ := new_pair a0
  obtain ⟨o2, p2, e2, n2, m2, h2⟩ := new_pair a1
  refine Ev.get (f := fun k => law_CPlays k a0 a1 l) ?_
  unfold law_CPlays law_CPlays.j1
  refine Ev.bind (Ev.all known_is) ?_
  refine Ev.bind (Ev.all n1) ?_
  refine Ev.bind (Ev.all m1) ?_
  refine Ev.bind (Ev.all n2) ?_
  refine Ev.bind (Ev.all m2) ?_
  refine Ev.pos rfl (Ev.pos rfl (Ev.pos rfl ?_))
  have h := plays_l1 hl l [] rfl o1 p1 o2 p2 h1 h2
  rcases h1 with ⟨rfl, rfl⟩ | ⟨c1, x1, rfl, rfl, P1⟩ <;> rcases h2 with ⟨rfl, rfl⟩ | ⟨c2, x2, rfl, rfl, P2⟩
  · exact Ev.neg (by simp) (Ev.neg (by simp) (Ev.neg (by simp) (Ev.neg (by simp) h)))
  · exact Ev.neg (by simp) (Ev.neg (by simp) (Ev.pos rfl (Ev.bindc rfl (Ev.pos rfl (Ev.bindc rfl h)))))
  · exact Ev.pos rfl (Ev.bindc rfl (Ev.pos rfl (Ev.bindc rfl (Ev.neg (by simp) (Ev.neg (by simp) h)))))
  · exact Ev.pos rfl (Ev.bindc rfl (Ev.pos rfl (Ev.bindc rfl (Ev.pos rfl (Ev.bindc rfl (Ev.pos rfl (Ev.bindc rfl h)))))))
end Go.Proofs.Ytpdpfiaediadgaa
