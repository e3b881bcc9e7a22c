/- CachePlays answers true. -/
import Derived.Test.YtpdpfiaediadgaaCX
set_option linter.unusedVariables false
set_option linter.unusedSimpArgs false
namespace Go.Proofs.Ytpdpfiaediadgaa
open Go Go.Eng
variable {g : CacheConfig} {X : Clis} {kn : Known} {w : WhoC} {s wa : Int} {L : List Known123} {I : List Item}
theorem mput_rel {i : Item} {A B : List Item} {r : List UInt8} (hw : i.Who = w) (hs : i.Sequence = s) (hA : ∀ y ∈ A, ¬ (y.Who = w ∧ y.Sequence = s)) : mput (callsOf (A ++ i :: B) w) s ⟨true, r⟩ = callsOf (A ++ ⟨i.Who, i.Sequence, true, r⟩ :: B) w := by
  have e1 : ∀ j : Item, j.Who = w → callsOf (A ++ j :: B) w = callsOf A w ++ toE j :: callsOf B w := fun j hj => by
    unfold callsOf
    rw [List.filter_append, List.filter_cons, if_pos (by simpa using hj), List.map_append, List.map_cons]
  rw [e1 i hw, e1 _ (by exact hw)]
  have hf : mfind (callsOf A w ++ toE i :: callsOf B w) s = some (callsOf A w).length := by
    unfold mfind
    rw [List.findIdx?_append, List.findIdx?_eq_none_iff.2, List.findIdx?_cons, if_pos (decide_eq_true (p := (toE i).1 = s) hs)]
    · simp
    · intro x hx
      obtain ⟨y, hy, rfl⟩ := List.mem_map.1 hx
      have := List.mem_filter.1 hy
      exact decide_eq_false fun e => hA y this.1 ⟨by simpa using this.2, e⟩
  unfold mput
  rw [hf]
  simp only
  rw [set_mid]
  simp [toE, hs]
theorem rcDone_ev (hG : GOk g) (h : XInv g X) (R : Rel X L I) {r : List UInt8} : ∃ I', Ev (fun k => rc_Done k ⟨g, L, I⟩ w s r) ((doneP g X w s r).1, ⟨g, L, I'⟩) ∧ Rel (doneP g X w s r).2 L I' := by
  have hitem := rcItem_ev (w := w) (s := s) hG h R
  have miss : (mget (callsOf I w) s = none ∧ at1 (fun x : Item => decide (x.Who = w ∧ x.Sequence = s)) I = -1) → Ev (fun k => rc_Done k ⟨g, L, I⟩ w s r) (151, ⟨g, L, I⟩) := fun hm => by
    simp only [rc_Done]
    refine Ev.bind (r := -1) (hm.2 ▸ hitem) ?_
    refine Ev.pos (by omega) ?_
    simp only [rc_Done.j1]
    exact Ev.pos trivial Ev.ret
  rcases Option.eq_none_or_eq_some (mget X w) with hk | ⟨kn, hk⟩
  · have hP : doneP g X w s r = (151, X) := by unfold doneP; rw [hk]
    rw [hP]
    obtain ⟨_, hnil⟩ := R.no hk
    rcases item_cases I w s with ⟨hg, hat, _⟩ | ⟨Ai, i, Bi, hI, i1, i2, i3, hg, hat, hix⟩
    · exact ⟨I, miss ⟨hg, hat⟩, R⟩
    · rw [hnil] at hg
      cases hg
  · obtain ⟨A, B, hX, hA, hB, _, hidx, hcalls⟩ := R.yes h.nd hk
    rcases item_cases I w s with ⟨hg, hat, _⟩ | ⟨Ai, i, Bi, hI, i1, i2, i3, hg, hat, hix⟩
    · have hP : doneP g X w s r = (151, X) := by unfold doneP; rw [hk]; simp only [hcalls, hg]
      rw [hP]
      exact ⟨I, miss ⟨hg, hat⟩, R⟩
    · have hP : doneP g X w s r = if i.Answered = true then (151, X) else if g.Reserve < (r.length : Int) then (152, X) else (0, mput X w ⟨kn.water, mput kn.calls s ⟨true, r⟩⟩) := by
        unfold doneP
        rw [hk]
        simp only [hcalls, hg]
      rw [hP]
      have pre : ∀ {z : Int × Cache104}, Ev (fun k => rc_Done.j1 k ⟨g, L, I⟩ r (Ai.length : Int) i.Answered) z → Ev (fun k => rc_Done k ⟨g, L, I⟩ w s r) z := fun hh => by
        simp only [rc_Done]
        refine Ev.bind (r := (Ai.length : Int)) (hat ▸ hitem) ?_
        refine Ev.neg (by omega) ?_
        exact Ev.bindc hix hh
      by_cases hd : i.Answered = true
      · rw [if_pos hd]
        refine ⟨I, pre ?_, R⟩
        simp only [rc_Done.j1]
        exact Ev.pos hd Ev.ret
      · rw [if_neg hd]
        by_cases hr : g.Reserve < (r.length : Int)
        · rw [if_pos hr]
          refine ⟨I, pre ?_, R⟩
          simp only [rc_Done.j1]
          exact Ev.neg hd (Ev.pos hr Ev.ret)
        · rw [if_neg hr]
          have hlt : Ai.length < I.length := by rw [hI]; simp
          refine ⟨Ai ++ ⟨i.Who, i.Sequence, true, r⟩ :: Bi, pre ?_, ?_⟩
          · simp only [rc_Done.j1]
            refine Ev.neg hd (Ev.neg hr ?_)
            refine Ev.bindc hix ?_
            refine Ev.bindc (upd_at hlt) ?_
            refine Ev.bindc (r := ⟨i.Who, i.Sequence, true, i.Reply⟩) (by rw [idx_at (j := Ai.length) rfl (by simpa using hlt)]; simp) ?_
            refine Ev.bindc (upd_at (by simpa using hlt)) ?_
            refine Ev.cast Ev.ret ?_
            rw [List.set_set, hI, set_mid]
          · have hset : L.set A.length ⟨w, kn.water⟩ = L := by
              have hL : L = A.map (fun x => (⟨x.1, x.2.water⟩ : Known123)) ++ ⟨w, kn.water⟩ :: B.map (fun x => ⟨x.1, x.2.water⟩) := by rw [R.l, hX]; simp
              rw [hL, show A.length = (A.map fun x : WhoC × Known => (⟨x.1, x.2.water⟩ : Known123)).length by simp]
              exact set_same
            have := R.put (kn' := ⟨kn.water, mput kn.calls s ⟨true, r⟩⟩) (I' := Ai ++ ⟨i.Who, i.Sequence, true, r⟩ :: Bi) h.nd hX hA hB ?_ ?_ ?_
            · simp only at this
              rwa [hset] at this
            · simp only
              rw [hcalls, hI]
              exact mput_rel i1 i2 i3
            · intro w' hw'
              rw [hI]
              unfold callsOf
              simp [List.filter_append, List.filter_cons, i1, Ne.symm hw']
            · intro j hj
              rcases List.mem_append.1 hj with hj | hj
              · exact .inr (by rw [hI]; simp [hj])
              · rcases List.mem_cons.1 hj with hj | hj
                · exact .inl (by rw [hj]; exact i1)
                · exact .inr (by rw [hI]; simp [hj])
def busyP (X : Clis) (w : WhoC) (s : Int) : Bool := match mget X w with | some kn => (match mget kn.calls s with | some e => !e.done | none => false) | none => false
theorem caBusy_eq (k : Nat) : ca_Busy k (mk g X) w s = some (busyP X w s) := by
  unfold ca_Busy busyP cu_hit
  simp only [mk]
  rcases Option.eq_none_or_eq_some (mget X w) with hk | ⟨kn, hk⟩
  · simp [hk]
  · simp only [hk, Option.isSome_some, if_true, Option.bind_some]
    rcases Option.eq_none_or_eq_some (mget kn.calls s) with hc | ⟨e, hc⟩
    · simp [hc]
    · simp only [hc, Option.isSome_some, if_true, Option.bind_some]
      cases e.done <;> simp
theorem rcBusy_ev (hG : GOk g) (h : XInv g X) (R : Rel X L I) : Ev (fun k => rc_Busy k ⟨g, L, I⟩ w s) (busyP X w s) := by
  have hitem := rcItem_ev (w := w) (s := s) hG h R
  simp only [rc_Busy]
  have hb : busyP X w s = match mget (callsOf I w) s with | some e => !e.done | none => false := by
    unfold busyP
    rcases Option.eq_none_or_eq_some (mget X w) with hk | ⟨kn, hk⟩
    · rw [hk, (R.no hk).2]; rfl
    · obtain ⟨A, B, hX, hA, hB, _, hidx, hcalls⟩ := R.yes h.nd hk
      rw [hk]
      simp only [hcalls]
  rw [hb]
  rcases item_cases I w s with ⟨hg, hat, _⟩ | ⟨Ai, i, Bi, hI, i1, i2, i3, hg, hat, hix⟩
  · rw [hg]
    refine Ev.bind (r := -1) (hat ▸ hitem) ?_
    exact Ev.neg (by omega) Ev.ret
  · rw [hg]
    refine Ev.bind (r := (Ai.length : Int)) (hat ▸ hitem) ?_
    refine Ev.pos (by omega) ?_
    exact Ev.bindc hix Ev.ret
theorem rcWater_ev (hG : GOk g) (h : XInv g X) (R : Rel X L I) : Ev (fun k => rc_Water k ⟨g, L, I⟩ w) (waterP X w) := by
  have hc := rcClient_ev (w := w) hG h R
  simp only [rc_Water]
  unfold waterP
  rcases Option.eq_none_or_eq_some (mget X w) with hk | ⟨kn, hk⟩
  · rw [hk]
    refine Ev.bind (r := -1) ((R.no hk).1 ▸ hc) ?_
    exact Ev.pos (by omega) Ev.ret
  · obtain ⟨A, B, hX, hA, hB, hat, hidx, hcalls⟩ := R.yes h.nd hk
    rw [hk]
    refine Ev.bind (r := (A.length : Int)) (hat ▸ hc) ?_
    refine Ev.neg (by omega) ?_
    exact Ev.bindc hidx Ev.ret
/-- A cache, and the reference's. -/
def Pair (c : Cache) (x : Cache104) : Prop := ∃ g X L I, GOk g ∧ XInv g X ∧ Rel X L I ∧ c = mk g X ∧ x = ⟨g, L, I⟩
theorem step_ok {c : Cache} {x : Cache104} {o : OpC} (ht : ∃ t, ∀ k, ca_names k o = some t) (P : Pair c x) : ∃ c' x', Ev (fun k => ca_step k c x o) (true, c', x') ∧ Pair c' x' := by
  obtain ⟨g, X, L, I, hG, h, R, rfl, rfl⟩ := P
  obtain ⟨⟨w, s, wa⟩, ht⟩ := ht
  have pre : ∀ {z : Bool × Cache × Cache104}, Ev (fun k => ca_step.j1 k (mk g X) ⟨g, L, I⟩ o (w, s, wa) (decide (0 ≤ o.What ∧ o.What ≤ 3))) z → Ev (fun k => ca_step k (mk g X) ⟨g, L, I⟩ o) z := fun hh => by
    simp only [ca_step]
    refine Ev.bind (r := (w, s, wa)) (Ev.all ht) ?_
    by_cases h0 : 0 ≤ o.What
    · refine Ev.pos h0 ?_
      simpa only [h0, true_and] using hh
    · refine Ev.neg h0 ?_
      simpa only [h0, false_and, decide_false] using hh
  by_cases hq : 0 ≤ o.What ∧ o.What ≤ 3
  · obtain ⟨L', I', hE, hR⟩ := rcAsk_ev (w := w) (s := s) (wa := wa) hG h R
    refine ⟨_, _, pre ?_, ⟨g, (askP g X w s wa).2.2, L', I', hG, ask_inv hG h, hR, rfl, rfl⟩⟩
    rw [show decide (0 ≤ o.What ∧ o.What ≤ 3) = true from decide_eq_true hq]
    simp only [ca_step.j1]
    refine Ev.pos trivial ?_
    refine Ev.bind (Ev.all fun k => ask_eq (w := w) (s := s) (wa := wa) hG h k) ?_
    refine Ev.bind hE ?_
    refine Ev.pos rfl ?_
    simp only [ca_step.j2]
    exact Ev.cast Ev.ret (by simp)
  · rw [show decide (0 ≤ o.What ∧ o.What ≤ 3) = false from decide_eq_false hq] at pre
    have pre3 : ∀ {z : Bool × Cache × Cache104}, Ev (fun k => ca_step.j3 k (mk g X) ⟨g, L, I⟩ o (w, s, wa) (decide (o.What = 4 ∨ o.What = 5))) z → Ev (fun k => ca_step k (mk g X) ⟨g, L, I⟩ o) z := fun hh => pre (by
      simp only [ca_step.j1]
      refine Ev.neg (by simp) ?_
      by_cases h4 : o.What = 4
      · refine Ev.pos h4 ?_
        rw [show decide (o.What = 4 ∨ o.What = 5) = true from decide_eq_true (.inl h4)] at hh
        exact hh
      · refine Ev.neg h4 ?_
        rw [show decide (o.What = 4 ∨ o.What = 5) = decide (o.What = 5) by simp [h4]] at hh
        exact hh)
    by_cases hd : o.What = 4 ∨ o.What = 5
    · obtain ⟨I', hE, hR⟩ := rcDone_ev (w := w) (s := s) (r := o.Reply) hG h R
      refine ⟨_, _, pre3 ?_, ⟨g, (doneP g X w s o.Reply).2, L, I', hG, done_inv hG h, hR, rfl, rfl⟩⟩
      rw [show decide (o.What = 4 ∨ o.What = 5) = true from decide_eq_true hd]
      simp only [ca_step.j3]
      refine Ev.pos trivial ?_
      refine Ev.bind (Ev.all fun k => done_eq (w := w) (s := s) (r := o.Reply) hG h k) ?_
      refine Ev.bind hE ?_
      exact Ev.cast Ev.ret (by simp)
    · rw [show decide (o.What = 4 ∨ o.What = 5) = false from decide_eq_false hd] at pre3
      have same : Pair (mk g X) ⟨g, L, I⟩ := ⟨g, X, L, I, hG, h, R, rfl, rfl⟩
      refine ⟨_, _, pre3 ?_, same⟩
      simp only [ca_step.j3]
      refine Ev.neg (by simp) ?_
      by_cases h6 : o.What = 6
      · refine Ev.pos h6 ?_
        refine Ev.bind (Ev.all fun k => caBusy_eq k) ?_
        refine Ev.bind (rcBusy_ev hG h R) ?_
        exact Ev.cast Ev.ret (by simp)
      · refine Ev.neg h6 ?_
        by_cases h7 : o.What = 7
        · refine Ev.pos h7 ?_
          refine Ev.bind (Ev.all fun k => water_eq k) ?_
          refine Ev.bind (rcWater_ev hG h R) ?_
          exact Ev.cast Ev.ret (by simp)
        · refine Ev.neg h7 ?_
          have hl : (L.length : Int) = X.length := by rw [R.l]; simp
          refine Ev.bind (r := (X.length : Int)) (Ev.all fun k => rfl) ?_
          refine Ev.bind (r := (L.length : Int)) (Ev.all fun k => rfl) ?_
          refine Ev.pos hl.symm ?_
          refine Ev.bind (r := eSum X) (Ev.all fun k => rfl) ?_
          refine Ev.bind (r := (I.length : Int)) (Ev.all fun k => rfl) ?_
          refine Ev.pos (R.len h.nd) ?_
          refine Ev.bind (r := bSum g.Reserve X) (Ev.all fun k => rfl) ?_
          refine Ev.bind (rcBytes_ev hG h R) ?_
          exact Ev.cast Ev.ret (by simp)
end Go.Proofs.Ytpdpfiaediadgaa
