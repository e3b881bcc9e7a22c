/- CachePlays: the reference's Ask. -/
import Derived.Test.YtpdpfiaediadgaaCW
set_option linter.unusedVariables false
set_option linter.unusedSimpArgs false
namespace Go.Proofs.Ytpdpfiaediadgaa
open Go Go.Eng
variable {g : CacheConfig} {X : Clis} {kn : Known} {w : WhoC} {s wa : Int} {L : List Known123} {I : List Item}
theorem Rel.few (hG : GOk g) (h : XInv g X) (R : Rel X L I) : I.length ≤ 4096 ∧ L.length ≤ 64 := by
  have h1 := R.len h.nd
  have h2 := h.eb' hG
  have h3 := h.len
  have h4 := hG.c2
  have h5 : L.length = X.length := by rw [R.l]; simp
  omega
theorem Rel.szI (hG : GOk g) (h : XInv g X) (R : Rel X L I) : ∀ i ∈ I, 0 ≤ szI g.Reserve i ∧ szI g.Reserve i ≤ 1100 := fun i hi => by
  obtain ⟨x, hx, e⟩ := R.own i hi
  have hm : toE i ∈ x.2.calls := by
    rw [R.calls x hx]
    exact List.mem_map.2 ⟨i, List.mem_filter.2 ⟨hi, by simp [e]⟩, rfl⟩
  exact szE_bnd hG ((h.who x hx).2.ent _ hm).2
theorem rcBytes_ev (hG : GOk g) (h : XInv g X) (R : Rel X L I) : Ev (fun k => rc_Bytes k ⟨g, L, I⟩) (bSum g.Reserve X) := by
  have hf := R.few hG h
  rw [R.bytes h.nd]
  exact bytes_ev (L := L) (I := I) (C := g) (by unfold lim; omega) (R.szI hG h) (by omega) I [] rfl
theorem rcClient_ev (hG : GOk g) (h : XInv g X) (R : Rel X L I) : Ev (fun k => rc_client k ⟨g, L, I⟩ w) (at1 (fun x => decide (x.Who = w)) L) := client_ev (I := I) (C := g) (by have := R.few hG h; unfold lim; omega) L [] rfl (by simp)
theorem rcItem_ev (hG : GOk g) (h : XInv g X) (R : Rel X L I) : Ev (fun k => rc_item k ⟨g, L, I⟩ w s) (at1 (fun x => decide (x.Who = w ∧ x.Sequence = s)) I) := item_ev (L := L) (C := g) (by have := R.few hG h; unfold lim; omega) I [] rfl (by simp)
theorem rcOf_ev (hG : GOk g) (h : XInv g X) (R : Rel X L I) : Ev (fun k => rc_of k ⟨g, L, I⟩ w) ((I.filter fun i => decide (i.Who = w)).length : Int) := of_ev (L := L) (C := g) (by have := R.few hG h; unfold lim; omega) I [] rfl
def askK (g : CacheConfig) (X : Clis) (w : WhoC) (s : Int) (kn : Known) : Int × List UInt8 × Clis :=
  if s < kn.water then (4, [], X) else
  match mget kn.calls s with
  | some e => if e.done = true then (3, e.reply, X) else (2, [], X)
  | none => if g.Bytes < bSum g.Reserve X + g.Reserve ∨ g.Entries ≤ (kn.calls.length : Int) then (5, [], X) else (1, [], mput X w ⟨kn.water, mput kn.calls s ⟨false, []⟩⟩)
theorem askP_known (h : XInv g X) (hg : goodWho w ∧ goodWord s ∧ goodWord wa) (hk : mget X w = some kn) : askP g X w s wa = askK g (mput X w (riseK kn wa)) w s (riseK kn wa) := by
  unfold askP askK
  rw [if_pos hg, hk]
  simp only [mput_mput h.nd]
  rfl
theorem j2_known (hG : GOk g) (h : XInv g X) (R : Rel X L I) {A B : Clis} (hX : X = A ++ (w, kn) :: B) (hA : ∀ x ∈ A, x.1 ≠ w) (hB : ∀ x ∈ B, x.1 ≠ w) :
    ∃ L' I', Ev (fun k => rc_Ask.j2 k w s wa (A.length : Int) g.Clients g.Entries g.Bytes g.Reserve L I) ((askK g X w s kn).1, (askK g X w s kn).2.1, ⟨g, L', I'⟩) ∧ Rel (askK g X w s kn).2.2 L' I' := by
  have hk : mget X w = some kn := mget_of_mem h.nd (by rw [hX]; simp)
  have hcalls : kn.calls = callsOf I w := R.calls (w, kn) (by rw [hX]; simp)
  have hL : L = A.map (fun x => (⟨x.1, x.2.water⟩ : Known123)) ++ ⟨w, kn.water⟩ :: B.map (fun x => ⟨x.1, x.2.water⟩) := by rw [R.l, hX]; simp
  have hidx : idx L (A.length : Int) = some ⟨w, kn.water⟩ := by
    rw [hL, idx_at (j := A.length) rfl (by simp)]
    simp
  have hset : L.set A.length ⟨w, kn.water⟩ = L := by
    rw [hL]
    rw [show A.length = (A.map fun x : WhoC × Known => (⟨x.1, x.2.water⟩ : Known123)).length by simp]
    exact set_same
  have hf := R.few hG h
  have hbb := h.bb hG
  have hr := hG.r1; have hr2 := hG.r2
  have hK := (h.get hk).2
  have pre : ∀ {r : Int × List UInt8 × Cache104}, Ev (fun k => rc_Ask.j3 k w s (A.length : Int) g.Clients g.Entries g.Bytes g.Reserve L I kn.water) r → Ev (fun k => rc_Ask.j2 k w s wa (A.length : Int) g.Clients g.Entries g.Bytes g.Reserve L I) r := fun hh => by
    simp only [rc_Ask.j2]
    refine Ev.pos (by omega) ?_
    exact Ev.bindc hidx hh
  unfold askK
  by_cases hs : s < kn.water
  · rw [if_pos hs]
    refine ⟨L, I, pre ?_, R⟩
    simp only [rc_Ask.j3]
    exact Ev.pos hs Ev.ret
  · rw [if_neg hs]
    rw [hcalls]
    rcases item_cases I w s with ⟨hg, hat, hno⟩ | ⟨Ai, i, Bi, hI, i1, i2, i3, hg, hat, hix⟩
    · rw [hg]
      have pre3 : ∀ {r : Int × List UInt8 × Cache104}, Ev (fun k => rc_Ask.j4 k w s (A.length : Int) g.Clients g.Entries g.Bytes g.Reserve L I kn.water (-1) false) r → Ev (fun k => rc_Ask.j3 k w s (A.length : Int) g.Clients g.Entries g.Bytes g.Reserve L I kn.water) r := fun hh => by
        simp only [rc_Ask.j3]
        refine Ev.neg hs ?_
        refine Ev.bind (r := -1) (hat ▸ rcItem_ev hG h R) ?_
        exact Ev.neg (by omega) hh
      have hlen : ((callsOf I w).length : Int) = ((I.filter fun i => decide (i.Who = w)).length : Int) := by unfold callsOf; simp
      have hle := hK.len
      rw [hcalls] at hle
      have pre4 : ∀ {r : Int × List UInt8 × Cache104}, Ev (fun k => if ((callsOf I w).length : Int) = g.Entries then some (5, ([] : List UInt8), (⟨g, L, I⟩ : Cache104)) else Option.bind (rc_Bytes k ⟨g, L, I⟩) fun t => if g.Bytes < w64 (t + g.Reserve) then some (5, ([] : List UInt8), (⟨g, L, I⟩ : Cache104)) else rc_Ask.j5 k w s (A.length : Int) g.Clients g.Entries g.Bytes g.Reserve L I kn.water) r → Ev (fun k => rc_Ask.j4 k w s (A.length : Int) g.Clients g.Entries g.Bytes g.Reserve L I kn.water (-1) false) r := fun hh => by
        simp only [rc_Ask.j4]
        refine Ev.neg (by simp) ?_
        refine Ev.neg (by omega) ?_
        refine Ev.neg (by omega) ?_
        refine Ev.bind (r := ((callsOf I w).length : Int)) (hlen ▸ rcOf_ev hG h R) ?_
        exact hh
      simp only
      by_cases he : ((callsOf I w).length : Int) = g.Entries
      · rw [if_pos (.inr (by omega))]
        exact ⟨L, I, pre (pre3 (pre4 (Ev.pos he Ev.ret))), R⟩
      · by_cases hb : g.Bytes < bSum g.Reserve X + g.Reserve
        · rw [if_pos (.inl hb)]
          refine ⟨L, I, pre (pre3 (pre4 (Ev.neg he ?_))), R⟩
          refine Ev.bind (r := bSum g.Reserve X) (rcBytes_ev hG h R) ?_
          rw [w64_of (by omega) (by omega)]
          exact Ev.pos hb Ev.ret
        · rw [if_neg (by omega)]
          refine ⟨L, I ++ [⟨w, s, false, []⟩], pre (pre3 (pre4 (Ev.neg he ?_))), ?_⟩
          · refine Ev.bind (r := bSum g.Reserve X) (rcBytes_ev hG h R) ?_
            rw [w64_of (by omega) (by omega)]
            refine Ev.neg hb ?_
            simp only [rc_Ask.j5]
            refine Ev.neg (by omega) ?_
            simp only [rc_Ask.j6]
            exact Ev.bindc (catN_one (by omega)) Ev.ret
          · have := R.put (kn' := ⟨kn.water, mput (callsOf I w) s ⟨false, []⟩⟩) (I' := I ++ [⟨w, s, false, []⟩]) h.nd hX hA hB ?_ ?_ ?_
            · simp only at this
              rwa [hset] at this
            · simp only
              rw [mput_app hg, callsOf_app, if_pos rfl]
              rfl
            · intro w' hw'
              rw [callsOf_app, if_neg (fun e => hw' e.symm)]
            · intro i hi
              rcases List.mem_append.1 hi with hi | hi
              · exact .inr hi
              · rw [List.mem_singleton] at hi
                exact .inl (by rw [hi])
    · rw [hg]
      have pre3 : ∀ {r : Int × List UInt8 × Cache104}, Ev (fun k => rc_Ask.j4 k w s (A.length : Int) g.Clients g.Entries g.Bytes g.Reserve L I kn.water (Ai.length : Int) i.Answered) r → Ev (fun k => rc_Ask.j3 k w s (A.length : Int) g.Clients g.Entries g.Bytes g.Reserve L I kn.water) r := fun hh => by
        simp only [rc_Ask.j3]
        refine Ev.neg hs ?_
        refine Ev.bind (r := (Ai.length : Int)) (hat ▸ rcItem_ev hG h R) ?_
        refine Ev.pos (by omega) ?_
        exact Ev.bindc hix hh
      simp only
      by_cases hd : i.Answered = true
      · rw [if_pos hd]
        refine ⟨L, I, pre (pre3 ?_), R⟩
        simp only [rc_Ask.j4]
        refine Ev.pos hd ?_
        exact Ev.bindc hix Ev.ret
      · rw [if_neg hd]
        refine ⟨L, I, pre (pre3 ?_), R⟩
        simp only [rc_Ask.j4]
        refine Ev.neg hd ?_
        exact Ev.pos (by omega) Ev.ret
/-- Ask, of both. -/
theorem rcAsk_ev (hG : GOk g) (h : XInv g X) (R : Rel X L I) :
    ∃ L' I', Ev (fun k => rc_Ask k ⟨g, L, I⟩ w s wa) ((askP g X w s wa).1, (askP g X w s wa).2.1, ⟨g, L', I'⟩) ∧ Rel (askP g X w s wa).2.2 L' I' := by
  by_cases hg : goodWho w ∧ goodWord s ∧ goodWord wa
  · have hg' := hg
    obtain ⟨⟨a1, a2, a3, a4⟩, ⟨b1, b2⟩, ⟨c1, c2⟩⟩ := hg'
    have pre : ∀ {r : Int × List UInt8 × Cache104}, Ev (fun k => rc_Ask.j1 k ⟨g, L, I⟩ w s wa false) r → Ev (fun k => rc_Ask k ⟨g, L, I⟩ w s wa) r := fun hh => by
      simp only [rc_Ask]
      refine Ev.neg (by omega) (Ev.neg (by omega) (Ev.neg (by omega) (Ev.neg (by omega) (Ev.neg (by omega) (Ev.neg (by omega) (Ev.neg (by omega) ?_))))))
      rw [show decide (4294967295 < wa) = false from decide_eq_false (by omega)]
      exact hh
    have hf := R.few hG h
    rcases Option.eq_none_or_eq_some (mget X w) with hk | ⟨kn, hk⟩
    · obtain ⟨hat, hnil⟩ := R.no hk
      have hno : ∀ i ∈ I, ¬ (i.Who = w) := fun i hi e => by
        have : toE i ∈ callsOf I w := List.mem_map.2 ⟨i, List.mem_filter.2 ⟨hi, by simpa using e⟩, rfl⟩
        rw [hnil] at this
        cases this
      have hit : at1 (fun x : Item => decide (x.Who = w ∧ x.Sequence = s)) I = -1 := at1_none fun i hi => decide_eq_false fun e => hno i hi e.1
      have hof : ((I.filter fun i => decide (i.Who = w)).length : Int) = 0 := by
        rw [List.filter_eq_nil_iff.2 (fun i hi => by simpa using hno i hi)]
        rfl
      have hbb := h.bb hG
      have hr := hG.r1; have hr2 := hG.r2; have he1 := hG.e1
      have hlen := h.len
      have hLX : (L.length : Int) = X.length := by rw [R.l]; simp
      have pre2 : ∀ {r : Int × List UInt8 × Cache104}, Ev (fun k => rc_Ask.j3 k w s (-1) g.Clients g.Entries g.Bytes g.Reserve L I wa) r → Ev (fun k => rc_Ask k ⟨g, L, I⟩ w s wa) r := fun hh => pre (by
        simp only [rc_Ask.j1]
        refine Ev.neg (by simp) ?_
        refine Ev.bind (r := -1) (hat ▸ rcClient_ev hG h R) ?_
        refine Ev.neg (by omega) ?_
        simp only [rc_Ask.j2]
        exact Ev.neg (by omega) hh)
      have hP : askP g X w s wa = if s < wa then (4, [], X) else if g.Bytes < bSum g.Reserve X + g.Reserve ∨ g.Clients ≤ (X.length : Int) then (5, [], X) else (1, [], mput X w ⟨wa, [(s, ⟨false, []⟩)]⟩) := by
        unfold askP
        rw [if_pos hg, hk]
      rw [hP]
      by_cases hs : s < wa
      · rw [if_pos hs]
        refine ⟨L, I, pre2 ?_, R⟩
        simp only [rc_Ask.j3]
        exact Ev.pos hs Ev.ret
      · rw [if_neg hs]
        have pre4 : ∀ {r : Int × List UInt8 × Cache104}, Ev (fun k => if (L.length : Int) = g.Clients then some (5, ([] : List UInt8), (⟨g, L, I⟩ : Cache104)) else Option.bind (rc_of k ⟨g, L, I⟩ w) fun t => if t = g.Entries then some (5, ([] : List UInt8), (⟨g, L, I⟩ : Cache104)) else Option.bind (rc_Bytes k ⟨g, L, I⟩) fun t => if g.Bytes < w64 (t + g.Reserve) then some (5, ([] : List UInt8), (⟨g, L, I⟩ : Cache104)) else rc_Ask.j5 k w s (-1) g.Clients g.Entries g.Bytes g.Reserve L I wa) r → Ev (fun k => rc_Ask k ⟨g, L, I⟩ w s wa) r := fun hh => pre2 (by
          simp only [rc_Ask.j3]
          refine Ev.neg hs ?_
          refine Ev.bind (r := -1) (hit ▸ rcItem_ev hG h R) ?_
          refine Ev.neg (by omega) ?_
          simp only [rc_Ask.j4]
          refine Ev.neg (by simp) ?_
          refine Ev.neg (by omega) ?_
          refine Ev.pos (by omega) ?_
          exact hh)
        by_cases hc : (L.length : Int) = g.Clients
        · rw [if_pos (.inr (by omega))]
          exact ⟨L, I, pre4 (Ev.pos hc Ev.ret), R⟩
        · by_cases hb : g.Bytes < bSum g.Reserve X + g.Reserve
          · rw [if_pos (.inl hb)]
            refine ⟨L, I, pre4 (Ev.neg hc ?_), R⟩
            refine Ev.bind (r := 0) (hof ▸ rcOf_ev hG h R) ?_
            refine Ev.neg (by omega) ?_
            refine Ev.bind (r := bSum g.Reserve X) (rcBytes_ev hG h R) ?_
            rw [w64_of (by omega) (by omega)]
            exact Ev.pos hb Ev.ret
          · rw [if_neg (by omega)]
            refine ⟨L ++ [⟨w, wa⟩], I ++ [⟨w, s, false, []⟩], pre4 (Ev.neg hc ?_), ?_⟩
            · refine Ev.bind (r := 0) (hof ▸ rcOf_ev hG h R) ?_
              refine Ev.neg (by omega) ?_
              refine Ev.bind (r := bSum g.Reserve X) (rcBytes_ev hG h R) ?_
              rw [w64_of (by omega) (by omega)]
              refine Ev.neg hb ?_
              simp only [rc_Ask.j5]
              refine Ev.pos (by omega) ?_
              refine Ev.bindc (catN_one (by omega)) ?_
              simp only [rc_Ask.j6]
              exact Ev.bindc (catN_one (by omega)) Ev.ret
            · refine ⟨?_, fun x hx => ?_, fun i hi => ?_⟩
              · simp only [mput_none hk, List.map_append, List.map_cons, List.map_nil, ← R.l]
              · rcases mem_mput h.nd hx with rfl | ⟨hx, hne⟩
                · rw [callsOf_app, if_pos rfl, hnil]
                  rfl
                · rw [callsOf_app, if_neg (fun e => hne e.symm)]
                  exact R.calls x hx
              · rcases List.mem_append.1 hi with hi | hi
                · obtain ⟨x, hx, e⟩ := R.own i hi
                  obtain ⟨y, hy, e2⟩ := keys_mput (v := ⟨wa, [(s, ⟨false, []⟩)]⟩) (w := w) h.nd hx
                  exact ⟨y, hy, e2.trans e⟩
                · rw [List.mem_singleton] at hi
                  exact ⟨_, mget_mem (by rw [mget_mput h.nd, if_pos rfl]), by rw [hi]⟩
    · obtain ⟨A, B, hX, hA, hB, hat, hidx, hcalls⟩ := R.yes h.nd hk
      rw [askP_known h hg hk]
      have hR := h.rise (wa := wa) hG hk hg.2.2
      by_cases hr : kn.water < wa
      · have hrk : riseK kn wa = ⟨wa, keepM kn.calls wa⟩ := by unfold riseK; rw [if_pos hr]
        rw [hrk] at hR ⊢
        have hRel := R.put (kn' := ⟨wa, keepM kn.calls wa⟩) (I' := I.filter (keepI w wa)) h.nd hX hA hB (by rw [callsOf_keep, ← hcalls]) (fun w' hw' => callsOf_other hw') (fun i hi => .inr (List.mem_filter.1 hi).1)
        have hX' : mput X w ⟨wa, keepM kn.calls wa⟩ = A ++ (w, ⟨wa, keepM kn.calls wa⟩) :: B := by
          have hf : mfind X w = some A.length := mfind_at h.nd (by rw [hX]; simp) (by simp [hX])
          unfold mput
          rw [hf, hX]
          exact set_mid _ _ _ _
        obtain ⟨L', I', hE, hR'⟩ := j2_known (s := s) (wa := wa) hG hR hRel hX' hA hB
        refine ⟨L', I', pre ?_, hR'⟩
        simp only [rc_Ask.j1]
        refine Ev.neg (by simp) ?_
        refine Ev.bind (r := (A.length : Int)) (hat ▸ rcClient_ev hG h R) ?_
        refine Ev.pos (by omega) ?_
        refine Ev.bindc hidx ?_
        refine Ev.pos hr ?_
        have hlt : A.length < L.length := by rw [R.l, hX]; simp
        refine Ev.bind (r := ⟨g, L.set A.length ⟨w, wa⟩, I.filter (keepI w wa)⟩) ?_ hE
        simp only [rc_rises]
        refine Ev.bindc hidx ?_
        refine Ev.bindc (upd_at hlt) ?_
        exact rises_l1 (L := L) (C := g) (by unfold lim; omega) (kx := ⟨w, wa⟩) (by rw [idx_at (j := A.length) rfl (by simpa using hlt)]; simp) rfl I [] rfl
      · have hrk : riseK kn wa = kn := by unfold riseK; rw [if_neg hr]
        rw [hrk, mput_id hk h.nd]
        obtain ⟨L', I', hE, hR'⟩ := j2_known (s := s) (wa := wa) hG h R hX hA hB
        refine ⟨L', I', pre ?_, hR'⟩
        simp only [rc_Ask.j1]
        refine Ev.neg (by simp) ?_
        refine Ev.bind (r := (A.length : Int)) (hat ▸ rcClient_ev hG h R) ?_
        refine Ev.pos (by omega) ?_
        refine Ev.bindc hidx ?_
        refine Ev.neg hr ?_
        exact hE
  · have hP : askP g X w s wa = (4, [], X) := by unfold askP; rw [if_neg hg]
    rw [hP]
    refine ⟨L, I, ?_, R⟩
    have hj : Ev (fun k => rc_Ask.j1 k ⟨g, L, I⟩ w s wa true) (4, [], ⟨g, L, I⟩) := by
      simp only [rc_Ask.j1]
      exact Ev.pos trivial Ev.ret
    simp only [rc_Ask]
    by_cases x1 : w.Address < 1
    · exact Ev.pos x1 hj
    refine Ev.neg x1 ?_
    by_cases x2 : 16777215 < w.Address
    · exact Ev.pos x2 hj
    refine Ev.neg x2 ?_
    by_cases x3 : w.Instance < 1
    · exact Ev.pos x3 hj
    refine Ev.neg x3 ?_
    by_cases x4 : 4611686018427387904 < w.Instance
    · exact Ev.pos x4 hj
    refine Ev.neg x4 ?_
    by_cases x5 : s < 1
    · exact Ev.pos x5 hj
    refine Ev.neg x5 ?_
    by_cases x6 : 4294967295 < s
    · exact Ev.pos x6 hj
    refine Ev.neg x6 ?_
    by_cases x7 : wa < 1
    · exact Ev.pos x7 hj
    refine Ev.neg x7 ?_
    by_cases x8 : 4294967295 < wa
    · rw [show decide (4294967295 < wa) = true from decide_eq_true x8]
      exact hj
    · exact absurd ⟨⟨by omega, by omega, by omega, by omega⟩, ⟨by omega, by omega⟩, ⟨by omega, by omega⟩⟩ hg
end Go.Proofs.Ytpdpfiaediadgaa
