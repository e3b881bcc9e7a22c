/- LexParts answers true. -/
import Derived.Test.YtpdpfiaediadgaaDoorLexW
set_option linter.unusedVariables false
namespace Go.Proofs.YtpdpfiaediadgaaDoor
open Go Go.Eng
/-- A scan goes on from one place to another. -/
def Sc (s : List UInt8) (a : Nat) (acc : List Token) (b : Nat) (acc' : List Token) : Prop := ∀ d, s.length < a + d → ∃ d', s.length < b + d' ∧ scanG d s a acc = scanG d' s b acc'
theorem Sc.refl (s : List UInt8) (a : Nat) (acc : List Token) : Sc s a acc a acc := fun d h => ⟨d, h, rfl⟩
theorem Sc.trans {s : List UInt8} {a b c : Nat} {x y z : List Token} (h : Sc s a x b y) (k : Sc s b y c z) : Sc s a x c z := fun d hd => by
  obtain ⟨d', h1, h2⟩ := h d hd
  obtain ⟨d'', k1, k2⟩ := k d' h1
  exact ⟨d'', k1, h2.trans k2⟩
theorem drop_lt {s c r : List UInt8} {a : Nat} (h : s.drop a = c ++ r) (hc : c ≠ []) : a < s.length := by
  rcases Nat.lt_or_ge a s.length with hl | hl
  · exact hl
  · rw [List.drop_eq_nil_of_le hl] at h
    exact absurd (List.append_eq_nil_iff.1 h.symm).1 hc
theorem Sc.skip {s c r : List UInt8} {a : Nat} (acc : List Token) (h : s.drop a = c ++ r) (hc : Ck c) : Sc s a acc (a + c.length) acc := fun d hd => by
  have hl := drop_lt h hc.1
  have h1 : 1 ≤ c.length := by have := List.length_pos_iff.2 hc.1; omega
  obtain ⟨d, rfl⟩ : ∃ e, d = e + 1 := ⟨d - 1, by omega⟩
  refine ⟨d, by omega, ?_⟩
  rw [scanG, if_pos hl, h, hc.2 r]
theorem Sc.tok {s x r : List UInt8} {a : Nat} (acc : List Token) {t : Token} (h : s.drop a = x ++ r) (hx : x ≠ []) (hn : nextS (x ++ r) = .tok t x.length) : Sc s a acc (a + x.length) (acc ++ [t.put a]) := fun d hd => by
  have hl := drop_lt h hx
  have h1 : 1 ≤ x.length := by have := List.length_pos_iff.2 hx; omega
  obtain ⟨d, rfl⟩ : ∃ e, d = e + 1 := ⟨d - 1, by omega⟩
  refine ⟨d, by omega, ?_⟩
  rw [scanG, if_pos hl, h, hn]
theorem drop_more {s c r : List UInt8} {a : Nat} (h : s.drop a = c ++ r) : s.drop (a + c.length) = r := by rw [← List.drop_drop, h, List.drop_left]
theorem Sc.skips {s : List UInt8} (acc : List Token) : ∀ (cs : List (List UInt8)) {a : Nat} {r : List UInt8}, (∀ c ∈ cs, Ck c) → s.drop a = cs.flatten ++ r → Sc s a acc (a + cs.flatten.length) acc := by
  intro cs
  induction cs with
  | nil => intro a r _ _; exact Sc.refl _ _ _
  | cons c cs ih =>
    intro a r hc h
    rw [List.flatten_cons, List.append_assoc] at h
    have h1 := Sc.skip acc h (hc c List.mem_cons_self)
    have h2 := ih (fun x hx => hc x (List.mem_cons_of_mem _ hx)) (drop_more h)
    rw [List.flatten_cons, List.length_append, ← Nat.add_assoc]
    exact h1.trans h2
def wt : List Piece → Nat
  | [] => 0
  | p :: l => 40 + 20 * p.Gap.length + wt l
theorem wt_len : ∀ l : List Piece, 40 * l.length ≤ wt l
  | [] => Nat.le_refl _
  | p :: l => by have := wt_len l; rw [wt, List.length_cons]; omega
theorem long_l (a0 : List Piece) : ∀ (d j x : Nat), a0.length - j = d → j ≤ a0.length → j ≤ x → x ≤ 51539607552 → ∃ b, Ev (fun k => lw_long.l1 k a0 (x : Int) (j : Int)) b ∧ (b = false → x + wt (a0.drop j) ≤ 2147483647) := by
  intro d
  induction d with
  | zero =>
    intro j x hd hj hjx hx
    refine ⟨decide ((2147483647 : Int) < (x : Int)), ?_, fun h => ?_⟩
    · refine Ev.step (g := fun k => lw_long.l1 (k + 1) a0 (x : Int) (j : Int)) ?_ (fun _ => rfl)
      simp only [lw_long.l1]
      refine Ev.neg (by omega) ?_
      refine Ev.step (g := fun k => lw_long.j1 (k + 1) a0 (x : Int) (j : Int) false) ?_ (fun _ => rfl)
      simp only [lw_long.j1]
      exact Ev.neg (by simp) Ev.ret
    · rw [List.drop_eq_nil_of_le (by omega), wt]
      have := of_decide_eq_false h
      omega
  | succ d ih =>
    intro j x hd hj hjx hx
    have hlt : j < a0.length := by omega
    by_cases hm : (x : Int) ≤ 2147483647
    · have hmin : min (a0[j].Gap.length : Int) 2147483647 = ((min a0[j].Gap.length 2147483647 : Nat) : Int) := by omega
      obtain ⟨b, g1, g2⟩ := ih (j + 1) (x + 40 + 20 * min a0[j].Gap.length 2147483647) (by omega) (by omega) (by omega) (by omega)
      refine ⟨b, ?_, fun h => ?_⟩
      · refine Ev.step (g := fun k => lw_long.l1 (k + 1) a0 (x : Int) (j : Int)) ?_ (fun _ => rfl)
        simp only [lw_long.l1]
        refine Ev.pos (by omega) ?_
        refine Ev.step (g := fun k => lw_long.j1 (k + 1) a0 (x : Int) (j : Int) (decide ((x : Int) ≤ 2147483647))) ?_ (fun _ => rfl)
        simp only [lw_long.j1]
        refine Ev.pos (decide_eq_true hm) ?_
        refine Ev.bindc (idx_at rfl hlt) ?_
        rw [hmin, w64_succ (by omega), w64_of (n := (x : Int) + 40) (by omega) (by omega), w64_of (n := 20 * ((min a0[j].Gap.length 2147483647 : Nat) : Int)) (by omega) (by omega), w64_of (by omega) (by omega)]
        have e : (x : Int) + 40 + 20 * ((min a0[j].Gap.length 2147483647 : Nat) : Int) = ((x + 40 + 20 * min a0[j].Gap.length 2147483647 : Nat) : Int) := by omega
        rw [e]
        exact g1
      · have := g2 h
        rw [List.drop_eq_getElem_cons hlt, wt]
        omega
    · refine ⟨true, ?_, fun h => by cases h⟩
      refine Ev.step (g := fun k => lw_long.l1 (k + 1) a0 (x : Int) (j : Int)) ?_ (fun _ => rfl)
      simp only [lw_long.l1]
      refine Ev.pos (by omega) ?_
      refine Ev.step (g := fun k => lw_long.j1 (k + 1) a0 (x : Int) (j : Int) (decide ((x : Int) ≤ 2147483647))) ?_ (fun _ => rfl)
      simp only [lw_long.j1]
      refine Ev.neg (by simpa using hm) ?_
      exact Ev.ret.cast (decide_eq_true (by omega))
theorem long_ (a0 : List Piece) (a1 : List Int) : ∃ b, Ev (fun k => lw_long k a0 a1) b ∧ (b = false → 20 * a1.length + wt a0 ≤ 2147483647) := by
  unfold lw_long
  have hmin : min (a1.length : Int) 2147483647 = ((min a1.length 2147483647 : Nat) : Int) := by omega
  obtain ⟨b, g1, g2⟩ := long_l a0 a0.length 0 (20 * min a1.length 2147483647) rfl (by omega) (by omega) (by omega)
  refine ⟨b, ?_, fun h => by have := g2 h; rw [List.drop_zero] at this; omega⟩
  rw [hmin, w64_of (by omega) (by omega)]
  exact g1
theorem parts_l (a0 : List Piece) (a1 : List Int) (hN : ∀ p ∈ a0, -9223372036854775808 ≤ p.N ∧ p.N ≤ 9223372036854775807) :
    ∀ (d j : Nat) (s : List UInt8) (l : List Token) (last : Int), a0.length - j = d → j ≤ a0.length → s.length + wt (a0.drop j) ≤ 2147483647 → l.length + (a0.length - j) ≤ 2147483647 → a0.length ≤ 2147483647 →
    ∃ (x : List UInt8) (tk : List Token), (∀ r, Ev (fun k => law_Parts.j1 k a1 true (s ++ x) (l ++ tk)) r → Ev (fun k => law_Parts.l1 k a0 a1 true s l last (j : Int)) r) ∧
      x.length ≤ wt (a0.drop j) ∧ tk.length ≤ d ∧ (last ≠ 4 → ∀ q, runLen q = 0 → runLen (x ++ q) = 0) ∧
      (∀ f q acc, f.drop s.length = x ++ q → runLen q = 0 → Sc f s.length acc (s.length + x.length) (acc ++ tk)) := by
  intro d
  induction d with
  | zero =>
    intro j s l last hd hj hs hl hlen
    refine ⟨[], [], fun r h => ?_, Nat.zero_le _, Nat.le_refl _, fun _ q hq => hq, fun f q acc _ _ => ?_⟩
    · refine Ev.step (g := fun k => law_Parts.l1 (k + 1) a0 a1 true s l last (j : Int)) ?_ (fun _ => rfl)
      simp only [law_Parts.l1]
      refine Ev.neg (by omega) ?_
      rw [List.append_nil, List.append_nil] at h
      exact h
    · rw [List.append_nil]; exact Sc.refl _ _ _
  | succ d ih =>
    intro j s l last hd hj hs hl hlen
    have hlt : j < a0.length := by omega
    have hdr : a0.drop j = a0[j] :: a0.drop (j + 1) := List.drop_eq_getElem_cons hlt
    rw [hdr, wt] at hs ⊢
    obtain ⟨n0, n1⟩ := hN a0[j] (List.getElem_mem hlt)
    obtain ⟨t, tx, ht, hok⟩ := token_ a0[j] n0 n1
    obtain ⟨cs, hg, hcs, hgl⟩ := gap_ a0[j].Gap (by omega)
    have hok1 := hok.len
    -- with this gap
    have step : ∀ sp : List UInt8, sp.length ≤ 1 + 16 * a0[j].Gap.length → (∃ cs' : List (List UInt8), sp = cs'.flatten ∧ ∀ c ∈ cs', Ck c) → (last ≠ 4 → t.Kind = 4 ∨ sp = 32 :: cs.flatten) →
        (∀ {r : Bool}, Ev (fun k => law_Parts.j2 k a0 a1 true s l (j : Int) (t, tx) sp) r → Ev (fun k => law_Parts.l1 k a0 a1 true s l last (j : Int)) r) →
        ∃ (x : List UInt8) (tk : List Token), (∀ r, Ev (fun k => law_Parts.j1 k a1 true (s ++ x) (l ++ tk)) r → Ev (fun k => law_Parts.l1 k a0 a1 true s l last (j : Int)) r) ∧
          x.length ≤ 40 + 20 * a0[j].Gap.length + wt (a0.drop (j + 1)) ∧ tk.length ≤ d + 1 ∧ (last ≠ 4 → ∀ q, runLen q = 0 → runLen (x ++ q) = 0) ∧
          (∀ f q acc, f.drop s.length = x ++ q → runLen q = 0 → Sc f s.length acc (s.length + x.length) (acc ++ tk)) := by
      intro sp hsp hck hsep hgo
      obtain ⟨cs', rfl, hck⟩ := hck
      obtain ⟨x, tk, g1, g2, g3, g4, g5⟩ := ih (j + 1) (s ++ cs'.flatten ++ tx) (l ++ [t.put (s ++ cs'.flatten).length]) t.Kind (by omega) (by omega) (by simp only [List.length_append] at *; omega) (by rw [List.length_append, List.length_singleton]; omega) hlen
      refine ⟨cs'.flatten ++ tx ++ x, t.put (s ++ cs'.flatten).length :: tk, fun r h => ?_, by simp only [List.length_append]; omega, by rw [List.length_cons]; omega, fun hla q hq => ?_, fun f q acc hf hq => ?_⟩
      · refine hgo ?_
        refine Ev.step (g := fun k => law_Parts.j2 (k + 1) a0 a1 true s l (j : Int) (t, tx) cs'.flatten) ?_ (fun _ => rfl)
        simp only [law_Parts.j2]
        refine Ev.bindc (cat_at (by omega)) ?_
        refine Ev.bindc (cat_at (by simp only [List.length_append]; omega)) ?_
        refine Ev.bindc (cat_at (by rw [List.length_singleton]; omega)) ?_
        rw [w64_succ (by omega)]
        refine g1 r ?_
        rw [List.append_assoc l, List.singleton_append]
        simp only [List.append_assoc] at h ⊢
        exact h
      · rcases hsep hla with h4 | h32
        · rcases List.eq_nil_or_concat cs'.flatten with hnil | _
          · rw [hnil, List.nil_append, List.append_assoc]; exact hok.sign h4 _
          · cases hfl : cs'.flatten with
            | nil => rw [List.nil_append, List.append_assoc]; exact hok.sign h4 _
            | cons c0 r0 =>
              have hc0 : inRun c0 = false := by
                cases cs' with
                | nil => cases hfl
                | cons c1 cs1 =>
                  obtain ⟨e1, e2⟩ := hck c1 List.mem_cons_self
                  cases c1 with
                  | nil => exact absurd rfl e1
                  | cons c2 r2 =>
                    rw [List.flatten_cons, List.cons_append] at hfl
                    injection hfl with e3 _
                    subst e3
                    by_cases hr : inRun c2 = true
                    · exfalso
                      have e4 := e2 []
                      rw [List.append_nil, nextS_cons] at e4
                      have hrb : ¬ isBlank c2 = true := by
                        intro hb; simp [inRun, isLetter, isDigit, isBlank] at hr hb; omega
                      have hr47 : c2 ≠ 47 := by rintro rfl; revert hr; decide
                      rw [if_neg hrb, if_neg (take2_ne hr47 _)] at e4
                      split at e4
                      · split at e4
                        · cases e4
                        · split at e4 <;> cases e4
                      · by_cases c4 : (isDigit c2 || minusDigit c2 r2) = true
                        · rw [if_pos c4] at e4
                          by_cases c5 : (numS (decide (c2 = 45)) (if c2 = 45 then r2.take (runLen r2) else (c2 :: r2).take (1 + runLen r2))).2 = true
                          · rw [if_pos c5] at e4; cases e4
                          · rw [if_neg c5] at e4; cases e4
                        · rw [if_neg c4] at e4
                          split at e4 <;> cases e4
                    · simpa using hr
              rw [List.cons_append, List.cons_append, List.cons_append, runLen_cons, hc0]; rfl
        · rw [h32, List.cons_append, List.cons_append, List.cons_append]; exact blank_run _
      · have f1 : f.drop s.length = cs'.flatten ++ (tx ++ (x ++ q)) := by rw [hf]; simp only [List.append_assoc]
        have k1 := Sc.skips acc cs' hck f1
        have f2 := drop_more f1
        have hr : t.Kind = 4 ∨ runLen (x ++ q) = 0 := by
          by_cases h : t.Kind = 4
          · exact .inl h
          · exact .inr (g4 h q hq)
        have k2 := Sc.tok acc f2 hok.ne (hok.took _ hr)
        have f3 := drop_more f2
        have el : (s ++ cs'.flatten ++ tx).length = s.length + cs'.flatten.length + tx.length := by simp only [List.length_append]
        have k3 := g5 f q (acc ++ [t.put (s ++ cs'.flatten).length]) (by rw [el]; exact f3) hq
        rw [el] at k3
        have e2 : (s ++ cs'.flatten).length = s.length + cs'.flatten.length := List.length_append
        rw [e2] at k3 ⊢
        have k := (k1.trans k2).trans k3
        rw [List.append_assoc, List.singleton_append] at k
        have e3 : s.length + cs'.flatten.length + tx.length + x.length = s.length + (cs'.flatten ++ tx ++ x).length := by simp only [List.length_append]; omega
        rw [e3] at k
        exact k
    have go : ∀ {sp : List UInt8} {r : Bool}, (if (a0[j].Gap.length : Int) = 0 ∧ (last = 4 ∨ t.Kind = 4) then sp = [] else sp = 32 :: cs.flatten) → Ev (fun k => law_Parts.j2 k a0 a1 true s l (j : Int) (t, tx) sp) r → Ev (fun k => law_Parts.l1 k a0 a1 true s l last (j : Int)) r := by
      intro sp r hsp h
      refine Ev.step (g := fun k => law_Parts.l1 (k + 1) a0 a1 true s l last (j : Int)) ?_ (fun _ => rfl)
      simp only [law_Parts.l1]
      refine Ev.pos (by omega) ?_
      refine Ev.bindc (idx_at rfl hlt) ?_
      refine Ev.bind ht ?_
      refine Ev.bindc (idx_at rfl hlt) ?_
      refine Ev.bind hg ?_
      refine Ev.bindc (idx_at rfl hlt) ?_
      by_cases h1 : (a0[j].Gap.length : Int) = 0
      · refine Ev.pos h1 ?_
        by_cases h2 : last = 4
        · rw [if_pos ⟨h1, .inl h2⟩] at hsp
          subst hsp
          exact Ev.pos h2 h
        · refine Ev.neg h2 ?_
          by_cases h3 : t.Kind = 4
          · rw [if_pos ⟨h1, .inr h3⟩] at hsp
            subst hsp
            exact Ev.pos h3 h
          · rw [if_neg (fun hh => hh.2.elim h2 h3)] at hsp
            subst hsp
            exact Ev.neg h3 h
      · rw [if_neg (fun hh => h1 hh.1)] at hsp
        subst hsp
        exact Ev.neg h1 h
    by_cases hc : (a0[j].Gap.length : Int) = 0 ∧ (last = 4 ∨ t.Kind = 4)
    · exact step [] (by simp) ⟨[], rfl, by simp⟩ (fun hla => .inl (hc.2.resolve_left hla)) (go (by rw [if_pos hc]))
    · exact step (32 :: cs.flatten) (by rw [List.length_cons]; omega) ⟨[32] :: cs, rfl, hcs⟩ (fun _ => .inr rfl) (go (by rw [if_neg hc]))
theorem parts_j3 (s : List UInt8) (l : List Token) (hl : l.length ≤ 2147483647) (h : s.length ≤ 16000 → scanS s = (l ++ [endT s], 0, 0)) : Ev (fun k => law_Parts.j3 k true l s) true := by
  unfold law_Parts.j3
  refine Ev.bindc (cat_at (by rw [List.length_singleton]; omega)) ?_
  refine Ev.bind (lx_Scan_ s) ?_
  by_cases h16 : 16000 < s.length
  · have e : scanS s = ([], 34, 16000) := if_pos h16
    rw [e]
    refine Ev.pos (by omega) (Ev.pos rfl (Ev.pos rfl (Ev.pos rfl ?_)))
    exact Ev.ret
  · rw [h (by omega)]
    have hln : (l ++ [endT s]).length ≤ 16001 := by
      rcases scan_or s (s.length + 1) 0 [] (by omega) (by omega) (Nat.le_refl _) with ⟨L, hL, e⟩ | ⟨b, e, _, _, _, e'⟩
      · have e2 := h (by omega)
        unfold scanS at e2
        rw [if_neg h16, e] at e2
        have := congrArg (fun z => z.1.length) e2
        simp only [List.length_append, List.length_singleton] at this ⊢
        omega
      · have e2 := h (by omega)
        unfold scanS at e2
        rw [if_neg h16, e'] at e2
        have := congrArg (fun z => z.1.length) e2
        simp at this
    refine Ev.neg (by omega) ?_
    refine Ev.bind (lw_same_ _ hln) ?_
    refine Ev.pos rfl (Ev.pos rfl (Ev.pos rfl ?_))
    exact Ev.ret
theorem parts_true (a0 : List Piece) (a1 : List Int) (hN : ∀ p ∈ a0, -9223372036854775808 ≤ p.N ∧ p.N ≤ 9223372036854775807) : ∃ k, law_Parts k a0 a1 = some true := by
  refine Ev.get ?_
  unfold law_Parts
  obtain ⟨b, hb, hw⟩ := long_ a0 a1
  refine Ev.bind hb ?_
  cases b with
  | true => exact Ev.pos rfl Ev.ret
  | false =>
    refine Ev.neg (by simp) ?_
    refine Ev.bind known_ ?_
    have hw := hw rfl
    have hwl := wt_len a0
    obtain ⟨x, tk, g1, g2, g3, _, g5⟩ := parts_l a0 a1 hN a0.length 0 [] [] 4 rfl (by omega) (by rw [List.drop_zero]; show 0 + wt a0 ≤ _; omega) (by show 0 + (a0.length - 0) ≤ _; omega) (by omega)
    refine g1 true ?_
    rw [List.nil_append, List.nil_append]
    rw [List.drop_zero] at g2
    have ends : ∀ f q, f = x ++ q → runLen q = 0 → (Sc f x.length tk f.length tk) → f.length ≤ 16000 → scanS f = (tk ++ [endT f], 0, 0) := by
      intro f q hf hq hr hlen
      have k1 := g5 f q [] (by rw [List.length_nil, List.drop_zero]; exact hf) hq
      rw [List.length_nil, Nat.zero_add, List.nil_append] at k1
      obtain ⟨d', e1, e2⟩ := (k1.trans hr) (f.length + 1) (by omega)
      unfold scanS
      rw [if_neg (by omega), e2]
      obtain ⟨d', rfl⟩ : ∃ e, d' = e + 1 := ⟨d' - 1, by omega⟩
      rw [scanG, if_neg (by omega)]; rfl
    unfold law_Parts.j1
    by_cases h : 0 < a1.length
    · refine Ev.pos (by omega) ?_
      obtain ⟨cs, hg, hcs, hgl⟩ := gap_ a1 (by omega)
      refine Ev.bind hg ?_
      refine Ev.bindc (cat_at (by rw [List.length_cons]; omega)) ?_
      refine parts_j3 _ _ (by omega) (ends _ (32 :: cs.flatten) rfl (blank_run _) ?_)
      have k := Sc.skips (s := x ++ 32 :: cs.flatten) tk ([32] :: cs) (a := x.length) (r := []) hcs (by rw [List.drop_left, List.append_nil]; rfl)
      have e : x.length + (([32] : List UInt8) :: cs).flatten.length = (x ++ 32 :: cs.flatten).length := by rw [List.length_append]; rfl
      rw [e] at k
      exact k
    · refine Ev.neg (by omega) ?_
      exact parts_j3 _ _ (by omega) (ends x [] (by simp) rfl (Sc.refl _ _ _))
end Go.Proofs.YtpdpfiaediadgaaDoor
