/- Lists that share blocks: what was said of a list stays, while its owner grows it. -/
import Derived.Test.YtpdpfiaediadgaaDoorEng
set_option linter.unusedVariables false
namespace Go.Eng
open Go
/-- A list as it was at some time: its place, its room, what it held. -/
structure Ent (α : Type) where
  A : Option Addr
  c : Nat
  L : List α
def Ent.v {α : Type} (x : Ent α) : Value := .slice x.A x.L.length x.c
def Ent.rp {α : Type} : Rp (Ent α) := .plain (fun x => [x.v]) 1 (fun _ => rfl) (fun _ => rfl)
section
variable {α : Type} (r : Rp α) (e : TypeId)
/-- It reads so wherever M's blocks stand. -/
def EntIn (M : Grp) (x : Ent α) : Prop := x.L.length ≤ x.c ∧ x.c ≤ maxLen ∧ ∃ xs, elemsO r x.L xs [] ∧ (0 < x.L.length → ∃ b off cur, x.A = some ⟨b, off, none⟩ ∧ (b, .cells cur e (0, 0)) ∈ M ∧ (cur.toList.drop off).take (x.L.length * r.sz) = xs)
/-- It is the longest of its block: it may grow where it is. -/
def TipIn (M : Grp) (all : List (Ent α)) (x : Ent α) : Prop := EntIn r e M x ∧ ((x.c = 0 ∧ x.L = []) ∨
  ∃ b off cur, x.A = some ⟨b, off, none⟩ ∧ (b, .cells cur e (0, 0)) ∈ M ∧ 0 < x.c ∧ off + x.c * r.sz ≤ cur.size ∧ ∀ y ∈ all, ∀ off', y.A = some ⟨b, off', none⟩ → y.L = [] ∨ (off' = off ∧ y.L.length ≤ x.L.length))
variable {r : Rp α} {e : TypeId} {M M' : Grp}
theorem EntIn.mono {x : Ent α} (h : EntIn r e M x) (hM : ∀ p ∈ M, p ∈ M') : EntIn r e M' x := by
  obtain ⟨h1, h2, xs, h3, h4⟩ := h
  exact ⟨h1, h2, xs, h3, fun hp => by obtain ⟨b, off, cur, e1, e2, e3⟩ := h4 hp; exact ⟨b, off, cur, e1, hM _ e2, e3⟩⟩
theorem TipIn.mono {all : List (Ent α)} {x : Ent α} (h : TipIn r e M all x) (hM : ∀ p ∈ M, p ∈ M') : TipIn r e M' all x := by
  obtain ⟨h1, h2⟩ := h
  refine ⟨h1.mono hM, ?_⟩
  rcases h2 with h | ⟨b, off, cur, e1, e2, e3⟩
  · exact .inl h
  · exact .inr ⟨b, off, cur, e1, hM _ e2, e3⟩
/-- What it reads. -/
theorem EntIn.rd {w : World} {x : Ent α} (h : EntIn r e M x) (hM : ∀ b o, (b, o) ∈ M → w.heap[b]? = some o) : SlR r w (· ∈ keys M) x.A x.c x.L := by
  obtain ⟨h1, h2, xs, h3, h4⟩ := h
  refine ⟨h1, h2, xs, (h3.low (by simp)).mono (by simp [keys]), fun hp => ?_⟩
  obtain ⟨b, off, cur, e1, e2, e3⟩ := h4 hp
  exact ⟨b, off, e1, mem_keys e2, cellsAt.of_blk (hM _ _ e2) (by rw [h3.len]; exact e3)⟩
/-- A list that is owned is a tip, when its blocks join. -/
theorem SlO.tip {A : Option Addr} {c : Nat} {L : List α} {G : Grp} {all : List (Ent α)} (h : SlO e r (.slice A L.length c) L G) (hf : ∀ {x cs G}, r.own x cs G → G = []) (hall : ∀ y ∈ all, EntIn r e M y) (hd : ∀ b, b ∈ keys M → b ∉ keys G) :
    TipIn r e (G ++ M) all ⟨A, c, L⟩ := by
  obtain ⟨xs, G0, G1, h1, h2, rfl⟩ := h
  have hG1 : ∀ {L : List α} {xs : List Value} {G : Grp}, elemsO r L xs G → G = [] := by
    intro L
    induction L with
    | nil => intro xs G h; exact h.2
    | cons x L ih => intro xs G h; obtain ⟨cs, ys, Ga, Gb, _, rfl, k1, k2⟩ := h; rw [hf k1, ih k2]; rfl
  obtain rfl := hG1 h2
  obtain ⟨hl, h1⟩ := h1
  rcases h1 with ⟨A', hv, h0, rfl⟩ | ⟨b, off, cap, cur, hv, hpos, rfl, hnc, hcm, hfit, ht⟩
  · obtain rfl : L = [] := List.eq_nil_of_length_eq_zero h0
    cases hv
    exact ⟨⟨Nat.le_refl _, by simp [maxLen], [], ⟨rfl, rfl⟩, fun hp => absurd hp (by simp)⟩, .inl ⟨rfl, rfl⟩⟩
  · cases hv
    have hm : (b, Obj.cells cur e (0, 0)) ∈ [(b, Obj.cells cur e (0, 0))] ++ [] ++ M := by simp
    refine ⟨⟨hnc, hcm, xs, h2, fun _ => ⟨b, off, cur, rfl, hm, ht⟩⟩, .inr ⟨b, off, cur, rfl, hm, hpos, hfit, fun y hy off' hA => ?_⟩⟩
    obtain ⟨_, _, ys, _, k⟩ := hall y hy
    rcases Nat.eq_zero_or_pos y.L.length with h0 | h0
    · exact .inl (List.eq_nil_of_length_eq_zero h0)
    · exfalso
      obtain ⟨b', off2, cur', e1, e2, _⟩ := k h0
      rw [hA] at e1
      cases e1
      exact hd _ (mem_keys e2) (by simp [keys])
end
section
variable {P : Program} {w w0 w1 : World} {K : Nat → Prop} {Gs : List Grp} {α : Type} {r : Rp α}
theorem appw_place {t e ty : TypeId} {sz bytes : Nat} (hT : Elt P t e sz bytes) {b off : Nat} {B : Option Addr} {n cap m c : Nat} {news : List Value} {cur : Array Value}
    (hb : w.heap[b]? = some (.cells cur e (0, 0))) (hr : Rd w B m sz news) (h1 : ∀ u ∈ news, u.oneCell' = true) (hroom : n + m ≤ cap) (hfit : off + cap * sz ≤ cur.size) :
    (Builtin.append_ #[t, t] ty #[.slice (some ⟨b, off, none⟩) n cap, .slice B m c]).run P w = .ok (.slice (some ⟨b, off, none⟩) (n + m) cap) (w.setRow b (over cur (off + n * sz) news)) := by
  obtain ⟨hu, i, z, hi, hz, hsz, hby, hzs⟩ := hT
  have hf := run_firstRd (P := P) (c := c) hr
  have hle : off + n * sz + news.length ≤ cur.size := by
    rw [hr.1, Nat.add_assoc, ← Nat.add_mul]
    exact Nat.le_trans (Nat.add_le_add_left (Nat.mul_le_mul_right _ hroom) _) hfit
  have hst := run_storeCells_at P b (off + n * sz) e news 0 cur w hb (by simpa using hle) h1
  simp only [Nat.add_zero] at hst
  simp [Builtin.append_, run_underlying hu, sizeOf, typeInfo, hi, hsz, Builtin.lenOf, hroom, hf, Addr.add_lit, hst, over]
theorem appw_fresh {t e ty : TypeId} {sz bytes : Nat} (hT : Elt P t e sz bytes) {A B : Option Addr} {n cap m c : Nat} {xs news : List Value} (hrd : Rd w A n sz xs) (hr : Rd w B m sz news) (hg : cap < n + m)
    (h63 : n + m ≤ maxLen) (hbytes : (n + m) * bytes ≤ 140737488355328) :
    ∃ cap' cur, (Builtin.append_ #[t, t] ty #[.slice A n cap, .slice B m c]).run P w = .ok (.slice (some ⟨w.heap.size, 0, none⟩) (n + m) cap') (w.drew.alloc (.cells cur e)) ∧ n + m ≤ cap' ∧ cap' ≤ maxLen ∧ cap' * sz ≤ cur.size ∧ cur.toList.take ((n + m) * sz) = xs ++ news := by
  obtain ⟨hu, i, z, hi, hz, hsz, hby, hzs⟩ := hT
  have hlen : (xs ++ news).length = (n + m) * sz := by rw [List.length_append, hrd.1, hr.1, Nat.add_mul]
  have hsmall : n + m ≤ 9223372036854775807 := by simp only [maxLen] at h63; omega
  have hfo := run_firstRd (P := P) (w := w.drew) (c := cap) (hrd.ext (Ext.drew w))
  have hfn := run_firstRd (P := P) (w := w.drew) (c := c) (hr.ext (Ext.drew w))
  have hge := grownCap_ge w (n + m) cap e
  have hcm := grownCap_le_maxLen w (n + m) cap e h63
  have h48 : Builtin.nextslicecap (n + m) cap * bytes ≤ 281474976710656 := growslice_fits hg hbytes
  have hn : ¬ (n + m ≤ cap) := by omega
  have h63' : ¬ (9223372036854775807 < ((n : Int) + (m : Int))) := by omega
  have h48' : ¬ (281474976710656 < Builtin.nextslicecap (n + m) cap * bytes) := by omega
  refine ⟨grownCap w (n + m) cap e, xs.toArray ++ news.toArray ++ Builtin.zeroCells z.cells (grownCap w (n + m) cap e - (n + m)), ?_, hge, hcm, ?_, ?_⟩
  · simp [Builtin.append_, run_underlying hu, sizeOf, typeInfo, zeroValue, hi, hz, hsz, hby, Builtin.lenOf, hn, h63', h48', Question.forced, hfo, hfn, newRow, grownCap]
    simp only [← List.append_toArray, Array.append_assoc]
  · simp only [Array.size_append, List.size_toArray, size_zeroCells, hzs, hrd.1, hr.1, ← Nat.add_mul]
    rw [show n + m + (grownCap w (n + m) cap e - (n + m)) = grownCap w (n + m) cap e by omega]
    omega
  · simp only [Array.toList_append, List.append_assoc]
    rw [← List.append_assoc, ← hlen]
    exact List.take_left
theorem over_take {cur : Array Value} {a : Nat} {news : List Value} (h : a ≤ cur.size) {off k : Nat} (hk : off + k ≤ a) : ((over cur a news).toList.drop off).take k = (cur.toList.drop off).take k := by
  have hcl : a ≤ cur.toList.length := by simpa using h
  simp only [over, List.append_assoc]
  rw [List.drop_append_of_le_length (by simp; omega), List.take_append_of_le_length (by simp; omega), List.drop_take, List.take_take, Nat.min_eq_left (by omega)]
theorem over_at {cur : Array Value} {a : Nat} {news : List Value} (h : a ≤ cur.size) {off : Nat} (ho : off ≤ a) : ((over cur a news).toList.drop off).take (a - off + news.length) = (cur.toList.drop off).take (a - off) ++ news := by
  have hcl : a ≤ cur.toList.length := by simpa using h
  have e1 : ((cur.toList.take a).drop off).length = a - off := by rw [List.length_drop, List.length_take]; omega
  simp only [over, List.append_assoc]
  rw [List.drop_append_of_le_length (by simp; omega), List.drop_take, ← List.append_assoc]
  rw [List.drop_take] at e1
  exact List.take_left' (by rw [List.length_append, e1])
/-- THE OWNER GROWS A LIST; what was said of it, and of the others, stays. -/
theorem St.poolApp {M : Grp} (S : St w0 K w (M :: Gs)) {t e : TypeId} {bytes : Nat} (hT : Elt P t e r.sz bytes) (hb : Nat.ble bytes 2048 = true) {all : List (Ent α)} {x : Ent α} {B : Option Addr} {d m : Nat} {Y LM : List α} {news : List Value}
    (hall : ∀ y ∈ all, EntIn r e M y) (hx : TipIn r e M all x) (hr : Rd w B m r.sz news) (hY : elemsO r Y news []) (hm : Y.length = m) (hc : cat x.L Y = some LM) :
    ∃ A' c' M' w1, (∀ {N : Nat} {l : Fr} {p q : Operand} {dst : Option Tmp} {ty : TypeId} {pos : String} {aft : Array Edge} {g : Option (Nat × Bool)}, ev l p = some x.v → ev l q = some (.slice B m d) →
        GE P N l w ⟨dst, .call { callee := .builtin .append, args := #[p, q], argTypes := #[t, t] }, ty, pos, aft, g⟩ (.slice A' LM.length c') w1) ∧
      (∀ y ∈ all, EntIn r e M' y) ∧ TipIn r e M' all ⟨A', c', LM⟩ ∧ St w0 K w1 (M' :: Gs) := by
  obtain ⟨hle, rfl⟩ := cat_spec hc
  subst hm
  obtain ⟨A, c, L⟩ := x
  have hb' : bytes ≤ 2048 := by simpa [Nat.ble_eq] using hb
  simp only at hle hx ⊢
  have hbytes : (L.length + Y.length) * bytes ≤ 140737488355328 := by
    have := Nat.mul_le_mul hle hb'
    omega
  have h63 : L.length + Y.length ≤ maxLen := by simp only [maxLen]; omega
  have hM : ∀ b o, (b, o) ∈ M → w.heap[b]? = some o := fun b o hm => S.grp 0 rfl hm
  obtain ⟨⟨hLc, hcm, xs, hxs, hat⟩, htip⟩ := hx
  have hll : (L ++ Y).length = L.length + Y.length := List.length_append
  have hrdx : Rd w A L.length r.sz xs := ⟨hxs.len, fun hp => by
    obtain ⟨b, off, cur, e1, e2, e3⟩ := hat hp
    exact ⟨b, off, e1, cellsAt.of_blk (hM _ _ e2) (by rw [hxs.len]; exact e3)⟩⟩
  have hsum : elemsO r (L ++ Y) (xs ++ news) [] := hxs.append hY
  have wrap : ∀ {A' : Option Addr} {n' c' : Nat} {w1 : World}, (∀ ty, (Builtin.append_ #[t, t] ty #[.slice A L.length c, .slice B Y.length d]).run P w = .ok (.slice A' n' c') w1) →
      ∀ {N : Nat} {l : Fr} {p q : Operand} {dst : Option Tmp} {ty : TypeId} {pos : String} {aft : Array Edge} {g : Option (Nat × Bool)}, ev l p = some (Ent.v ⟨A, c, L⟩) → ev l q = some (.slice B Y.length d) →
        GE P N l w ⟨dst, .call { callee := .builtin .append, args := #[p, q], argTypes := #[t, t] }, ty, pos, aft, g⟩ (.slice A' n' c') w1 := by
    intro A' n' c' w1 hrun N l p q dst ty pos aft g hp hq a ha
    have hp' : ev l p = some (.slice A L.length c) := hp
    unfold execOp
    simp [resolve, invoke, builtin, ha.ev hp', ha.ev hq, hrun]
  by_cases hroom : L.length + Y.length ≤ c
  · rcases htip with ⟨h0, h1⟩ | ⟨b, off, cur, e1, e2, hpos, hfit, hothers⟩
    · -- nothing at all
      obtain rfl : L = [] := h1
      obtain rfl : c = 0 := h0
      have hY0 : Y = [] := List.eq_nil_of_length_eq_zero (by simpa using hroom)
      subst hY0
      have hn0 : news = [] := hr.empty
      subst hn0
      have hf : (Builtin.firstCells r.sz 0 (.slice B 0 d)).run P w = .ok #[] w := run_firstRd (P := P) (c := d) hr
      refine ⟨A, 0, M, w, wrap (fun ty => ?_), ?_, ⟨⟨Nat.le_refl _, by simp [maxLen], [], ⟨rfl, rfl⟩, fun hp => absurd hp (by simp)⟩, .inl ⟨rfl, rfl⟩⟩, S⟩
      · obtain ⟨hu, i, z, hi, hz, hsz, hby, hzs⟩ := hT
        cases A <;> simp [Builtin.append_, run_underlying hu, sizeOf, typeInfo, hi, hsz, Builtin.lenOf, hf, storeCells]
      · assumption
    · -- where it is
      simp only at e1 hpos hfit hothers
      subst e1
      have hbw := hM _ _ e2
      obtain ⟨M1, M2, rfl⟩ := List.append_of_mem e2
      have hnd : b ∉ keys (M1 ++ M2) := by
        have h1 := S.hp.nd
        simp only [List.flatten_cons, keys_append] at h1
        have h2 := (List.nodup_append.1 h1).1
        have h3 : (keys (M1 ++ (b, Obj.cells cur e (0, 0)) :: M2)).Perm (b :: keys (M1 ++ M2)) := by
          have := (List.perm_middle (a := (b, Obj.cells cur e (0, 0))) (l₁ := M1) (l₂ := M2)).map Prod.fst
          exact this
        rw [keys_append] at h3
        exact (List.nodup_cons.1 (h3.nodup_iff.1 h2)).1
      have S1 : St w0 K w ([(b, Obj.cells cur e (0, 0))] :: (M1 ++ M2) :: Gs) := S.perm (by
        simp only [List.flatten_cons]
        have := List.perm_middle (a := (b, Obj.cells cur e (0, 0))) (l₁ := M1) (l₂ := M2)
        have h2 := this.append_right Gs.flatten
        simp)
      have hLsz : L.length * r.sz ≤ c * r.sz := Nat.mul_le_mul_right _ hLc
      have hcur : off + L.length * r.sz ≤ cur.size := by omega
      have S2 : St w0 K (w.setRow b (over cur (off + L.length * r.sz) news)) ([(b, Obj.cells (over cur (off + L.length * r.sz) news) e (0, 0))] :: (M1 ++ M2) :: Gs) := by
        refine S1.upd ?_ (by simp [keys]) (fun b' hb' => .inl (by simpa [keys] using hb')) ?_ (by simp) (same_setRow _ _ _)
        · intro b' o hb'
          simp only [List.mem_singleton, Prod.mk.injEq] at hb'
          obtain ⟨rfl, rfl⟩ := hb'
          exact setRow_heap w b' cur _ e (0, 0) hbw
        · intro b' _ hn
          exact setRow_other w b b' _ (fun he => hn (by simp [keys, he]))
      refine ⟨some ⟨b, off, none⟩, c, [(b, Obj.cells (over cur (off + L.length * r.sz) news) e (0, 0))] ++ (M1 ++ M2), _, wrap (fun ty => by rw [hll]; exact appw_place hT hbw hr hY.one hroom hfit), ?_, ?_, S2.join⟩
      · intro y hy
        obtain ⟨k1, k2, ys, k3, k4⟩ := hall y hy
        refine ⟨k1, k2, ys, k3, fun hp => ?_⟩
        obtain ⟨b', off', cur', g1, g2, g3⟩ := k4 hp
        by_cases hbb : b' = b
        · subst hbb
          have hcc : Obj.cells cur' e (0, 0) = Obj.cells cur e (0, 0) := by
            have h1 := hM _ _ g2
            rw [hbw] at h1
            exact (Option.some.inj h1).symm
          cases hcc
          rcases hothers y hy off' g1 with h0 | ⟨rfl, hlen⟩
          · rw [h0] at hp; exact absurd hp (by simp)
          · refine ⟨b', off', _, g1, List.mem_append_left _ (List.mem_singleton.2 rfl), ?_⟩
            rw [over_take hcur (by have := Nat.mul_le_mul_right r.sz hlen; omega)]
            exact g3
        · refine ⟨b', off', cur', g1, ?_, g3⟩
          simp only [List.mem_append, List.mem_cons, Prod.mk.injEq] at g2
          rcases g2 with h | ⟨h, _⟩ | h
          · simp [h]
          · exact absurd h hbb
          · simp [h]
      · have hnew : ((over cur (off + L.length * r.sz) news).toList.drop off).take ((L ++ Y).length * r.sz) = xs ++ news := by
          have h1 := over_at (news := news) hcur (show off ≤ off + L.length * r.sz by omega)
          rw [Nat.add_sub_cancel_left, hr.1, ← Nat.add_mul] at h1
          rw [hll, h1]
          congr 1
          rcases Nat.eq_zero_or_pos L.length with h0 | h0
          · have hL0 : xs = [] := List.eq_nil_of_length_eq_zero (by rw [hxs.len, h0, Nat.zero_mul])
            rw [h0, Nat.zero_mul, List.take_zero, hL0]
          · obtain ⟨b', off', cur', g1, g2, g3⟩ := hat h0
            cases g1
            have hcc : Obj.cells cur' e (0, 0) = Obj.cells cur e (0, 0) := by
              have h1 := hM _ _ g2
              rw [hbw] at h1
              exact (Option.some.inj h1).symm
            cases hcc
            exact g3
        have hsz' : (over cur (off + L.length * r.sz) news).size = cur.size := by
          have hle : off + L.length * r.sz + news.length ≤ cur.size := by
            rw [hr.1, Nat.add_assoc, ← Nat.add_mul]
            exact Nat.le_trans (Nat.add_le_add_left (Nat.mul_le_mul_right _ hroom) _) hfit
          simp [over]; omega
        refine ⟨⟨by rw [hll]; exact hroom, hcm, _, hsum, fun _ => ⟨b, off, _, rfl, List.mem_append_left _ (List.mem_singleton.2 rfl), hnew⟩⟩, .inr ⟨b, off, _, rfl, List.mem_append_left _ (List.mem_singleton.2 rfl), hpos, by rw [hsz']; exact hfit, fun y hy off' hA => ?_⟩⟩
        rcases hothers y hy off' hA with h | ⟨h1, h2⟩
        · exact .inl h
        · exact .inr ⟨h1, by rw [hll]; omega⟩
  · -- a new block
    obtain ⟨cap', cur, hrun, hcap, hcm', hfit, htk⟩ := appw_fresh (ty := 0) (c := d) hT hrdx hr (show c < L.length + Y.length by omega) h63 hbytes
    have hrun' : ∀ ty, (Builtin.append_ #[t, t] ty #[.slice A L.length c, .slice B Y.length d]).run P w = .ok (.slice (some ⟨w.heap.size, 0, none⟩) (L.length + Y.length) cap') (w.drew.alloc (.cells cur e)) := fun ty => hrun
    have S2 : St w0 K (w.drew.alloc (.cells cur e)) ([(w.heap.size, Obj.cells cur e (0, 0))] :: M :: Gs) := by
      refine S.emp.upd ?_ (by simp [keys]) (fun b hb => .inr (by simp [keys] at hb; omega)) (fun b hb _ => (Ext.alloc w.drew _).2 b hb) (by simp) ⟨rfl, rfl, rfl⟩
      intro b o hb
      simp only [List.mem_singleton, Prod.mk.injEq] at hb
      obtain ⟨rfl, rfl⟩ := hb
      exact heap_alloc_new w.drew _
    refine ⟨_, cap', [(w.heap.size, Obj.cells cur e (0, 0))] ++ M, _, wrap (fun ty => by rw [hll]; exact hrun' ty), fun y hy => (hall y hy).mono (by intro p hp; simp [hp]), ?_, S2.join⟩
    refine ⟨⟨by rw [hll]; exact hcap, hcm', _, hsum, fun _ => ⟨w.heap.size, 0, cur, rfl, by simp, by rw [List.drop_zero, hll]; exact htk⟩⟩, ?_⟩
    rcases Nat.eq_zero_or_pos cap' with h0 | h0
    · omega
    · refine .inr ⟨w.heap.size, 0, cur, rfl, by simp, h0, (show 0 + cap' * r.sz ≤ cur.size by omega), fun y hy off' hA => ?_⟩
      obtain ⟨_, _, ys, _, k4⟩ := hall y hy
      rcases Nat.eq_zero_or_pos y.L.length with h1 | h1
      · exact .inl (List.eq_nil_of_length_eq_zero h1)
      · exfalso
        obtain ⟨b', off2, cur', g1, g2, _⟩ := k4 h1
        rw [hA] at g1
        cases g1
        have := lt_of_blk (hM _ _ g2)
        omega
end
end Go.Eng
