/- Elements taken out of an owned list, where it is. -/
import Derived.Test.YtoahkjehjmbojaaEng2
set_option linter.unusedVariables false
namespace Go.Eng
open Go
section
variable {P : Program} {w0 w : World} {K : Nat → Prop} {Gs : List Grp} {G : Grp} {α : Type}
theorem elemsO.takeP {r : Rp α} (hf : ∀ {x cs G}, r.own x cs G → G = []) : ∀ {L : List α} {xs : List Value} {G : Grp}, elemsO r L xs G → G = [] ∧ ∀ b, elemsO r (L.take b) (xs.take (b * r.sz)) []
  | [], _, _, h => by obtain ⟨rfl, rfl⟩ := h; exact ⟨rfl, fun b => by simp [elemsO]⟩
  | x :: L, _, _, h => by
    obtain ⟨cs, ys, Ga, Gb, rfl, rfl, k1, k2⟩ := h
    obtain ⟨rfl, k3⟩ := elemsO.takeP hf k2
    obtain rfl := hf k1
    refine ⟨rfl, fun b => ?_⟩
    cases b with
    | zero => rw [Nat.zero_mul]; exact ⟨rfl, rfl⟩
    | succ b => exact ⟨cs, ys.take (b * r.sz), [], [], by rw [Nat.add_mul, Nat.one_mul, Nat.add_comm, ← r.lenO k1, List.take_length_add_append], rfl, k1, k3 b⟩
theorem St.delApp {c : α → List Value} {sz : Nat} {h0 : ∀ x, (c x).length = sz} {h1 : ∀ x, (c x).all Value.oneCell' = true} (S : St w0 K w (G :: Gs)) {t e : TypeId} {bytes : Nat} (hT : Elt P t e sz bytes) {A : Option Addr} {cap : Nat} {L X Y : List α} {i j : Int}
    (h : SlO e (Rp.plain c sz h0 h1) (.slice A L.length cap) L G) (hX : cut L 0 i = some X) (hY : cut L j (L.length : Int) = some Y) (hij : i ≤ j) :
    ∃ G' w1, (∀ {N : Nat} {l : Fr} {x y : Operand} {dst : Option Tmp} {ty : TypeId} {pos : String} {aft : Array Edge} {g : Option (Nat × Bool)}, ev l x = some (.slice A X.length cap) → ev l y = some (.slice (subA A cap j sz) Y.length (cap - j.toNat)) →
        GE P N l w ⟨dst, .call { callee := .builtin .append, args := #[x, y], argTypes := #[t, t] }, ty, pos, aft, g⟩ (.slice A (X ++ Y).length cap) w1) ∧
      SlO e (Rp.plain c sz h0 h1) (.slice A (X ++ Y).length cap) (X ++ Y) G' ∧ St w0 K w1 (G' :: Gs) := by
  have hrdL := h.rd (w := w) (fun b o hb => S.grp 0 rfl hb)
  obtain ⟨ys, he, hd⟩ := (hrdL.cut_lh hY).Rd
  have hYO := elems.flat plain_flat he
  obtain ⟨a, b, ea, rfl, hab, hbL, hXe, hXl⟩ := cut_nat hX
  obtain ⟨a2, b2, rfl, eb2, hab2, hb2, hYe, hYl⟩ := cut_nat hY
  have ha : a = 0 := by omega
  subst ha
  rw [List.drop_zero] at hXe
  rw [Nat.sub_zero] at hXl
  have hll : (X ++ Y).length = X.length + Y.length := List.length_append
  have hroomL : X.length + Y.length ≤ L.length := by omega
  obtain ⟨xs, G0, G1, ⟨hx, hrow⟩, h2, rfl⟩ := h
  obtain ⟨rfl, htake⟩ := elemsO.takeP (r := Rp.plain c sz h0 h1) (fun h => h.2) h2
  have hXO : elemsO (Rp.plain c sz h0 h1) X (xs.take (X.length * sz)) [] := by
    have := htake b
    rw [← hXe, ← hXl] at this
    exact this
  have hsum := hXO.append hYO
  have hx' : xs.length = L.length * sz := hx
  have hXs : (xs.take (X.length * sz)).length = X.length * sz := hXO.len
  have wrap0 : ∀ {V1 V2 V3 : Value} {w1 : World}, (∀ ty, (Builtin.append_ #[t, t] ty #[V1, V2]).run P w = .ok V3 w1) →
      ∀ {N : Nat} {l : Fr} {x y : Operand} {dst : Option Tmp} {ty : TypeId} {pos : String} {aft : Array Edge} {g : Option (Nat × Bool)}, ev l x = some V1 → ev l y = some V2 →
        GE P N l w ⟨dst, .call { callee := .builtin .append, args := #[x, y], argTypes := #[t, t] }, ty, pos, aft, g⟩ V3 w1 := by
    intro V1 V2 V3 w1 hrun N l x y dst ty pos aft g hp hq u hu
    unfold execOp
    simp [resolve, invoke, builtin, hu.ev hp, hu.ev hq, hrun]
  have wrap : ∀ {w1 : World}, (∀ ty, (Builtin.append_ #[t, t] ty #[.slice A X.length cap, .slice (subA A cap (a2 : Int) sz) Y.length (cap - (a2 : Int).toNat)]).run P w = .ok (.slice A (X.length + Y.length) cap) w1) →
      ∀ {N : Nat} {l : Fr} {x y : Operand} {dst : Option Tmp} {ty : TypeId} {pos : String} {aft : Array Edge} {g : Option (Nat × Bool)}, ev l x = some (.slice A X.length cap) → ev l y = some (.slice (subA A cap (a2 : Int) sz) Y.length (cap - (a2 : Int).toNat)) →
        GE P N l w ⟨dst, .call { callee := .builtin .append, args := #[x, y], argTypes := #[t, t] }, ty, pos, aft, g⟩ (.slice A (X ++ Y).length cap) w1 := by
    intro w1 hrun
    rw [hll]
    exact wrap0 hrun
  rcases hrow with ⟨A', hv, hz, rfl⟩ | ⟨bb, off, cap', cur, hv, hpos, rfl, hnc, hcm, hfit, ht⟩
  · obtain rfl : L = [] := List.eq_nil_of_length_eq_zero hz
    cases hv
    have hroomL : X.length + Y.length ≤ 0 := hroomL
    have hX0 : X = [] := List.eq_nil_of_length_eq_zero (by omega)
    have hY0 : Y = [] := List.eq_nil_of_length_eq_zero (by omega)
    subst hX0; subst hY0
    have hf := run_firstRd (P := P) (c := 0 - (a2 : Int).toNat) hd
    have hn0 : ys = [] := hd.empty
    subst hn0
    have hf : (Builtin.firstCells sz 0 (.slice (subA A 0 (a2 : Int) sz) 0 (0 - (a2 : Int).toNat))).run P w = .ok #[] w := hf
    obtain ⟨hu, ii, z, hi, hzz, hsz, hby, hzs⟩ := hT
    have key : ∀ (A B : Option Addr) (d : Nat), (Builtin.firstCells sz 0 (.slice B 0 d)).run P w = .ok #[] w → ∀ ty, (Builtin.append_ #[t, t] ty #[.slice A 0 0, .slice B 0 d]).run P w = .ok (.slice A 0 0) w := by
      intro A B d hf ty
      cases A <;> simp [Builtin.append_, run_underlying hu, sizeOf, typeInfo, hi, hsz, Builtin.lenOf, hf, storeCells]
    exact ⟨[], w, wrap (fun ty => key _ _ _ hf ty), SlO.zero _ _ _, S⟩
  · cases hv
    have S1 : St w0 K w ([(bb, Obj.cells cur e (0, 0))] :: Gs) := S.objs (by simp)
    have hbw := S1.grp 0 rfl (b := bb) (o := .cells cur e (0, 0)) (by simp)
    have hfit' : off + cap * sz ≤ cur.size := hfit
    have hXc : X.length * sz ≤ cap * sz := Nat.mul_le_mul_right _ (by omega)
    have hcur : off + X.length * sz ≤ cur.size := by omega
    have hrun := fun ty => appw_place (P := P) (ty := ty) (n := X.length) (c := cap - (a2 : Int).toNat) hT hbw hd hYO.one (show X.length + Y.length ≤ cap by omega) hfit'
    have hysl : ys.length = Y.length * sz := hd.1
    have hsz' : (over cur (off + X.length * sz) ys).size = cur.size := by
      have hle : off + X.length * sz + ys.length ≤ cur.size := by
        rw [hysl, Nat.add_assoc, ← Nat.add_mul]
        exact Nat.le_trans (Nat.add_le_add_left (Nat.mul_le_mul_right _ (show X.length + Y.length ≤ cap by omega)) _) hfit'
      simp [over]; omega
    refine ⟨[(bb, .cells (over cur (off + X.length * sz) ys) e (0, 0))], _, wrap hrun, ⟨xs.take (X.length * sz) ++ ys, [(bb, .cells (over cur (off + X.length * sz) ys) e (0, 0))], [], ⟨hsum.len, .inr ⟨bb, off, cap, _, rfl, hpos, rfl, by omega, hcm, by rw [hsz']; exact hfit, ?_⟩⟩, hsum, rfl⟩, ?_⟩
    · have h3 := over_at (news := ys) hcur (show off ≤ off + X.length * sz by omega)
      rw [Nat.add_sub_cancel_left, hysl, ← Nat.add_mul, ← hll] at h3
      have h4 : (cur.toList.drop off).take (X.length * sz) = xs.take (X.length * sz) := by
        have ht' : (cur.toList.drop off).take (L.length * sz) = xs := ht
        rw [← ht', List.take_take, Nat.min_eq_left (Nat.mul_le_mul_right _ (by omega))]
      rw [h4] at h3
      exact h3
    · refine S1.upd ?_ (by simp [keys]) (fun b' hb' => .inl (by simpa [keys] using hb')) ?_ (by simp) (same_setRow _ _ _)
      · intro b' o hb'
        simp only [List.mem_singleton, Prod.mk.injEq] at hb'
        obtain ⟨rfl, rfl⟩ := hb'
        exact setRow_heap w b' cur _ e (0, 0) hbw
      · intro b' _ hn
        exact setRow_other w bb b' _ (fun he => hn (by simp [keys, he]))
/-- The room behind an owned list is zeroed: it stays as it is. -/
theorem St.clearTail {c : α → List Value} {sz : Nat} {h0 : ∀ x, (c x).length = sz} {h1 : ∀ x, (c x).all Value.oneCell' = true} (S : St w0 K w (G :: Gs)) {t e : TypeId} {bytes : Nat} (hT : Elt P t e sz bytes) (hz1 : (match P.info? e with | some i => (match i.zero with | some z => z.cells.all Value.oneCell' | none => true) | none => true) = true) {A : Option Addr} {cap n : Nat} {L : List α}
    (h : SlO e (Rp.plain c sz h0 h1) (.slice A L.length cap) L G) (hn : L.length + n ≤ cap) :
    ∃ G' w1, (∀ {N : Nat} {l : Fr} {x : Operand} {d : Nat} {dst : Option Tmp} {ty : TypeId} {pos : String} {aft : Array Edge} {g : Option (Nat × Bool)}, ev l x = some (.slice (subA A cap (L.length : Int) sz) n d) →
        GE P N l w ⟨dst, .call { callee := .builtin .clear, args := #[x], argTypes := #[t] }, ty, pos, aft, g⟩ (.tuple #[]) w1) ∧
      SlO e (Rp.plain c sz h0 h1) (.slice A L.length cap) L G' ∧ St w0 K w1 (G' :: Gs) := by
  obtain ⟨hu, ii, z, hi, hzz, hsz, hby, hzs⟩ := hT
  have wrap : ∀ {V : Value} {w1 : World}, (∀ ty, (Builtin.clear_ #[t] ty #[V]).run P w = .ok (.tuple #[]) w1) →
      ∀ {N : Nat} {l : Fr} {x : Operand} {dst : Option Tmp} {ty : TypeId} {pos : String} {aft : Array Edge} {g : Option (Nat × Bool)}, ev l x = some V →
        GE P N l w ⟨dst, .call { callee := .builtin .clear, args := #[x], argTypes := #[t] }, ty, pos, aft, g⟩ (.tuple #[]) w1 := by
    intro V w1 hrun N l x dst ty pos aft g hp u hu'
    unfold execOp
    simp [resolve, invoke, builtin, hu'.ev hp, hrun]
  rcases Nat.eq_zero_or_pos n with hn0 | hnp
  · subst hn0
    refine ⟨G, w, fun hx => wrap (fun ty => ?_) hx, h, S⟩
    generalize subA A cap (L.length : Int) sz = B
    cases B <;> simp [Builtin.clear_, run_underlying hu]
  · obtain ⟨xs, G0, G1, ⟨hx, hrow⟩, h2, rfl⟩ := h
    obtain ⟨rfl, htake⟩ := elemsO.takeP (r := Rp.plain c sz h0 h1) (fun h => h.2) h2
    rcases hrow with ⟨A', hv, hz, rfl⟩ | ⟨bb, off, cap', cur, hv, hpos, rfl, hnc, hcm, hfit, ht⟩
    · obtain rfl : L = [] := List.eq_nil_of_length_eq_zero hz
      cases hv
      rw [List.length_nil] at hn; omega
    · cases hv
      have S1 : St w0 K w ([(bb, Obj.cells cur e (0, 0))] :: Gs) := S.objs (by simp)
      have hbw := S1.grp 0 rfl (b := bb) (o := .cells cur e (0, 0)) (by simp)
      have hfit' : off + cap * sz ≤ cur.size := hfit
      have hsub : subA (some ⟨bb, off, none⟩) cap (L.length : Int) sz = some ⟨bb, off + L.length * sz, none⟩ := by
        unfold subA
        rw [Int.toNat_natCast, if_neg (by omega)]
        simp [Addr.add_lit]
      have hzl : (Builtin.zeroCells z.cells n).toList.length = n * sz := by rw [Array.length_toList, size_zeroCells, hzs]
      have hle : off + L.length * sz + (Builtin.zeroCells z.cells n).toList.length ≤ cur.size := by
        rw [hzl, Nat.add_assoc, ← Nat.add_mul]
        exact Nat.le_trans (Nat.add_le_add_left (Nat.mul_le_mul_right _ hn) _) hfit'
      have hcur : off + L.length * sz ≤ cur.size := by omega
      have hone : ∀ u ∈ (Builtin.zeroCells z.cells n).toList, u.oneCell' = true := by
        intro u hu'
        have hz2 : z.cells.all Value.oneCell' = true := by rw [hi] at hz1; simp only [hzz] at hz1; exact hz1
        have hm : u ∈ Builtin.zeroCells z.cells n := by simpa using hu'
        simp only [Builtin.zeroCells, Array.mem_map, Array.mem_range] at hm
        obtain ⟨q, hq, rfl⟩ := hm
        have hpz : 0 < z.cells.size := by
          rcases Nat.eq_zero_or_pos z.cells.size with hh | hh
          · rw [hh, Nat.mul_zero] at hq; omega
          · exact hh
        have hlt : q % z.cells.size < z.cells.size := Nat.mod_lt _ hpz
        rw [getElem!_pos z.cells _ hlt]
        exact Array.all_eq_true'.1 hz2 _ (Array.getElem_mem hlt)
      have hst := run_storeCells_at P bb (off + L.length * sz) e (Builtin.zeroCells z.cells n).toList 0 cur w hbw (by simpa using hle) hone
      simp only [Nat.add_zero] at hst
      obtain ⟨m, rfl⟩ : ∃ m, n = m + 1 := ⟨n - 1, by omega⟩
      have hsz' : (over cur (off + L.length * sz) (Builtin.zeroCells z.cells (m + 1)).toList).size = cur.size := by
        simp [over] at hle ⊢; omega
      refine ⟨[(bb, .cells (over cur (off + L.length * sz) (Builtin.zeroCells z.cells (m + 1)).toList) e (0, 0))], _, fun {N l x d dst ty pos aft g} hx' => wrap (fun ty => ?_) hx', ⟨xs, [(bb, .cells (over cur (off + L.length * sz) (Builtin.zeroCells z.cells (m + 1)).toList) e (0, 0))], [], ⟨hx, .inr ⟨bb, off, cap, _, rfl, hpos, rfl, hnc, hcm, by rw [hsz']; exact hfit, ?_⟩⟩, h2, rfl⟩, S1.setRow 0 rfl _⟩
      · rw [hsub]
        simp [Builtin.clear_, run_underlying hu, zeroValue, typeInfo, hi, hzz, hst, over]
      · exact (over_take hcur (show off + L.length * sz ≤ off + L.length * sz from Nat.le_refl _)).trans ht
end
end Go.Eng
namespace Go.Eng
section
variable {P : Program} {N : Nat} {l : Fr} {w : World} {dst : Option Tmp} {ty : TypeId} {pos : String} {aft : Array Edge} {g : Option (Nat × Bool)} {t : TypeId} {x y z u : Operand} {k k' k'' : IntKind} {i j : Int} {sz c : Nat} {A : Option Addr} {α : Type} {L M : List α}
/-- A part whose room ends with the list; behind the list, what is room of it. -/
theorem G.cut_lhm (hT : slEl P t = some sz) (hx : ev l x = some (.slice A L.length c)) (hy : ev l y = some (.int k i)) (hz : ev l z = some (.int k' j)) (hu : ev l u = some (.int k'' (L.length : Int))) (hc : cut L i j = some M) (hLc : L.length ≤ c) :
    GP P N l ⟨dst, .slice t x (some y) (some z) (some u), ty, pos, aft, g⟩ (.slice (if L.length = i.toNat then A else A.map (·.add (i.toNat * sz))) M.length (L.length - i.toNat)) := fun w a ha => by
  obtain ⟨p, q, rfl, rfl, hab, hb, _, hl⟩ := cut_nat hc
  obtain ⟨e, ti, h1, h2, h3⟩ := slEl_spec hT
  obtain ⟨hu', he⟩ := elem_of h1
  have hr := run_slice_lhm (P := P) w t A L.length c hu' k k' k'' (p : Int) (q : Int) (L.length : Int) (by omega) (by omega) (by omega) (by omega)
  rw [he, slEl_size h2 h3] at hr
  unfold execOp
  rw [hl]
  simp only [ha.ev hx, ha.ev hy, ha.ev hz, ha.ev hu, Option.map_some, Option.map_none, run_sliceAt_slice (P := P) w t _ _ _ _ hu', Sem.run_bind, hr, Result.andThen_ok, Sem.run_pure, sliced, Int.toNat_natCast]
theorem G.tail (hT : slEl P t = some sz) (hx : ev l x = some (.slice A L.length c)) (hy : ev l y = some (.int k (L.length : Int))) (hz : ev l z = some (.int k' j)) (hij : (L.length : Int) ≤ j) (hjc : j ≤ (c : Int)) :
    GP P N l ⟨dst, .slice t x (some y) (some z) none, ty, pos, aft, g⟩ (.slice (subA A c (L.length : Int) sz) (j - L.length).toNat (c - L.length)) := by
  obtain ⟨q, rfl⟩ : ∃ q : Nat, j = (q : Int) := ⟨j.toNat, by omega⟩
  have := G.slice_lh (dst := dst) (ty := ty) (pos := pos) (aft := aft) (g := g) (N := N) hT hx hy hz (show L.length ≤ q by omega) (show q ≤ c by omega)
  rw [show ((q : Int) - (L.length : Int)).toNat = q - L.length by omega]
  exact this
end
end Go.Eng
namespace Go.Eng
theorem SlR.none_nil {α : Type} {r : Rp α} {w : World} {F : Nat → Prop} {A : Option Addr} {c : Nat} {L : List α} (h : SlR r w F A c L) (hA : A = none) : L = [] := by
  rcases Nat.eq_zero_or_pos L.length with h0 | h0
  · exact List.eq_nil_of_length_eq_zero h0
  · obtain ⟨_, _, xs, _, h4⟩ := h
    obtain ⟨b, off, e, _⟩ := h4 h0
    rw [hA] at e
    cases e
end Go.Eng
namespace Go.Eng
section
variable {P : Program} {N : Nat} {l : Fr} {dst : Option Tmp} {ty : TypeId} {pos : String} {aft : Array Edge} {g : Option (Nat × Bool)} {t u e : TypeId} {x y : Operand} {p : Option Addr} {b : Bool}
theorem G.neqp_nil (hu : P.underlying t = some (.pointer e)) (hx : ev l x = some (.pointer p)) (hy : ev l y = some (.pointer none)) (hb : (!p.isNone) = b) : GP P N l ⟨dst, .binOp .neq t x y u, ty, pos, aft, g⟩ (.bool b) :=
  G.bin hx hy (fun w => by rw [eqGuard_at_pointer]; rfl) fun w => by
    subst hb
    have h := run_eql_pointer_nil w t p (by unfold Program.pointee; rw [hu])
    simp only [binOp] at h ⊢
    simp only [Sem.run_bind] at h ⊢
    cases hq : (Op.equal t (.pointer p) (.pointer none)).run P w with
    | ok v w' =>
      rw [hq] at h
      simp only [Result.andThen_ok, Sem.run_pure] at h ⊢
      cases h
      rfl
    | _ => rw [hq] at h; cases h
end
end Go.Eng
namespace Go.Eng
open Go
def u8of (n : Int) : UInt8 := UInt8.ofNat (IntKind.u8.wrap n).toNat
theorem u8of_wrap (n : Int) : IntKind.u8.wrap n = ((u8of n).toNat : Int) := by
  have h : 0 ≤ IntKind.u8.wrap n ∧ IntKind.u8.wrap n < 256 := by
    simp only [IntKind.wrap, IntKind.bits, IntKind.signed]
    simp
    omega
  unfold u8of
  rw [UInt8.toNat_ofNat_of_lt' (by show _ < 256; omega)]
  omega
end Go.Eng
