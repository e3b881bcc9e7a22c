/- Pointers that may be nil, as fields; lists of pointers. -/
import Derived.Test.YtoahkjehjmbojaaPools
set_option linter.unusedVariables false
namespace Go.Eng
open Go
section
variable {α : Type} {T : TypeId} {r : Rp α} {w w' : World} {F F' : Nat → Prop} {p : Nat} {x : α} {v : Value} {o : Option α} {G : Grp}
theorem PtR.mono (h : PtR T r w F p x) (hF : ∀ b, F b → F' b) : PtR T r w F' p x := by
  obtain ⟨cs, h1, h2, h3⟩ := h
  exact ⟨cs, h1, hF p h2, r.mono h3 hF⟩
def OptR (T : TypeId) (r : Rp α) (w : World) (F : Nat → Prop) (v : Value) : Option α → Prop
  | none => v = .pointer none
  | some x => ∃ p, v = .pointer (some ⟨p, 0, none⟩) ∧ PtR T r w F p x
theorem OptR.one (h : OptR T r w F v o) : v.oneCell' = true := by
  cases o with
  | none => cases h; rfl
  | some x => obtain ⟨p, rfl, _⟩ := h; rfl
theorem OptO.oneC (h : OptO T r v o G) : v.oneCell' = true := by
  cases o with
  | none => obtain ⟨rfl, _⟩ := h; rfl
  | some x => obtain ⟨p, rfl, _⟩ := h; rfl
theorem OptR.ext (h : OptR T r w F v o) (hE : ∀ b, F b → w'.heap[b]? = w.heap[b]?) : OptR T r w' F v o := by
  cases o with
  | none => exact h
  | some x => obtain ⟨p, e, h1⟩ := h; exact ⟨p, e, h1.ext hE⟩
theorem OptR.mono (h : OptR T r w F v o) (hF : ∀ b, F b → F' b) : OptR T r w F' v o := by
  cases o with
  | none => exact h
  | some x => obtain ⟨p, e, h1⟩ := h; exact ⟨p, e, h1.mono hF⟩
theorem OptO.rd (h : OptO T r v o G) (hG : ∀ b o, (b, o) ∈ G → w.heap[b]? = some o) : OptR T r w (· ∈ keys G) v o := by
  cases o with
  | none => exact h.1
  | some x => obtain ⟨p, e, h1⟩ := h; exact ⟨p, e, ObjO.rd h1 hG⟩
/-- A pointer to a thing, as a value. -/
def Rp.ptr (T : TypeId) (r : Rp α) : Rp α where
  sz := 1
  rd := fun w F x cs => ∃ p, cs = [.pointer (some ⟨p, 0, none⟩)] ∧ PtR T r w F p x
  own := fun x cs G => ∃ p, cs = [.pointer (some ⟨p, 0, none⟩)] ∧ ObjO T r p x G
  len := by rintro _ _ _ _ ⟨p, rfl, _⟩; rfl
  one := by rintro _ _ _ _ ⟨p, rfl, _⟩; exact one_of_all rfl
  lenO := by rintro _ _ _ ⟨p, rfl, _⟩; rfl
  oneO := by rintro _ _ _ ⟨p, rfl, _⟩; exact one_of_all rfl
  ext := by rintro _ _ _ _ _ ⟨p, rfl, h⟩ hE; exact ⟨p, rfl, h.ext hE⟩
  mono := by rintro _ _ _ _ _ ⟨p, rfl, h⟩ hF; exact ⟨p, rfl, h.mono hF⟩
  low := by rintro _ _ _ _ ⟨p, rfl, h⟩ hG; exact ⟨p, rfl, ObjO.rd h hG⟩
variable {w0 : World} {K : Nat → Prop} {Gs : List Grp} {e : TypeId} {A : Option Addr} {c j : Nat} {L : List α}
/-- One thing of an owned list of pointers apart. -/
theorem St.focusP (S : St w0 K w (G :: Gs)) (h : SlO e (Rp.ptr T r) (.slice A L.length c) L G) (hj : L[j]? = some x) : ∃ p Gn Gr b off, A = some ⟨b, off, none⟩ ∧ cellsAt w b (off + j * 1) [.pointer (some ⟨p, 0, none⟩)] ∧ ObjO T r p x Gn ∧ SlH e (Rp.ptr T r) A c L j [.pointer (some ⟨p, 0, none⟩)] Gr ∧ St w0 K w (Gn :: Gr :: Gs) := by
  obtain ⟨cs, Gn, Gr, ⟨p, rfl, ho⟩, hH, S1⟩ := S.focusL h hj
  have hH' := hH
  obtain ⟨b, off, cur, xa, xb, Ga, Gb, e1, _⟩ := hH'
  exact ⟨p, Gn, Gr, b, off, e1, hH.cells (fun b o hb => S1.grp 1 rfl hb) e1, ho, hH, S1⟩
theorem St.shutP {Gn Gr : Grp} (S : St w0 K w (Gn :: Gr :: Gs)) (h : SlH e (Rp.ptr T r) A c L j [.pointer (some ⟨p, 0, none⟩)] Gr) (ho : ObjO T r p x Gn) : ∃ G', SlO e (Rp.ptr T r) (.slice A (L.set j x).length c) (L.set j x) G' ∧ St w0 K w (G' :: Gs) := S.shutL h ⟨p, rfl, ho⟩
end
end Go.Eng
namespace Go.Eng
section
variable {P : Program} {N : FN} {l : Fr} {w : World} {Q : Exit → Act → World → Prop}
theorem WEx.ret1c {n : Nat} {fn : Func} {R : Ending → World → Prop} {t u : Tmp} {T : TypeId} {b off : Nat} {cs : List Value} {x : Value} (hres : fn.results = #[.tmp u, .cell t T]) (hx : look l u = some x) (hv : look l t = some (.pointer (some ⟨b, off, none⟩))) (hT : isAggT P T cs.length = true) (hc : cellsAt w b off cs)
    (h : R (.returned (.tuple #[x, .agg cs.toArray])) w) : WEx ⟨n, []⟩ (bodyPost P fn R) .ret l w := fun a ha => by
  have h1 := (ha.at_ t _ hv).2
  have h2 := (ha.at_ u _ hx).2
  exact ⟨ha.defers, _, by simp [results, hres, h1, h2, run_loadAgg hT hc, asAddr], h⟩
end
end Go.Eng
