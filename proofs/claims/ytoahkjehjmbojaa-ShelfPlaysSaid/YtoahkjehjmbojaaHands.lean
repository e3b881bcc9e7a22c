/- Slices and pointers that are only handed on; what holds for every block. -/
import Derived.LaidEql
import Derived.ChangeKeysEq
import Derived.Test.YtoahkjehjmbojaaHoles
set_option linter.unusedVariables false
namespace Go.Eng
open Go
/-- A slice, a pointer: as they are. -/
abbrev Hs := Option Addr × Nat × Nat
def Rp.hs : Rp Hs := .plain (fun h => [.slice h.1 h.2.1 h.2.2]) 1 (fun _ => rfl) (fun _ => rfl)
def Rp.hp : Rp (Option Addr) := .plain (fun p => [.pointer p]) 1 (fun _ => rfl) (fun _ => rfl)
theorem hs_ev {l : Fr} {x : Operand} {h h' : Hs} (e : h = h') (hx : ev l x = some (.slice h.1 h.2.1 h.2.2)) : ev l x = some (.slice h'.1 h'.2.1 h'.2.2) := e ▸ hx
theorem hp_ev {l : Fr} {x : Operand} {h h' : Option Addr} (e : h = h') (hx : ev l x = some (.pointer h)) : ev l x = some (.pointer h') := e ▸ hx
open Classical in
noncomputable def allB (F : Nat → Option Bool) : Option Bool := if ∀ b, F b = some true then some true else none
theorem allB_spec {F : Nat → Option Bool} {r : Bool} (h : allB F = some r) (b : Nat) : F b = some r := by
  unfold allB at h
  split at h
  · rename_i h1
    cases h
    exact h1 b
  · cases h
theorem allB_true {F : Nat → Option Bool} (h : ∀ b, F b = some true) : allB F = some true := by unfold allB; rw [if_pos h]
section
variable {P : Program} {N : FN} {l : Fr} {dst : Option Tmp} {ty : TypeId} {pos : String} {aft : Array Edge} {g : Option (Nat × Bool)} {t u e : TypeId} {x y : Operand}
theorem run_equalIn_same (w : World) (d : Nat) {a : Addr} {n : Nat} (hu : P.underlying t = some (.pointer e)) (hs : sizeT P e = some n) (h0 : ¬ n = 0) : (Op.equalIn (d + 1) t (.pointer (some a)) (.pointer (some a))).run P w = .ok true w := by
  simp [Op.equalIn, run_underlying hu, sizeT_run hs, run_sameAddr_same, h0]
theorem G.eqp_same {a : Addr} {n : Nat} (hu : P.underlying t = some (.pointer e)) (hs : sizeT P e = some n) (h0 : ¬ n = 0) (hx : ev l x = some (.pointer (some a))) (hy : ev l y = some (.pointer (some a))) : GP P N l ⟨dst, .binOp .eql t x y u, ty, pos, aft, g⟩ (.bool true) :=
  G.bin hx hy (fun w => by rw [eqGuard_at_pointer]; rfl) fun w => by
    have h1 : (Op.equal t (.pointer (some a)) (.pointer (some a))).run P w = .ok true w := run_equalIn_same w 9999 hu hs h0
    simp only [binOp]
    simp [h1]
end
end Go.Eng
