/- PROVED: AirPlays returns true for every script, and it reads as it did. No condition. -/
import Derived.Test.YtoahkjehjmbojaaRows
import Derived.Test.YtoahkjehjmbojaaAO
namespace Go.Proofs.Ytoahkjehjmbojaa
open Go Go.Eng Go.ChangeShapes Go.WideShapes Go.ChangeAt Go.RowKit
set_option linter.unusedVariables false
namespace AirPlaysProof
set_option maxRecDepth 100000 in
theorem lifted (os : Os) (started : os.Started) (H : Type) (enc : TypeId × Value → H) :
    ReturnsInHanded {} Try.checked os 3 .any (Rows.airPlaysSpec.pre6 enc Try.prog Try.f3 Rows.airPlaysRow.domain false) (Rows.airPlaysSpec.post enc Try.prog Try.f3 false true false false) := by
  refine returnsInHanded_of_change_sized (C := Try.checked) own started (by kernel_rfl) Try.func3
    (ChangeSpec.witness6 (enc := enc) (C := Try.checked) false ⟨#[], #[.slice none 0 0], []⟩ 8 (by kernel_rfl) (by kernel_rfl) (by kernel_rfl) (by kernel_rfl)) ?_
  intro W base args ds gs before hval0 hW hcnd hre _
  have hval : ∀ (j : Nat) t v, Try.f3.params[j]? = some t → args[j]? = some v → Value.okWide Try.prog W .any base t v := hval0
  have hW' := hW
  have hlt : ∀ x ∈ before, x.block < W.heap.size := fun x hx => hW.lt x hx
  obtain ⟨p, q, hA0, hV, rfl, hfz, hnd⟩ := hW
  have hA : DataW.TrodAll enc Try.prog W 0 (fun _ => true) true Try.f3.params.toList args.toList ds p := hA0
  have hA1 := hA
  have hts : Try.f3.params.toList.all (fun t => Try.prog.readableRec t && decide (t < Try.prog.types.size)) = true := by kernel_rfl
  rw [Try.params3] at hA hval
  obtain ⟨v0, vs0, d0, ds0, p0, q0, hargs, rfl, rfl, h0, r0⟩ := trodAll_cons hA
  obtain ⟨rfl, rfl, rfl⟩ := trodAll_nil r0
  obtain rfl : args = #[v0] := by cases args; simp_all
  obtain ⟨rfl, rfl⟩ := trodVars_none hV
  have hLt : ∀ n ∈ DataW.weightsEach Try.prog (Try.f3.params.toList ++ []) _, n ≤ reachBytes := fun n hn => of_decide_eq_true (List.all_eq_true.1 hre n hn)
  have hl0 : Light Try.prog 22 d0 := fun n hn => hLt n (DataW.weights_mem_each (j := 0) rfl rfl n hn)
  obtain ⟨A, cp, L, rfl, hR, hok, hlen⟩ := open_air (hval 0 22 v0 rfl rfl) h0 hl0
  refine (law_air hR hok hlen).mono fun e W' ⟨he, hS⟩ => ?_
  subst he
  have hb : Below W.heap.size W W' := hS.toBelow
  simp only [List.append_nil] at hW' hA1 hlt
  exact ⟨_, rfl, post_below (pv := []) hW' (fun _ _ _ => (trodAll_cons_mk (shut_bool Try.underlying4 _) trodAll_mk0)) (fun sp hsp => args_below laid hb hts hA1 hlt sp hsp) (fun _ _ => rfl) (by simp)
    hb (ok_one (by kernel_rfl) rfl (okWide_bool_mk Try.underlying4 _))⟩
theorem over : Rows.airPlaysRow.holds Try.pinned (OpenSpec.ofChange Rows.airPlaysSpec) :=
  OpenClaim.holds_of_wide 3 Try.f3 rfl rfl rfl rfl rfl rfl rfl ⟨rfl, rfl, rfl, rfl, rfl⟩ rfl rfl rfl rfl rfl (by kernel_rfl) Try.func3 (by kernel_rfl)
    (of_decide_eq_true (by kernel_rfl)) (by unfold Func.isWrapper; first | (rw [if_pos (by decide +kernel)]; kernel_rfl) | (rw [if_neg (by decide +kernel)]; exact ⟨rfl, rfl⟩))
    (fun os started H enc _ => lifted os started H enc)
end AirPlaysProof
theorem airPlaysProved : Rows.AirPlaysSaid := AirPlaysProof.over
#print axioms airPlaysProved
end Go.Proofs.Ytoahkjehjmbojaa
