/- PROVED: CacheRooms returns true for every two numbers and every script, and these read as they did, where these hold at most 1048576 values and letters together. -/
import Derived.Test.YtpdpfiaediadgaaRows
import Derived.JoinedCond
import Derived.Test.YtpdpfiaediadgaaRO
namespace Go.Proofs.Ytpdpfiaediadgaa
open Go Go.Eng Go.ChangeShapes Go.WideShapes Go.ChangeAt Go.RowKit
set_option linter.unusedVariables false
namespace CacheRoomsProof
set_option maxRecDepth 100000 in
theorem lifted (os : Os) (started : os.Started) (H : Type) (enc : TypeId × Value → H) (F : Stop.Interp) :
    ReturnsInHanded {} Try.checked os 5 .any ((Rows.OpenSpec.upto Rows.cacheRoomsSpec).pre6 enc Try.prog Try.f5 Rows.cacheRoomsUptoRow.domain false) (((Rows.OpenSpec.upto Rows.cacheRoomsSpec).at F).post enc Try.prog Try.f5 false true false false) := by
  refine returnsInHanded_of_cond (C := Try.checked) (s := Rows.OpenSpec.upto Rows.cacheRoomsSpec) (k := Rows.uptoSmall) rfl own started (by kernel_rfl) Try.func5
    (OpenSpec.witness (enc := enc) (C := Try.checked) (s := Rows.OpenSpec.upto Rows.cacheRoomsSpec) (k := Rows.uptoSmall) rfl false ⟨#[], #[.int .i64 0, .int .i64 0, .slice none 0 0], []⟩ 8 (by kernel_rfl) (by kernel_rfl) (by kernel_rfl)
      (x := ([.lit (.int .i64 0), .lit (.int .i64 0), .nil], [], [])) (by kernel_rfl) rfl (by kernel_rfl)) ?_
  intro W base args ds gs before hval0 hW hcnd hk _
  have hval : ∀ (j : Nat) t v, Try.f5.params[j]? = some t → args[j]? = some v → Value.okWide Try.prog W .any base t v := hval0
  have hW' := hW
  have hlt : ∀ x ∈ before, x.block < W.heap.size := fun x hx => hW.lt x hx
  obtain ⟨p, q, hA0, hV, rfl, hfz, hnd⟩ := hW
  have hA : DataW.TrodAll enc Try.prog W 0 (fun _ => true) true Try.f5.params.toList args.toList ds p := hA0
  have hA1 := hA
  have hts : Try.f5.params.toList.all (fun t => Try.prog.readableRec t && decide (t < Try.prog.types.size)) = true := by kernel_rfl
  rw [Try.params5] at hA hval
  obtain ⟨v0, vs0, d0, ds0, p0, q0, hargs, rfl, rfl, h0, r0⟩ := trodAll_cons hA
  obtain ⟨v1, vs1, d1, ds1, p1, q1, rfl, rfl, rfl, h1, r1⟩ := trodAll_cons r0
  obtain ⟨v2, vs2, d2, ds2, p2, q2, rfl, rfl, rfl, h2, r2⟩ := trodAll_cons r1
  obtain ⟨rfl, rfl, rfl⟩ := trodAll_nil r2
  obtain rfl : args = #[v0, v1, v2] := by cases args; simp_all
  obtain ⟨rfl, rfl⟩ := trodVars_none hV
  have hbk := bulk_bound hk
  try simp only [List.append_nil] at hbk
  have hb2 := bulk_part (H := H) (l := [d0, d1, d2]) (d := d2) (by simp)
  try simp only [List.append_nil] at hb2 hbk
  obtain ⟨x0, rfl, i0⟩ := open_i64 Try.underlying3 (hval 0 3 v0 rfl rfl) h0
  obtain ⟨x1, rfl, i1⟩ := open_i64 Try.underlying3 (hval 1 3 v1 rfl rfl) h1
  obtain ⟨A, cp, L, rfl, hR, hok, hlen⟩ := open_sents (hval 2 47 v2 rfl rfl) h2 (Nat.le_trans hb2 hbk)
  refine (law_rooms hR i0 i1 hok hlen).mono fun e W' ⟨he, hS⟩ => ?_
  subst he
  have hb : Below W.heap.size W W' := hS.toBelow
  simp only [List.append_nil] at hW' hA1 hlt
  exact ⟨_, rfl, post_below (pv := []) hW' (fun _ _ _ => (trodAll_cons_mk (shut_bool Try.underlying4 _) trodAll_mk0)) (fun sp hsp => args_below laid hb hts hA1 hlt sp hsp) (fun _ _ => rfl) (by simp)
    hb (ok_one (by kernel_rfl) rfl (okWide_bool_mk Try.underlying4 _))⟩
theorem over : Rows.cacheRoomsUptoRow.holds Try.pinned (Rows.OpenSpec.upto Rows.cacheRoomsSpec) :=
  OpenClaim.holds_of_cond 5 Try.f5 rfl rfl rfl rfl rfl rfl rfl ⟨rfl, rfl, rfl, rfl, rfl⟩ rfl rfl rfl rfl rfl (by kernel_rfl) Try.func5 (by kernel_rfl)
    (of_decide_eq_true (by kernel_rfl)) (by unfold Func.isWrapper; first | (rw [if_pos (by decide +kernel)]; kernel_rfl) | (rw [if_neg (by decide +kernel)]; exact ⟨rfl, rfl⟩))
    (fun os started H enc _ F => lifted os started H enc F)
end CacheRoomsProof
theorem cacheRoomsProved : Rows.CacheRoomsUptoSaid := CacheRoomsProof.over
#print axioms cacheRoomsProved
end Go.Proofs.Ytpdpfiaediadgaa
