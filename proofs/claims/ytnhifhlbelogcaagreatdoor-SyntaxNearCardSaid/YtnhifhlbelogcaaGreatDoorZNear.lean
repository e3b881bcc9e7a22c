/- PROVED: SyntaxNear returns true for every source, every place and every other token. No condition beside the card's own. -/
import Derived.Test.YtnhifhlbelogcaaGreatDoorZSO
import Derived.Test.YtnhifhlbelogcaaGreatDoorZSN
namespace Go.Proofs.YtnhifhlbelogcaaGreatDoor
open Go Go.Eng Go.ChangeShapes Go.WideShapes Go.ChangeAt Go.RowKit
set_option linter.unusedVariables false
namespace SyntaxNearProof

set_option maxRecDepth 100000 in
theorem contract (H : Type) (enc : TypeId × Value → H) (W : World) (base : Nat) (args : Array Value) (ds gs : List (DataW H)) (before : List MemPlace)
    (hval0 : ∀ (j : Nat) t v, Tryz.f4.params[j]? = some t → args[j]? = some v → Value.okWide Tryz.prog W .any base t v)
    (hW : DataW.Whole enc Tryz.prog Tryz.f4.params.toList Rows.syntaxNearSpec.vars false W args.toList ds gs before) (hL : laidMetH Tryz.prog Rows.syntaxNearRow.laid W) (hsh : W.ShapedOpen Tryz.prog)
    (hre : (DataW.weightsEach Tryz.prog (Tryz.f4.params.toList ++ (OpenSpec.ofChange Rows.syntaxNearSpec).bare.plain.varTypes Tryz.prog) (ds ++ gs)).all (· ≤ reachBytes) = true) :
    Calls Tryz.prog 4 args W fun e W' => ∃ v, e = .returned v ∧ Rows.syntaxNearSpec.post enc Tryz.prog Tryz.f4 false true false false W args v W' := by
  have hval : ∀ (j : Nat) t v, Tryz.f4.params[j]? = some t → args[j]? = some v → Value.okWide Tryz.prog W .any base t v := hval0;have hW' := hW;have hlt : ∀ x ∈ before, x.block < W.heap.size := fun x hx => hW.lt x hx
  obtain ⟨p, q, hA0, hV, rfl, hfz, hnd⟩ := hW;have hA : DataW.TrodAll enc Tryz.prog W 0 (fun _ => true) true Tryz.f4.params.toList args.toList ds p := hA0;have hA1 := hA;have hts : Tryz.f4.params.toList.all (fun t => Tryz.prog.readableRec t && decide (t < Tryz.prog.types.size)) = true := by kernel_rfl
  rw [Tryz.params4] at hA hval hre;obtain ⟨v0, vs0, d0, ds0, p0, q0, hargs, rfl, rfl, h0, r0⟩ := trodAll_cons hA;obtain ⟨v1, vs1, d1, ds1, p1, q1, rfl, rfl, rfl, h1, r1⟩ := trodAll_cons r0;obtain ⟨v2, vs2, d2, ds2, p2, q2, rfl, rfl, rfl, h2, r2⟩ := trodAll_cons r1;obtain ⟨rfl, rfl, rfl⟩ := trodAll_nil r2;obtain rfl : args = #[v0, v1, v2] := by cases args; simp_all
  obtain ⟨rfl, rfl⟩ := trodVars_none hV;obtain ⟨hGl, hFG⟩ := globs (W := W) hL hsh;obtain ⟨b0, rfl, rfl, rfl, ws0⟩ := ChangeMaps.open_string Tryz.underlying9 (hval 0 9 v0 rfl rfl) h0;obtain ⟨l0, rfl⟩ := bs_ex b0;rw [bs_size] at ws0;obtain ⟨x1, rfl, i1, rfl, rfl⟩ := open_i64 Tryz.underlying3 (hval 1 3 v1 rfl rfl) h1;obtain ⟨b2, rfl, rfl, rfl, ws2⟩ := ChangeMaps.open_string Tryz.underlying9 (hval 2 9 v2 rfl rfl) h2;obtain ⟨l2, rfl⟩ := bs_ex b2;rw [bs_size] at ws2;have rb0 : l0.length ≤ reachBytes := of_decide_eq_true (List.all_eq_true.1 hre _ (List.mem_append_left _ (List.mem_singleton_self _)));have rb2 : l2.length ≤ reachBytes := of_decide_eq_true (List.all_eq_true.1 hre _ (List.mem_append_right _ (List.mem_append_right _ (List.mem_append_left _ (List.mem_singleton_self _)))));obtain ⟨k, hk⟩ := near_true l0 l2 x1 (Nat.le_trans rb0 (by decide)) (Nat.le_trans rb2 (by decide)) i1.1 (Int.lt_of_le_of_lt i1.2 (by decide));refine (law_Near_calls k l0 x1 l2 hGl hFG hk).mono fun e W' ⟨he, hS⟩ => ?_
  subst he;have hb : Below W.heap.size W W' := hS.toFalse.toBelow;simp only [List.append_nil] at hW' hA1 hlt;exact ⟨_, rfl, post_below (pv := []) hW' (fun _ _ _ => (trodAll_cons_mk (shut_bool Tryz.underlying4 _) trodAll_mk0)) (fun sp hsp => args_below laidOut hb hts hA1 hlt sp hsp) (fun _ _ => rfl) (by simp)
    hb (ok_one (by kernel_rfl) rfl (okWide_bool_mk Tryz.underlying4 _))⟩
theorem laid_met (os : Os) : laidMet Tryz.prog Rows.syntaxNearRow.laid ((laidWorld os).forCall (fun _ _ => 0) ⟨#[], #[.string ⟨#[]⟩, .int .i64 0, .string ⟨#[]⟩], []⟩).memory :=
  laidMet_of_run' 8 (by kernel_rfl) (by kernel_rfl)
theorem reads (os : Os) {H : Type} (enc : TypeId × Value → H) : ∃ places, DataW.whole enc Tryz.prog ((laidWorld os).forCall (fun _ _ => 0) ⟨#[], #[.string ⟨#[]⟩, .int .i64 0, .string ⟨#[]⟩], []⟩).memory Tryz.f4.params.toList Rows.syntaxNearSpec.vars false (#[.string ⟨#[]⟩, .int .i64 0, .string ⟨#[]⟩] : Array Value).toList 8 = some ([.lit (.string []), .lit (.int .i64 0), .lit (.string [])], [], places) :=
  ⟨[], by kernel_rfl⟩
set_option maxRecDepth 100000 in
theorem lifted (os : Os) (started : os.Started) (H : Type) (enc : TypeId × Value → H) (F : Stop.Interp) :
    ReturnsInHanded {} Tryz.checked os 4 .any ((OpenSpec.ofChange Rows.syntaxNearSpec).preRow enc Tryz.prog Tryz.f4 Rows.syntaxNearRow.domain false Rows.syntaxNearRow.laid) (((OpenSpec.ofChange Rows.syntaxNearSpec).at F).post enc Tryz.prog Tryz.f4 false true false false) := by
  obtain ⟨places, hx⟩ := reads os enc;refine returnsInHanded_of_row (C := Tryz.checked) (s := OpenSpec.ofChange Rows.syntaxNearSpec) own started (by kernel_rfl) Tryz.func4
    (witness_row_atRef (enc := enc) (C := Tryz.checked) false (laidWorld os) #[.string ⟨#[]⟩, .int .i64 0, .string ⟨#[]⟩] rfl (by kernel_rfl) (by kernel_rfl) (by kernel_rfl)
      (OpenSpec.preRow_of_cond 8 hx (by kernel_rfl) (fun k hk => by cases hk) (by kernel_rfl) (laid_met os))) ?_
  intro W base args ds gs before hval hW _ hcond hre hL hsh _;exact contract H enc W base args ds gs before hval hW hL hsh hre
theorem said : Rows.SyntaxNearSaid :=
  OpenClaim.holds_of_cond 4 Tryz.f4 rfl rfl rfl rfl rfl rfl rfl ⟨rfl, rfl, rfl, rfl, rfl⟩ rfl rfl rfl rfl rfl (by kernel_rfl) Tryz.func4 (by kernel_rfl)
    (of_decide_eq_true (by kernel_rfl)) (by unfold Func.isWrapper; first | (rw [if_pos (by decide +kernel)]; kernel_rfl) | (rw [if_neg (by decide +kernel)]; exact ⟨rfl, rfl⟩))
    (fun os started H enc _ F => by rw [OpenClaim.pre_eq_preRow]; exact lifted os started H enc F)
theorem plain (f : FuncId) (fn : Func) (hf : Tryz.pinned.checked.prog.funcNamed "callbox/callboxlaw04.SyntaxNear" = some f) (hfn : Tryz.pinned.checked.prog.funcs[f]? = some fn) :
    true = Tryz.pinned.checked.prog.looks [] ∧ ∀ (j : Nat) t, fn.params[j]? = some t → Tryz.pinned.checked.prog.wantsStandIn t = false := by
  obtain rfl : f = 4 := Option.some.inj ((show Tryz.prog.funcNamed "callbox/callboxlaw04.SyntaxNear" = some 4 by kernel_rfl).symm.trans hf) |>.symm;obtain rfl : fn = Tryz.f4 := (Option.some.inj (Tryz.func4.symm.trans hfn)).symm;refine ⟨by kernel_rfl, fun j t ht => ?_⟩;rw [Tryz.params4] at ht;have hm : t ∈ #[9, 3, 9] := Array.mem_of_getElem? ht;simp only [List.mem_toArray, List.mem_cons, List.not_mem_nil, or_false] at hm;rcases hm with rfl | rfl | rfl
  · exact (show Tryz.prog.wantsStandIn 9 = false by kernel_rfl)
  · exact (show Tryz.prog.wantsStandIn 3 = false by kernel_rfl)
  · exact (show Tryz.prog.wantsStandIn 9 = false by kernel_rfl)
end SyntaxNearProof
theorem syntaxNearProved : Rows.SyntaxNearCardSaid :=
  Claim7.holds_tied_plain_at .later [] _ _ _ _ SyntaxNearProof.said (fun _ h => by cases h) (by kernel_rfl) (fun _ h => by cases h) syntaxNear_row_tie rfl ⟨rfl, rfl⟩ (by kernel_rfl) rfl SyntaxNearProof.plain (by kernel_rfl)
#print axioms syntaxNearProved
end Go.Proofs.YtnhifhlbelogcaaGreatDoor
