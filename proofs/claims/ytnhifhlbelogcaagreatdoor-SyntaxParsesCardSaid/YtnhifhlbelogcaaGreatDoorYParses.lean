/- PROVED: SyntaxParses returns true for every source and every other source. No condition beside the card's own. -/
import Derived.Test.YtnhifhlbelogcaaGreatDoorYSO
import Derived.Test.YtnhifhlbelogcaaGreatDoorYAS
namespace Go.Proofs.YtnhifhlbelogcaaGreatDoor
open Go Go.Eng Go.ChangeShapes Go.WideShapes Go.ChangeAt Go.RowKit
set_option linter.unusedVariables false
namespace SyntaxParsesProof
set_option maxRecDepth 100000 in
theorem contract (H:Type) (enc:TypeId×Value→H) (W:World) (base:Nat) (args:Array Value) (ds gs:List (DataW H)) (before:List MemPlace)
 (C:∀ (j:Nat) t v,Tryz.f3.params[j]? = some t→args[j]? = some v→Value.okWide Tryz.prog W .any base t v)
 (hW:DataW.Whole enc Tryz.prog Tryz.f3.params.toList Rows.syntaxParsesSpec.vars false W args.toList ds gs before) (hL:laidMetH Tryz.prog Rows.syntaxParsesRow.laid W) (hsh:W.ShapedOpen Tryz.prog)
 (hre:(DataW.weightsEach Tryz.prog (Tryz.f3.params.toList++(OpenSpec.ofChange Rows.syntaxParsesSpec).bare.plain.varTypes Tryz.prog) (ds++gs)).all (·≤reachBytes)=true) :
 Calls Tryz.prog 3 args W fun e W'=>∃ v,e = .returned v∧Rows.syntaxParsesSpec.post enc Tryz.prog Tryz.f3 false true false false W args v W':=by
 have hval:∀ (j:Nat) t v,Tryz.f3.params[j]? = some t→args[j]? = some v→Value.okWide Tryz.prog W .any base t v:=C;have hW':=hW;have hlt:∀ x∈before,x.block < W.heap.size:=fun x hx=>hW.lt x hx
 obtain ⟨p,q,E,hV,rfl,hfz,hnd⟩:=hW;have hA:DataW.TrodAll enc Tryz.prog W 0 (fun _=>true) true Tryz.f3.params.toList args.toList ds p:=E;have D:=hA;have hts:Tryz.f3.params.toList.all (fun t=>Tryz.prog.readableRec t && decide (t < Tryz.prog.types.size))=true:=by kernel_rfl
 rw [Tryz.params3] at hA hval hre;obtain ⟨J,ai,am,aj,an,ao,hargs,rfl,rfl,ab,ad⟩:=trodAll_cons hA;obtain ⟨O,ak,ap,al,aq,ar,rfl,rfl,rfl,ae,af⟩:=trodAll_cons ad;obtain ⟨rfl,rfl,rfl⟩:=trodAll_nil af;obtain rfl:args = #[J,O]:=by cases args;simp_all
 obtain ⟨rfl,rfl⟩:=trodVars_none hV;obtain ⟨hGl,hFG⟩:=globs (W:=W) hL hsh;obtain ⟨ag,rfl,rfl,rfl,V⟩:=ChangeMaps.open_string Tryz.underlying9 (hval 0 9 J rfl rfl) ab;obtain ⟨X,rfl⟩:=bs_ex ag;rw [bs_size] at V;obtain ⟨ah,rfl,rfl,rfl,Y⟩:=ChangeMaps.open_string Tryz.underlying9 (hval 1 9 O rfl rfl) ae;obtain ⟨l1,rfl⟩:=bs_ex ah;rw [bs_size] at Y;have Z:X.length≤reachBytes:=of_decide_eq_true (List.all_eq_true.1 hre _ (List.mem_append_left _ (List.mem_singleton_self _)));have aa:l1.length≤reachBytes:=of_decide_eq_true (List.all_eq_true.1 hre _ (List.mem_append_right _ (List.mem_append_left _ (List.mem_singleton_self _))));refine (law_Parses_calls X l1 (Nat.le_trans Z (by decide)) (Nat.le_trans aa (by decide)) hGl hFG).mono fun e W' ⟨he,hS⟩=>?_
 subst he;have hb:Below W.heap.size W W':=hS.toFalse.toBelow;simp only [List.append_nil] at hW' D hlt;exact ⟨_,rfl,post_below (pv:=[]) hW' (fun _ _ _=>(trodAll_cons_mk (shut_bool Tryz.underlying4 _) trodAll_mk0)) (fun sp hsp=>args_below laidOut hb hts D hlt sp hsp) (fun _ _=>rfl) (by simp)
  hb (ok_one (by kernel_rfl) rfl (okWide_bool_mk Tryz.underlying4 _))⟩
theorem laid_met (os:Os):laidMet Tryz.prog Rows.syntaxParsesRow.laid ((laidWorld os).forCall (fun _ _=>0) ⟨#[],#[.string ⟨#[]⟩,.string ⟨#[]⟩],[]⟩).memory :=
 laidMet_of_run' 8 (by kernel_rfl) (by kernel_rfl)
theorem reads (os:Os) {H:Type} (enc:TypeId×Value→H):∃ places,DataW.whole enc Tryz.prog ((laidWorld os).forCall (fun _ _=>0) ⟨#[],#[.string ⟨#[]⟩,.string ⟨#[]⟩],[]⟩).memory Tryz.f3.params.toList Rows.syntaxParsesSpec.vars false (#[.string ⟨#[]⟩,.string ⟨#[]⟩]:Array Value).toList 8=some ([.lit (.string []),.lit (.string [])],[],places) :=
 ⟨[],by kernel_rfl⟩
set_option maxRecDepth 100000 in
theorem lifted (os:Os) (started:os.Started) (H:Type) (enc:TypeId×Value→H) (F:Stop.Interp) :
 ReturnsInHanded {} Tryz.checked os 3 .any ((OpenSpec.ofChange Rows.syntaxParsesSpec).preRow enc Tryz.prog Tryz.f3 Rows.syntaxParsesRow.domain false Rows.syntaxParsesRow.laid) (((OpenSpec.ofChange Rows.syntaxParsesSpec).at F).post enc Tryz.prog Tryz.f3 false true false false):=by
 obtain ⟨places,hx⟩:=reads os enc;refine returnsInHanded_of_row (C:=Tryz.checked) (s:=OpenSpec.ofChange Rows.syntaxParsesSpec) own started (by kernel_rfl) Tryz.func3
  (witness_row_atRef (enc:=enc) (C:=Tryz.checked) false (laidWorld os) #[.string ⟨#[]⟩,.string ⟨#[]⟩] rfl (by kernel_rfl) (by kernel_rfl) (by kernel_rfl)
   (OpenSpec.preRow_of_cond 8 hx (by kernel_rfl) (fun k hk=>by cases hk) (by kernel_rfl) (laid_met os))) ?_
 intro W base args ds gs before hval hW _ hcond hre hL hsh _;exact contract H enc W base args ds gs before hval hW hL hsh hre
theorem said:Rows.SyntaxParsesSaid :=
 OpenClaim.holds_of_cond 3 Tryz.f3 rfl rfl rfl rfl rfl rfl rfl ⟨rfl,rfl,rfl,rfl,rfl⟩ rfl rfl rfl rfl rfl (by kernel_rfl) Tryz.func3 (by kernel_rfl)
  (of_decide_eq_true (by kernel_rfl)) (by unfold Func.isWrapper;first | (rw [if_pos (by decide +kernel)];kernel_rfl) | (rw [if_neg (by decide +kernel)];exact ⟨rfl,rfl⟩))
  (fun os started H enc _ F=>by rw [OpenClaim.pre_eq_preRow];exact lifted os started H enc F)
theorem plain (f : FuncId) (fn : Func) (hf : Tryz.pinned.checked.prog.funcNamed "callbox/callboxlaw04.SyntaxParses" = some f) (hfn : Tryz.pinned.checked.prog.funcs[f]? = some fn) :
 true=Tryz.pinned.checked.prog.looks []∧∀ (j:Nat) t,fn.params[j]? = some t→Tryz.pinned.checked.prog.wantsStandIn t=false:=by
 obtain rfl : f = 3 := Option.some.inj ((show Tryz.prog.funcNamed "callbox/callboxlaw04.SyntaxParses" = some 3 by kernel_rfl).symm.trans hf) |>.symm;obtain rfl : fn = Tryz.f3 := (Option.some.inj (Tryz.func3.symm.trans hfn)).symm;refine ⟨by kernel_rfl, fun j t ht => ?_⟩;rw [Tryz.params3] at ht;have hm : t ∈ #[9, 9] := Array.mem_of_getElem? ht;simp only [List.mem_toArray, List.mem_cons, List.not_mem_nil, or_false] at hm;rcases hm with rfl | rfl
 · exact (show Tryz.prog.wantsStandIn 9=false by kernel_rfl)
 · exact (show Tryz.prog.wantsStandIn 9=false by kernel_rfl)
end SyntaxParsesProof
theorem syntaxParsesProved:Rows.SyntaxParsesCardSaid :=
 Claim7.holds_tied_plain_at .later [] _ _ _ _ SyntaxParsesProof.said (fun _ h=>by cases h) (by kernel_rfl) (fun _ h=>by cases h) syntaxParses_row_tie rfl ⟨rfl,rfl⟩ (by kernel_rfl) rfl SyntaxParsesProof.plain (by kernel_rfl)
#print axioms syntaxParsesProved
end Go.Proofs.YtnhifhlbelogcaaGreatDoor
