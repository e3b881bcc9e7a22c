/- PROVED: SyntaxBack returns true for every tree and every source. No condition beside the card's own. -/
import Derived.Test.YtnhifhlbelogcaaDoorYBN
namespace Go.Proofs.YtnhifhlbelogcaaDoor
open Go Go.Eng Go.ChangeShapes Go.WideShapes Go.ChangeAt Go.RowKit
set_option linter.unusedVariables false
namespace SyntaxBackProof
set_option maxRecDepth 100000 in
theorem contract (H:Type) (enc:TypeId×Value→H) (W:World) (base:Nat) (args:Array Value) (ds gs:List (DataW H)) (before:List MemPlace)
 (C:∀ (j:Nat) t v,Tryd.f3.params[j]? = some t→args[j]? = some v→Value.okWide Tryd.prog W .any base t v)
 (hW:DataW.Whole enc Tryd.prog Tryd.f3.params.toList Rows.syntaxBackSpec.vars false W args.toList ds gs before) (hL:laidMetH Tryd.prog Rows.syntaxBackRow.laid W) (hsh:W.ShapedOpen Tryd.prog)
 (hre:(DataW.weightsEach Tryd.prog (Tryd.f3.params.toList++(OpenSpec.ofChange Rows.syntaxBackSpec).bare.plain.varTypes Tryd.prog) (ds++gs)).all (·≤reachBytes)=true) :
 Calls Tryd.prog 3 args W fun e W'=>∃ v,e = .returned v∧Rows.syntaxBackSpec.post enc Tryd.prog Tryd.f3 false true false false W args v W':=by
 have hval:∀ (j:Nat) t v,Tryd.f3.params[j]? = some t→args[j]? = some v→Value.okWide Tryd.prog W .any base t v:=C;have hW':=hW;have hlt:∀ x∈before,x.block < W.heap.size:=fun x hx=>hW.lt x hx
 obtain ⟨p,q,E,hV,rfl,hfz,hnd⟩:=hW;have hA:DataW.TrodAll enc Tryd.prog W 0 (fun _=>true) true Tryd.f3.params.toList args.toList ds p:=E;have D:=hA;have hts:Tryd.f3.params.toList.all (fun t=>Tryd.prog.readableRec t && decide (t < Tryd.prog.types.size))=true:=by kernel_rfl
 rw [Tryd.params3] at hA hval hre;obtain ⟨J,ak,ad,al,ap,aq,hargs,rfl,rfl,ae,af⟩:=trodAll_cons hA;obtain ⟨O,am,ar,an,au,ax,rfl,rfl,rfl,ag,ah⟩:=trodAll_cons af;obtain ⟨rfl,rfl,rfl⟩:=trodAll_nil ah;obtain rfl:args = #[J,O]:=by cases args;simp_all
 obtain ⟨rfl,rfl⟩:=trodVars_none hV;obtain ⟨hGl,hFG⟩:=globs (W:=W) hL hsh;have V:Light Tryd.prog 24 ad:=fun n hn=>of_decide_eq_true (List.all_eq_true.1 hre n (DataW.weights_mem_each (j:=0) rfl rfl n hn))
 obtain ⟨ai,ay,c0,X,rfl,Y⟩:=open_tree (hval 0 24 J rfl rfl) ae V;obtain ⟨aj,rfl,rfl,rfl,ao⟩:=ChangeMaps.open_string Tryd.underlying9 (hval 1 9 O rfl rfl) ag;obtain ⟨l1,rfl⟩:=bs_ex aj;have aa:(bs l1).data.toList.length≤reachBytes:=of_decide_eq_true (List.all_eq_true.1 hre _ (DataW.weights_mem_each (j:=1) rfl rfl _ (List.mem_singleton_self _)));have ab:l1.length≤reachBytes:=by simpa [bs] using aa
 obtain ⟨k,hk⟩:=back_true (s:=l1) X (Nat.le_trans ab (by decide));refine (law_Back_calls k ai l1 Y Old.nk hGl hFG hk).mono fun e W' ⟨he,hS⟩=>?_
 subst he;have hb:Below W.heap.size W W':=hS.toFalse.toBelow;simp only [List.append_nil] at hW' D hlt;exact ⟨_,rfl,post_below (pv:=[]) hW' (fun _ _ _=>(trodAll_cons_mk (shut_bool Tryd.underlying4 _) trodAll_mk0)) (fun sp hsp=>args_below laidOut hb hts D hlt sp hsp) (fun _ _=>rfl) (by simp)
  hb (ok_one (by kernel_rfl) rfl (okWide_bool_mk Tryd.underlying4 _))⟩
theorem laid_met (os:Os):laidMet Tryd.prog Rows.syntaxBackRow.laid ((laidWorld os).forCall (fun _ _=>0) ⟨#[],#[.agg #[.int .i64 0,.string ⟨#[]⟩,.int .i64 0,.int .i64 0,.slice none 0 0],.string ⟨#[]⟩],[]⟩).memory :=
 laidMet_of_run' 8 (by kernel_rfl) (by kernel_rfl)
theorem reads (os:Os) {H:Type} (enc:TypeId×Value→H):∃ places,DataW.whole enc Tryd.prog ((laidWorld os).forCall (fun _ _=>0) ⟨#[],#[.agg #[.int .i64 0,.string ⟨#[]⟩,.int .i64 0,.int .i64 0,.slice none 0 0],.string ⟨#[]⟩],[]⟩).memory Tryd.f3.params.toList Rows.syntaxBackSpec.vars false (#[.agg #[.int .i64 0,.string ⟨#[]⟩,.int .i64 0,.int .i64 0,.slice none 0 0],.string ⟨#[]⟩]:Array Value).toList 8=some ([.agg [.lit (.int .i64 0),.lit (.string []),.lit (.int .i64 0),.lit (.int .i64 0),.nil],.lit (.string [])],[],places) :=
 ⟨[],by kernel_rfl⟩
set_option maxRecDepth 100000 in
theorem lifted (os:Os) (started:os.Started) (H:Type) (enc:TypeId×Value→H) (F:Stop.Interp) :
 ReturnsInHanded {} Tryd.checked os 3 .any ((OpenSpec.ofChange Rows.syntaxBackSpec).preRow enc Tryd.prog Tryd.f3 Rows.syntaxBackRow.domain false Rows.syntaxBackRow.laid) (((OpenSpec.ofChange Rows.syntaxBackSpec).at F).post enc Tryd.prog Tryd.f3 false true false false):=by
 obtain ⟨places,hx⟩:=reads os enc;refine returnsInHanded_of_row (C:=Tryd.checked) (s:=OpenSpec.ofChange Rows.syntaxBackSpec) own started (by kernel_rfl) Tryd.func3
  (witness_row_atRef (enc:=enc) (C:=Tryd.checked) false (laidWorld os) #[.agg #[.int .i64 0,.string ⟨#[]⟩,.int .i64 0,.int .i64 0,.slice none 0 0],.string ⟨#[]⟩] rfl (by kernel_rfl) (by kernel_rfl) (by kernel_rfl)
   (OpenSpec.preRow_of_cond 8 hx (by kernel_rfl) (fun k hk=>by cases hk) (by kernel_rfl) (laid_met os))) ?_
 intro W base args ds gs before hval hW _ hcond hre hL hsh _;exact contract H enc W base args ds gs before hval hW hL hsh hre
theorem said:Rows.SyntaxBackSaid :=
 OpenClaim.holds_of_cond 3 Tryd.f3 rfl rfl rfl rfl rfl rfl rfl ⟨rfl,rfl,rfl,rfl,rfl⟩ rfl rfl rfl rfl rfl (by kernel_rfl) Tryd.func3 (by kernel_rfl)
  (of_decide_eq_true (by kernel_rfl)) (by unfold Func.isWrapper;first | (rw [if_pos (by decide +kernel)];kernel_rfl) | (rw [if_neg (by decide +kernel)];exact ⟨rfl,rfl⟩))
  (fun os started H enc _ F=>by rw [OpenClaim.pre_eq_preRow];exact lifted os started H enc F)
theorem plain (f : FuncId) (fn : Func) (hf : Tryd.pinned.checked.prog.funcNamed "callbox/callboxlaw04.SyntaxBack" = some f) (hfn : Tryd.pinned.checked.prog.funcs[f]? = some fn) :
 true=Tryd.pinned.checked.prog.looks []∧∀ (j:Nat) t,fn.params[j]? = some t→Tryd.pinned.checked.prog.wantsStandIn t=false:=by
 obtain rfl : f = 3 := Option.some.inj ((show Tryd.prog.funcNamed "callbox/callboxlaw04.SyntaxBack" = some 3 by kernel_rfl).symm.trans hf) |>.symm;obtain rfl : fn = Tryd.f3 := (Option.some.inj (Tryd.func3.symm.trans hfn)).symm;refine ⟨by kernel_rfl, fun j t ht => ?_⟩;rw [Tryd.params3] at ht;have hm : t ∈ #[24, 9] := Array.mem_of_getElem? ht;simp only [List.mem_toArray, List.mem_cons, List.not_mem_nil, or_false] at hm;rcases hm with rfl | rfl
 · exact (show Tryd.prog.wantsStandIn 24=false by kernel_rfl)
 · exact (show Tryd.prog.wantsStandIn 9=false by kernel_rfl)
end SyntaxBackProof
theorem syntaxBackProved:Rows.SyntaxBackCardSaid :=
 Claim7.holds_tied_plain_at .later [] _ _ _ _ SyntaxBackProof.said (fun _ h=>by cases h) (by kernel_rfl) (fun _ h=>by cases h) syntaxBack_row_tie rfl ⟨rfl,rfl⟩ (by kernel_rfl) rfl SyntaxBackProof.plain (by kernel_rfl)
#print axioms syntaxBackProved
end Go.Proofs.YtnhifhlbelogcaaDoor
