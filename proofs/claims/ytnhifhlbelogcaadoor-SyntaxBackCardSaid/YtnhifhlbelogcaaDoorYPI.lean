/- syntax.Parse: walked by hand over the walks of what it calls. -/
import Derived.Test.YtnhifhlbelogcaaDoorYPH
set_option linter.unusedVariables false
set_option linter.unusedSimpArgs false
namespace Go.Proofs.YtnhifhlbelogcaaDoor
open Go Go.Eng
theorem U.call12:Callable Tryd.prog 12:=Callable.mk Tryd.func12 (by kernel_rfl) (by kernel_rfl)
theorem U.call14:Callable Tryd.prog 14:=Callable.mk Tryd.func14 (by kernel_rfl) (by kernel_rfl)
theorem U.call15:Callable Tryd.prog 15:=Callable.mk Tryd.func15 (by kernel_rfl) (by kernel_rfl)
theorem U.zero29:zeroOf Tryd.prog 24=some (.agg noTree.toArray):=by kernel_rfl
theorem U.zero30:zeroOf Tryd.prog 29=some (.int .i64 0):=by kernel_rfl
theorem U.zero3:zeroOf Tryd.prog 3=some (.int .i64 0):=by kernel_rfl
theorem U.agg29:isAggT Tryd.prog 24 5=true:=by kernel_rfl
def faultOf:Value→Option (Int×Int)
 | .iface T (.agg cs)=>match T,cs.toList with
  | 51,[.int .i64 e,.int .i64 a]=>some (e,a)
  | _,_=>none
 | _=>none
theorem faultOf_spec {v:Value} {f:Int×Int} (h:faultOf v=some f):v=faultV f.1 f.2:=by
 unfold faultOf at h
 split at h
 · rename_i T cs
   split at h
   · rename_i e a hcs
     cases h
     show Value.iface 51 (.agg cs)=_
     have:cs = #[.int .i64 e,.int .i64 a]:=by
      have:=congrArg List.toArray hcs
      simpa using this
     rw [this]
   · cases h
 · cases h
def ps_Parse (k:Nat) (q:List UInt8):Option (Tree×Int×Int) :=
 Option.bind (lx_Scan k q) fun t=>if t.2.1=0 then Option.bind (ps_source k (⟨t.1,0,0⟩:ParK)) fun r=>(if (r.1).isSome=true then Option.bind (r.1) fun v=>Option.bind (faultOf v) fun f=>some ((⟨0,[],0,0,[]⟩:Tree),f.1,f.2) else some (r.2.1,0,0)) else some ((⟨0,[],0,0,[]⟩:Tree),t.2.1,t.2.2)
theorem results9 {w:World} {N:FN} {l:Fr} {b2 b3 b4:Nat} {cs:List Value} {x y:Int} (q:Go.Eng.look l 2=some (.pointer (some ⟨b2,0,none⟩))) (C:Go.Eng.look l 3=some (.pointer (some ⟨b3,0,none⟩))) (D:Go.Eng.look l 4=some (.pointer (some ⟨b4,0,none⟩)))
 (hl:cs.length=5) (c2:cellsAt w b2 0 cs) (c3:w.heap[b3]? = some (.cells #[.int .i64 x] 29 (0,0))) (c4:w.heap[b4]? = some (.cells #[.int .i64 y] 3 (0,0))) :
 ∀ a,Has N l a→(results Tryd.f10 a.tmps).run Tryd.prog w = .ok (.tuple #[.agg cs.toArray,.int .i64 x,.int .i64 y]) w:=fun a ha=>by
 have hres:Tryd.f10.results = #[.cell 2 24,.cell 3 29,.cell 4 3]:=rfl;have E:=run_loadAgg (P:=Tryd.prog) (t:=24) (b:=b2) (off:=0) (cs:=cs) (by rw [hl];exact U.agg29) c2;have J:=(by simp [loadVar,isOne_run U.one30,cell_blk c3 (off:=0) rfl]:(loadVar 29 ⟨b3,0,none⟩).run Tryd.prog w = .ok (.int .i64 x) w);have O:=(by simp [loadVar,isOne_run U.one3,cell_blk c4 (off:=0) rfl]:(loadVar 3 ⟨b4,0,none⟩).run Tryd.prog w = .ok (.int .i64 y) w);unfold results;rw [hres]
 simp [(ha.at_ _ _ q).2,(ha.at_ _ _ C).2,(ha.at_ _ _ D).2,asAddr,E,J,O]
set_option maxRecDepth 100000 in
set_option maxHeartbeats 1000000 in
theorem ps_Parse_calls (k:Nat) (ak:List UInt8) {FG:Nat→Prop} {w:World} (hGl:Glob FG w) (hFG:∀ b,FG b→NK w [] b) {r_:Tree×Int×Int} (h_:ps_Parse k ak=some r_) :
 Calls Tryd.prog 10 [.string (bs ak)].toArray w fun e w'=>∃ V:Option Addr,∃ X:Nat,∃ Y:Grp,e = .returned (.tuple #[.agg #[.int .i64 r_.1.Kind,.string (bs r_.1.Name),.int .i64 r_.1.Number,.int .i64 r_.1.At,.slice V (r_.1.Kids).length X],.int .i64 r_.2.1,.int .i64 r_.2.2])∧SlO 24 Tree.rp (.slice V (r_.1.Kids).length X) (r_.1.Kids) Y∧St w (KS []) w' [Y]:=by
 have hF:=h_;clear h_;unfold ps_Parse at hF;obtain ⟨t,hc,hF⟩:=bind_some hF;have S:=St.ofFalse (As:=[]) (St.init0 w);refine enterD 24 [(0,.string (bs ak))] Tryd.func10 rfl rfl rfl rfl ?_;refine WCode.seq ?_;refine WCode.region ?_;obtain ⟨b2,w1,aD,aE,aW,aX⟩:=St.var S U.zero29;refine WOps.e aD rfl ?_;obtain ⟨b3,aY,aF,aG,aZ,a0⟩:=St.var aE U.zero30;refine WOps.e aF rfl ?_;obtain ⟨b4,a1,aH,al,a2,a3⟩:=St.var aG U.zero3;refine WOps.e aH rfl ?_;refine WOps.nil ?_;refine WEx.then_ ?_;refine WCode.seq ?_;refine WCode.region ?_;refine WOps.p (G.move rfl) rfl ?_;change St _ _ _ [[(b4,.cells #[.int .i64 0] 3 (0,0))],[(b3,.cells #[.int .i64 0] 29 (0,0))],[(b2,.cells noTree.toArray 24 (0,0))]] at al;refine WOps.call U.call12 (evs_cons rfl evs_nil) rfl ?_;refine (lx_Scan_calls k ak (hGl.ext (al.keepF hFG)) (St.outF (Bs:=[]) al hFG) hc).mono ?_;rintro _ a4 ⟨E,J,D,rfl,ap,aI⟩;refine ⟨_,rfl,?_⟩;have aq:=St.callN (As:=[]) al aI;change St _ _ _ [D,[(b4,.cells #[.int .i64 0] 3 (0,0))],[(b3,.cells #[.int .i64 0] 29 (0,0))],[(b2,.cells noTree.toArray 24 (0,0))]] at aq;refine WOps.p (G.move rfl) rfl ?_;refine WOps.p (G.extract rfl rfl) rfl ?_;refine WOps.p (G.extract rfl rfl) rfl ?_;refine WOps.p (G.extract rfl rfl) rfl ?_;refine WOps.p (G.assign rfl) rfl ?_;obtain ⟨a5,aJ,aK⟩:=St.store (P:=Tryd.prog) aq 2 29 (.int .i64 t.2.1) (off:=0) (cur':=#[.int .i64 t.2.1]) rfl U.size30_1 rfl rfl rfl;refine WOps.u (aJ rfl rfl) ?_;obtain ⟨aL,aM,am⟩:=St.store (P:=Tryd.prog) aK 1 3 (.int .i64 t.2.2) (off:=0) (cur':=#[.int .i64 t.2.2]) rfl U.size3_1 rfl rfl rfl;refine WOps.u (aM rfl rfl) ?_;change St _ _ _ [D,[(b4,.cells #[.int .i64 t.2.2] 3 (0,0))],[(b3,.cells #[.int .i64 t.2.1] 29 (0,0))],[(b2,.cells noTree.toArray 24 (0,0))]] at am;refine WOps.nil ?_;refine WEx.then_ ?_;refine WCode.seq ?_;refine WCode.seq ?_;refine WCode.region ?_;refine WOps.r (G.load1 U.one30 rfl (cell_blk (am.blk 2 rfl) rfl)) rfl ?_;refine WOps.p (G.neq rfl rfl rfl) rfl ?_;refine WOps.nil ?_;refine WEx.then_ ?_;rcases ite_some hF with ⟨ao,hF⟩|⟨ao,hF⟩
 · refine WCode.cond_f (kb (b:=!decide (t.2.1=0)) rfl (by simp [ao])) ?_
   refine WCode.skip ?_;refine WEx.then_ ?_;obtain ⟨r,ar,hF⟩:=bind_some hF;refine WCode.seq ?_;refine WCode.region ?_;refine WOps.p (G.move rfl) rfl ?_;refine WOps.p (G.build (cells:=#[.slice E t.1.length J,.int .i64 0,.int .i64 0]) (evp_spec (evp_cons rfl evp_nil)) (by kernel_rfl)) rfl ?_;obtain ⟨ab,aN,aO,ad,a6,a7⟩:=St.box am Tryd.prog 49 (.agg #[.slice E t.1.length J,.int .i64 0,.int .i64 0]);refine WOps.e (aO rfl) rfl ?_;refine WOps.p (G.assign rfl) rfl ?_;refine WOps.nil ?_;refine WEx.then_ ?_;refine WCode.seq ?_;refine WCode.region ?_;refine WOps.p (G.makeFunc (evs_cons rfl (evs_cons rfl (evs_cons rfl evs_nil)))) rfl ?_;refine WOps.defer (exec_defer (xs:=[]) rfl evs_nil) ?_;refine WOps.nil ?_;refine WEx.then_ ?_;refine WCode.seq ?_;refine WCode.region ?_;refine WOps.p (G.move rfl) rfl ?_;have au:ObjO 49 ParK.rp ab (⟨t.1,0,0⟩:ParK) ([(ab,.cells #[.slice E t.1.length J,.int .i64 0,.int .i64 0] 49 (0,0))]++D):=⟨_,_,⟨E,J,D,rfl,ap,rfl⟩,rfl⟩;change St _ _ _ [[(ab,.cells #[.slice E t.1.length J,.int .i64 0,.int .i64 0] 49 (0,0))],D,[(b4,.cells #[.int .i64 t.2.2] 3 (0,0))],[(b3,.cells #[.int .i64 t.2.1] 29 (0,0))],[(b2,.cells noTree.toArray 24 (0,0))]] at ad;have ae:St _ _ _ [[(ab,.cells #[.slice E t.1.length J,.int .i64 0,.int .i64 0] 49 (0,0))]++D,[(b4,.cells #[.int .i64 t.2.2] 3 (0,0))],[(b3,.cells #[.int .i64 t.2.1] 29 (0,0))],[(b2,.cells noTree.toArray 24 (0,0))]]:=ad.objs (by simp);refine WOps.callp U.call15 (evs_cons rfl evs_nil) rfl ?_;refine (ps_source_calls k (⟨t.1,0,0⟩:ParK) au ar (St.hpN (As:=[[(ab,.cells #[.slice E t.1.length J,.int .i64 0,.int .i64 0] 49 (0,0))]++D]) ae)).mono ?_;rintro _ aP ⟨af,ag,ah,ai,rfl,ax,aQ,aR⟩;have O:=St.callN (As:=[[(ab,.cells #[.slice E t.1.length J,.int .i64 0,.int .i64 0] 49 (0,0))]++D]) ae aR;change St _ _ _ [ah,ai,[(b4,.cells #[.int .i64 t.2.2] 3 (0,0))],[(b3,.cells #[.int .i64 t.2.1] 29 (0,0))],[(b2,.cells noTree.toArray 24 (0,0))]] at O;rcases ite_some hF with ⟨ay,hF⟩|⟨ay,hF⟩
   · obtain ⟨v,hv,hF⟩:=bind_some hF
     obtain ⟨f,hf,hF⟩:=bind_some hF;obtain rfl:=some_eq hF;obtain rfl:=faultOf_spec hf;refine .inr ⟨[{ v:=faultV f.1 f.2,recovered:=false }],by rw [hv];rfl,?_⟩
     repeat refine WEx.then_panic ?_
     refine WEx.panicD ?_;refine WLv.cons (caps:=[.pointer (some ⟨b2,0,none⟩),.pointer (some ⟨b3,0,none⟩),.pointer (some ⟨b4,0,none⟩)].toArray) (vs:=[].toArray) ?_ U.call14 ?_
     · exact fun h=>nomatch h
     have q:=((O.front 2 rfl).front 3 rfl).front 4 rfl;change St _ _ _ ([(b2,.cells #[.int .i64 0,.string (bs ([]:List UInt8)),.int .i64 0,.int .i64 0,.slice none 0 0] 24 (0,0))]::[(b3,.cells #[.int .i64 t.2.1] 29 (0,0))]::[(b4,.cells #[.int .i64 t.2.2] 3 (0,0))]::[ah,ai]) at q;refine (sy_catch q).mono ?_;rintro _ _ az ⟨rfl,rfl,C⟩;refine .inl ⟨_,rfl,?_⟩;exact WLv.ret (fun N a ha=>results9 rfl rfl rfl rfl (cellsAt.of_blk (C.blk 0 rfl) rfl) (C.blk 1 rfl) (C.blk 2 rfl) a ha) ⟨none,0,[],rfl,SlO.nil _ _,St.keep (As:=[[]]) C.emp⟩
   · obtain rfl:=some_eq hF
     refine .inl ⟨_,endP_none ay _,?_⟩;obtain ⟨aA,aj,q⟩:=St.store (P:=Tryd.prog) O 4 24 (.agg #[.int .i64 r.2.1.Kind,.string (bs r.2.1.Name),.int .i64 r.2.1.Number,.int .i64 r.2.1.At,.slice af (r.2.1.Kids).length ag]) (off:=0) (cur':=#[.int .i64 r.2.1.Kind,.string (bs r.2.1.Name),.int .i64 r.2.1.Number,.int .i64 r.2.1.At,.slice af (r.2.1.Kids).length ag]) rfl U.size29_5 rfl rfl rfl;refine WOps.u (aj rfl rfl) ?_;obtain ⟨az,aB,C⟩:=St.store (P:=Tryd.prog) q 3 29 (.int .i64 0) (off:=0) (cur':=#[.int .i64 0]) rfl U.size30_1 rfl rfl rfl;refine WOps.u (aB rfl rfl) ?_;obtain ⟨aU,aC,an⟩:=St.store (P:=Tryd.prog) C 2 3 (.int .i64 0) (off:=0) (cur':=#[.int .i64 0]) rfl U.size3_1 rfl rfl rfl;refine WOps.u (aC rfl rfl) ?_;change St _ _ _ [ah,ai,[(b4,.cells #[.int .i64 0] 3 (0,0))],[(b3,.cells #[.int .i64 0] 29 (0,0))],[(b2,.cells #[.int .i64 r.2.1.Kind,.string (bs r.2.1.Name),.int .i64 r.2.1.Number,.int .i64 r.2.1.At,.slice af (r.2.1.Kids).length ag] 24 (0,0))]] at an;refine WOps.nil ?_;refine WEx.then_ ?_;refine WCode.ret ?_
     repeat refine WEx.then_ret ?_
     refine WEx.retD ?_;refine WLv.cons (caps:=[.pointer (some ⟨b2,0,none⟩),.pointer (some ⟨b3,0,none⟩),.pointer (some ⟨b4,0,none⟩)].toArray) (vs:=[].toArray) ?_ U.call14 ?_
     · exact fun h=>nomatch h
     refine (sy_idle an _ _ _).mono ?_;rintro _ _ aV ⟨rfl,rfl,aa⟩;refine .inl ⟨_,rfl,?_⟩;exact WLv.ret (fun N a ha=>results9 (cs:=[.int .i64 r.2.1.Kind,.string (bs r.2.1.Name),.int .i64 r.2.1.Number,.int .i64 r.2.1.At,.slice af (r.2.1.Kids).length ag]) rfl rfl rfl rfl (cellsAt.of_blk (aa.blk 4 rfl) rfl) (aa.blk 3 rfl) (aa.blk 2 rfl) a ha) ⟨af,ag,ah,rfl,ax,St.keep (As:=[ah]) aa⟩
 · refine WCode.cond_t (kb (b:=!decide (t.2.1=0)) rfl (by simp [ao])) ?_
   obtain rfl:=some_eq hF;refine WCode.seq ?_;refine WCode.noPanic ?_;refine WCode.drawH (.one 0 0 (.one 1 1 (.one 2 1 (.one 3 2 (.one 4 2 (.one 5 2 .nil)))))) (fun W_=>cellsAt W_ b3 0 [.int .i64 t.2.1]∧cellsAt W_ b4 0 [.int .i64 t.2.2]) T.mixed (by kernel_rfl) (fun _ _ _ _ _ h=>h.elim) rfl rfl (by kernel_rfl) ?_ ?_
   all_goals have ad:=am.drew
   all_goals generalize aL.drew=aN at *
   · exact ⟨cellsAt.of_blk (ad.blk 2 rfl) rfl,cellsAt.of_blk (ad.blk 1 rfl) rfl⟩
   refine WH.p rfl wants (G.build (cells:=noTree.toArray) (evp_spec evp_nil) (by kernel_rfl)) rfl ?_;refine WH.r rfl wants (fun _ h_=>G.load1 U.one30 rfl (cellsAt.at h_.1 0 rfl)) rfl ?_;refine WH.r rfl wants (fun _ h_=>G.load1 U.one3 rfl (cellsAt.at h_.2 0 rfl)) rfl ?_;obtain ⟨a8,aS,ae⟩:=St.store (P:=Tryd.prog) ad 3 24 (.agg noTree.toArray) (off:=0) (cur':=noTree.toArray) rfl U.size29_5 rfl rfl rfl;refine WH.u rfl wants (aS rfl rfl) ⟨cellsAt.of_blk (ae.blk 2 rfl) rfl,cellsAt.of_blk (ae.blk 1 rfl) rfl⟩ ?_;obtain ⟨aP,aT,O⟩:=St.store (P:=Tryd.prog) ae 2 29 (.int .i64 t.2.1) (off:=0) (cur':=#[.int .i64 t.2.1]) rfl U.size30_1 rfl rfl rfl;refine WH.u rfl wants (aT rfl rfl) ⟨cellsAt.of_blk (O.blk 2 rfl) rfl,cellsAt.of_blk (O.blk 1 rfl) rfl⟩ ?_;obtain ⟨aA,aj,q⟩:=St.store (P:=Tryd.prog) O 1 3 (.int .i64 t.2.2) (off:=0) (cur':=#[.int .i64 t.2.2]) rfl U.size3_1 rfl rfl rfl;refine WH.u rfl wants (aj rfl rfl) ⟨cellsAt.of_blk (q.blk 2 rfl) rfl,cellsAt.of_blk (q.blk 1 rfl) rfl⟩ ?_;change St _ _ _ [D,[(b4,.cells #[.int .i64 t.2.2] 3 (0,0))],[(b3,.cells #[.int .i64 t.2.1] 29 (0,0))],[(b2,.cells noTree.toArray 24 (0,0))]] at q;refine WH.nil ?_;refine WEx.no_normal ?_;refine WEx.then_ ?_;refine WCode.ret ?_
   repeat refine WEx.then_ret ?_
   refine WEx.retD ?_;exact WLv.ret (fun N a ha=>results9 rfl rfl rfl rfl (cellsAt.of_blk (q.blk 3 rfl) rfl) (q.blk 2 rfl) (q.blk 1 rfl) a ha) ⟨none,0,[],rfl,SlO.nil _ _,St.keep (As:=[[]]) q.emp⟩
end Go.Proofs.YtnhifhlbelogcaaDoor
