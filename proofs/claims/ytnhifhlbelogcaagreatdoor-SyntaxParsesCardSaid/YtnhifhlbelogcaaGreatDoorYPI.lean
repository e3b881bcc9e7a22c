/- syntax.Parse: walked by hand over the walks of what it calls. -/
import Derived.Test.YtnhifhlbelogcaaGreatDoorYPH
set_option linter.unusedVariables false
set_option linter.unusedSimpArgs false
namespace Go.Proofs.YtnhifhlbelogcaaGreatDoor
open Go Go.Eng
theorem U.call14:Callable Tryz.prog 14:=cm Tryz.func14
theorem U.call23:Callable Tryz.prog 23:=cm Tryz.func23
theorem U.call24:Callable Tryz.prog 24:=cm Tryz.func24
theorem U.zero29:zeroOf Tryz.prog 29=some (.agg noTree.toArray):=by kernel_rfl
theorem U.zero30:zeroOf Tryz.prog 30=some (.int .i64 0):=by kernel_rfl
theorem U.zero3:zeroOf Tryz.prog 3=some (.int .i64 0):=by kernel_rfl
theorem U.agg29:isAggT Tryz.prog 29 5=true:=by kernel_rfl
def faultOf:Value→Option (Int×Int)
  | .iface T (.agg cs)=>match T,cs.toList with
    | 52,[.int .i64 e,.int .i64 a]=>some (e,a)
    | _,_=>none
  | _=>none
theorem faultOf_spec {v:Value} {f:Int×Int} (h:faultOf v=some f):v=faultV f.1 f.2:=by
  unfold faultOf at h
  split at h
  · rename_i T cs
    split at h
    · rename_i e a hcs
      cases h
      show Value.iface 52 (.agg cs)=_
      have:cs = #[.int .i64 e,.int .i64 a]:=by
        have:=congrArg List.toArray hcs
        simpa using this
      rw [this]
    · cases h
  · cases h
def ps_Parse (k:Nat) (q:List UInt8):Option (Tree×Int×Int) :=
  Option.bind (lx_Scan k q) fun t=>if t.2.1=0 then Option.bind (ps_source k (⟨t.1,0,0⟩:ParK)) fun r=>(if (r.1).isSome=true then Option.bind (r.1) fun v=>Option.bind (faultOf v) fun f=>some ((⟨0,[],0,0,[]⟩:Tree),f.1,f.2) else some (r.2.1,0,0)) else some ((⟨0,[],0,0,[]⟩:Tree),t.2.1,t.2.2)
theorem results9 {w:World} {N:FN} {l:Fr} {b2 b3 b4:Nat} {cs:List Value} {x y:Int} (h2:Go.Eng.look l 2=some (.pointer (some ⟨b2,0,none⟩))) (q:Go.Eng.look l 3=some (.pointer (some ⟨b3,0,none⟩))) (C:Go.Eng.look l 4=some (.pointer (some ⟨b4,0,none⟩)))
    (hl:cs.length=5) (c2:cellsAt w b2 0 cs) (c3:w.heap[b3]? = some (.cells #[.int .i64 x] 30 (0,0))) (c4:w.heap[b4]? = some (.cells #[.int .i64 y] 3 (0,0))) :
    ∀ a,Has N l a→(results Tryz.f9 a.tmps).run Tryz.prog w = .ok (.tuple #[.agg cs.toArray,.int .i64 x,.int .i64 y]) w:=fun a ha=>by
  have hres:Tryz.f9.results = #[.cell 2 29,.cell 3 30,.cell 4 3]:=rfl;have D:=run_loadAgg (P:=Tryz.prog) (t:=29) (b:=b2) (off:=0) (cs:=cs) (by rw [hl];exact U.agg29) c2;have E:=(by simp [loadVar,isOne_run U.one30,cell_blk c3 (off:=0) rfl]:(loadVar 30 ⟨b3,0,none⟩).run Tryz.prog w = .ok (.int .i64 x) w);have J:=(by simp [loadVar,isOne_run U.one3,cell_blk c4 (off:=0) rfl]:(loadVar 3 ⟨b4,0,none⟩).run Tryz.prog w = .ok (.int .i64 y) w);unfold results;rw [hres]
  simp [(ha.at_ _ _ h2).2,(ha.at_ _ _ q).2,(ha.at_ _ _ C).2,asAddr,D,E,J]
set_option maxRecDepth 100000 in
set_option maxHeartbeats 1000000 in
theorem ps_Parse_calls (k:Nat) (aj:List UInt8) {FG:Nat→Prop} {w:World} (hGl:Glob FG w) (hFG:∀ b,FG b→NK w [] b) {r_:Tree×Int×Int} (h_:ps_Parse k aj=some r_) :
    Calls Tryz.prog 9 [.string (bs aj)].toArray w fun e w'=>∃ V:Option Addr,∃ X:Nat,∃ Y:Grp,e = .returned (.tuple #[.agg #[.int .i64 r_.1.Kind,.string (bs r_.1.Name),.int .i64 r_.1.Number,.int .i64 r_.1.At,.slice V (r_.1.Kids).length X],.int .i64 r_.2.1,.int .i64 r_.2.2])∧SlO 29 Tree.rp (.slice V (r_.1.Kids).length X) (r_.1.Kids) Y∧St w (KS []) w' [Y]:=by
  have hF:=h_;clear h_;unfold ps_Parse at hF;obtain ⟨t,hc,hF⟩:=bind_some hF;have S:=St.ofFalse (As:=[]) (St.init0 w);refine enterD 24 [(0,.string (bs aj))] Tryz.func9 rfl rfl rfl rfl ?_;refine WCode.seq ?_;refine WCode.region ?_;obtain ⟨b2,w1,aC,aD,aV,aW⟩:=St.var S U.zero29;refine WOps.e aC rfl ?_;obtain ⟨b3,aX,aE,aF,aY,aZ⟩:=St.var aD U.zero30;refine WOps.e aE rfl ?_;obtain ⟨b4,a0,aG,ak,a1,a2⟩:=St.var aF U.zero3;refine WOps.e aG rfl ?_;refine WOps.nil ?_;refine WEx.then_ ?_;refine WCode.seq ?_;refine WCode.region ?_;refine WOps.p (G.move rfl) rfl ?_;change St _ _ _ [[(b4,.cells #[.int .i64 0] 3 (0,0))],[(b3,.cells #[.int .i64 0] 30 (0,0))],[(b2,.cells noTree.toArray 29 (0,0))]] at ak;refine WOps.call U.call14 (evs_cons rfl evs_nil) rfl ?_;refine (lx_Scan_calls k aj (hGl.ext (ak.keepF hFG)) (St.outF (Bs:=[]) ak hFG) hc).mono ?_;rintro _ a3 ⟨E,J,D,rfl,ao,aH⟩;refine ⟨_,rfl,?_⟩;have ap:=St.callN (As:=[]) ak aH;change St _ _ _ [D,[(b4,.cells #[.int .i64 0] 3 (0,0))],[(b3,.cells #[.int .i64 0] 30 (0,0))],[(b2,.cells noTree.toArray 29 (0,0))]] at ap;refine WOps.p (G.move rfl) rfl ?_;refine WOps.p (G.extract rfl rfl) rfl ?_;refine WOps.p (G.extract rfl rfl) rfl ?_;refine WOps.p (G.extract rfl rfl) rfl ?_;refine WOps.p (G.assign rfl) rfl ?_;obtain ⟨a4,aI,aJ⟩:=St.store (P:=Tryz.prog) ap 2 30 (.int .i64 t.2.1) (off:=0) (cur':=#[.int .i64 t.2.1]) rfl U.size30_1 rfl rfl rfl;refine WOps.u (aI rfl rfl) ?_;obtain ⟨aK,aL,al⟩:=St.store (P:=Tryz.prog) aJ 1 3 (.int .i64 t.2.2) (off:=0) (cur':=#[.int .i64 t.2.2]) rfl U.size3_1 rfl rfl rfl;refine WOps.u (aL rfl rfl) ?_;change St _ _ _ [D,[(b4,.cells #[.int .i64 t.2.2] 3 (0,0))],[(b3,.cells #[.int .i64 t.2.1] 30 (0,0))],[(b2,.cells noTree.toArray 29 (0,0))]] at al;refine WOps.nil ?_;refine WEx.then_ ?_;refine WCode.seq ?_;refine WCode.seq ?_;refine WCode.region ?_;refine WOps.r (G.load1 U.one30 rfl (cell_blk (al.blk 2 rfl) rfl)) rfl ?_;refine WOps.p (G.neq rfl rfl rfl) rfl ?_;refine WOps.nil ?_;refine WEx.then_ ?_;rcases ite_some hF with ⟨an,hF⟩|⟨an,hF⟩
  · refine WCode.cond_f (kb (b:=!decide (t.2.1=0)) rfl (by simp [an])) ?_
    refine WCode.skip ?_;refine WEx.then_ ?_;obtain ⟨r,aq,hF⟩:=bind_some hF;refine WCode.seq ?_;refine WCode.region ?_;refine WOps.p (G.move rfl) rfl ?_;refine WOps.p (G.build (cells:=#[.slice E t.1.length J,.int .i64 0,.int .i64 0]) (evp_spec (evp_cons rfl evp_nil)) (by kernel_rfl)) rfl ?_;obtain ⟨aa,aM,aN,ab,a5,a6⟩:=St.box al Tryz.prog 50 (.agg #[.slice E t.1.length J,.int .i64 0,.int .i64 0]);refine WOps.e (aN rfl) rfl ?_;refine WOps.p (G.assign rfl) rfl ?_;refine WOps.nil ?_;refine WEx.then_ ?_;refine WCode.seq ?_;refine WCode.region ?_;refine WOps.p (G.makeFunc (evs_cons rfl (evs_cons rfl (evs_cons rfl evs_nil)))) rfl ?_;refine WOps.defer (exec_defer (xs:=[]) rfl evs_nil) ?_;refine WOps.nil ?_;refine WEx.then_ ?_;refine WCode.seq ?_;refine WCode.region ?_;refine WOps.p (G.move rfl) rfl ?_;have ar:ObjO 50 ParK.rp aa (⟨t.1,0,0⟩:ParK) ([(aa,.cells #[.slice E t.1.length J,.int .i64 0,.int .i64 0] 50 (0,0))]++D):=⟨_,_,⟨E,J,D,rfl,ao,rfl⟩,rfl⟩;change St _ _ _ [[(aa,.cells #[.slice E t.1.length J,.int .i64 0,.int .i64 0] 50 (0,0))],D,[(b4,.cells #[.int .i64 t.2.2] 3 (0,0))],[(b3,.cells #[.int .i64 t.2.1] 30 (0,0))],[(b2,.cells noTree.toArray 29 (0,0))]] at ab;have ad:St _ _ _ [[(aa,.cells #[.slice E t.1.length J,.int .i64 0,.int .i64 0] 50 (0,0))]++D,[(b4,.cells #[.int .i64 t.2.2] 3 (0,0))],[(b3,.cells #[.int .i64 t.2.1] 30 (0,0))],[(b2,.cells noTree.toArray 29 (0,0))]]:=ab.objs (by simp);refine WOps.callp U.call24 (evs_cons rfl evs_nil) rfl ?_;refine (ps_source_calls k (⟨t.1,0,0⟩:ParK) ar aq (St.hpN (As:=[[(aa,.cells #[.slice E t.1.length J,.int .i64 0,.int .i64 0] 50 (0,0))]++D]) ad)).mono ?_;rintro _ aO ⟨ae,af,ag,ah,rfl,au,aP,aQ⟩;have O:=St.callN (As:=[[(aa,.cells #[.slice E t.1.length J,.int .i64 0,.int .i64 0] 50 (0,0))]++D]) ad aQ;change St _ _ _ [ag,ah,[(b4,.cells #[.int .i64 t.2.2] 3 (0,0))],[(b3,.cells #[.int .i64 t.2.1] 30 (0,0))],[(b2,.cells noTree.toArray 29 (0,0))]] at O;rcases ite_some hF with ⟨ax,hF⟩|⟨ax,hF⟩
    · obtain ⟨v,hv,hF⟩:=bind_some hF
      obtain ⟨f,hf,hF⟩:=bind_some hF;obtain rfl:=some_eq hF;obtain rfl:=faultOf_spec hf;refine .inr ⟨[{ v:=faultV f.1 f.2,recovered:=false }],by rw [hv];rfl,?_⟩
      repeat refine WEx.then_panic ?_
      refine WEx.panicD ?_;refine WLv.cons (caps:=[.pointer (some ⟨b2,0,none⟩),.pointer (some ⟨b3,0,none⟩),.pointer (some ⟨b4,0,none⟩)].toArray) (vs:=[].toArray) ?_ U.call23 ?_
      · exact fun h=>nomatch h
      have q:=((O.front 2 rfl).front 3 rfl).front 4 rfl;change St _ _ _ ([(b2,.cells #[.int .i64 0,.string (bs ([]:List UInt8)),.int .i64 0,.int .i64 0,.slice none 0 0] 29 (0,0))]::[(b3,.cells #[.int .i64 t.2.1] 30 (0,0))]::[(b4,.cells #[.int .i64 t.2.2] 3 (0,0))]::[ag,ah]) at q;refine (sy_catch q).mono ?_;rintro _ _ ay ⟨rfl,rfl,C⟩;refine .inl ⟨_,rfl,?_⟩;exact WLv.ret (fun N a ha=>results9 rfl rfl rfl rfl (cellsAt.of_blk (C.blk 0 rfl) rfl) (C.blk 1 rfl) (C.blk 2 rfl) a ha) ⟨none,0,[],rfl,SlO.nil _ _,St.keep (As:=[[]]) C.emp⟩
    · obtain rfl:=some_eq hF
      refine .inl ⟨_,endP_none ax _,?_⟩;obtain ⟨az,ai,q⟩:=St.store (P:=Tryz.prog) O 4 29 (.agg #[.int .i64 r.2.1.Kind,.string (bs r.2.1.Name),.int .i64 r.2.1.Number,.int .i64 r.2.1.At,.slice ae (r.2.1.Kids).length af]) (off:=0) (cur':=#[.int .i64 r.2.1.Kind,.string (bs r.2.1.Name),.int .i64 r.2.1.Number,.int .i64 r.2.1.At,.slice ae (r.2.1.Kids).length af]) rfl U.size29_5 rfl rfl rfl;refine WOps.u (ai rfl rfl) ?_;obtain ⟨ay,aA,C⟩:=St.store (P:=Tryz.prog) q 3 30 (.int .i64 0) (off:=0) (cur':=#[.int .i64 0]) rfl U.size30_1 rfl rfl rfl;refine WOps.u (aA rfl rfl) ?_;obtain ⟨aT,aB,am⟩:=St.store (P:=Tryz.prog) C 2 3 (.int .i64 0) (off:=0) (cur':=#[.int .i64 0]) rfl U.size3_1 rfl rfl rfl;refine WOps.u (aB rfl rfl) ?_;change St _ _ _ [ag,ah,[(b4,.cells #[.int .i64 0] 3 (0,0))],[(b3,.cells #[.int .i64 0] 30 (0,0))],[(b2,.cells #[.int .i64 r.2.1.Kind,.string (bs r.2.1.Name),.int .i64 r.2.1.Number,.int .i64 r.2.1.At,.slice ae (r.2.1.Kids).length af] 29 (0,0))]] at am;refine WOps.nil ?_;refine WEx.then_ ?_;refine WCode.ret ?_
      repeat refine WEx.then_ret ?_
      refine WEx.retD ?_;refine WLv.cons (caps:=[.pointer (some ⟨b2,0,none⟩),.pointer (some ⟨b3,0,none⟩),.pointer (some ⟨b4,0,none⟩)].toArray) (vs:=[].toArray) ?_ U.call23 ?_
      · exact fun h=>nomatch h
      refine (sy_idle am _ _ _).mono ?_;rintro _ _ aU ⟨rfl,rfl,Z⟩;refine .inl ⟨_,rfl,?_⟩;exact WLv.ret (fun N a ha=>results9 (cs:=[.int .i64 r.2.1.Kind,.string (bs r.2.1.Name),.int .i64 r.2.1.Number,.int .i64 r.2.1.At,.slice ae (r.2.1.Kids).length af]) rfl rfl rfl rfl (cellsAt.of_blk (Z.blk 4 rfl) rfl) (Z.blk 3 rfl) (Z.blk 2 rfl) a ha) ⟨ae,af,ag,rfl,au,St.keep (As:=[ag]) Z⟩
  · refine WCode.cond_t (kb (b:=!decide (t.2.1=0)) rfl (by simp [an])) ?_
    obtain rfl:=some_eq hF;refine WCode.seq ?_;refine WCode.noPanic ?_;refine WCode.drawH (.one 0 0 (.one 1 1 (.one 2 1 (.one 3 2 (.one 4 2 (.one 5 2 .nil)))))) (fun W_=>cellsAt W_ b3 0 [.int .i64 t.2.1]∧cellsAt W_ b4 0 [.int .i64 t.2.2]) T.mixed (by kernel_rfl) (fun _ _ _ _ _ h=>h.elim) rfl rfl (by kernel_rfl) ?_ ?_
    all_goals have ab:=al.drew
    all_goals generalize aK.drew=aM at *
    · exact ⟨cellsAt.of_blk (ab.blk 2 rfl) rfl,cellsAt.of_blk (ab.blk 1 rfl) rfl⟩
    refine WH.p rfl wants (G.build (cells:=noTree.toArray) (evp_spec evp_nil) (by kernel_rfl)) rfl ?_;refine WH.r rfl wants (fun _ h_=>G.load1 U.one30 rfl (cellsAt.at h_.1 0 rfl)) rfl ?_;refine WH.r rfl wants (fun _ h_=>G.load1 U.one3 rfl (cellsAt.at h_.2 0 rfl)) rfl ?_;obtain ⟨a7,aR,ad⟩:=St.store (P:=Tryz.prog) ab 3 29 (.agg noTree.toArray) (off:=0) (cur':=noTree.toArray) rfl U.size29_5 rfl rfl rfl;refine WH.u rfl wants (aR rfl rfl) ⟨cellsAt.of_blk (ad.blk 2 rfl) rfl,cellsAt.of_blk (ad.blk 1 rfl) rfl⟩ ?_;obtain ⟨aO,aS,O⟩:=St.store (P:=Tryz.prog) ad 2 30 (.int .i64 t.2.1) (off:=0) (cur':=#[.int .i64 t.2.1]) rfl U.size30_1 rfl rfl rfl;refine WH.u rfl wants (aS rfl rfl) ⟨cellsAt.of_blk (O.blk 2 rfl) rfl,cellsAt.of_blk (O.blk 1 rfl) rfl⟩ ?_;obtain ⟨az,ai,q⟩:=St.store (P:=Tryz.prog) O 1 3 (.int .i64 t.2.2) (off:=0) (cur':=#[.int .i64 t.2.2]) rfl U.size3_1 rfl rfl rfl;refine WH.u rfl wants (ai rfl rfl) ⟨cellsAt.of_blk (q.blk 2 rfl) rfl,cellsAt.of_blk (q.blk 1 rfl) rfl⟩ ?_;change St _ _ _ [D,[(b4,.cells #[.int .i64 t.2.2] 3 (0,0))],[(b3,.cells #[.int .i64 t.2.1] 30 (0,0))],[(b2,.cells noTree.toArray 29 (0,0))]] at q;refine WH.nil ?_;refine WEx.no_normal ?_;refine WEx.then_ ?_;refine WCode.ret ?_
    repeat refine WEx.then_ret ?_
    refine WEx.retD ?_;exact WLv.ret (fun N a ha=>results9 rfl rfl rfl rfl (cellsAt.of_blk (q.blk 3 rfl) rfl) (q.blk 2 rfl) (q.blk 1 rfl) a ha) ⟨none,0,[],rfl,SlO.nil _ _,St.keep (As:=[[]]) q.emp⟩
end Go.Proofs.YtnhifhlbelogcaaGreatDoor
