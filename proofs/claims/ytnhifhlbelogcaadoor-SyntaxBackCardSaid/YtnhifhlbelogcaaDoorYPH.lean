/- Parse's deferred closure: what was given up is caught. -/
import Derived.Test.YtnhifhlbelogcaaDoorYPG
import Derived.WideLaws
set_option linter.unusedVariables false
set_option linter.unusedSimpArgs false
namespace Go.Eng
open Go
section
variable {P:Program} {N:FN} {l:Fr} {w:World} {ty ty2:TypeId} {pos pos2:String} {aft aft2:Array Edge} {d d2:Tmp} {T t u:TypeId} {x y:Operand} {v z:Value} {dst:Option Tmp} {g:Option (Nat×Bool)}
theorem recover_seq2 {id:Nat} {ts:Array TypeId} {rest:Code} {QS:Exit→Act→List Frame→World→Prop} {cs cs':List Frame} (hrec:(recoverD cs=some (v,cs'))∨(recoverD cs=none∧v = .nilIface∧cs'=cs)) (hd:Nat.blt d N.n=true) (X:Nat.blt d2 N.n=true)
 (h:WCode P N rest (fun e a' w'=>QS e a' cs' w') ((d2,v)::(d,v)::l) w) {a:Act} (ha:Has N l a) :
 (Code.seq (.region id #[⟨some d,.call { callee:=.builtin .recover,args:=#[],argTypes:=ts },ty,pos,aft,none⟩,⟨some d2,.assign (.tmp d),ty2,pos2,aft2,none⟩] false) rest).wpS P QS a cs w:=by
 apply wpS_seq
 apply wpS_region
 have he:(execOp a.eval ⟨some d,.call { callee:=.builtin .recover,args:=#[],argTypes:=ts },ty,pos,aft,none⟩).run P w = .ok .recover w:=by
  unfold execOp
  simp [resolve,invoke,builtin]
 have E:=ha.put hd v;have J:(execOp (a.put (some d) v).eval ⟨some d2,.assign (.tmp d),ty2,pos2,aft2,none⟩).run P w = .ok (.value v) w :=
  (G.assign (P:=P) (N:=N) (l:=(d,v)::l) (dst:=some d2) (ty:=ty2) (pos:=pos2) (aft:=aft2) (g:=none) (x:=.tmp d) (v:=v) (by simp [ev,look])) w _ E
 have key:=wpS_of_wp (Q:=QS) (cs:=cs') (h ((a.put (some d) v).put (some d2) v) (E.put X v));have hr:List.range 2=[0,1]:=rfl
 show wpOpsS P _ _ (List.range 2) a cs w
 rw [hr];have O:∀ tm,Region.wanted (⟨some d,.call { callee:=.builtin .recover,args:=#[],argTypes:=ts },ty,pos,aft,none⟩:Oper) tm=true:=fun _=>rfl
 have V:∀ tm,Region.wanted (⟨some d2,.assign (.tmp d),ty2,pos2,aft2,none⟩:Oper) tm=true:=fun _=>rfl
 have hdst:(⟨some d,.call { callee:=.builtin .recover,args:=#[],argTypes:=ts },ty,pos,aft,none⟩:Oper).dst=some d:=rfl;have q:(⟨some d2,.assign (.tmp d),ty2,pos2,aft2,none⟩:Oper).dst=some d2:=rfl;generalize (⟨some d,.call { callee:=.builtin .recover,args:=#[],argTypes:=ts },ty,pos,aft,none⟩:Oper)=C at he O hdst ⊢;generalize (⟨some d2,.assign (.tmp d),ty2,pos2,aft2,none⟩:Oper)=D at J V q ⊢;have Y:(#[C,D]:Array Oper)[0]? = some C:=rfl;have aa:(#[C,D]:Array Oper)[1]? = some D:=rfl;unfold wpOpsS;rw [Y]
 dsimp only
 rw [if_pos (O _),he]
 dsimp only
 have fin:wpOpsS P #[C,D] (fun e a' cs w'=>Exit.then (fun a' w'=>rest.wpS P QS a' cs w') (fun e a' w'=>QS e a' cs w') e a' w') [1] (a.put C.dst v) cs' w:=by
  unfold wpOpsS;rw [aa]
  dsimp only
  rw [if_pos (V _),hdst,J]
  dsimp only
  rw [Oper.upon_value,q];unfold wpOpsS;exact key
 rcases hrec with hrec | ⟨hrec,rfl,rfl⟩
 · rw [hrec]
   exact fin
 · rw [hrec]
   exact fin
theorem G.ifneq {ty':TypeId} (h:P.underlying t=some (.interface (P.methodsAt t))) (hx:ev l x=some (.iface u v)):GP P N l ⟨dst,.binOp .neq t x (.const .nilIface) ty',ty,pos,aft,g⟩ (.bool true):=fun w a ha=>by
 have hy:a.eval (.const .nilIface) = .nilIface:=rfl;have q:=run_neq_held_nil (P:=P) w t u v h;have hg:eqGuard .neq t x (.const .nilIface) (.iface u v) .nilIface=pure ():=by cases x <;> rfl
 unfold execOp;simp only [ha.ev hx,hy,hg,Sem.run_bind,Sem.run_pure,Result.andThen_ok,q]
theorem G.ifnil {ty':TypeId} (h:P.underlying t=some (.interface (P.methodsAt t))) (hx:ev l x=some .nilIface):GP P N l ⟨dst,.binOp .neq t x (.const .nilIface) ty',ty,pos,aft,g⟩ (.bool false):=fun w a ha=>by
 have hy:a.eval (.const .nilIface) = .nilIface:=rfl;have q:=run_neq_nil_nil (P:=P) w t h;have hg:eqGuard .neq t x (.const .nilIface) .nilIface .nilIface=pure ():=eqGuard_nil_constR _ _ _ _;unfold execOp;simp only [ha.ev hx,hy,hg,Sem.run_bind,Sem.run_pure,Result.andThen_ok,q]
theorem G.assert {fs:Array Field} {xT:TypeId} (hu:P.underlying T=some (.struct fs)) (hx:ev l x=some (.iface T v)):GP P N l ⟨dst,.typeAssert x xT T false,ty,pos,aft,g⟩ v:=fun w a ha=>by
 have hr:(Instr.typeAssert (.iface T v) xT T false).run P w = .ok v w:=by simp [Instr.typeAssert,run_underlying hu,go_sem,Result.andThen]
 unfold execOp;simp only [ha.ev hx,Sem.run_bind,hr,Result.andThen_ok,Sem.run_pure]
end
end Go.Eng
namespace Go.Proofs.YtnhifhlbelogcaaDoor
open Go Go.Eng
theorem U.one30:isOneT Tryd.prog 29=true:=by kernel_rfl
theorem U.one3:isOneT Tryd.prog 3=true:=by kernel_rfl
theorem U.size30_1:sizeT Tryd.prog 29=some 1:=by kernel_rfl
theorem U.size3_1:sizeT Tryd.prog 3=some 1:=by kernel_rfl
theorem U.size29_5:sizeT Tryd.prog 24=some 5:=by kernel_rfl
theorem U.size52_2:sizeT Tryd.prog 51=some 2:=by kernel_rfl
theorem U.zero52:zeroOf Tryd.prog 51=some (.agg #[.int .i64 0,.int .i64 0]):=by kernel_rfl
theorem U.fld52_0:fldOff Tryd.prog 51 0=some 0:=by kernel_rfl
theorem U.fld52_1:fldOff Tryd.prog 51 1=some 1:=by kernel_rfl
set_option maxRecDepth 100000 in
theorem U.if20:Tryd.prog.underlying 20=some (.interface (Tryd.prog.methodsAt 20)):=by kernel_rfl
abbrev faultV (e a:Int):Value:=.iface 51 (.agg #[.int .i64 e,.int .i64 a])
abbrev noTree:List Value:=[.int .i64 0,.string (bs ([]:List UInt8)),.int .i64 0,.int .i64 0,.slice none 0 0]
section
variable {w0 w:World} {K:Nat→Prop} {Gs:List Grp} {b2 b3 b4:Nat} {c0 c1 c2 c3 c4:Value} {x y e a:Int}
set_option maxRecDepth 100000 in
set_option maxHeartbeats 1000000 in
theorem sy_catch (S:St w0 K w ([(b2,.cells #[c0,c1,c2,c3,c4] 24 (0,0))]::[(b3,.cells #[.int .i64 x] 29 (0,0))]::[(b4,.cells #[.int .i64 y] 3 (0,0))]::Gs)) :
 CallsD Tryd.prog 14 [.pointer (some ⟨b2,0,none⟩),.pointer (some ⟨b3,0,none⟩),.pointer (some ⟨b4,0,none⟩)].toArray (.panicking [{ v:=faultV e a,recovered:=false }]) w fun en u' w' =>
  en = .returned (.tuple #[])∧u' = .panicking [{ v:=faultV e a,recovered:=true }]∧St w0 K w' ([(b2,.cells noTree.toArray 24 (0,0))]::[(b3,.cells #[.int .i64 e] 29 (0,0))]::[(b4,.cells #[.int .i64 a] 3 (0,0))]::Gs):=by
 refine enterS 15 [(0,.pointer (some ⟨b2,0,none⟩)),(1,.pointer (some ⟨b3,0,none⟩)),(2,.pointer (some ⟨b4,0,none⟩))] Tryd.func14 rfl rfl rfl rfl fun c₀ cs a' hu ha=>?_
 refine recover_seq2 (.inl (recoverD_panicking hu)) rfl rfl ?_ ha;refine WCode.seq ?_;refine WCode.region ?_;refine WOps.p (G.move rfl) rfl ?_;refine WOps.p (G.ifneq U.if20 rfl) rfl ?_;refine WOps.nil ?_;refine WEx.then_ ?_;refine WCode.cond_t rfl ?_;refine WCode.seq ?_;refine WCode.region ?_;refine WOps.p (G.move rfl) rfl ?_;refine WOps.p (G.assert Tryd.underlying51 rfl) rfl ?_;obtain ⟨q,w1,V,X,af,ag⟩:=St.var S (z:=.agg #[.int .i64 0,.int .i64 0]) U.zero52;refine WOps.e V rfl ?_;obtain ⟨Y,aa,J⟩:=St.store (P:=Tryd.prog) X 0 51 (.agg #[.int .i64 e,.int .i64 a]) (off:=0) (cur':=#[.int .i64 e,.int .i64 a]) rfl U.size52_2 rfl rfl rfl;change St _ _ _ ([(q,.cells #[.int .i64 e,.int .i64 a] 51 (0,0))]::[(b2,.cells #[c0,c1,c2,c3,c4] 24 (0,0))]::[(b3,.cells #[.int .i64 x] 29 (0,0))]::[(b4,.cells #[.int .i64 y] 3 (0,0))]::Gs) at J;refine WOps.u (aa rfl rfl) ?_;refine WOps.nil ?_;refine WEx.then_ ?_;refine WCode.noPanic ?_;refine WCode.drawH (.one 0 0 (.one 1 0 (.one 2 1 (.one 3 0 (.one 4 1 (.one 5 2 (.one 6 2 (.one 7 2 .nil)))))))) (fun W_=>cellsAt W_ q 0 [.int .i64 e,.int .i64 a]) T.mixed (by kernel_rfl) (fun _ _ _ _ _ h=>h.elim) rfl rfl (by kernel_rfl) ?_ ?_
 all_goals have O:=J.drew
 all_goals generalize Y.drew=ah at *
 · exact cellsAt.of_blk (O.blk 0 rfl) rfl
 refine WH.p rfl wants (G.build (cells:=noTree.toArray) (evp_spec evp_nil) (by kernel_rfl)) rfl ?_;refine WH.p rfl wants (G.field U.fld52_0 rfl (show 0+0=0 from rfl)) rfl ?_;refine WH.r rfl wants (fun _ h_=>G.load1 U.one30 rfl (cellsAt.at h_ 0 rfl)) rfl ?_;refine WH.p rfl wants (G.field U.fld52_1 rfl (show 0+1=1 from rfl)) rfl ?_;refine WH.r rfl wants (fun _ h_=>G.load1 U.one3 rfl (cellsAt.at h_ 1 rfl)) rfl ?_;obtain ⟨ai,ab,C⟩:=St.store (P:=Tryd.prog) O 1 24 (.agg noTree.toArray) (off:=0) (cur':=noTree.toArray) rfl U.size29_5 rfl rfl rfl;change St _ _ _ ([(q,.cells #[.int .i64 e,.int .i64 a] 51 (0,0))]::[(b2,.cells noTree.toArray 24 (0,0))]::[(b3,.cells #[.int .i64 x] 29 (0,0))]::[(b4,.cells #[.int .i64 y] 3 (0,0))]::Gs) at C;refine WH.u rfl wants (ab rfl rfl) (cellsAt.of_blk (C.blk 0 rfl) rfl) ?_;obtain ⟨aj,ad,D⟩:=St.store (P:=Tryd.prog) C 2 29 (.int .i64 e) (off:=0) (cur':=#[.int .i64 e]) rfl U.size30_1 rfl rfl rfl;change St _ _ _ ([(q,.cells #[.int .i64 e,.int .i64 a] 51 (0,0))]::[(b2,.cells noTree.toArray 24 (0,0))]::[(b3,.cells #[.int .i64 e] 29 (0,0))]::[(b4,.cells #[.int .i64 y] 3 (0,0))]::Gs) at D;refine WH.u rfl wants (ad rfl rfl) (cellsAt.of_blk (D.blk 0 rfl) rfl) ?_;obtain ⟨ak,ae,E⟩:=St.store (P:=Tryd.prog) D 3 3 (.int .i64 a) (off:=0) (cur':=#[.int .i64 a]) rfl U.size3_1 rfl rfl rfl;change St _ _ _ ([(q,.cells #[.int .i64 e,.int .i64 a] 51 (0,0))]::[(b2,.cells noTree.toArray 24 (0,0))]::[(b3,.cells #[.int .i64 e] 29 (0,0))]::[(b4,.cells #[.int .i64 a] 3 (0,0))]::Gs) at E;refine WH.u rfl wants (ae rfl rfl) (cellsAt.of_blk (E.blk 0 rfl) rfl) ?_;refine WH.nil ?_;refine WEx.no_normal ?_;exact WEx.endS rfl ⟨rfl,rfl,E.drop⟩
theorem sy_idle (S:St w0 K w Gs) (q C D:Value) :
 CallsD Tryd.prog 14 [q,C,D].toArray .returning w fun en u' w'=>en = .returned (.tuple #[])∧u' = .returning∧St w0 K w' Gs:=by
 refine enterS 15 [(0,q),(1,C),(2,D)] Tryd.func14 rfl rfl rfl rfl fun c₀ cs a' hu ha=>?_
 refine recover_seq2 (.inr ⟨recoverD_returning hu,rfl,rfl⟩) rfl rfl ?_ ha;refine WCode.seq ?_;refine WCode.region ?_;refine WOps.p (G.move rfl) rfl ?_;refine WOps.p (G.ifnil U.if20 rfl) rfl ?_;refine WOps.nil ?_;refine WEx.then_ ?_;refine WCode.cond_f rfl ?_;refine WCode.skip ?_;exact WEx.endS0 rfl ⟨rfl,hu,S⟩
end
end Go.Proofs.YtnhifhlbelogcaaDoor
