/- Functions and their walks (printed by auto.py over the engine). -/
import Derived.Test.YtnhifhlbelogcaaGreatDoorYAb
import Derived.Test.YtnhifhlbelogcaaGreatDoorProg
import Derived.Test.YtnhifhlbelogcaaGreatDoorYPL
set_option maxRecDepth 100000
set_option maxHeartbeats 1000000
namespace Go.Proofs.YtnhifhlbelogcaaGreatDoor
open Go Go.Eng
set_option linter.unusedSimpArgs false
set_option linter.unusedVariables false
theorem T.call101:Callable TP 101:=cm Tryz.func101
theorem T.call102:Callable TP 102:=cm Tryz.func102
theorem T.call103:Callable TP 103:=cm Tryz.func103
theorem T.call32:Callable TP 32:=cm Tryz.func32
theorem T.call56:Callable TP 56:=cm Tryz.func56
theorem T.call57:Callable TP 57:=cm Tryz.func57
theorem T.call60:Callable TP 60:=cm Tryz.func60
theorem T.call63:Callable TP 63:=cm Tryz.func63
theorem T.elt64:Elt TP 64 5 1 1:=elt_mk (z:=.int .u8 0) Tryz.underlying64 (by kernel_rfl) rfl
theorem T.fld66_0:fldOff TP 66 0=some 0:=by kernel_rfl
theorem T.one64:isOneT TP 64=true:=by kernel_rfl
theorem T.size64_1:sizeT TP 64=some 1:=by kernel_rfl
structure WriK where
  out:List UInt8
  deriving DecidableEq
def WriK.rp:Rp WriK where
  sz:=1
  rd:=fun w F x cs=>∃ q:Option Addr,∃ c1:Nat,cs=[.slice q (x.out).length c1]∧SlR Rp.u8 w F q c1 (x.out)
  own:=fun x cs G=>∃ q:Option Addr,∃ c1:Nat,∃ D:Grp,cs=[.slice q (x.out).length c1]∧SlO 5 Rp.u8 (.slice q (x.out).length c1) (x.out) D∧G=D
  len:=by rintro _ _ _ _ ⟨_,_,rfl,_⟩;rfl
  one:=by rintro _ _ _ _ ⟨_,_,rfl,_⟩;exact one_of_all rfl
  lenO:=by rintro _ _ _ ⟨_,_,_,rfl,_⟩;rfl
  oneO:=by rintro _ _ _ ⟨_,_,_,rfl,_⟩;exact one_of_all rfl
  ext:=by rintro _ _ _ _ _ ⟨q,c1,rfl,C⟩ hE;exact ⟨q,c1,rfl,C.ext hE⟩
  mono:=by rintro _ _ _ _ _ ⟨q,c1,rfl,C⟩ hF;exact ⟨q,c1,rfl,C.mono hF⟩
  low:=by
    rintro w x cs G ⟨q,c1,D,rfl,C,hGe⟩ hG;exact ⟨q,c1,rfl,(C.rd (fun b o hb=>hG b o (by rw [hGe];simp [hb]))).mono (fun b (hb:b∈keys D)=>show b∈keys G by rw [hGe];simp [keys_append,hb])⟩
mutual
def ps_put.j1:Nat→List (List UInt8)→Int→List UInt8→WriK→Option WriK
  | 0,_,_,_,_=>none
  | V+1,C,D,q,Z=>(catN 68719476736 Z.out q).bind fun X=>ps_put.l1 V C (⟨X⟩:WriK) (w64 (D+1))
def ps_put.j2:Nat→List (List UInt8)→WriK→Int→List UInt8→Bool→Option WriK
  | 0,_,_,_,_,_=>none
  | O+1,C,E,D,q,aa=>if aa=true then ((cat E.out ([(32:UInt8)]:List UInt8)).bind fun Y=>ps_put.j1 O C D q (⟨Y⟩:WriK)) else ps_put.j1 O C D q E
def ps_put.l1:Nat→List (List UInt8)→WriK→Int→Option WriK
  | 0,_,_,_=>none
  | J+1,C,E,D=>if D < (C.length:Int) then ((idx C D).bind fun q=>if 0 < (E.out.length:Int) then (if q=[] then (ps_put.j2 J C E D q false) else (idx E.out (w64 ((E.out.length:Int) - 1))).bind fun ab=>(ps_inRun J ((ab).toNat:Int)).bind fun ad=>if ad=true then ((idx q 0).bind fun ae=>(ps_inRun J ((ae).toNat:Int)).bind fun af=>ps_put.j2 J C E D q af) else ps_put.j2 J C E D q false) else ps_put.j2 J C E D q false) else some E
end
def ps_put (k:Nat) (q:WriK) (C:List (List UInt8)):Option WriK:=(ps_put.l1 k C q 0)
theorem ps_put_calls (k:Nat) (aY:WriK) {q:Nat} {ak:Grp} (V:List (List UInt8)) {an:Option Addr} {c1:Nat} {bQ:Nat→Prop} {w:World} (bR:ObjO 66 WriK.rp q aY ak) (bS:SlR Rp.str w bQ an c1 V) (bT:∀ b,bQ b→NK w [ak] b) {r_:WriK} (h_:ps_put k aY V=some r_) (hp_:Hp w ([ak]).flatten) :
    Calls TP 57 [(Pt q),.slice an V.length c1].toArray w fun e w'=>∃ ax:Grp,e = .returned (.tuple #[])∧ObjO 66 WriK.rp q (r_) ax∧St w (KS [ak]) w' [ax]:=by
 have hF:=h_;clear h_;unfold ps_put at hF;have S:=St.initK [ak] hp_;refine enter 59 [(0,(Pt q)),(1,.slice an V.length c1)] Tryz.func57 rfl rfl rfl rfl ?_;refine wq (wr (mv rfl (wp (G.len T.el25 rfl) rfl (mv rfl (wn (we ?_))))));refine WCode.block ?_;refine wg (l':=[(0,(Pt q)),(7,.slice an V.length c1),(8,I (V.length:Int)),(9,I 0)]) ⟨rfl,rfl,rfl,rfl,trivial⟩ ?_;refine wl (fun n_ l_ w_=>∃ O:WriK,∃ aI:Grp,∃ ah:Int,l_=[(0,(Pt q)),(7,.slice an V.length c1),(8,I (V.length:Int)),(9,I ah)]∧ps_put.l1 n_ V O ah=some r_∧(ObjO 66 WriK.rp q O aI)∧St w (KS [ak]) w_ [aI]) k ⟨aY,ak,0,rfl,hF,bR,S⟩ ?_;rintro ci _ cM ⟨O,aI,ah,rfl,hF,aT,aZ⟩;obtain _ | ao:=ci
 · exact nn hF
 rw [ps_put.l1] at hF;refine wq (wr (wp (G.lss rfl rfl rfl) rfl (wn (we (wq ?_)))));rcases io hF with ⟨ay,hF⟩|⟨ay,hF⟩
 ·
  refine ct rfl (dt ay) (wsk (we (wq ?_)));refine WCode.block ?_;refine wq (wr ?_);obtain ⟨ai,a0,hF⟩:=bo hF;obtain ⟨bU,a1,a2,a3⟩:=idx_spec a0;obtain ⟨cB,bV,a4,a5,cj,az,a6⟩:=sat (bS.ext (aZ.keepF bT)) a2;have a7:a4=[.string (bs ai)]:=a6;subst a7;change cellsAt _ _ (bV+bU * 1) [.string (bs ai)] at az;refine wp (G.idx T.el25 rfl a5 rfl a1 a3) rfl ?_;refine wrr (G.load1 T.one9 rfl (cellsAt.at0 az)) rfl ?_;refine av rfl (wn (we ?_));refine wqs (fun l_ w_=>∃ ap:Nat,∃ aq:WriK,∃ aA:Grp,l_=[(0,(Pt q)),(5,.string (bs ai)),(7,.slice an V.length c1),(8,I (V.length:Int)),(9,I ah)]∧ps_put.j1 ap V ah ai aq=some r_∧ap≤ao∧(ObjO 66 WriK.rp q aq aA)∧St w (KS [ak]) w_ [aA]) ?_ ?_
  ·
   refine wq ?_;obtain ⟨ck,cC,a8,a9⟩:=aT;obtain ⟨D,E,J,rfl,af,aw⟩:=a8;have aj:St _ _ _ [(B q #[.slice D O.out.length E] 66),J]:=aZ.objs (by rw [a9,aw];simp [Value.cells]);refine wr (mv rfl (wp (G.nilp rfl) rfl (wp (G.field T.fld66_0 rfl rfl) rfl ?_)));refine wrr (G.load1 T.one64 rfl (cell_blk (aj.blk 0 rfl) rfl)) rfl ?_;refine wp (G.len T.el64 rfl) rfl (av rfl (wn (we ?_)));refine wqs (fun l_ w_=>∃ ar:Nat,∃ au:Grp,∃ aB:Bool,l_=[(0,(Pt q)),(5,.string (bs ai)),(7,.slice an V.length c1),(8,I (V.length:Int)),(9,I ah),(39,.bool aB)]∧ps_put.j2 ar V O ah ai aB=some r_∧ar≤ao∧(ObjO 66 WriK.rp q O au)∧St w (KS [ak]) w_ [au]) ?_ ?_
   ·
    refine wr (mv rfl (wp (G.gtr rfl rfl rfl) rfl (mv rfl ?_)));rcases io hF with ⟨ag,hF⟩|⟨ag,hF⟩
    ·
     refine won rfl (dt ag) (mv rfl (won rfl (dt ag) (wp (G.neqlb' rfl rfl rfl) rfl (wp (G.pick_t (kb rfl (dt ag)) rfl) rfl (mv rfl ?_)))));rcases io hF with ⟨C,hF⟩|⟨C,hF⟩
     ·
      refine WOps.off rfl (kbl rfl (nf (dt C))) rfl rfl ?_;refine WOps.off rfl (kbl rfl (nf (dt C))) rfl rfl ?_;refine WOps.off rfl (kbl rfl (nf (dt C))) rfl rfl ?_;refine WOps.off rfl (kbl rfl (nf (dt C))) rfl rfl ?_;refine WOps.off rfl (kbl rfl (nf (dt C))) rfl rfl ?_;refine WOps.off rfl (kbl rfl (nf (dt C))) rfl rfl ?_;refine WOps.off rfl (kbl rfl (nf (dt C))) rfl rfl ?_;refine WOps.off rfl (kbl rfl (nf (dt C))) rfl rfl ?_;refine WOps.off rfl (kbl rfl (nf (dt C))) rfl rfl ?_;refine wp (G.pick_f (kb rfl (nf (dt C))) rfl) rfl (mv rfl ?_);refine WOps.off rfl rfl rfl rfl ?_;refine WOps.off rfl rfl rfl rfl ?_;refine WOps.off rfl rfl rfl rfl ?_;refine wp (G.pick_f rfl rfl) rfl (wn ?_);have a':ObjO 66 WriK.rp q O ((B q #[.slice D O.out.length E] 66)++(J)):=⟨_,_,⟨D,E,J,rfl,af,rfl⟩,rfl⟩;have bW:St _ _ _ [(B q #[.slice D O.out.length E] 66)++(J)]:=aj.objs (by simp [Value.cells]);refine wx _ ?_ ⟨ao,(B q #[.slice D O.out.length E] 66)++(J),false,rfl,hF,(by omega),a',bW⟩;exact ⟨rfl,rfl,rfl,rfl,rfl,rfl,trivial⟩
     ·
      refine WOps.on rfl (kbl rfl (nt (df C))) ?_;refine mv rfl ?_;refine WOps.on rfl (kbl rfl (nt (df C))) ?_;refine wp (G.nilp rfl) rfl ?_;refine WOps.on rfl (kbl rfl (nt (df C))) ?_;refine wp (G.field T.fld66_0 rfl rfl) rfl ?_;refine WOps.on rfl (kbl rfl (nt (df C))) ?_;refine wrr (G.load1 T.one64 rfl (cell_blk (aj.blk 0 rfl) rfl)) rfl ?_;refine WOps.on rfl (kbl rfl (nt (df C))) ?_;refine mv rfl ?_;refine WOps.on rfl (kbl rfl (nt (df C))) ?_;refine wp (G.sub rfl rfl (r:=(w64 ((O.out.length:Int) - 1))) rfl) rfl ?_;refine WOps.on rfl (kbl rfl (nt (df C))) ?_;obtain ⟨aC,ba,hF⟩:=bo hF;obtain ⟨bX,bb,bc,bd⟩:=idx_spec ba;obtain ⟨cE,bY,be,bg,cl,aD,bh⟩:=sat (rds af aj 1 rfl) bc;have bi:be=[.int .u8 ((aC).toNat:Int)]:=bh;subst bi;change cellsAt _ _ (bY+bX * 1) [.int .u8 ((aC).toNat:Int)] at aD;refine wp (G.idx T.el64 rfl bg rfl bb bd) rfl ?_;refine WOps.on rfl (kbl rfl (nt (df C))) ?_;refine wrr (G.load1 T.one5 rfl (cellsAt.at0 aD)) rfl ?_;refine WOps.on rfl (kbl rfl (nt (df C))) ?_;obtain ⟨cF,bj,hF⟩:=bo hF;refine wc T.call101 (ec rfl en) rfl ?_;refine (ps_inRun_calls ao ((aC).toNat:Int) bj).mono ?_;rintro _ cG ⟨rfl,bZ⟩;have aU:=scT bZ aj;refine ⟨_,rfl,?_⟩;refine wp (G.pick_t (kb rfl (nt (df C))) rfl) rfl (mv rfl ?_);rcases io hF with ⟨Z,hF⟩|⟨Z,hF⟩
      ·
       refine won rfl Z (mv rfl (won rfl Z ?_));obtain ⟨b0,bk,hF⟩:=bo hF;refine wp (G.idxb T.str9 rfl rfl bk) rfl (won rfl Z ?_);obtain ⟨b1,bl,hF⟩:=bo hF;refine wc T.call101 (ec rfl en) rfl ?_;refine (ps_inRun_calls ao ((b0).toNat:Int) bl).mono ?_;rintro _ cH ⟨rfl,b5⟩;have b6:=scT b5 aU;refine ⟨_,rfl,?_⟩;refine wp (G.pick_t (kb rfl Z) rfl) rfl (wn ?_);have bm:ObjO 66 WriK.rp q O ((B q #[.slice D O.out.length E] 66)++(J)):=⟨_,_,⟨D,E,J,rfl,af,rfl⟩,rfl⟩;have b7:St _ _ _ [(B q #[.slice D O.out.length E] 66)++(J)]:=b6.objs (by simp [Value.cells]);refine wx _ ?_ ⟨ao,(B q #[.slice D O.out.length E] 66)++(J),b1,rfl,hF,(by omega),bm,b7⟩;exact ⟨rfl,rfl,rfl,rfl,rfl,rfl,trivial⟩
      ·
       refine wof rfl (bf Z) rfl (wof rfl (bf Z) rfl (wof rfl (bf Z) rfl (wp (G.pick_f (kb rfl (bf Z)) rfl) rfl (wn ?_))));have bn:ObjO 66 WriK.rp q O ((B q #[.slice D O.out.length E] 66)++(J)):=⟨_,_,⟨D,E,J,rfl,af,rfl⟩,rfl⟩;have b8:St _ _ _ [(B q #[.slice D O.out.length E] 66)++(J)]:=aU.objs (by simp [Value.cells]);refine wx _ ?_ ⟨ao,(B q #[.slice D O.out.length E] 66)++(J),false,rfl,hF,(by omega),bn,b8⟩;exact ⟨rfl,rfl,rfl,rfl,rfl,rfl,trivial⟩
    ·
     refine wof rfl (df ag) rfl (wof rfl (df ag) rfl (wp (G.pick_f (kb rfl (df ag)) rfl) rfl (mv rfl ?_)));refine WOps.off rfl rfl rfl rfl ?_;refine WOps.off rfl rfl rfl rfl ?_;refine WOps.off rfl rfl rfl rfl ?_;refine WOps.off rfl rfl rfl rfl ?_;refine WOps.off rfl rfl rfl rfl ?_;refine WOps.off rfl rfl rfl rfl ?_;refine WOps.off rfl rfl rfl rfl ?_;refine WOps.off rfl rfl rfl rfl ?_;refine WOps.off rfl rfl rfl rfl ?_;refine wp (G.pick_f rfl rfl) rfl (mv rfl ?_);refine WOps.off rfl rfl rfl rfl ?_;refine WOps.off rfl rfl rfl rfl ?_;refine WOps.off rfl rfl rfl rfl ?_;refine wp (G.pick_f rfl rfl) rfl (wn ?_);have bp:ObjO 66 WriK.rp q O ((B q #[.slice D O.out.length E] 66)++(J)):=⟨_,_,⟨D,E,J,rfl,af,rfl⟩,rfl⟩;have b9:St _ _ _ [(B q #[.slice D O.out.length E] 66)++(J)]:=aj.objs (by simp [Value.cells]);refine wx _ ?_ ⟨ao,(B q #[.slice D O.out.length E] 66)++(J),false,rfl,hF,(by omega),bp,b9⟩;exact ⟨rfl,rfl,rfl,rfl,rfl,rfl,trivial⟩
   ·
    rintro _ cI ⟨ar,au,aB,rfl,hF,cn,aE,aV⟩;obtain _ | aW:=ar
    · exact nn hF
    rw [ps_put.j2] at hF;rcases io hF with ⟨aF,hF⟩|⟨aF,hF⟩
    ·
     refine ct rfl aF ?_;obtain ⟨co,cJ,bq,br⟩:=aE;obtain ⟨bw,ca,cc,rfl,bt,bu⟩:=bq;have aX:St _ _ _ [(B q #[.slice bw O.out.length ca] 66),cc]:=aV.objs (by rw [br,bu];simp [Value.cells]);refine wr (mv rfl (mv rfl (wp (G.nilp rfl) rfl (wp (G.field T.fld66_0 rfl rfl) rfl ?_))));refine wrr (G.load1 T.one64 rfl (cell_blk (aX.blk 0 rfl) rfl)) rfl ?_;obtain ⟨cd,cK,bv,bx,cp,cq⟩:=sl aX (P:=TP) (t:=64) (e:=5) (n:=1) (vs:=[(0,.int .u8 32)]) (cs:=#[.int .u8 32]) (by kernel_rfl);refine wee (bv (fc rfl fn_)) rfl ?_;obtain ⟨X,aJ,hF⟩:=bo hF;have aG:=bx.front 2 rfl;obtain ⟨aa,ab,al,cr,bz,aK,bA,cg⟩:=St.appP (P:=TP) (r:=Rp.u8) (M:=([(32:UInt8)]:List UInt8)) aG T.elt64 rfl bt (Rd.of_blk (aG.blk 1 rfl) (n:=1) (sz:=1) rfl) ⟨_,_,[],[],rfl,rfl,⟨rfl,rfl⟩,⟨rfl,rfl⟩⟩ rfl aJ;refine wee (bz rfl rfl) rfl ?_;refine wp (G.nilp rfl) rfl (wp (G.field T.fld66_0 rfl rfl) rfl ?_);obtain ⟨cu,bB,bC⟩:=so (P:=TP) bA 2 64 (.slice aa X.length ab) (off:=0) (cur':=#[.slice aa X.length ab]) rfl T.size64_1 rfl rfl rfl;refine wuu (bB rfl rfl) ?_;refine wn ?_;have bD:=bC.front 2 rfl;have aL:ObjO 66 WriK.rp q (⟨X⟩:WriK) ((B q #[.slice aa X.length ab] 66)++(al)):=⟨_,_,⟨aa,ab,al,rfl,aK,rfl⟩,rfl⟩;have bE:St _ _ _ [(B q #[.slice aa X.length ab] 66)++(al),(B cd #[.int .u8 32] 5)]:=bD.objs (by simp [Value.cells]);refine wx _ ?_ ⟨aW,(⟨X⟩:WriK),(B q #[.slice aa X.length ab] 66)++(al),rfl,hF,(by omega),aL,(sk bE)⟩;exact ⟨rfl,rfl,rfl,rfl,rfl,trivial⟩
    ·
     refine cf rfl (bf aF) (wsk ?_);refine wx _ ?_ ⟨aW,O,au,rfl,hF,(by omega),aE,aV⟩;exact ⟨rfl,rfl,rfl,rfl,rfl,trivial⟩
  ·
   rintro _ cL ⟨ap,aq,aA,rfl,hF,cv,bF,ce⟩;obtain _ | cx:=ap
   · exact nn hF
   rw [ps_put.j1] at hF;obtain ⟨ch,cy,aM,aN⟩:=bF;obtain ⟨bG,bH,bI,rfl,aO,aP⟩:=aM;have aH:St _ _ _ [(B q #[.slice bG aq.out.length bH] 66),bI]:=ce.objs (by rw [aN,aP];simp [Value.cells]);refine wr (mv rfl (mv rfl (wp (G.nilp rfl) rfl (wp (G.field T.fld66_0 rfl rfl) rfl ?_))));refine wrr (G.load1 T.one64 rfl (cell_blk (aH.blk 0 rfl) rfl)) rfl ?_;refine mv rfl ?_;obtain ⟨Y,aQ,hF⟩:=bo hF;have bJ:=aH.front 1 rfl;obtain ⟨ad,ae,am,cz,bK,aR,bL⟩:=St.appS (P:=TP) (n:=68719476736) bJ T.elt64 Tryz.underlying9 rfl aO aQ;refine wee (bK rfl rfl) rfl ?_;refine wp (G.nilp rfl) rfl (wp (G.field T.fld66_0 rfl rfl) rfl ?_);obtain ⟨cA,bM,bN⟩:=so (P:=TP) bL 1 64 (.slice ad Y.length ae) (off:=0) (cur':=#[.slice ad Y.length ae]) rfl T.size64_1 rfl rfl rfl;refine wuu (bM rfl rfl) ?_;refine wn (win (we (wg (l':=[(0,(Pt q)),(7,.slice an V.length c1),(8,I (V.length:Int)),(9,I ah)]) ⟨rfl,rfl,rfl,rfl,trivial⟩ (wr (wp (G.add rfl rfl (r:=(w64 (ah+1))) rfl) rfl (mv rfl (wn ?_)))))));have bO:=bN.front 1 rfl;have aS:ObjO 66 WriK.rp q (⟨Y⟩:WriK) ((B q #[.slice ad Y.length ae] 66)++(am)):=⟨_,_,⟨ad,ae,am,rfl,aR,rfl⟩,rfl⟩;have bP:St _ _ _ [(B q #[.slice ad Y.length ae] 66)++(am)]:=bO.objs (by simp [Value.cells]);refine wag _ _ (by omega) ?_ ⟨(⟨Y⟩:WriK),(B q #[.slice ad Y.length ae] 66)++(am),w64 (ah+1),rfl,hF,aS,bP⟩;exact ⟨rfl,rfl,rfl,rfl,trivial⟩
 ·
  refine cf rfl (df ay) ?_;refine WCode.exit ?_;refine WEx.then_exit ?_;refine WEx.then_exit ?_;refine WEx.in_exit ?_;obtain rfl:=se hF;refine WEx.end0 rfl ?_;exact ⟨aI,rfl,aT,sk aZ⟩
mutual
def ps_node.l1:Nat→Tree→WriK→Int→Option WriK
  | 0,_,_,_=>none
  | E+1,q,J,D=>if D < (q.Kids.length:Int) then ((idx q.Kids D).bind fun O=>(ps_wdef E J O).bind fun V=>ps_node.l1 E q V (w64 (D+1))) else some J
def ps_node:Nat→WriK→Tree→Option WriK
  | 0,_,_=>none
  | k_+1,C,q=>if q.Kind=1 then (ps_node.l1 k_ q C 0) else if q.Kind=4 then none else if q.Kind=6 then none else if q.Kind=7 then none else if q.Kind=5 then none else if q.Kind=8 then none else if q.Kind=9 then none else if q.Kind=10 then none else if q.Kind=11 then none else if q.Kind=12 then none else (ps_small k_ C q).bind fun X=>some X
def ps_wdef:Nat→WriK→Tree→Option WriK
  | 0,_,_=>none
  | k_+1,C,q=>if q.Kind=2 then ((ps_put k_ C ([[99,111,110,115,116],q.Name,[61]]:List (List UInt8))).bind fun Y=>(ps_kid k_ q 0).bind fun Z=>(ps_node k_ Y Z).bind fun aa=>(ps_put k_ aa ([[59]]:List (List UInt8))).bind fun ab=>some ab) else if q.Kind=3 then none else (ps_node k_ C q).bind fun ad=>(ps_put k_ ad ([[59]]:List (List UInt8))).bind fun ae=>some ae
def ps_small:Nat→WriK→Tree→Option WriK
  | 0,_,_=>none
  | k_+1,C,q=>if q.Kind=14 then none else if q.Kind=15 then none else if q.Kind=16 then none else if q.Kind=17 then none else if q.Kind=27 then none else if q.Kind=28 then ((gv_Itoa k_ q.Number).bind fun af=>(ps_put k_ C ([af]:List (List UInt8))).bind fun ag=>some ag) else (ps_plain k_ q.Kind).bind fun ah=>(ps_put k_ C (ah)).bind fun ai=>some ai
end
def ps_node_C (k:Nat):Prop:=∀ (X:WriK) {O:Nat} {J:Grp} (V:Tree) {q:Option Addr} {C:Nat} {D:Nat→Prop} {w:World} (aa:ObjO 66 WriK.rp O X J) (Y:SlR Tree.rp w D q C V.Kids) (Z:∀ b,D b→NK w [J] b) {r_:WriK} (h_:ps_node k X V=some r_) (hp_:Hp w ([J]).flatten),Calls TP 32 [(Pt O),.agg (ta V q C)].toArray w fun e w'=>∃ E:Grp,e = .returned (.tuple #[])∧ObjO 66 WriK.rp O (r_) E∧St w (KS [J]) w' [E]
def ps_wdef_C (k:Nat):Prop:=∀ (X:WriK) {O:Nat} {J:Grp} (V:Tree) {q:Option Addr} {C:Nat} {D:Nat→Prop} {w:World} (aa:ObjO 66 WriK.rp O X J) (Y:SlR Tree.rp w D q C V.Kids) (Z:∀ b,D b→NK w [J] b) {r_:WriK} (h_:ps_wdef k X V=some r_) (hp_:Hp w ([J]).flatten),Calls TP 56 [(Pt O),.agg (ta V q C)].toArray w fun e w'=>∃ E:Grp,e = .returned (.tuple #[])∧ObjO 66 WriK.rp O (r_) E∧St w (KS [J]) w' [E]
def ps_small_C (k:Nat):Prop:=∀ (X:WriK) {O:Nat} {J:Grp} (V:Tree) {q:Option Addr} {C:Nat} {D:Nat→Prop} {w:World} (aa:ObjO 66 WriK.rp O X J) (Y:SlR Tree.rp w D q C V.Kids) (Z:∀ b,D b→NK w [J] b) {r_:WriK} (h_:ps_small k X V=some r_) (hp_:Hp w ([J]).flatten),Calls TP 63 [(Pt O),.agg (ta V q C)].toArray w fun e w'=>∃ E:Grp,e = .returned (.tuple #[])∧ObjO 66 WriK.rp O (r_) E∧St w (KS [J]) w' [E]
def WrG (k:Nat):Prop:=ps_node_C k∧ps_wdef_C k∧ps_small_C k
theorem ps_node_R (k:Nat) (HG:∀ j_,j_ < k→WrG j_) (am:WriK) {O:Nat} {V:Grp} (q:Tree) {C:Option Addr} {D:Nat} {ag:Nat→Prop} {w:World} (an:ObjO 66 WriK.rp O am V) (Z:SlR Tree.rp w ag C D q.Kids) (E:∀ b,ag b→NK w [V] b) {r_:WriK} (hF:ps_node k am q=some r_) (hp_:Hp w ([V]).flatten) :
    Calls TP 32 [(Pt O),.agg (ta q C D)].toArray w fun e w'=>∃ ah:Grp,e = .returned (.tuple #[])∧ObjO 66 WriK.rp O (r_) ah∧St w (KS [V]) w' [ah]:=by
 obtain _ | k_:=k
 · exact nn hF
 rw [ps_node] at hF;have S:=St.initK [V] hp_;refine enter 189 [(0,(Pt O)),(1,.agg (ta q C D))] Tryz.func32 rfl rfl rfl rfl ?_;refine wq (wr ?_);obtain ⟨aR,bk,a9,ai,bl,bm⟩:=sbx S TP 29 (.agg (ta q C D));refine wee (a9 rfl) rfl ?_;refine wn (we (wq (wr (wp (G.field T.fld29_0 rfl rfl) rfl ?_))));refine wrr (G.load1 T.one3 rfl (cell_blk (ai.blk 0 rfl) rfl)) rfl ?_;refine wn (we ?_);refine WCode.block ?_;refine wq (wr (wp (G.eql rfl rfl rfl) rfl (av rfl (wn (we ?_)))));rcases io hF with ⟨aD,hF⟩|⟨aD,hF⟩
 ·
  refine ct rfl (dt aD) (wq (wr (wp (G.field T.fld29_4 rfl rfl) rfl ?_)));refine wrr (G.load1 T.one27 rfl (cell_blk (ai.blk 0 rfl) rfl)) rfl ?_;refine wp (G.len T.el27 rfl) rfl (mv rfl (wn (we ?_)));refine WCode.block ?_;have aS:=ai.front 1 rfl;refine wg (l':=[(0,(Pt O)),(16,.slice C q.Kids.length D),(17,I (q.Kids.length:Int)),(18,I 0)]) ⟨rfl,rfl,rfl,rfl,trivial⟩ ?_;refine wl (fun n_ l_ w_=>∃ aa:WriK,∃ aj:Grp,∃ X:Int,l_=[(0,(Pt O)),(16,.slice C q.Kids.length D),(17,I (q.Kids.length:Int)),(18,I X)]∧ps_node.l1 n_ q aa X=some r_∧n_≤k_∧(ObjO 66 WriK.rp O aa aj)∧St w (KS [V]) w_ [aj]) k_ ⟨am,V,0,rfl,hF,Nat.le_refl _,an,(sk aS)⟩ ?_;rintro aT _ a' ⟨aa,aj,X,rfl,hF,a8,ao,ak⟩;obtain _ | aU:=aT
  · exact nn hF
  rw [ps_node.l1] at hF;refine wq (wr (wp (G.lss rfl rfl rfl) rfl (wn (we (wq ?_)))));rcases io hF with ⟨al,hF⟩|⟨al,hF⟩
  ·
   refine ct rfl (dt al) (wsk (we (wq ?_)));refine WCode.block ?_;refine wq (wr ?_);obtain ⟨Y,aE,hF⟩:=bo hF;obtain ⟨aV,aF,aG,aH⟩:=idx_spec aE;obtain ⟨ba,aW,aw,aI,aJ,J,aK⟩:=sat Z aG;obtain ⟨ab,ad,aL,aM⟩:=(Tree.rd_iff.1 aK);subst aL;have J:=J.move ((ak.keepF E) _ aJ);change cellsAt _ _ (aW+aV * 5) (tl Y ab ad) at J;refine wp (G.idx T.el27 rfl aI rfl aF aH) rfl ?_;refine wrr (G.loada T.agg29_5 rfl (cs:=(tl Y ab ad)) J) rfl ?_;obtain ⟨bb,bc,aX,aY,aZ,bd⟩:=sv ak (z:=.agg tz) T.zero29;have be:=J.ext aZ;refine wee aX rfl ?_;obtain ⟨bg,a0,ap⟩:=sw aY 0 (ta Y ab ad) T.size29_5 rfl rfl rfl rfl;refine wuu (a0 rfl rfl) ?_;refine wn (we (wr (mv rfl ?_)));refine wrr (G.loada T.agg29_5 rfl (cs:=(tl Y ab ad)) (cb (ap.blk 0 rfl) rfl)) rfl ?_;obtain ⟨a1,aN,hF⟩:=bo hF;have ae:=ap.front 1 rfl;refine wc T.call56 (ec rfl (ec rfl en)) rfl ?_;refine (((HG aU (by omega)).2.1) aa Y ao (aM.ext (ae.keepF E)) (St.outF (Bs:=[aj]) ae E) aN (hn ae)).mono ?_;rintro _ bh ⟨a2,rfl,aO,a3⟩;have a4:=scT a3 ae;refine ⟨_,rfl,?_⟩;refine wn (win (we (wr (wp (G.add rfl rfl (r:=(w64 (X+1))) rfl) rfl (mv rfl (wn ?_))))));refine wag _ _ (by omega) ?_ ⟨a1,a2,w64 (X+1),rfl,hF,(by omega),aO,(sk a4)⟩;exact ⟨rfl,rfl,rfl,rfl,trivial⟩
  ·
   refine cf rfl (df al) ?_;refine WCode.exit ?_;refine WEx.then_exit ?_;refine WEx.then_exit ?_;refine WEx.in_exit ?_;refine win ?_;obtain rfl:=se hF;refine WEx.end0 rfl ?_;exact ⟨aj,rfl,ao,sk ak⟩
 ·
  refine cf rfl (df aD) (wq (wr (wp (G.eql rfl rfl rfl) rfl (av rfl (wn (we ?_))))));rcases io hF with ⟨aq,hF⟩|⟨aq,hF⟩
  ·
   exact nn hF
  ·
   refine cf rfl (df aq) (wq (wr (wp (G.eql rfl rfl rfl) rfl (av rfl (wn (we ?_))))));rcases io hF with ⟨ar,hF⟩|⟨ar,hF⟩
   ·
    exact nn hF
   ·
    refine cf rfl (df ar) (wq (wr (wp (G.eql rfl rfl rfl) rfl (av rfl (wn (we ?_))))));rcases io hF with ⟨au,hF⟩|⟨au,hF⟩
    ·
     exact nn hF
    ·
     refine cf rfl (df au) (wq (wr (wp (G.eql rfl rfl rfl) rfl (av rfl (wn (we (wg (l':=[(0,(Pt O)),(3,(Pt aR)),(9,I q.Kind),(77,.bool (decide (q.Kind=5)))]) ⟨rfl,rfl,rfl,rfl,trivial⟩ ?_)))))));rcases io hF with ⟨ax,hF⟩|⟨ax,hF⟩
     ·
      exact nn hF
     ·
      refine cf rfl (df ax) (wq (wr (wp (G.eql rfl rfl rfl) rfl (av rfl (wn (we ?_))))));rcases io hF with ⟨ay,hF⟩|⟨ay,hF⟩
      ·
       exact nn hF
      ·
       refine cf rfl (df ay) (wq (wr (wp (G.eql rfl rfl rfl) rfl (av rfl (wn (we ?_))))));rcases io hF with ⟨az,hF⟩|⟨az,hF⟩
       ·
        exact nn hF
       ·
        refine cf rfl (df az) (wq (wr (wp (G.eql rfl rfl rfl) rfl (av rfl (wn (we ?_))))));rcases io hF with ⟨aA,hF⟩|⟨aA,hF⟩
        ·
         exact nn hF
        ·
         refine cf rfl (df aA) (wq (wr (wp (G.eql rfl rfl rfl) rfl (av rfl (wn (we ?_))))));rcases io hF with ⟨aB,hF⟩|⟨aB,hF⟩
         ·
          exact nn hF
         ·
          refine cf rfl (df aB) (wq (wr (wp (G.eql rfl rfl rfl) rfl (av rfl (wn (we (wg (l':=[(0,(Pt O)),(3,(Pt aR)),(164,.bool (decide (q.Kind=12)))]) ⟨rfl,rfl,rfl,trivial⟩ ?_)))))));rcases io hF with ⟨aC,hF⟩|⟨aC,hF⟩
          ·
           exact nn hF
          ·
           refine cf rfl (df aC) (wr (mv rfl ?_));refine wrr (G.loada T.agg29_5 rfl (cs:=(tl q C D)) (cb (ai.blk 0 rfl) rfl)) rfl ?_;obtain ⟨bi,aP,hF⟩:=bo hF;have af:=ai.front 1 rfl;refine wc T.call63 (ec rfl (ec rfl en)) rfl ?_;refine (((HG k_ (by omega)).2.2) am q an (Z.ext (af.keepF E)) (St.outF (Bs:=[V]) af E) aP (hn af)).mono ?_;rintro _ bj ⟨a5,rfl,aQ,a6⟩;have a7:=scT a6 af;refine ⟨_,rfl,?_⟩;refine wn (win ?_);obtain rfl:=se hF;refine WEx.end0 rfl ?_;exact ⟨a5,rfl,aQ,sk a7⟩
theorem ps_wdef_R (k:Nat) (HG:∀ j_,j_ < k→WrG j_) (ah:WriK) {ad:Nat} {O:Grp} (E:Tree) {C:Option Addr} {D:Nat} {ae:Nat→Prop} {w:World} (ai:ObjO 66 WriK.rp ad ah O) (V:SlR Tree.rp w ae C D E.Kids) (q:∀ b,ae b→NK w [O] b) {r_:WriK} (hF:ps_wdef k ah E=some r_) (hp_:Hp w ([O]).flatten) :
    Calls TP 56 [(Pt ad),.agg (ta E C D)].toArray w fun e w'=>∃ af:Grp,e = .returned (.tuple #[])∧ObjO 66 WriK.rp ad (r_) af∧St w (KS [O]) w' [af]:=by
 obtain _ | k_:=k
 · exact nn hF
 rw [ps_wdef] at hF;have S:=St.initK [O] hp_;refine enter 32 [(0,(Pt ad)),(1,.agg (ta E C D))] Tryz.func56 rfl rfl rfl rfl ?_;refine wq (wr ?_);obtain ⟨a4,bj,a5,ag,bk,bl⟩:=sbx S TP 29 (.agg (ta E C D));refine wee (a5 rfl) rfl ?_;refine wn (we (wq (wq (wr (wp (G.field T.fld29_0 rfl rfl) rfl ?_)))));refine wrr (G.load1 T.one3 rfl (cell_blk (ag.blk 0 rfl) rfl)) rfl ?_;refine wn (we ?_);refine WCode.block ?_;refine wq (wr (wp (G.eql rfl rfl rfl) rfl (av rfl (wn (we ?_)))));rcases io hF with ⟨ak,hF⟩|⟨ak,hF⟩
 ·
  refine ct rfl (dt ak) (wq (wr (mv rfl (wp (G.field T.fld29_1 rfl rfl) rfl ?_))));refine wrr (G.load1 T.one9 rfl (cell_blk (ag.blk 0 rfl) rfl)) rfl ?_;obtain ⟨bm,bn,aF,aG,al⟩:=sls ag [[99,111,110,115,116],E.Name,[61]] ⟨by kernel_rfl,nb rfl,nb rfl⟩;refine wee (aF (fc rfl (fc rfl (fc rfl fn_)))) rfl ?_;obtain ⟨aH,am,hF⟩:=bo hF;have X:=aG.front 2 rfl;refine wc T.call57 (ec rfl (ec rfl en)) rfl ?_;refine (ps_put_calls k_ ah ([[99,111,110,115,116],E.Name,[61]]:List (List UInt8)) ai (rds al X 1 rfl) (St.outG (Bs:=[O]) X 0 rfl) am (hn X)).mono ?_;rintro _ a6 ⟨aI,rfl,an,aJ⟩;have Y:=scT aJ X;refine ⟨_,rfl,?_⟩;refine wn (we (wg (l':=[(0,(Pt ad)),(3,(Pt a4))]) ⟨rfl,rfl,trivial⟩ (wr (mv rfl ?_))));refine wrr (G.loada T.agg29_5 rfl (cs:=(tl E C D)) (cb (Y.blk 2 rfl) rfl)) rfl ?_;obtain ⟨aK,ao,hF⟩:=bo hF;refine wc T.call60 (ec rfl (ec rfl en)) rfl ?_;refine (ps_kid_calls k_ E 0 (V.ext (Y.keepF q)) (St.outF (Bs:=[]) Y q) ao).mono ?_;rintro _ a7 ⟨a8,a9,rfl,ap,aL⟩;have J:=scT aL Y;have aq:=SlR.ext ap (fun b hb=>(J.keepF q b hb).symm);refine ⟨_,rfl,?_⟩;obtain ⟨aM,ar,hF⟩:=bo hF;refine wc T.call32 (ec rfl (ec rfl en)) rfl ?_;refine (((HG k_ (by omega)).1) aH aK an (aq.ext (J.keepF q)) (St.outF (Bs:=[aI]) J q) ar (hn J)).mono ?_;rintro _ aw ⟨aN,rfl,au,aO⟩;have aP:=scT aO J;refine ⟨_,rfl,?_⟩;refine wn (win (we (wr (mv rfl ?_))));obtain ⟨a',ba,aQ,aR,ax⟩:=sls aP [[59]] ⟨by kernel_rfl,nb rfl,nb rfl⟩;refine wee (aQ (fc rfl fn_)) rfl ?_;obtain ⟨bb,ay,hF⟩:=bo hF;have Z:=aR.front 1 rfl;refine wc T.call57 (ec rfl (ec rfl en)) rfl ?_;refine (ps_put_calls k_ aM ([[59]]:List (List UInt8)) au (rds ax Z 1 rfl) (St.outG (Bs:=[aN]) Z 0 rfl) ay (hn Z)).mono ?_;rintro _ bc ⟨aS,rfl,az,aT⟩;have aU:=scT aT Z;refine ⟨_,rfl,?_⟩;refine wn ?_;obtain rfl:=se hF;refine WEx.end0 rfl ?_;exact ⟨aS,rfl,az,sk aU⟩
 ·
  refine cf rfl (df ak) (wq (wr (wp (G.eql rfl rfl rfl) rfl (av rfl (wn (we ?_))))));rcases io hF with ⟨aj,hF⟩|⟨aj,hF⟩
  ·
   exact nn hF
  ·
   refine cf rfl (df aj) (wr (mv rfl ?_));refine wrr (G.loada T.agg29_5 rfl (cs:=(tl E C D)) (cb (ag.blk 0 rfl) rfl)) rfl ?_;obtain ⟨aV,aA,hF⟩:=bo hF;have aa:=ag.front 1 rfl;refine wc T.call32 (ec rfl (ec rfl en)) rfl ?_;refine (((HG k_ (by omega)).1) ah E ai (V.ext (aa.keepF q)) (St.outF (Bs:=[O]) aa q) aA (hn aa)).mono ?_;rintro _ bd ⟨aW,rfl,aB,aX⟩;have aY:=scT aX aa;refine ⟨_,rfl,?_⟩;refine wn (win (we (wg (l':=[(0,(Pt ad))]) ⟨rfl,trivial⟩ (wr (mv rfl ?_)))));obtain ⟨be,bg,aZ,a0,aC⟩:=sls aY [[59]] ⟨by kernel_rfl,nb rfl,nb rfl⟩;refine wee (aZ (fc rfl fn_)) rfl ?_;obtain ⟨bh,aD,hF⟩:=bo hF;have ab:=a0.front 1 rfl;refine wc T.call57 (ec rfl (ec rfl en)) rfl ?_;refine (ps_put_calls k_ aV ([[59]]:List (List UInt8)) aB (rds aC ab 1 rfl) (St.outG (Bs:=[aW]) ab 0 rfl) aD (hn ab)).mono ?_;rintro _ bi ⟨a1,rfl,aE,a2⟩;have a3:=scT a2 ab;refine ⟨_,rfl,?_⟩;refine wn ?_;obtain rfl:=se hF;refine WEx.end0 rfl ?_;exact ⟨a1,rfl,aE,sk a3⟩
theorem ps_small_R (k:Nat) (HG:∀ j_,j_ < k→WrG j_) (ab:WriK) {V:Nat} {E:Grp} (q:Tree) {C:Option Addr} {D:Nat} {X:Nat→Prop} {w:World} (ad:ObjO 66 WriK.rp V ab E) (aJ:SlR Tree.rp w X C D q.Kids) (aK:∀ b,X b→NK w [E] b) {r_:WriK} (hF:ps_small k ab q=some r_) (hp_:Hp w ([E]).flatten) :
    Calls TP 63 [(Pt V),.agg (ta q C D)].toArray w fun e w'=>∃ Y:Grp,e = .returned (.tuple #[])∧ObjO 66 WriK.rp V (r_) Y∧St w (KS [E]) w' [Y]:=by
 obtain _ | k_:=k
 · exact nn hF
 rw [ps_small] at hF;have S:=St.initK [E] hp_;refine enter 84 [(0,(Pt V)),(1,.agg (ta q C D))] Tryz.func63 rfl rfl rfl rfl ?_;refine wq (wr ?_);obtain ⟨aL,aY,aM,Z,aZ,a0⟩:=sbx S TP 29 (.agg (ta q C D));refine wee (aM rfl) rfl ?_;refine wn (we (wq (wr (wp (G.field T.fld29_0 rfl rfl) rfl ?_))));refine wrr (G.load1 T.one3 rfl (cell_blk (Z.blk 0 rfl) rfl)) rfl ?_;refine wn (we ?_);refine WCode.block ?_;refine wq (wr (wp (G.eql rfl rfl rfl) rfl (av rfl (wn (we ?_)))));rcases io hF with ⟨ap,hF⟩|⟨ap,hF⟩
 ·
  exact nn hF
 ·
  refine cf rfl (df ap) (wq (wr (wp (G.eql rfl rfl rfl) rfl (av rfl (wn (we ?_))))));rcases io hF with ⟨aq,hF⟩|⟨aq,hF⟩
  ·
   exact nn hF
  ·
   refine cf rfl (df aq) (wq (wr (wp (G.eql rfl rfl rfl) rfl (av rfl (wn (we ?_))))));rcases io hF with ⟨ar,hF⟩|⟨ar,hF⟩
   ·
    exact nn hF
   ·
    refine cf rfl (df ar) (wq (wr (wp (G.eql rfl rfl rfl) rfl (av rfl (wn (we ?_))))));rcases io hF with ⟨ae,hF⟩|⟨ae,hF⟩
    ·
     exact nn hF
    ·
     refine cf rfl (df ae) (wq (wr (wp (G.eql rfl rfl rfl) rfl (av rfl (wn (we (wg (l':=[(0,(Pt V)),(3,(Pt aL)),(5,I q.Kind),(69,.bool (decide (q.Kind=27)))]) ⟨rfl,rfl,rfl,rfl,trivial⟩ ?_)))))));rcases io hF with ⟨af,hF⟩|⟨af,hF⟩
     ·
      exact nn hF
     ·
      refine cf rfl (df af) (wq (wr (wp (G.eql rfl rfl rfl) rfl (av rfl (wn (we ?_))))));rcases io hF with ⟨aa,hF⟩|⟨aa,hF⟩
      ·
       refine ct rfl (dt aa) (wr (mv rfl (wp (G.field T.fld29_2 rfl rfl) rfl ?_)));refine wrr (G.load1 T.one3 rfl (cell_blk (Z.blk 0 rfl) rfl)) rfl ?_;obtain ⟨ag,ah,hF⟩:=bo hF;refine wc T.call102 (ec rfl en) rfl ?_;refine (gv_Itoa_calls k_ q.Number ah).mono ?_;rintro _ aN ⟨rfl,au⟩;have ax:=scT au Z;refine ⟨_,rfl,?_⟩;obtain ⟨aO,aP,ay,az,ai⟩:=sls ax [ag] ⟨by kernel_rfl,nb rfl,nb rfl⟩;refine wee (ay (fc rfl fn_)) rfl ?_;obtain ⟨aQ,aj,hF⟩:=bo hF;have J:=az.front 2 rfl;refine wc T.call57 (ec rfl (ec rfl en)) rfl ?_;refine (ps_put_calls k_ ab ([ag]:List (List UInt8)) ad (rds ai J 1 rfl) (St.outG (Bs:=[E]) J 0 rfl) aj (hn J)).mono ?_;rintro _ aR ⟨aA,rfl,ak,aB⟩;have aC:=scT aB J;refine ⟨_,rfl,?_⟩;refine wn (win ?_);obtain rfl:=se hF;refine WEx.end0 rfl ?_;exact ⟨aA,rfl,ak,sk aC⟩
      ·
       refine cf rfl (df aa) (wr (mv rfl (wp (G.field T.fld29_0 rfl rfl) rfl ?_)));refine wrr (G.load1 T.one3 rfl (cell_blk (Z.blk 0 rfl) rfl)) rfl ?_;obtain ⟨aD,al,hF⟩:=bo hF;refine wc T.call103 (ec rfl en) rfl ?_;refine (ps_plain_calls k_ q.Kind al).mono ?_;rintro _ aS ⟨aT,aU,aV,rfl,am,aE⟩;have aF:=scT aE Z;refine ⟨_,rfl,?_⟩;obtain ⟨aW,an,hF⟩:=bo hF;have O:=aF.front 2 rfl;refine wc T.call57 (ec rfl (ec rfl en)) rfl ?_;refine (ps_put_calls k_ ab (aD) ad (rds am O 1 rfl) (St.outG (Bs:=[E]) O 0 rfl) an (hn O)).mono ?_;rintro _ aX ⟨aG,rfl,ao,aH⟩;have aI:=scT aH O;refine ⟨_,rfl,?_⟩;refine wn (win ?_);obtain rfl:=se hF;refine WEx.end0 rfl ?_;exact ⟨aG,rfl,ao,sk aI⟩
theorem WrG_all:∀ k,WrG k:=fun k=>Nat.strongRecOn k fun k HG=>⟨@ps_node_R k HG,@ps_wdef_R k HG,@ps_small_R k HG⟩
theorem ps_node_calls (k:Nat):ps_node_C k:=(WrG_all k).1
end Go.Proofs.YtnhifhlbelogcaaGreatDoor
