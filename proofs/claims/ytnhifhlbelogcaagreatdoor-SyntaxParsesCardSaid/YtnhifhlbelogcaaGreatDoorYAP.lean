/- Functions and their walks (printed by auto.py over the engine). -/
import Derived.Test.YtnhifhlbelogcaaGreatDoorYAb
import Derived.Test.YtnhifhlbelogcaaGreatDoorProg
import Derived.Test.YtnhifhlbelogcaaGreatDoorYSN
set_option maxRecDepth 100000
set_option maxHeartbeats 1000000
namespace Go.Proofs.YtnhifhlbelogcaaGreatDoor
open Go Go.Eng
set_option linter.unusedSimpArgs false
set_option linter.unusedVariables false
theorem T.call29:Callable TP 29:=cm Tryz.func29
theorem T.call30:Callable TP 30:=cm Tryz.func30
theorem T.el26:slEl TP 26=some 1:=by kernel_rfl
theorem T.el59:slEl TP 59=some 1:=by kernel_rfl
theorem T.elt26:Elt TP 26 27 1 24:=elt_mk (z:=.slice none 0 0) Tryz.underlying26 (by kernel_rfl) rfl
theorem T.elt59:Elt TP 59 3 1 8:=elt_mk (z:=I 0) Tryz.underlying59 (by kernel_rfl) rfl
structure TreeH where
  Kind:Int
  Name:List UInt8
  Number:Int
  At:Int
  Kids:Hs
  deriving DecidableEq
def TreeH.cs (x:TreeH):List Value:=[I x.Kind,.string (bs x.Name),I x.Number,I x.At,.slice x.Kids.1 x.Kids.2.1 x.Kids.2.2]
def TreeH.rp:Rp TreeH:=.plain TreeH.cs 5 (fun _=>rfl) (fun _=>rfl)
def sy_mark (k:Nat) (q:Int):Option TreeH:=(some (⟨-5,[],q,0,((none,0,0):Hs)⟩:TreeH))
theorem sy_mark_calls (k:Nat) (q:Int) {w:World} {r_:TreeH} (hF:sy_mark k q=some r_) :
    Calls TP 29 [I q].toArray w fun e w'=>e = .returned (.agg #[I r_.Kind,.string (bs r_.Name),I r_.Number,I r_.At,.slice r_.Kids.1 r_.Kids.2.1 r_.Kids.2.2])∧St w (KS []) w' []:=by
 unfold sy_mark at hF;have S:=St.ofFalse (As:=[]) (St.init0 w);refine enter 5 [(0,I q)] Tryz.func29 rfl rfl rfl rfl ?_;refine wq (wr ?_);obtain ⟨O,V,D,E,X,Y⟩:=sv S (z:=.agg tz) T.zero29;refine wee D rfl ?_;refine wn (we (wq (wr (mv rfl (wp (G.build (cells:=(tg (-5) [] q 0 (.slice none 0 0))) (fs_ (fc rfl (fc rfl fn_))) (by kernel_rfl)) rfl ?_)))));obtain ⟨Z,J,C⟩:=sw E 0 (tg (-5) [] q 0 (.slice none 0 0)) T.size29_5 rfl rfl rfl rfl;refine wuu (J rfl rfl) ?_;refine wn (we (wrt ?_));obtain rfl:=se hF;refine wrc rfl rfl (cs:=[I (-5),.string (bs []),I q,I 0,.slice none 0 0]) T.agg29_5 (cb (C.blk 0 rfl) rfl) ?_;exact ⟨rfl,sk C⟩
def sy_reads.l1:Nat→List TreeH→Int→Int→Option Bool
  | 0,_,_,_=>none
  | J+1,q,D,C=>if C < (q.length:Int) then ((idx q C).bind fun O=>if O.Kind=(-5) then ((idx q C).bind fun E=>if E.Number=D then (sy_reads.l1 J q D (w64 (C+1))) else some false) else some false) else some true
def sy_reads (k:Nat) (q:List TreeH) (C:Int):Option Bool:=(sy_reads.l1 k q C 0)
theorem sy_reads_calls (k:Nat) (J:List TreeH) {O:Option Addr} {c0:Nat} {aB:Nat→Prop} (E:Int) {w:World} (ae:SlR TreeH.rp w aB O c0 J) (af:∀ b,aB b→NK w [] b) {r_:Bool} (hF:sy_reads k J E=some r_) :
    Calls TP 30 [.slice O J.length c0,I E].toArray w fun e w'=>e = .returned (.bool r_)∧St w (KS []) w' []:=by
 unfold sy_reads at hF;have S:=St.ofFalse (As:=[]) (St.init0 w);refine enter 27 [(0,.slice O J.length c0),(1,I E)] Tryz.func30 rfl rfl rfl rfl ?_;refine wq (wr (av rfl (wn (we (wq (wq (wr (av rfl (wn (we ?_))))))))));refine WCode.block ?_;refine wg (l':=[(0,.slice O J.length c0),(1,I E),(5,I 0)]) ⟨rfl,rfl,rfl,trivial⟩ ?_;refine wl (fun n_ l_ w_=>∃ V:Int,l_=[(0,.slice O J.length c0),(1,I E),(5,I V)]∧sy_reads.l1 n_ J E V=some r_∧St w (KS []) w_ []) k ⟨0,rfl,hF,S⟩ ?_;rintro aF _ aJ ⟨V,rfl,hF,X⟩;obtain _ | aK:=aF
 · exact nn hF
 rw [sy_reads.l1] at hF;refine wq (wq (wr (mv rfl (mv rfl (wp (G.len T.el27 rfl) rfl (wp (G.lss rfl rfl rfl) rfl (wn (we ?_))))))));rcases io hF with ⟨ah,hF⟩|⟨ah,hF⟩
 ·
  refine ct rfl (dt ah) (wsk (we (wq ?_)));refine WCode.block ?_;refine wq (wr (mv rfl (mv rfl ?_)));obtain ⟨D,aC,hF⟩:=bo hF;obtain ⟨aD,ai,aj,ak⟩:=idx_spec aC;obtain ⟨aI,aE,al,am,aG,Y,an⟩:=sat (ae.ext (X.keepF af)) aj;have ao:al=[I D.Kind,.string (bs D.Name),I D.Number,I D.At,.slice D.Kids.1 D.Kids.2.1 D.Kids.2.2]:=an;subst ao;change cellsAt _ _ (aE+aD * 5) [I D.Kind,.string (bs D.Name),I D.Number,I D.At,.slice D.Kids.1 D.Kids.2.1 D.Kids.2.2] at Y;refine wp (G.idx T.el27 rfl am rfl ai ak) rfl (wp (G.field T.fld29_0 rfl rfl) rfl ?_);refine wrr (G.load1 T.one3 rfl (cellsAt.at0 Y)) rfl ?_;refine wp (G.neq rfl rfl rfl) rfl (mv rfl ?_);rcases io hF with ⟨q,hF⟩|⟨q,hF⟩
  ·
   refine WOps.on rfl (kbl rfl (nf (dt q))) ?_;refine mv rfl ?_;refine WOps.on rfl (kbl rfl (nf (dt q))) ?_;refine mv rfl ?_;refine WOps.on rfl (kbl rfl (nf (dt q))) ?_;obtain ⟨C,ap,hF⟩:=bo hF;obtain ⟨Z,aq,ar,au⟩:=idx_spec ap;obtain ⟨ag,aa,ax,ay,aH,ab,az⟩:=sat (ae.ext (X.keepF af)) ar;have aA:ax=[I C.Kind,.string (bs C.Name),I C.Number,I C.At,.slice C.Kids.1 C.Kids.2.1 C.Kids.2.2]:=az;subst aA;change cellsAt _ _ (aa+Z * 5) [I C.Kind,.string (bs C.Name),I C.Number,I C.At,.slice C.Kids.1 C.Kids.2.1 C.Kids.2.2] at ab;refine wp (G.idx T.el27 rfl ay rfl aq au) rfl ?_;refine WOps.on rfl (kbl rfl (nf (dt q))) ?_;refine wp (G.field T.fld29_2 rfl rfl) rfl ?_;refine WOps.on rfl (kbl rfl (nf (dt q))) ?_;refine wrr (G.load1 T.one3 rfl (cellsAt.at ab 2 rfl)) rfl ?_;refine WOps.on rfl (kbl rfl (nf (dt q))) ?_;refine mv rfl ?_;refine WOps.on rfl (kbl rfl (nf (dt q))) ?_;refine wp (G.neq rfl rfl rfl) rfl (wp (G.pick_f (kb rfl (nf (dt q))) rfl) rfl (wn (we (wg (l':=[(0,.slice O J.length c0),(1,I E),(5,I V),(19,.slice O J.length c0),(20,I V),(21,.pointer (some ⟨ag,aa+Z * 5,none⟩)),(22,.pointer (some ⟨ag,aa+Z * 5+2,none⟩)),(23,I C.Number),(24,I E),(25,.bool (!(decide (C.Number=E)))),(26,.bool (!(decide (C.Number=E))))]) ⟨rfl,rfl,rfl,rfl,rfl,rfl,rfl,rfl,rfl,rfl,rfl,trivial⟩ ?_))));rcases io hF with ⟨ad,hF⟩|⟨ad,hF⟩
   ·
    refine WCode.cond_f (kb rfl (nf (dt ad))) ?_;refine wsk (win (we (wr (mv rfl (wp (G.add rfl rfl (r:=(w64 (V+1))) rfl) rfl (av rfl (wn ?_)))))));refine wag _ _ (by omega) ?_ ⟨w64 (V+1),rfl,hF,X⟩;exact ⟨rfl,rfl,rfl,trivial⟩
   ·
    refine WCode.cond_t (kb rfl (nt (df ad))) ?_;refine wq (wr (av rfl (wn (we (wg (l':=[(4,.bool false)]) ⟨rfl,trivial⟩ (wrt ?_))))));refine WEx.in_ret ?_;refine wtr (wtr ?_);refine WEx.in_ret ?_;refine wtr ?_;obtain rfl:=se hF;refine WEx.ret1 rfl rfl ?_;exact ⟨rfl,sk X⟩
  ·
   refine WOps.off rfl (kbl rfl (nt (df q))) rfl rfl ?_;refine WOps.off rfl (kbl rfl (nt (df q))) rfl rfl ?_;refine WOps.off rfl (kbl rfl (nt (df q))) rfl rfl ?_;refine WOps.off rfl (kbl rfl (nt (df q))) rfl rfl ?_;refine WOps.off rfl (kbl rfl (nt (df q))) rfl rfl ?_;refine WOps.off rfl (kbl rfl (nt (df q))) rfl rfl ?_;refine WOps.off rfl (kbl rfl (nt (df q))) rfl rfl ?_;refine wp (G.pick_t (kb rfl (nt (df q))) rfl) rfl (wn (we (wg (l':=[(0,.slice O J.length c0),(1,I E),(5,I V),(19,undef),(20,undef),(21,undef),(22,undef),(23,undef),(24,undef),(25,undef),(26,.bool true)]) ⟨rfl,rfl,rfl,rfl,rfl,rfl,rfl,rfl,rfl,rfl,rfl,trivial⟩ ?_)));refine WCode.cond_t rfl ?_;refine wq (wr (av rfl (wn (we (wg (l':=[(4,.bool false)]) ⟨rfl,trivial⟩ (wrt ?_))))));refine WEx.in_ret ?_;refine wtr (wtr ?_);refine WEx.in_ret ?_;refine wtr ?_;obtain rfl:=se hF;refine WEx.ret1 rfl rfl ?_;exact ⟨rfl,sk X⟩
 ·
  refine cf rfl (df ah) ?_;refine WCode.exit ?_;refine WEx.then_exit ?_;refine WEx.then_exit ?_;refine WEx.in_exit ?_;refine we (wq (wr (av rfl (wn (we (wrt ?_))))));obtain rfl:=se hF;refine WEx.ret1 rfl rfl ?_;exact ⟨rfl,sk X⟩
def sy_apart.l5:Nat→List (List TreeH)→List Int→Int→Option Bool
  | 0,_,_,_=>none
  | D+1,C,E,q=>if q < (C.length:Int) then ((idx C q).bind fun J=>(idx E q).bind fun O=>(sy_reads D J O).bind fun V=>if V=true then (sy_apart.l5 D C E (w64 (q+1))) else some false) else some true
def sy_apart.j2 (q:Nat) (C:List (List TreeH)) (D:List Int):Option Bool:=(sy_apart.l5 q C D 0)
mutual
def sy_apart.l4:Nat→List (List TreeH)→Int→List (List TreeH)→List Int→List TreeH→Int→Option Bool
  | 0,_,_,_,_,_,_=>none
  | C+1,l3,q,D,E,J,O=>if O < 5 then ((cat D ([J]:List (List TreeH))).bind fun Z=>(cat E ([q]:List Int)).bind fun aa=>(sy_mark C q).bind fun ab=>(cat J ([ab]:List TreeH)).bind fun ad=>sy_apart.l4 C l3 q Z aa ad (w64 (O+1))) else sy_apart.l3 C l3 D E (w64 (q+1))
def sy_apart.l3:Nat→List (List TreeH)→List (List TreeH)→List Int→Int→Option Bool
  | 0,_,_,_,_=>none
  | V+1,l3,X,Y,q=>if q < (l3.length:Int) then ((idx l3 q).bind fun ae=>sy_apart.l4 V l3 q X Y ae 0) else sy_apart.j2 V X Y
end
def sy_apart.j1 (q:Nat) (l3:List (List TreeH)):Option Bool:=(sy_apart.l3 q l3 [] [] 0)
mutual
def sy_apart.l2:Nat→Int→List (List TreeH)→Int→Option Bool
  | 0,_,_,_=>none
  | E+1,q,C,D=>(idx C q).bind fun Y=>if D < (Y.length:Int) then ((idx C q).bind fun O=>(sy_mark E q).bind fun Z=>(idx O D).bind fun ab=>(upd O D Z).bind fun aa=>(upd C q aa).bind fun X=>sy_apart.l2 E q X (w64 (D+1))) else sy_apart.l1 E C (w64 (q+1))
def sy_apart.l1:Nat→List (List TreeH)→Int→Option Bool
  | 0,_,_=>none
  | V+1,J,q=>(if q < (J.length:Int) then (sy_apart.l2 V q J 0) else (sy_apart.j1 V J))
end
def sy_apart (k:Nat) (q:List (List TreeH)):Option Bool:=(sy_apart.l1 k q 0)
theorem sy_apart_calls (k:Nat) (aV:List (List TreeH)) {bj:Option Addr} {c0:Nat} {ad:Grp} {w:World} (d4:SlO 27 (Rp.slice 29 TreeH.rp) (.slice bj aV.length c0) aV ad) {r_:Bool} (hF:sy_apart k aV=some r_) (hp_:Hp w ([ad]).flatten) :
    Calls TP 13 [.slice bj aV.length c0].toArray w fun e w'=>e = .returned (.bool r_)∧St w (KS [ad]) w' []:=by
 unfold sy_apart at hF;have S:=St.initK [ad] hp_;refine enter 79 [(0,.slice bj aV.length c0)] Tryz.func13 rfl rfl rfl rfl ?_;refine wq (wr (av rfl (wn (we ?_))));refine wqs (fun l_ w_=>∃ cR:Nat,∃ aB:Option Addr,∃ c2:Nat,∃ l3:List (List TreeH),∃ bk:Grp,l_=[(0,.slice aB l3.length c2)]∧sy_apart.j1 cR l3=some r_∧(SlO 27 (Rp.slice 29 TreeH.rp) (.slice aB l3.length c2) l3 bk)∧St w (KS [ad]) w_ [bk]) ?_ ?_
 ·
  refine wq (wr (av rfl (wn (we ?_))));refine WCode.block ?_;refine wg (l':=[(0,.slice bj aV.length c0),(3,I 0)]) ⟨rfl,rfl,trivial⟩ ?_;refine wl (fun n_ l_ w_=>∃ aC:Option Addr,∃ aD:Nat,∃ ax:List (List TreeH),∃ aU:Grp,∃ X:Int,l_=[(0,.slice aC ax.length aD),(3,I X)]∧sy_apart.l1 n_ ax X=some r_∧(SlO 27 (Rp.slice 29 TreeH.rp) (.slice aC ax.length aD) ax aU)∧St w (KS [ad]) w_ [aU]) k ⟨bj,c0,aV,ad,0,rfl,hF,d4,S⟩ ?_;rintro d5 _ eZ ⟨aC,aD,ax,aU,X,rfl,hF,bl,cN⟩;obtain _ | bm:=d5
  · exact nn hF
  rw [sy_apart.l1] at hF;refine wq (wq (wr (mv rfl (mv rfl (wp (G.len T.el26 rfl) rfl (wp (G.lss rfl rfl rfl) rfl (wn (we ?_))))))));rcases io hF with ⟨bn,hF⟩|⟨bn,hF⟩
  ·
   refine ct rfl (dt bn) (wsk (we (wq ?_)));refine WCode.block ?_;refine wq (wr (av rfl (wn (we ?_))));refine WCode.block ?_;refine wg (l':=[(0,.slice aC ax.length aD),(3,I X),(4,I 0)]) ⟨rfl,rfl,rfl,trivial⟩ ?_;refine wl (fun n_ l_ w_=>∃ aE:Option Addr,∃ aF:Nat,∃ az:List (List TreeH),∃ a9:Grp,∃ aG:Int,l_=[(0,.slice aE az.length aF),(3,I X),(4,I aG)]∧sy_apart.l2 n_ X az aG=some r_∧n_≤bm∧(SlO 27 (Rp.slice 29 TreeH.rp) (.slice aE az.length aF) az a9)∧St w (KS [ad]) w_ [a9]) bm ⟨aC,aD,ax,aU,0,rfl,hF,Nat.le_refl _,bl,cN⟩ ?_;rintro d6 _ d7 ⟨aE,aF,az,a9,aG,rfl,hF,ee,aW,aw⟩;obtain _ | d8:=d6
   · exact nn hF
   rw [sy_apart.l2] at hF;refine wq (wq (wr (mv rfl (mv rfl (mv rfl ?_)))));obtain ⟨e0,cS,hF⟩:=bo hF;obtain ⟨e1,cT,cU,cV⟩:=idx_spec cS;obtain ⟨e2,e3,eh,ei,ej,b0⟩:=SlO.subH aW cU;obtain ⟨e4,e5,cW,ek,cX⟩:=b0 _ (fun b o hb=>aw.grp 0 rfl hb);refine wp (G.idx T.el26 rfl cW rfl cT cV) rfl ?_;refine wrr (G.load1 T.one27 rfl (cellsAt.at0 cX)) rfl ?_;refine wp (G.len T.el27 rfl) rfl (wp (G.lss rfl rfl rfl) rfl (wn (we ?_)));rcases io hF with ⟨bp,hF⟩|⟨bp,hF⟩
   ·
    refine ct rfl (dt bp) (wsk (we (wq ?_)));refine WCode.block ?_;obtain ⟨cO,cY,hF⟩:=bo hF;obtain ⟨e6,bq,cZ,c5⟩:=idx_spec cY;obtain ⟨e7,e8,el,c6,em,b1⟩:=SlO.subH aW cZ;obtain ⟨e9,ew,aX,eo,ep⟩:=b1 _ (fun b o hb=>aw.grp 0 rfl hb);obtain ⟨fa,cP,br,aY,d9⟩:=St.focusS aw c6;refine WCode.drawH (.one 0 0 (.one 1 0 (.one 2 0 (.one 4 0 (.one 5 0 (.one 3 1 (.one 6 2 (.one 7 0 (.one 8 2 .nil))))))))) (fun W_=>(∀ b_,b_∈keys cP→W_.heap[b_]? = (wOf w cP).heap[b_]?)∧True) T.mixed (by kernel_rfl) (by intro _ _ d _ _ h;cases d <;> exact h) rfl rfl (by kernel_rfl) ?_ ?_
    all_goals have bt:=d9.drew
    all_goals generalize d7.drew=fb at *
    · exact ⟨(bt.vw 1 rfl),trivial⟩
    refine hp rfl wants (gm rfl) rfl ?_;refine hp rfl wants (gm rfl) rfl ?_;have c7:=SlH.cells aY (wOf_at (u:=w) (bt.nd 1 rfl)) aX;have c8:=SlH.key aY aX;refine hp rfl wants (G.idx T.el26 rfl aX rfl bq c5) rfl ?_;refine hp rfl wants (gm rfl) rfl ?_;refine hp rfl wants (gm rfl) rfl ?_;refine WH.r rfl wants (fun _ h_=>G.load1 T.one27 rfl (cellsAt.at0 (cellsAt.move c7 (h_.1 _ c8)))) rfl ?_;obtain ⟨ay,c9,hF⟩:=bo hF;refine WH.call rfl wants T.call29 (ec rfl en) rfl ?_;refine (sy_mark_calls d8 X c9).mono ?_;rintro _ fd ⟨rfl,dw⟩;have bu:=scT dw bt;refine ⟨_,rfl,?_⟩;refine ⟨⟨(bu.vw 1 rfl),trivial⟩,?_⟩;obtain ⟨D,cw,hF⟩:=bo hF;obtain ⟨d',bv,bx,c'⟩:=idx_spec cw;obtain ⟨fe,ea,da,bz,er,db,dc⟩:=sat (rds br bu 0 rfl) bx;have dd:da=[I D.Kind,.string (bs D.Name),I D.Number,I D.At,.slice D.Kids.1 D.Kids.2.1 D.Kids.2.2]:=dc;subst dd;change cellsAt _ _ (ea+d' * 5) [I D.Kind,.string (bs D.Name),I D.Number,I D.At,.slice D.Kids.1 D.Kids.2.1 D.Kids.2.2] at db;refine hp rfl wants (G.idx T.el27 rfl bz rfl bv c') rfl ?_;obtain ⟨cQ,de,hF⟩:=bo hF;have bA:=upd_spec' de bv;obtain ⟨et,eu,dg,a',aZ⟩:=St.storeF (P:=TP) (T:=29) bu br T.size29_5 bx bz ay (v:=.agg #[I ay.Kind,.string (bs ay.Name),I ay.Number,I ay.At,.slice ay.Kids.1 ay.Kids.2.1 ay.Kids.2.2]) [] [I D.Kind,.string (bs D.Name),I D.Number,I D.At,.slice D.Kids.1 D.Kids.2.1 D.Kids.2.2] [] rfl rfl rfl;rw [← bA] at a';have aH:(cO).length=cQ.length:=by rw [bA,List.length_set]
    try rw [aH] at aZ
    try rw [aH]
    refine WH.u rfl wants (dg rfl rfl) ⟨(aZ.vw 1 rfl),trivial⟩ ?_;refine WH.nil ?_;obtain ⟨a0,b5,hF⟩:=bo hF;have bB:=upd_spec' b5 bq;have b6:(cO).length=(cQ).length:=aH;obtain ⟨dh,ba,bC⟩:=St.shutL aZ aY ⟨_,by rw [b6],a'⟩;rw [← bB] at ba;have bb:(az).length=a0.length:=by rw [bB,List.length_set]
    try rw [bb] at bC
    try rw [bb]
    refine win (we (wg (l':=[(0,.slice aE a0.length aF),(3,I X),(4,I aG)]) ⟨rfl,rfl,rfl,trivial⟩ (wr (mv rfl (wp (G.add rfl rfl (r:=(w64 (aG+1))) rfl) rfl (av rfl (wn ?_)))))));refine wag _ _ (by omega) ?_ ⟨aE,aF,a0,dh,w64 (aG+1),rfl,hF,(by omega),ba,bC⟩;exact ⟨rfl,rfl,rfl,trivial⟩
   ·
    refine cf rfl (df bp) ?_;refine WCode.exit ?_;refine WEx.then_exit ?_;refine WEx.then_exit ?_;refine WEx.in_exit ?_;refine win (we (wr (mv rfl (wp (G.add rfl rfl (r:=(w64 (X+1))) rfl) rfl (av rfl (wn ?_))))));refine wag _ _ (by omega) ?_ ⟨aE,aF,az,a9,w64 (X+1),rfl,hF,aW,aw⟩;exact ⟨rfl,rfl,trivial⟩
  ·
   refine cf rfl (df bn) ?_;refine WCode.exit ?_;refine WEx.then_exit ?_;refine WEx.then_exit ?_;refine WEx.in_exit ?_;refine wx _ ?_ ⟨bm,aC,aD,ax,aU,rfl,hF,bl,cN⟩;exact ⟨rfl,trivial⟩
 ·
  rintro _ ex ⟨cR,aB,c2,l3,bk,rfl,hF,eb,ey⟩;unfold sy_apart.j1 at hF;refine wq (wr (av rfl (wn (we (wq (wr (av rfl (wn (we ?_)))))))));refine wqs (fun l_ w_=>∃ a1:Nat,∃ ae:Option Addr,∃ af:Nat,∃ J:List (List TreeH),∃ aI:Grp,∃ aJ:Grp,∃ ag:Option Addr,∃ ah:Nat,∃ E:List Int,∃ aK:Grp,l_=[(5,.slice ae J.length af),(6,.slice ag E.length ah)]∧sy_apart.j2 a1 J E=some r_∧(PoolP 27 29 TreeH.rp ae af J aI aJ none)∧(SlO 3 (Rp.int .i64) (.slice ag E.length ah) E aK)∧St w (KS [ad]) w_ [aI,aJ,aK]) ?_ ?_
  ·
   refine wq (wr (av rfl (wn (we ?_))));refine WCode.block ?_;have b7:=SlO.toD eb;obtain ⟨di,dj,b8,dk⟩:∃ GA_ M_:Grp,PoolP 27 29 TreeH.rp none 0 [] GA_ M_ none∧St w (KS [ad]) ex (GA_::M_::[bk]):=⟨[],[],PoolP.nil,ey.emp.emp⟩;have dl:=dk.emp;have dm:=((dl.front 2 rfl).front 2 rfl).front 3 rfl;refine wg (l':=[(0,.slice aB l3.length c2),(5,.slice none 0 0),(6,.slice none 0 0),(7,I 0)]) ⟨rfl,rfl,rfl,rfl,trivial⟩ ?_;refine wl (fun n_ l_ w_=>∃ a2:Grp,∃ ai:Option Addr,∃ aj:Nat,∃ Z:List (List TreeH),∃ ak:Grp,∃ aL:Grp,∃ al:Option Addr,∃ am:Nat,∃ O:List Int,∃ an:Grp,∃ C:Int,l_=[(0,.slice aB l3.length c2),(5,.slice ai Z.length aj),(6,.slice al O.length am),(7,I C)]∧sy_apart.l3 n_ l3 Z O C=some r_∧(SlD 27 29 TreeH.rp aB c2 l3 (C.toNat) a2)∧(PoolP 27 29 TreeH.rp ai aj Z ak aL none)∧(SlO 3 (Rp.int .i64) (.slice al O.length am) O an)∧St w (KS [ad]) w_ [a2,ak,aL,an]) cR ⟨bk,none,0,[],di,dj,none,0,[],[],0,rfl,hF,b7,(b8.untip),(sn 3 (Rp.int .i64)),dm⟩ ?_;rintro dn _ ez ⟨a2,ai,aj,Z,ak,aL,al,am,O,an,C,rfl,hF,b9,bc,bd,bD⟩;obtain _ | a3:=dn
   · exact nn hF
   rw [sy_apart.l3] at hF;refine wq (wq (wr (mv rfl (mv rfl (wp (G.len T.el26 rfl) rfl (wp (G.lss rfl rfl rfl) rfl (wn (we ?_))))))));rcases io hF with ⟨a4,hF⟩|⟨a4,hF⟩
   ·
    refine ct rfl (dt a4) (wsk (we (wq ?_)));refine WCode.block ?_;refine wq (wr (mv rfl (mv rfl ?_)));obtain ⟨bE,be,hF⟩:=bo hF;obtain ⟨bF,bw,ca,cc⟩:=idx_spec be;have dq:=(bD.front 2 rfl).front 1 rfl;obtain ⟨bG,bH,bI,bJ,⟨eA,eB,cd,ce⟩,cg,ch,dr⟩:=PoolP.next dq (SlD.cast b9 (show bF=C.toNat by omega)) bc (fun h=>h.2) ca;have ci:=SlD.cast cg (show C.toNat+1=bF+1 by omega);refine wp (G.idx T.el26 rfl cd rfl bw cc) rfl ?_;refine wrr (G.load1 T.one27 rfl (cellsAt.at0 ce)) rfl ?_;refine av rfl (wn (we (wq (wr (av rfl (wn (we ?_)))))));refine WCode.block ?_;have du:St _ _ _ [bI,ak,bJ,an]:=sro dr [0,2,1,3] 4 rfl (by decide) rfl;refine wg (l':=[(0,.slice aB l3.length c2),(5,.slice ai Z.length aj),(6,.slice al O.length am),(7,I C),(8,.slice bG bE.length bH),(9,I 0)]) ⟨rfl,rfl,rfl,rfl,rfl,rfl,trivial⟩ ?_;refine wl (fun n_ l_ w_=>∃ ao:Grp,∃ aM:Option Addr,∃ aN:Nat,∃ aA:List (List TreeH),∃ aO:Grp,∃ aP:Grp,∃ aQ:Option Addr,∃ aR:Nat,∃ ap:List Int,∃ aS:Grp,∃ aa:Option Addr,∃ ab:Nat,∃ V:List TreeH,∃ aq:Int,l_=[(0,.slice aB l3.length c2),(5,.slice aM aA.length aN),(6,.slice aQ ap.length aR),(7,I C),(8,.slice aa V.length ab),(9,I aq)]∧sy_apart.l4 n_ l3 C aA ap V aq=some r_∧n_≤a3∧(SlD 27 29 TreeH.rp aB c2 l3 (C.toNat+1) ao)∧(PoolP 27 29 TreeH.rp aM aN aA aO aP (some ⟨aa,ab,V⟩))∧(SlO 3 (Rp.int .i64) (.slice aQ ap.length aR) ap aS)∧St w (KS [ad]) w_ [ao,aO,aP,aS]) a3 ⟨bI,ai,aj,Z,ak,bJ,al,am,O,an,bG,bH,bE,0,rfl,hF,Nat.le_refl _,ci,ch,bd,du⟩ ?_;rintro dv _ eC ⟨ao,aM,aN,aA,aO,aP,aQ,aR,ap,aS,aa,ab,V,aq,rfl,hF,ed,aT,bg,bh,bK⟩;obtain _ | dx:=dv
    · exact nn hF
    rw [sy_apart.l4] at hF;refine wq (wq (wr (mv rfl (wp (G.lss rfl rfl rfl) rfl (wn (we ?_))))));rcases io hF with ⟨a5,hF⟩|⟨a5,hF⟩
    ·
     refine ct rfl (dt a5) (wsk (we (wq ?_)));refine WCode.block ?_;refine wq (wr (mv rfl (mv rfl ?_)));obtain ⟨dy,eD,dz,dA,eE,eF⟩:=sl bK (P:=TP) (t:=26) (e:=27) (n:=1) (vs:=[(0,.slice aa V.length ab)]) (cs:=#[.slice aa V.length ab]) (by kernel_rfl);refine wee (dz (fc rfl fn_)) rfl ?_;obtain ⟨bL,cj,hF⟩:=bo hF;have bM:=dA.front 2 rfl;obtain ⟨bN,bO,bP,eG,dB,ck,dC⟩:=PoolP.put (P:=TP) bM T.elt26 rfl bg (Rd.of_blk (bM.blk 1 rfl) (n:=1) (sz:=1) rfl) cj;refine wee (dB rfl rfl) rfl ?_;refine av rfl (wn (we (wq (wr (mv rfl (mv rfl ?_))))));obtain ⟨dD,eH,dE,dF,eI,eJ⟩:=sl dC (P:=TP) (t:=59) (e:=3) (n:=1) (vs:=[(0,I C)]) (cs:=#[I C]) (by kernel_rfl);refine wee (dE (fc rfl fn_)) rfl ?_;obtain ⟨bQ,cl,hF⟩:=bo hF;have bR:=dF.front 5 rfl;obtain ⟨bS,bT,bU,eK,dG,cn,dH,ef⟩:=St.appP (P:=TP) (r:=(Rp.int .i64)) (M:=([C]:List Int)) bR T.elt59 rfl bh (Rd.of_blk (bR.blk 1 rfl) (n:=1) (sz:=1) rfl) ⟨_,_,[],[],rfl,rfl,⟨rfl,rfl⟩,⟨rfl,rfl⟩⟩ rfl cl;refine wee (dG rfl rfl) rfl ?_;refine av rfl (wn (we (wg (l':=[(0,.slice aB l3.length c2),(5,.slice bN bL.length bO),(6,.slice bS bQ.length bT),(7,I C),(8,.slice aa V.length ab),(9,I aq)]) ⟨rfl,rfl,rfl,rfl,rfl,rfl,trivial⟩ (wr (mv rfl (mv rfl ?_))))));obtain ⟨q,co,hF⟩:=bo hF;refine wc T.call29 (ec rfl en) rfl ?_;refine (sy_mark_calls dx C co).mono ?_;rintro _ eL ⟨rfl,dI⟩;have dJ:=scT dI dH;refine ⟨_,rfl,?_⟩;obtain ⟨dK,eM,dL,dM,eN,eO⟩:=sl dJ (P:=TP) (t:=27) (e:=29) (n:=1) (vs:=[(0,.agg #[I q.Kind,.string (bs q.Name),I q.Number,I q.At,.slice q.Kids.1 q.Kids.2.1 q.Kids.2.2])]) (cs:=#[I q.Kind,.string (bs q.Name),I q.Number,I q.At,.slice q.Kids.1 q.Kids.2.1 q.Kids.2.2]) (by kernel_rfl);refine wee (dL (fc rfl fn_)) rfl ?_;obtain ⟨dN,cp,hF⟩:=bo hF;have bV:=dM.front 6 rfl;obtain ⟨dO,dP,bW,eP,dQ,cq,dR⟩:=PoolP.grow (P:=TP) (Y:=([q]:List TreeH)) bV T.elt27 rfl ck (Rd.of_blk (bV.blk 1 rfl) (n:=1) (sz:=5) rfl) ⟨_,_,[],[],rfl,rfl,⟨rfl,rfl⟩,⟨rfl,rfl⟩⟩ rfl cp;refine wee (dQ rfl rfl) rfl ?_;refine av rfl (wn (win (we (wr (mv rfl (wp (G.add rfl rfl (r:=(w64 (aq+1))) rfl) rfl (av rfl (wn ?_))))))));have dS:St _ _ _ [ao,bP,bW,bU,(B dK #[I q.Kind,.string (bs q.Name),I q.Number,I q.At,.slice q.Kids.1 q.Kids.2.1 q.Kids.2.2] 29),(B dD #[I C] 3),(B dy #[.slice aa V.length ab] 27)]:=sro dR [6,4,0,2,1,3,5] 7 rfl (by decide) rfl;refine wag _ _ (by omega) ?_ ⟨ao,bN,bO,bL,bP,bW,bS,bT,bQ,bU,dO,dP,dN,w64 (aq+1),rfl,hF,(by omega),aT,cq,cn,(sk dS)⟩;exact ⟨rfl,rfl,rfl,rfl,rfl,rfl,trivial⟩
    ·
     refine cf rfl (df a5) ?_;refine WCode.exit ?_;refine WEx.then_exit ?_;refine WEx.then_exit ?_;refine WEx.in_exit ?_;refine win (we (wr (mv rfl (wp (G.add rfl rfl (r:=(w64 (C+1))) rfl) rfl (av rfl (wn ?_))))));refine wag _ _ (by omega) ?_ ⟨ao,aM,aN,aA,aO,aP,aQ,aR,ap,aS,w64 (C+1),rfl,hF,(aT.cast (toNat_succ aT be)),(bg.untip),bh,bK⟩;exact ⟨rfl,rfl,rfl,rfl,trivial⟩
   ·
    refine cf rfl (df a4) ?_;refine WCode.exit ?_;refine WEx.then_exit ?_;refine WEx.then_exit ?_;refine WEx.in_exit ?_;have dT:=((bD.front 3 rfl).front 3 rfl).front 3 rfl;refine wx _ ?_ ⟨a3,ai,aj,Z,ak,aL,al,am,O,an,rfl,hF,(bc.untip),bd,(sk dT)⟩;exact ⟨rfl,rfl,trivial⟩
  ·
   rintro _ eQ ⟨a1,ae,af,J,aI,aJ,ag,ah,E,aK,rfl,hF,cr,cu,dU⟩;unfold sy_apart.j2 at hF;refine wq (wq (wr (av rfl (wn (we ?_)))));refine WCode.block ?_;refine wg (l':=[(5,.slice ae J.length af),(6,.slice ag E.length ah),(10,I 0)]) ⟨rfl,rfl,rfl,trivial⟩ ?_;refine wl (fun n_ l_ w_=>∃ ar:Int,l_=[(5,.slice ae J.length af),(6,.slice ag E.length ah),(10,I ar)]∧sy_apart.l5 n_ J E ar=some r_∧St w (KS [ad]) w_ [aI,aJ,aK]) a1 ⟨0,rfl,hF,dU⟩ ?_;rintro dV _ dW ⟨ar,rfl,hF,bX⟩;obtain _ | dX:=dV
   · exact nn hF
   rw [sy_apart.l5] at hF;refine wq (wq (wr (mv rfl (mv rfl (wp (G.len T.el26 rfl) rfl (wp (G.lss rfl rfl rfl) rfl (wn (we ?_))))))));rcases io hF with ⟨a6,hF⟩|⟨a6,hF⟩
   ·
    refine ct rfl (dt a6) (wsk (we (wq ?_)));refine WCode.block ?_;refine wq ?_;refine WCode.draw [⟨0,0,[]⟩,⟨1,0,[]⟩,⟨2,0,[]⟩,⟨4,0,[]⟩,⟨5,0,[]⟩,⟨6,0,[]⟩,⟨3,1,[8,9]⟩,⟨7,1,[8,9]⟩,⟨8,2,[]⟩,⟨9,0,[]⟩] T.mixed (by kernel_rfl) (by intro _ _ d _ _ h;cases d <;> exact h) rfl (by kernel_rfl) ?_;have au:=bX.drew;generalize dW.drew=eR at *;refine dp rfl (gm rfl) rfl ?_;refine dp rfl (gm rfl) rfl ?_;obtain ⟨dY,cv,hF⟩:=bo hF;obtain ⟨eS,cx,cy,cz⟩:=idx_spec cv;obtain ⟨eT,eU,cA,bY⟩:=PoolP.at_ cr cy;obtain ⟨eV,eW,cB,cC⟩:=bY _ (fun b o hb=>au.grp 0 rfl hb);refine dp rfl (G.idx T.el26 rfl cB rfl cx cz) rfl ?_;refine dp rfl (gm rfl) rfl ?_;refine dp rfl (gm rfl) rfl ?_;obtain ⟨a7,cE,hF⟩:=bo hF;obtain ⟨dZ,cF,cG,cH⟩:=idx_spec cE;obtain ⟨eX,d0,cI,cJ,eg,bi,cK⟩:=sat (rds cu au 2 rfl) cG;have cL:cI=[I a7]:=cK;subst cL;change cellsAt _ _ (d0+dZ * 1) [I a7] at bi;refine dp rfl (G.idx T.el59 rfl cJ rfl cF cH) rfl ?_;refine WD.r rfl (G.load1 T.one27 rfl (cellsAt.at0 cC)) rfl ?_;refine WD.r rfl (G.load1 T.one3 rfl (cellsAt.at0 bi)) rfl ?_;obtain ⟨d1,cM,hF⟩:=bo hF;refine WD.call rfl T.call30 (ec rfl (ec rfl en)) rfl ?_;refine (sy_reads_calls dX dY a7 ((SlG.toV (u:=w) cA (au.nd 1 rfl)).ext (au.vw 1 rfl)) (og au 1 rfl) cM).mono ?_;rintro _ eY ⟨rfl,d3⟩;have bZ:=scT d3 au;refine ⟨_,rfl,?_⟩;refine dp rfl (ga rfl) rfl ?_;refine WD.nil ?_;refine we (wg (l':=[(5,.slice ae J.length af),(6,.slice ag E.length ah),(10,I ar),(11,.bool d1)]) ⟨rfl,rfl,rfl,rfl,trivial⟩ (wq (wr (mv rfl (wp (G.not rfl rfl) rfl (wn (we ?_)))))));rcases io hF with ⟨a8,hF⟩|⟨a8,hF⟩
    ·
     refine cf rfl (nf a8) (wsk (win (we (wr (mv rfl (wp (G.add rfl rfl (r:=(w64 (ar+1))) rfl) rfl (av rfl (wn ?_))))))));refine wag _ _ (by omega) ?_ ⟨w64 (ar+1),rfl,hF,bZ⟩;exact ⟨rfl,rfl,rfl,trivial⟩
    ·
     refine ct rfl (nt (bf a8)) (wq (wr (av rfl (wn (we (wrt ?_))))));refine WEx.in_ret ?_;refine wtr (wtr ?_);refine WEx.in_ret ?_;refine wtr ?_;obtain rfl:=se hF;refine WEx.ret1 rfl rfl ?_;exact ⟨rfl,sk bZ⟩
   ·
    refine cf rfl (df a6) ?_;refine WCode.exit ?_;refine WEx.then_exit ?_;refine WEx.then_exit ?_;refine WEx.in_exit ?_;refine we (wq (wr (av rfl (wn (we (wrt ?_))))));obtain rfl:=se hF;refine WEx.ret1 rfl rfl ?_;exact ⟨rfl,sk bX⟩
end Go.Proofs.YtnhifhlbelogcaaGreatDoor
