/- Functions and their walks (printed by auto.py over the engine). -/
import Derived.Test.YtnhifhlbelogcaaDoorYAb
import Derived.Test.YtnhifhlbelogcaaDoorProg
import Derived.Test.YtnhifhlbelogcaaDoorYPI
set_option maxRecDepth 100000
set_option maxHeartbeats 1000000
namespace Go.Proofs.YtnhifhlbelogcaaDoor
open Go Go.Eng
set_option linter.unusedSimpArgs false
set_option linter.unusedVariables false
theorem T.call11:Callable TP 11:=cm Tryd.func11
theorem T.call16:Callable TP 16:=cm Tryd.func16
theorem T.fld24_1:fldOff TP 24 1=some 1:=by kernel_rfl
theorem T.fld24_2:fldOff TP 24 2=some 2:=by kernel_rfl
mutual
def ps_Same:Nat→Tree→Tree→Option Bool
  | 0,_,_=>none
  | k_+1,q,C=>if q.Kind=C.Kind then (if q.Name=C.Name then (if q.Number=C.Number then ((ps_EqualFunc k_ q.Kids C.Kids).bind fun E=>some E) else some false) else some false) else some false
def ps_EqualFunc.l1:Nat→List Tree→List Tree→Int→Option Bool
  | 0,_,_,_=>none
  | J+1,q,C,D=>if D < (q.length:Int) then ((idx q D).bind fun O=>(idx C D).bind fun V=>(ps_Same J O V).bind fun X=>if X=true then (ps_EqualFunc.l1 J q C (w64 (D+1))) else some false) else some true
def ps_EqualFunc:Nat→List Tree→List Tree→Option Bool
  | 0,_,_=>none
  | k_+1,q,C=>(if (q.length:Int)=(C.length:Int) then (ps_EqualFunc.l1 k_ q C 0) else (some false))
end
def ps_Same_C (k:Nat):Prop:=∀ (V:Tree) {q:Option Addr} {C:Nat} {D:Nat→Prop} (X:Tree) {E:Option Addr} {J:Nat} {O:Nat→Prop} {w:World} (Y:SlR Tree.rp w D q C V.Kids) (aa:∀ b,D b→NK w [] b) (ab:SlR Tree.rp w O E J X.Kids) (ad:∀ b,O b→NK w [] b) {r_:Bool} (h_:ps_Same k V X=some r_),Calls TP 11 [.agg (ta V q C),.agg (ta X E J)].toArray w fun e w'=>e = .returned (.bool r_)∧St w (KS []) w' []
def ps_EqualFunc_C (k:Nat):Prop:=∀ (q:List Tree) {D:Option Addr} {c0:Nat} {E:Nat→Prop} (C:List Tree) {J:Option Addr} {c1:Nat} {O:Nat→Prop} {w:World} (V:SlR Tree.rp w E D c0 q) (X:∀ b,E b→NK w [] b) (Y:SlR Tree.rp w O J c1 C) (aa:∀ b,O b→NK w [] b) {r_:Bool} (h_:ps_EqualFunc k q C=some r_),Calls TP 16 [.slice D q.length c0,.slice J C.length c1,.func (.func 11) #[] #[]].toArray w fun e w'=>e = .returned (.bool r_)∧St w (KS []) w' []
def SmG (k:Nat):Prop:=ps_Same_C k∧ps_EqualFunc_C k
theorem ps_Same_R (k:Nat) (HG:∀ j_,j_ < k→SmG j_) (ab:Tree) {J:Option Addr} {O:Nat} {ae:Nat→Prop} (ad:Tree) {V:Option Addr} {X:Nat} {af:Nat→Prop} {w:World} (ag:SlR Tree.rp w ae J O ab.Kids) (Y:∀ b,ae b→NK w [] b) (ah:SlR Tree.rp w af V X ad.Kids) (aa:∀ b,af b→NK w [] b) {r_:Bool} (hF:ps_Same k ab ad=some r_) :
    Calls TP 11 [.agg (ta ab J O),.agg (ta ad V X)].toArray w fun e w'=>e = .returned (.bool r_)∧St w (KS []) w' []:=by
 obtain _ | k_:=k
 · exact nn hF
 rw [ps_Same] at hF;have S:=St.ofFalse (As:=[]) (St.init0 w);refine enter 31 [(0,.agg (ta ab J O)),(1,.agg (ta ad V X))] Tryd.func11 rfl rfl rfl rfl ?_;refine wq (wr ?_);obtain ⟨au,ax,am,an,ay,az⟩:=sbx S TP 24 (.agg (ta ab J O));refine wee (am rfl) rfl ?_;obtain ⟨aA,aB,ao,q,ap,aq⟩:=sbx an TP 24 (.agg (ta ad V X));refine wee (ao rfl) rfl ?_;refine av rfl (wn (we (wq (wr (wp (G.field T.fld24_0 rfl rfl) rfl ?_)))));refine wrr (G.load1 T.one3 rfl (cell_blk (q.blk 1 rfl) rfl)) rfl ?_;refine wp (G.field T.fld24_0 rfl rfl) rfl ?_;refine wrr (G.load1 T.one3 rfl (cell_blk (q.blk 0 rfl) rfl)) rfl ?_;refine wp (G.eql rfl rfl rfl) rfl (mv rfl ?_);rcases io hF with ⟨C,hF⟩|⟨C,hF⟩
 ·
  refine won rfl (dt C) (wp (G.field T.fld24_1 rfl rfl) rfl (won rfl (dt C) ?_));refine wrr (G.load1 T.one9 rfl (cell_blk (q.blk 1 rfl) rfl)) rfl ?_;refine won rfl (dt C) (wp (G.field T.fld24_1 rfl rfl) rfl (won rfl (dt C) ?_));refine wrr (G.load1 T.one9 rfl (cell_blk (q.blk 0 rfl) rfl)) rfl ?_;refine won rfl (dt C) (wp (G.eqlb' rfl rfl rfl) rfl (wp (G.pick_t (kb rfl (dt C)) rfl) rfl (mv rfl ?_)));rcases io hF with ⟨D,hF⟩|⟨D,hF⟩
  ·
   refine won rfl (dt D) (wp (G.field T.fld24_2 rfl rfl) rfl (won rfl (dt D) ?_));refine wrr (G.load1 T.one3 rfl (cell_blk (q.blk 1 rfl) rfl)) rfl ?_;refine won rfl (dt D) (wp (G.field T.fld24_2 rfl rfl) rfl (won rfl (dt D) ?_));refine wrr (G.load1 T.one3 rfl (cell_blk (q.blk 0 rfl) rfl)) rfl ?_;refine won rfl (dt D) (wp (G.eql rfl rfl rfl) rfl (wp (G.pick_t (kb rfl (dt D)) rfl) rfl (mv rfl ?_)));rcases io hF with ⟨E,hF⟩|⟨E,hF⟩
   ·
    refine won rfl (dt E) (wp (G.field T.fld24_4 rfl rfl) rfl (won rfl (dt E) ?_));refine wrr (G.load1 T.one22 rfl (cell_blk (q.blk 1 rfl) rfl)) rfl ?_;refine won rfl (dt E) (wp (G.field T.fld24_4 rfl rfl) rfl (won rfl (dt E) ?_));refine wrr (G.load1 T.one22 rfl (cell_blk (q.blk 0 rfl) rfl)) rfl ?_;refine won rfl (dt E) ?_;obtain ⟨aj,ai,hF⟩:=bo hF;refine wc T.call16 (ec rfl (ec rfl (ec rfl en))) rfl ?_;refine (((HG k_ (by omega)).2) ab.Kids ad.Kids (ag.ext (q.keepF Y)) (St.outF (Bs:=[]) q Y) (ah.ext (q.keepF aa)) (St.outF (Bs:=[]) q aa) ai).mono ?_;rintro _ ar ⟨rfl,ak⟩;have al:=scT ak q;refine ⟨_,rfl,?_⟩;refine wp (G.pick_t (kb rfl (dt E)) rfl) rfl (av rfl (wn (we (wg (l':=[(4,.bool aj)]) ⟨rfl,trivial⟩ (wrt ?_)))));obtain rfl:=se hF;refine WEx.ret1 rfl rfl ?_;exact ⟨rfl,sk al⟩
   ·
    refine wof rfl (df E) rfl (wof rfl (df E) rfl (wof rfl (df E) rfl (wof rfl (df E) rfl (wof rfl (df E) rfl (wp (G.pick_f (kb rfl (df E)) rfl) rfl (av rfl (wn (we (wg (l':=[(4,.bool false)]) ⟨rfl,trivial⟩ (wrt ?_))))))))));obtain rfl:=se hF;refine WEx.ret1 rfl rfl ?_;exact ⟨rfl,sk q⟩
  ·
   refine wof rfl (df D) rfl (wof rfl (df D) rfl (wof rfl (df D) rfl (wof rfl (df D) rfl (wof rfl (df D) rfl (wp (G.pick_f (kb rfl (df D)) rfl) rfl (mv rfl ?_))))));refine WOps.off rfl rfl rfl rfl ?_;refine WOps.off rfl rfl rfl rfl ?_;refine WOps.off rfl rfl rfl rfl ?_;refine WOps.off rfl rfl rfl rfl ?_;refine WOps.off rfl rfl rfl rfl ?_;refine wp (G.pick_f rfl rfl) rfl (av rfl (wn (we (wg (l':=[(4,.bool false)]) ⟨rfl,trivial⟩ (wrt ?_)))));obtain rfl:=se hF;refine WEx.ret1 rfl rfl ?_;exact ⟨rfl,sk q⟩
 ·
  refine wof rfl (df C) rfl (wof rfl (df C) rfl (wof rfl (df C) rfl (wof rfl (df C) rfl (wof rfl (df C) rfl (wp (G.pick_f (kb rfl (df C)) rfl) rfl (mv rfl ?_))))));refine WOps.off rfl rfl rfl rfl ?_;refine WOps.off rfl rfl rfl rfl ?_;refine WOps.off rfl rfl rfl rfl ?_;refine WOps.off rfl rfl rfl rfl ?_;refine WOps.off rfl rfl rfl rfl ?_;refine wp (G.pick_f rfl rfl) rfl (mv rfl ?_);refine WOps.off rfl rfl rfl rfl ?_;refine WOps.off rfl rfl rfl rfl ?_;refine WOps.off rfl rfl rfl rfl ?_;refine WOps.off rfl rfl rfl rfl ?_;refine WOps.off rfl rfl rfl rfl ?_;refine wp (G.pick_f rfl rfl) rfl (av rfl (wn (we (wg (l':=[(4,.bool false)]) ⟨rfl,trivial⟩ (wrt ?_)))));obtain rfl:=se hF;refine WEx.ret1 rfl rfl ?_;exact ⟨rfl,sk q⟩
theorem ps_EqualFunc_R (k:Nat) (HG:∀ j_,j_ < k→SmG j_) (q:List Tree) {ad:Option Addr} {c0:Nat} {aL:Nat→Prop} (J:List Tree) {ae:Option Addr} {c1:Nat} {aM:Nat→Prop} {w:World} (aN:SlR Tree.rp w aL ad c0 q) (ag:∀ b,aL b→NK w [] b) (aO:SlR Tree.rp w aM ae c1 J) (ah:∀ b,aM b→NK w [] b) {r_:Bool} (hF:ps_EqualFunc k q J=some r_) :
    Calls TP 16 [.slice ad q.length c0,.slice ae J.length c1,.func (.func 11) #[] #[]].toArray w fun e w'=>e = .returned (.bool r_)∧St w (KS []) w' []:=by
 obtain _ | k_:=k
 · exact nn hF
 rw [ps_EqualFunc] at hF;have S:=St.ofFalse (As:=[]) (St.init0 w);refine enter 32 [(0,.slice ad q.length c0),(1,.slice ae J.length c1),(2,.func (.func 11) #[] #[])] Tryd.func16 rfl rfl rfl rfl ?_;refine wq (wr (av rfl (wn (we (wq (wq (wr (mv rfl (wp (G.len T.el22 rfl) rfl (mv rfl (wp (G.len T.el22 rfl) rfl (wp (G.neq rfl rfl rfl) rfl (wn (we ?_))))))))))))));rcases io hF with ⟨am,hF⟩|⟨am,hF⟩
 ·
  refine WCode.cond_f (kb rfl (nf (dt am))) ?_;refine wsk (we (wq (wq (wr (mv rfl (wp (G.len T.el22 rfl) rfl (mv rfl (wn (we ?_)))))))));refine WCode.block ?_;change St _ _ _ [] at S;refine wg (l':=[(1,.slice ae J.length c1),(2,.func (.func 11) #[] #[]),(15,.slice ad q.length c0),(16,I (q.length:Int)),(17,I 0)]) ⟨rfl,rfl,rfl,rfl,rfl,trivial⟩ ?_;refine wl (fun n_ l_ w_=>∃ af:Int,l_=[(1,.slice ae J.length c1),(2,.func (.func 11) #[] #[]),(15,.slice ad q.length c0),(16,I (q.length:Int)),(17,I af)]∧ps_EqualFunc.l1 n_ q J af=some r_∧n_≤k_∧St w (KS []) w_ []) k_ ⟨0,rfl,hF,Nat.le_refl _,S⟩ ?_;rintro a3 _ br ⟨af,rfl,hF,a4,an⟩;obtain _ | a5:=a3
  · exact nn hF
  rw [ps_EqualFunc.l1] at hF;refine wq (wr (wp (G.lss rfl rfl rfl) rfl (wn (we (wq ?_)))));rcases io hF with ⟨ai,hF⟩|⟨ai,hF⟩
  ·
   refine ct rfl (dt ai) (wsk (we (wq ?_)));refine WCode.block ?_;refine wq (wr (mv rfl ?_));obtain ⟨O,ao,hF⟩:=bo hF;obtain ⟨aP,ap,aq,ar⟩:=idx_spec ao;obtain ⟨a8,aQ,a6,au,ax,C,ay⟩:=sat aN aq;obtain ⟨X,Y,az,aA⟩:=(Tree.rd_iff.1 ay);subst az;have C:=C.move ((an.keepF ag) _ ax);change cellsAt _ _ (aQ+aP * 5) (tl O X Y) at C;refine wp (G.idx T.el22 rfl au rfl ap ar) rfl ?_;refine wrr (G.loada T.agg24_5 rfl (cs:=(tl O X Y)) C) rfl ?_;obtain ⟨a9,aw,aR,aS,aT,a'⟩:=sv an (z:=.agg tz) T.zero24;have ba:=C.ext aT;refine wee aR rfl ?_;refine av rfl ?_;obtain ⟨bc,aU,ak⟩:=sw aS 0 (ta O X Y) T.size24_5 rfl rfl rfl rfl;refine wuu (aU rfl rfl) ?_;refine wn (we (wq (wr (mv rfl (mv rfl ?_)))));obtain ⟨V,aB,hF⟩:=bo hF;obtain ⟨aV,aC,aD,aE⟩:=idx_spec aB;obtain ⟨bd,aW,a7,aF,aG,D,aH⟩:=sat aO aD;obtain ⟨aa,ab,aI,aJ⟩:=(Tree.rd_iff.1 aH);subst aI;have D:=D.move ((ak.keepF ah) _ aG);change cellsAt _ _ (aW+aV * 5) (tl V aa ab) at D;refine wp (G.idx T.el22 rfl aF rfl aC aE) rfl ?_;refine wrr (G.loada T.agg24_5 rfl (cs:=(tl V aa ab)) D) rfl ?_;obtain ⟨be,bg,aX,aY,aZ,bh⟩:=sv ak (z:=.agg tz) T.zero24;have bj:=D.ext aZ;refine wee aX rfl ?_;obtain ⟨bn,a0,E⟩:=sw aY 0 (ta V aa ab) T.size24_5 rfl rfl rfl rfl;refine wuu (a0 rfl rfl) ?_;refine wn (we (wq (wr (mv rfl ?_))));refine wrr (G.loada T.agg24_5 rfl (cs:=(tl O X Y)) (cb (E.blk 1 rfl) rfl)) rfl ?_;refine wrr (G.loada T.agg24_5 rfl (cs:=(tl V aa ab)) (cb (E.blk 0 rfl) rfl)) rfl ?_;obtain ⟨a1,aK,hF⟩:=bo hF;refine WOps.callv T.call11 rfl (ec rfl (ec rfl en)) rfl ?_;refine (((HG a5 (by omega)).1) O V (aA.ext (E.keepF ag)) (St.outF (Bs:=[]) E ag) (aJ.ext (E.keepF ah)) (St.outF (Bs:=[]) E ah) aK).mono ?_;rintro _ bp ⟨rfl,a2⟩;have al:=scT a2 E;refine ⟨_,rfl,?_⟩;refine wp (G.not rfl rfl) rfl (wn (we (wg (l':=[(1,.slice ae J.length c1),(2,.func (.func 11) #[] #[]),(15,.slice ad q.length c0),(16,I (q.length:Int)),(17,I af),(30,.bool (!a1))]) ⟨rfl,rfl,rfl,rfl,rfl,rfl,trivial⟩ ?_)));rcases io hF with ⟨aj,hF⟩|⟨aj,hF⟩
   ·
    refine cf rfl (nf aj) (wsk (win (we (wr (wp (G.add rfl rfl (r:=(w64 (af+1))) rfl) rfl (mv rfl (wn ?_)))))));refine wag _ _ (by omega) ?_ ⟨w64 (af+1),rfl,hF,(by omega),(sk al)⟩;exact ⟨rfl,rfl,rfl,rfl,rfl,trivial⟩
   ·
    refine ct rfl (nt (bf aj)) (wq (wr (av rfl (wn (we (wrt ?_))))));refine WEx.in_ret ?_;refine wtr (wtr ?_);refine WEx.in_ret ?_;refine wtr ?_;obtain rfl:=se hF;refine WEx.ret1 rfl rfl ?_;exact ⟨rfl,sk al⟩
  ·
   refine cf rfl (df ai) ?_;refine WCode.exit ?_;refine WEx.then_exit ?_;refine WEx.then_exit ?_;refine WEx.in_exit ?_;refine we (wq (wr (av rfl (wn (we (wrt ?_))))));obtain rfl:=se hF;refine WEx.ret1 rfl rfl ?_;exact ⟨rfl,sk an⟩
 ·
  refine WCode.cond_t (kb rfl (nt (df am))) ?_;refine wq (wr (av rfl (wn (we (wrt (wtr ?_))))));obtain rfl:=se hF;refine WEx.ret1 rfl rfl ?_;exact ⟨rfl,sk (As:=[]) S⟩
theorem SmG_all:∀ k,SmG k:=fun k=>Nat.strongRecOn k fun k HG=>⟨@ps_Same_R k HG,@ps_EqualFunc_R k HG⟩
theorem ps_Same_calls (k:Nat):ps_Same_C k:=(SmG_all k).1
end Go.Proofs.YtnhifhlbelogcaaDoor
