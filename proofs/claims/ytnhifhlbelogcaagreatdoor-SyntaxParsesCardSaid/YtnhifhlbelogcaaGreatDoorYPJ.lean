/- Functions and their walks (printed by auto.py over the engine). -/
import Derived.Test.YtnhifhlbelogcaaGreatDoorYAb
import Derived.Test.YtnhifhlbelogcaaGreatDoorProg
import Derived.Test.YtnhifhlbelogcaaGreatDoorYPI
set_option maxRecDepth 100000
set_option maxHeartbeats 1000000
namespace Go.Proofs.YtnhifhlbelogcaaGreatDoor
open Go Go.Eng
set_option linter.unusedSimpArgs false
set_option linter.unusedVariables false
theorem T.call21:Callable TP 21:=cm Tryz.func21
theorem T.call34:Callable TP 34:=cm Tryz.func34
mutual
def ps_Same:Nat→Tree→Tree→Option Bool
  | 0,_,_=>none
  | k_+1,q,C=>if q.Kind=C.Kind then (if q.Name=C.Name then (if q.Number=C.Number then ((ps_EqualFunc k_ q.Kids C.Kids).bind fun E=>some E) else some false) else some false) else some false
def ps_EqualFunc.l1:Nat→List Tree→List Tree→Int→Option Bool
  | 0,_,_,_=>none
  | J+1,q,C,D=>if D < (q.length:Int) then ((idx q D).bind fun O=>(idx C D).bind fun V=>(ps_Same J O V).bind fun X=>if X=true then (ps_EqualFunc.l1 J q C (w64 (D+1))) else some false) else some true
def ps_EqualFunc:Nat→List Tree→List Tree→Option Bool
  | 0,_,_=>none
  | k_+1,q,C=>(if (q.length:Int)=(C.length:Int) then (ps_EqualFunc.l1 k_ q C 0) else (some false))
end
def ps_Same_C (k:Nat):Prop:=∀ (V:Tree) {q:Option Addr} {C:Nat} {D:Nat→Prop} (X:Tree) {E:Option Addr} {J:Nat} {O:Nat→Prop} {w:World} (Y:SlR Tree.rp w D q C V.Kids) (Z:∀ b,D b→NK w [] b) (aa:SlR Tree.rp w O E J X.Kids) (ab:∀ b,O b→NK w [] b) {r_:Bool} (h_:ps_Same k V X=some r_),Calls TP 21 [.agg (ta V q C),.agg (ta X E J)].toArray w fun e w'=>e = .returned (.bool r_)∧St w (KS []) w' []
def ps_EqualFunc_C (k:Nat):Prop:=∀ (q:List Tree) {D:Option Addr} {c0:Nat} {E:Nat→Prop} (C:List Tree) {J:Option Addr} {c1:Nat} {O:Nat→Prop} {w:World} (V:SlR Tree.rp w E D c0 q) (X:∀ b,E b→NK w [] b) (Y:SlR Tree.rp w O J c1 C) (Z:∀ b,O b→NK w [] b) {r_:Bool} (h_:ps_EqualFunc k q C=some r_),Calls TP 34 [.slice D q.length c0,.slice J C.length c1,.func (.func 21) #[] #[]].toArray w fun e w'=>e = .returned (.bool r_)∧St w (KS []) w' []
def SmG (k:Nat):Prop:=ps_Same_C k∧ps_EqualFunc_C k
theorem ps_Same_R (k:Nat) (HG:∀ j_,j_ < k→SmG j_) (aa:Tree) {J:Option Addr} {O:Nat} {ad:Nat→Prop} (ab:Tree) {V:Option Addr} {X:Nat} {ae:Nat→Prop} {w:World} (af:SlR Tree.rp w ad J O aa.Kids) (Y:∀ b,ad b→NK w [] b) (ag:SlR Tree.rp w ae V X ab.Kids) (Z:∀ b,ae b→NK w [] b) {r_:Bool} (hF:ps_Same k aa ab=some r_) :
    Calls TP 21 [.agg (ta aa J O),.agg (ta ab V X)].toArray w fun e w'=>e = .returned (.bool r_)∧St w (KS []) w' []:=by
 obtain _ | k_:=k
 · exact nn hF
 rw [ps_Same] at hF;have S:=St.ofFalse (As:=[]) (St.init0 w);refine enter 31 [(0,.agg (ta aa J O)),(1,.agg (ta ab V X))] Tryz.func21 rfl rfl rfl rfl ?_;refine wq (wr ?_);obtain ⟨ar,au,al,am,ax,ay⟩:=sbx S TP 29 (.agg (ta aa J O));refine wee (al rfl) rfl ?_;obtain ⟨az,aA,an,q,ao,ap⟩:=sbx am TP 29 (.agg (ta ab V X));refine wee (an rfl) rfl ?_;refine av rfl (wn (we (wq (wr (wp (G.field T.fld29_0 rfl rfl) rfl ?_)))));refine wrr (G.load1 T.one3 rfl (cell_blk (q.blk 1 rfl) rfl)) rfl ?_;refine wp (G.field T.fld29_0 rfl rfl) rfl ?_;refine wrr (G.load1 T.one3 rfl (cell_blk (q.blk 0 rfl) rfl)) rfl ?_;refine wp (G.eql rfl rfl rfl) rfl (mv rfl ?_);rcases io hF with ⟨C,hF⟩|⟨C,hF⟩
 ·
  refine won rfl (dt C) (wp (G.field T.fld29_1 rfl rfl) rfl (won rfl (dt C) ?_));refine wrr (G.load1 T.one9 rfl (cell_blk (q.blk 1 rfl) rfl)) rfl ?_;refine won rfl (dt C) (wp (G.field T.fld29_1 rfl rfl) rfl (won rfl (dt C) ?_));refine wrr (G.load1 T.one9 rfl (cell_blk (q.blk 0 rfl) rfl)) rfl ?_;refine won rfl (dt C) (wp (G.eqlb' rfl rfl rfl) rfl (wp (G.pick_t (kb rfl (dt C)) rfl) rfl (mv rfl ?_)));rcases io hF with ⟨D,hF⟩|⟨D,hF⟩
  ·
   refine won rfl (dt D) (wp (G.field T.fld29_2 rfl rfl) rfl (won rfl (dt D) ?_));refine wrr (G.load1 T.one3 rfl (cell_blk (q.blk 1 rfl) rfl)) rfl ?_;refine won rfl (dt D) (wp (G.field T.fld29_2 rfl rfl) rfl (won rfl (dt D) ?_));refine wrr (G.load1 T.one3 rfl (cell_blk (q.blk 0 rfl) rfl)) rfl ?_;refine won rfl (dt D) (wp (G.eql rfl rfl rfl) rfl (wp (G.pick_t (kb rfl (dt D)) rfl) rfl (mv rfl ?_)));rcases io hF with ⟨E,hF⟩|⟨E,hF⟩
   ·
    refine won rfl (dt E) (wp (G.field T.fld29_4 rfl rfl) rfl (won rfl (dt E) ?_));refine wrr (G.load1 T.one27 rfl (cell_blk (q.blk 1 rfl) rfl)) rfl ?_;refine won rfl (dt E) (wp (G.field T.fld29_4 rfl rfl) rfl (won rfl (dt E) ?_));refine wrr (G.load1 T.one27 rfl (cell_blk (q.blk 0 rfl) rfl)) rfl ?_;refine won rfl (dt E) ?_;obtain ⟨ai,ah,hF⟩:=bo hF;refine wc T.call34 (ec rfl (ec rfl (ec rfl en))) rfl ?_;refine (((HG k_ (by omega)).2) aa.Kids ab.Kids (af.ext (q.keepF Y)) (St.outF (Bs:=[]) q Y) (ag.ext (q.keepF Z)) (St.outF (Bs:=[]) q Z) ah).mono ?_;rintro _ aq ⟨rfl,aj⟩;have ak:=scT aj q;refine ⟨_,rfl,?_⟩;refine wp (G.pick_t (kb rfl (dt E)) rfl) rfl (av rfl (wn (we (wg (l':=[(4,.bool ai)]) ⟨rfl,trivial⟩ (wrt ?_)))));obtain rfl:=se hF;refine WEx.ret1 rfl rfl ?_;exact ⟨rfl,sk ak⟩
   ·
    refine wof rfl (df E) rfl (wof rfl (df E) rfl (wof rfl (df E) rfl (wof rfl (df E) rfl (wof rfl (df E) rfl (wp (G.pick_f (kb rfl (df E)) rfl) rfl (av rfl (wn (we (wg (l':=[(4,.bool false)]) ⟨rfl,trivial⟩ (wrt ?_))))))))));obtain rfl:=se hF;refine WEx.ret1 rfl rfl ?_;exact ⟨rfl,sk q⟩
  ·
   refine wof rfl (df D) rfl (wof rfl (df D) rfl (wof rfl (df D) rfl (wof rfl (df D) rfl (wof rfl (df D) rfl (wp (G.pick_f (kb rfl (df D)) rfl) rfl (mv rfl ?_))))));refine WOps.off rfl rfl rfl rfl ?_;refine WOps.off rfl rfl rfl rfl ?_;refine WOps.off rfl rfl rfl rfl ?_;refine WOps.off rfl rfl rfl rfl ?_;refine WOps.off rfl rfl rfl rfl ?_;refine wp (G.pick_f rfl rfl) rfl (av rfl (wn (we (wg (l':=[(4,.bool false)]) ⟨rfl,trivial⟩ (wrt ?_)))));obtain rfl:=se hF;refine WEx.ret1 rfl rfl ?_;exact ⟨rfl,sk q⟩
 ·
  refine wof rfl (df C) rfl (wof rfl (df C) rfl (wof rfl (df C) rfl (wof rfl (df C) rfl (wof rfl (df C) rfl (wp (G.pick_f (kb rfl (df C)) rfl) rfl (mv rfl ?_))))));refine WOps.off rfl rfl rfl rfl ?_;refine WOps.off rfl rfl rfl rfl ?_;refine WOps.off rfl rfl rfl rfl ?_;refine WOps.off rfl rfl rfl rfl ?_;refine WOps.off rfl rfl rfl rfl ?_;refine wp (G.pick_f rfl rfl) rfl (mv rfl ?_);refine WOps.off rfl rfl rfl rfl ?_;refine WOps.off rfl rfl rfl rfl ?_;refine WOps.off rfl rfl rfl rfl ?_;refine WOps.off rfl rfl rfl rfl ?_;refine WOps.off rfl rfl rfl rfl ?_;refine wp (G.pick_f rfl rfl) rfl (av rfl (wn (we (wg (l':=[(4,.bool false)]) ⟨rfl,trivial⟩ (wrt ?_)))));obtain rfl:=se hF;refine WEx.ret1 rfl rfl ?_;exact ⟨rfl,sk q⟩
theorem ps_EqualFunc_R (k:Nat) (HG:∀ j_,j_ < k→SmG j_) (q:List Tree) {ab:Option Addr} {c0:Nat} {aK:Nat→Prop} (J:List Tree) {ad:Option Addr} {c1:Nat} {aL:Nat→Prop} {w:World} (aM:SlR Tree.rp w aK ab c0 q) (af:∀ b,aK b→NK w [] b) (aN:SlR Tree.rp w aL ad c1 J) (ag:∀ b,aL b→NK w [] b) {r_:Bool} (hF:ps_EqualFunc k q J=some r_) :
    Calls TP 34 [.slice ab q.length c0,.slice ad J.length c1,.func (.func 21) #[] #[]].toArray w fun e w'=>e = .returned (.bool r_)∧St w (KS []) w' []:=by
 obtain _ | k_:=k
 · exact nn hF
 rw [ps_EqualFunc] at hF;have S:=St.ofFalse (As:=[]) (St.init0 w);refine enter 32 [(0,.slice ab q.length c0),(1,.slice ad J.length c1),(2,.func (.func 21) #[] #[])] Tryz.func34 rfl rfl rfl rfl ?_;refine wq (wr (av rfl (wn (we (wq (wq (wr (mv rfl (wp (G.len T.el27 rfl) rfl (mv rfl (wp (G.len T.el27 rfl) rfl (wp (G.neq rfl rfl rfl) rfl (wn (we ?_))))))))))))));rcases io hF with ⟨al,hF⟩|⟨al,hF⟩
 ·
  refine WCode.cond_f (kb rfl (nf (dt al))) ?_;refine wsk (we (wq (wq (wr (mv rfl (wp (G.len T.el27 rfl) rfl (mv rfl (wn (we ?_)))))))));refine WCode.block ?_;change St _ _ _ [] at S;refine wg (l':=[(1,.slice ad J.length c1),(2,.func (.func 21) #[] #[]),(15,.slice ab q.length c0),(16,I (q.length:Int)),(17,I 0)]) ⟨rfl,rfl,rfl,rfl,rfl,trivial⟩ ?_;refine wl (fun n_ l_ w_=>∃ ae:Int,l_=[(1,.slice ad J.length c1),(2,.func (.func 21) #[] #[]),(15,.slice ab q.length c0),(16,I (q.length:Int)),(17,I ae)]∧ps_EqualFunc.l1 n_ q J ae=some r_∧n_≤k_∧St w (KS []) w_ []) k_ ⟨0,rfl,hF,Nat.le_refl _,S⟩ ?_;rintro a2 _ bj ⟨ae,rfl,hF,a3,am⟩;obtain _ | a4:=a2
  · exact nn hF
  rw [ps_EqualFunc.l1] at hF;refine wq (wr (wp (G.lss rfl rfl rfl) rfl (wn (we (wq ?_)))));rcases io hF with ⟨ah,hF⟩|⟨ah,hF⟩
  ·
   refine ct rfl (dt ah) (wsk (we (wq ?_)));refine WCode.block ?_;refine wq (wr (mv rfl ?_));obtain ⟨O,an,hF⟩:=bo hF;obtain ⟨aO,ao,ap,aq⟩:=idx_spec an;obtain ⟨a7,aP,a5,ar,au,C,ax⟩:=sat aM ap;obtain ⟨X,Y,ay,az⟩:=(Tree.rd_iff.1 ax);subst ay;have C:=C.move ((am.keepF af) _ au);change cellsAt _ _ (aP+aO * 5) (tl O X Y) at C;refine wp (G.idx T.el27 rfl ar rfl ao aq) rfl ?_;refine wrr (G.loada T.agg29_5 rfl (cs:=(tl O X Y)) C) rfl ?_;obtain ⟨a8,a9,aQ,aR,aS,aw⟩:=sv am (z:=.agg tz) T.zero29;have a':=C.ext aS;refine wee aQ rfl ?_;refine av rfl ?_;obtain ⟨ba,aT,aj⟩:=sw aR 0 (ta O X Y) T.size29_5 rfl rfl rfl rfl;refine wuu (aT rfl rfl) ?_;refine wn (we (wq (wr (mv rfl (mv rfl ?_)))));obtain ⟨V,aA,hF⟩:=bo hF;obtain ⟨aU,aB,aC,aD⟩:=idx_spec aA;obtain ⟨bb,aV,a6,aE,aF,D,aG⟩:=sat aN aC;obtain ⟨Z,aa,aH,aI⟩:=(Tree.rd_iff.1 aG);subst aH;have D:=D.move ((aj.keepF ag) _ aF);change cellsAt _ _ (aV+aU * 5) (tl V Z aa) at D;refine wp (G.idx T.el27 rfl aE rfl aB aD) rfl ?_;refine wrr (G.loada T.agg29_5 rfl (cs:=(tl V Z aa)) D) rfl ?_;obtain ⟨bc,bd,aW,aX,aY,be⟩:=sv aj (z:=.agg tz) T.zero29;have bg:=D.ext aY;refine wee aW rfl ?_;obtain ⟨bh,aZ,E⟩:=sw aX 0 (ta V Z aa) T.size29_5 rfl rfl rfl rfl;refine wuu (aZ rfl rfl) ?_;refine wn (we (wq (wr (mv rfl ?_))));refine wrr (G.loada T.agg29_5 rfl (cs:=(tl O X Y)) (cb (E.blk 1 rfl) rfl)) rfl ?_;refine wrr (G.loada T.agg29_5 rfl (cs:=(tl V Z aa)) (cb (E.blk 0 rfl) rfl)) rfl ?_;obtain ⟨a0,aJ,hF⟩:=bo hF;refine WOps.callv T.call21 rfl (ec rfl (ec rfl en)) rfl ?_;refine (((HG a4 (by omega)).1) O V (az.ext (E.keepF af)) (St.outF (Bs:=[]) E af) (aI.ext (E.keepF ag)) (St.outF (Bs:=[]) E ag) aJ).mono ?_;rintro _ bi ⟨rfl,a1⟩;have ak:=scT a1 E;refine ⟨_,rfl,?_⟩;refine wp (G.not rfl rfl) rfl (wn (we (wg (l':=[(1,.slice ad J.length c1),(2,.func (.func 21) #[] #[]),(15,.slice ab q.length c0),(16,I (q.length:Int)),(17,I ae),(30,.bool (!a0))]) ⟨rfl,rfl,rfl,rfl,rfl,rfl,trivial⟩ ?_)));rcases io hF with ⟨ai,hF⟩|⟨ai,hF⟩
   ·
    refine cf rfl (nf ai) (wsk (win (we (wr (wp (G.add rfl rfl (r:=(w64 (ae+1))) rfl) rfl (mv rfl (wn ?_)))))));refine wag _ _ (by omega) ?_ ⟨w64 (ae+1),rfl,hF,(by omega),(sk ak)⟩;exact ⟨rfl,rfl,rfl,rfl,rfl,trivial⟩
   ·
    refine ct rfl (nt (bf ai)) (wq (wr (av rfl (wn (we (wrt ?_))))));refine WEx.in_ret ?_;refine wtr (wtr ?_);refine WEx.in_ret ?_;refine wtr ?_;obtain rfl:=se hF;refine WEx.ret1 rfl rfl ?_;exact ⟨rfl,sk ak⟩
  ·
   refine cf rfl (df ah) ?_;refine WCode.exit ?_;refine WEx.then_exit ?_;refine WEx.then_exit ?_;refine WEx.in_exit ?_;refine we (wq (wr (av rfl (wn (we (wrt ?_))))));obtain rfl:=se hF;refine WEx.ret1 rfl rfl ?_;exact ⟨rfl,sk am⟩
 ·
  refine WCode.cond_t (kb rfl (nt (df al))) ?_;refine wq (wr (av rfl (wn (we (wrt (wtr ?_))))));obtain rfl:=se hF;refine WEx.ret1 rfl rfl ?_;exact ⟨rfl,sk (As:=[]) S⟩
theorem SmG_all:∀ k,SmG k:=fun k=>Nat.strongRecOn k fun k HG=>⟨@ps_Same_R k HG,@ps_EqualFunc_R k HG⟩
theorem ps_Same_calls (k:Nat):ps_Same_C k:=(SmG_all k).1
end Go.Proofs.YtnhifhlbelogcaaGreatDoor
