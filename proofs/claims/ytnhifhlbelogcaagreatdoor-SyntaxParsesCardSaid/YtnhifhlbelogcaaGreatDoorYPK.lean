/- Functions and their walks (printed by auto.py over the engine). -/
import Derived.Test.YtnhifhlbelogcaaGreatDoorYAb
import Derived.Test.YtnhifhlbelogcaaGreatDoorProg
import Derived.Test.YtnhifhlbelogcaaGreatDoorYPJ
set_option maxRecDepth 100000
set_option maxHeartbeats 1000000
namespace Go.Proofs.YtnhifhlbelogcaaGreatDoor
open Go Go.Eng
set_option linter.unusedSimpArgs false
set_option linter.unusedVariables false
def ps_kid (k:Nat) (q:Tree) (C:Int):Option Tree:=(if C < (q.Kids.length:Int) then ((idx q.Kids C).bind fun D=>some D) else some (⟨0,[],0,0,[]⟩:Tree))
theorem ps_kid_calls (k:Nat) (ab:Tree) {q:Option Addr} {C:Nat} {V:Nat→Prop} (ah:Int) {w:World} (af:SlR Tree.rp w V q C ab.Kids) (X:∀ b,V b→NK w [] b) {r_:Tree} (hF:ps_kid k ab ah=some r_) :
    Calls TP 60 [.agg (ta ab q C),I ah].toArray w fun e w'=>∃ Y:Option Addr,∃ Z:Nat,e = .returned (.agg (ta r_ Y Z))∧SlR Tree.rp w' V Y Z (r_.Kids)∧St w (KS []) w' []:=by
 unfold ps_kid at hF;have S:=St.ofFalse (As:=[]) (St.init0 w);refine enter 16 [(0,.agg (ta ab q C)),(1,I ah)] Tryz.func60 rfl rfl rfl rfl ?_;refine wq (wr ?_);obtain ⟨aJ,aK,az,aA,aL,aM⟩:=sbx S TP 29 (.agg (ta ab q C));refine wee (az rfl) rfl ?_;obtain ⟨aB,aN,aC,E,aE,aF⟩:=sv aA (z:=.agg tz) T.zero29;refine wee aC rfl ?_;refine wn (we (wq (wq (wr (mv rfl (wp (G.field T.fld29_4 rfl rfl) rfl ?_))))));refine wrr (G.load1 T.one27 rfl (cell_blk (E.blk 1 rfl) rfl)) rfl ?_;refine wp (G.len T.el27 rfl) rfl (wp (G.lss rfl rfl rfl) rfl (wn (we ?_)));rcases io hF with ⟨ad,hF⟩|⟨ad,hF⟩
 ·
  refine ct rfl (dt ad) (wq (wr (wp (G.field T.fld29_4 rfl rfl) rfl ?_)));refine wrr (G.load1 T.one27 rfl (cell_blk (E.blk 1 rfl) rfl)) rfl ?_;refine mv rfl ?_;obtain ⟨aa,ai,hF⟩:=bo hF;obtain ⟨ar,aj,ak,al⟩:=idx_spec ai;obtain ⟨aG,au,aD,am,an,D,ao⟩:=sat af ak;obtain ⟨J,O,ap,aq⟩:=(Tree.rd_iff.1 ao);subst ap;have D:=D.move ((E.keepF X) _ an);change cellsAt _ _ (au+ar * 5) (tl aa J O) at D;refine wp (G.idx T.el27 rfl am rfl aj al) rfl ?_;refine wrr (G.loada T.agg29_5 rfl (cs:=(tl aa J O)) D) rfl ?_;obtain ⟨aH,ax,ae⟩:=sw E 0 (ta aa J O) T.size29_5 rfl rfl rfl rfl;refine wuu (ax rfl rfl) ?_;refine wn (we (wg (l':=[(4,(Pt aB))]) ⟨rfl,trivial⟩ (wrt (wtr ?_))));obtain rfl:=se hF;refine wrc rfl rfl (cs:=(tl aa J O)) T.agg29_5 (cb (ae.blk 0 rfl) rfl) ?_;exact ⟨J,O,rfl,(aq.ext (ae.keepF X)),sk ae⟩
 ·
  refine cf rfl (df ad) (wsk (we (wq (wr (wp (G.build (cells:=tz) (fs_ (fn_)) (by kernel_rfl)) rfl ?_)))));obtain ⟨aI,ay,ag⟩:=sw E 0 tz T.size29_5 rfl rfl rfl rfl;refine wuu (ay rfl rfl) ?_;refine wn (we (wrt ?_));obtain rfl:=se hF;refine wrc rfl rfl (cs:=tzl) T.agg29_5 (cb (ag.blk 0 rfl) rfl) ?_;exact ⟨none,0,rfl,(SlR.nil _ _ _ _),sk ag⟩
def ps_inRun (k:Nat) (q:Int):Option Bool:=(if 97≤q then (if q≤122 then (some true) else (if 65≤q then (if q≤90 then (some true) else (if 48≤q then (if q≤57 then (some true) else (some (decide (q=95)))) else (some (decide (q=95))))) else (if 48≤q then (if q≤57 then (some true) else (some (decide (q=95)))) else (some (decide (q=95)))))) else (if 65≤q then (if q≤90 then (some true) else (if 48≤q then (if q≤57 then (some true) else (some (decide (q=95)))) else (some (decide (q=95))))) else (if 48≤q then (if q≤57 then (some true) else (some (decide (q=95)))) else (some (decide (q=95))))))
theorem ps_inRun_calls (k:Nat) (D:Int) {w:World} {r_:Bool} (hF:ps_inRun k D=some r_) :
    Calls TP 101 [.int .u8 D].toArray w fun e w'=>e = .returned (.bool r_)∧St w (KS []) w' []:=by
 unfold ps_inRun at hF;have S:=St.ofFalse (As:=[]) (St.init0 w);refine enter 29 [(0,.int .u8 D)] Tryz.func101 rfl rfl rfl rfl ?_;refine wq (wr (av rfl (wn (we (wq (wr (mv rfl (wp (G.geq rfl rfl rfl) rfl (mv rfl ?_)))))))));rcases io hF with ⟨X,hF⟩|⟨X,hF⟩
 ·
  refine won rfl (dt X) (mv rfl (won rfl (dt X) (wp (G.leq rfl rfl rfl) rfl (wp (G.pick_t (kb rfl (dt X)) rfl) rfl (mv rfl ?_)))));rcases io hF with ⟨h2,hF⟩|⟨h2,hF⟩
  ·
   refine wof rfl (dt h2) rfl (wof rfl (dt h2) rfl (wof rfl (dt h2) rfl ?_));refine WOps.off rfl rfl rfl rfl ?_;refine WOps.off rfl rfl rfl rfl ?_;refine wof rfl (dt h2) rfl (wp (G.pick_t (kb rfl (dt h2)) rfl) rfl (mv rfl ?_));refine WOps.off rfl rfl rfl rfl ?_;refine WOps.off rfl rfl rfl rfl ?_;refine WOps.off rfl rfl rfl rfl ?_;refine WOps.off rfl rfl rfl rfl ?_;refine WOps.off rfl rfl rfl rfl ?_;refine WOps.off rfl rfl rfl rfl ?_;refine wp (G.pick_t rfl rfl) rfl (mv rfl ?_);refine WOps.off rfl rfl rfl rfl ?_;refine WOps.off rfl rfl rfl rfl ?_;refine wp (G.pick_t rfl rfl) rfl (av rfl (wn (we (wg (l':=[(2,.bool true)]) ⟨rfl,trivial⟩ (wrt ?_)))));obtain rfl:=se hF;refine WEx.ret1 rfl rfl ?_;exact ⟨rfl,sk (As:=[]) S⟩
  ·
   refine won rfl (df h2) (mv rfl (won rfl (df h2) (wp (G.geq rfl rfl rfl) rfl (won rfl (df h2) (mv rfl ?_)))));rcases io hF with ⟨Y,hF⟩|⟨Y,hF⟩
   ·
    refine won rfl (dt Y) (mv rfl (won rfl (dt Y) (wp (G.leq rfl rfl rfl) rfl (won rfl (df h2) (wp (G.pick_t (kb rfl (dt Y)) rfl) rfl (wp (G.pick_f (kb rfl (df h2)) rfl) rfl (mv rfl ?_)))))));rcases io hF with ⟨C,hF⟩|⟨C,hF⟩
    ·
     refine wof rfl (dt C) rfl (wof rfl (dt C) rfl (wof rfl (dt C) rfl ?_));refine WOps.off rfl rfl rfl rfl ?_;refine WOps.off rfl rfl rfl rfl ?_;refine wof rfl (dt C) rfl (wp (G.pick_t (kb rfl (dt C)) rfl) rfl (mv rfl ?_));refine WOps.off rfl rfl rfl rfl ?_;refine WOps.off rfl rfl rfl rfl ?_;refine wp (G.pick_t rfl rfl) rfl (av rfl (wn (we (wg (l':=[(2,.bool true)]) ⟨rfl,trivial⟩ (wrt ?_)))));obtain rfl:=se hF;refine WEx.ret1 rfl rfl ?_;exact ⟨rfl,sk (As:=[]) S⟩
    ·
     refine won rfl (df C) (mv rfl (won rfl (df C) (wp (G.geq rfl rfl rfl) rfl (won rfl (df C) (mv rfl ?_)))));rcases io hF with ⟨Z,hF⟩|⟨Z,hF⟩
     ·
      refine won rfl (dt Z) (mv rfl (won rfl (dt Z) (wp (G.leq rfl rfl rfl) rfl (won rfl (df C) (wp (G.pick_t (kb rfl (dt Z)) rfl) rfl (wp (G.pick_f (kb rfl (df C)) rfl) rfl (mv rfl ?_)))))));rcases io hF with ⟨aa,hF⟩|⟨aa,hF⟩
      ·
       refine wof rfl (dt aa) rfl (wof rfl (dt aa) rfl (wp (G.pick_t (kb rfl (dt aa)) rfl) rfl (av rfl (wn (we (wg (l':=[(2,.bool true)]) ⟨rfl,trivial⟩ (wrt ?_)))))));obtain rfl:=se hF;refine WEx.ret1 rfl rfl ?_;exact ⟨rfl,sk (As:=[]) S⟩
      ·
       refine won rfl (df aa) (mv rfl (won rfl (df aa) (wp (G.eql rfl rfl rfl) rfl (wp (G.pick_f (kb rfl (df aa)) rfl) rfl (av rfl (wn (we (wg (l':=[(2,.bool (decide (D=95)))]) ⟨rfl,trivial⟩ (wrt ?_)))))))));obtain rfl:=se hF;refine WEx.ret1 rfl rfl ?_;exact ⟨rfl,sk (As:=[]) S⟩
     ·
      refine wof rfl (df Z) rfl (wof rfl (df Z) rfl (won rfl (df C) (wp (G.pick_f (kb rfl (df Z)) rfl) rfl (wp (G.pick_f (kb rfl (df C)) rfl) rfl (mv rfl ?_)))));refine WOps.on rfl rfl ?_;refine mv rfl ?_;refine WOps.on rfl rfl ?_;refine wp (G.eql rfl rfl rfl) rfl (wp (G.pick_f rfl rfl) rfl (av rfl (wn (we (wg (l':=[(2,.bool (decide (D=95)))]) ⟨rfl,trivial⟩ (wrt ?_))))));obtain rfl:=se hF;refine WEx.ret1 rfl rfl ?_;exact ⟨rfl,sk (As:=[]) S⟩
   ·
    refine wof rfl (df Y) rfl (wof rfl (df Y) rfl (won rfl (df h2) (wp (G.pick_f (kb rfl (df Y)) rfl) rfl (wp (G.pick_f (kb rfl (df h2)) rfl) rfl (mv rfl ?_)))));refine WOps.on rfl rfl ?_;refine mv rfl ?_;refine WOps.on rfl rfl ?_;refine wp (G.geq rfl rfl rfl) rfl ?_;refine WOps.on rfl rfl ?_;refine mv rfl ?_;rcases io hF with ⟨ab,hF⟩|⟨ab,hF⟩
    ·
     refine won rfl (dt ab) (mv rfl (won rfl (dt ab) (wp (G.leq rfl rfl rfl) rfl ?_)));refine WOps.on rfl rfl ?_;refine wp (G.pick_t (kb rfl (dt ab)) rfl) rfl (wp (G.pick_f rfl rfl) rfl (mv rfl ?_));rcases io hF with ⟨ad,hF⟩|⟨ad,hF⟩
     ·
      refine wof rfl (dt ad) rfl (wof rfl (dt ad) rfl (wp (G.pick_t (kb rfl (dt ad)) rfl) rfl (av rfl (wn (we (wg (l':=[(2,.bool true)]) ⟨rfl,trivial⟩ (wrt ?_)))))));obtain rfl:=se hF;refine WEx.ret1 rfl rfl ?_;exact ⟨rfl,sk (As:=[]) S⟩
     ·
      refine won rfl (df ad) (mv rfl (won rfl (df ad) (wp (G.eql rfl rfl rfl) rfl (wp (G.pick_f (kb rfl (df ad)) rfl) rfl (av rfl (wn (we (wg (l':=[(2,.bool (decide (D=95)))]) ⟨rfl,trivial⟩ (wrt ?_)))))))));obtain rfl:=se hF;refine WEx.ret1 rfl rfl ?_;exact ⟨rfl,sk (As:=[]) S⟩
    ·
     refine wof rfl (df ab) rfl (wof rfl (df ab) rfl ?_);refine WOps.on rfl rfl ?_;refine wp (G.pick_f (kb rfl (df ab)) rfl) rfl (wp (G.pick_f rfl rfl) rfl (mv rfl ?_));refine WOps.on rfl rfl ?_;refine mv rfl ?_;refine WOps.on rfl rfl ?_;refine wp (G.eql rfl rfl rfl) rfl (wp (G.pick_f rfl rfl) rfl (av rfl (wn (we (wg (l':=[(2,.bool (decide (D=95)))]) ⟨rfl,trivial⟩ (wrt ?_))))));obtain rfl:=se hF;refine WEx.ret1 rfl rfl ?_;exact ⟨rfl,sk (As:=[]) S⟩
 ·
  refine wof rfl (df X) rfl (wof rfl (df X) rfl (wp (G.pick_f (kb rfl (df X)) rfl) rfl (mv rfl ?_)));refine WOps.on rfl rfl ?_;refine mv rfl ?_;refine WOps.on rfl rfl ?_;refine wp (G.geq rfl rfl rfl) rfl ?_;refine WOps.on rfl rfl ?_;refine mv rfl ?_;rcases io hF with ⟨ae,hF⟩|⟨ae,hF⟩
  ·
   refine won rfl (dt ae) (mv rfl (won rfl (dt ae) (wp (G.leq rfl rfl rfl) rfl ?_)));refine WOps.on rfl rfl ?_;refine wp (G.pick_t (kb rfl (dt ae)) rfl) rfl (wp (G.pick_f rfl rfl) rfl (mv rfl ?_));rcases io hF with ⟨q,hF⟩|⟨q,hF⟩
   ·
    refine wof rfl (dt q) rfl (wof rfl (dt q) rfl (wof rfl (dt q) rfl ?_));refine WOps.off rfl rfl rfl rfl ?_;refine WOps.off rfl rfl rfl rfl ?_;refine wof rfl (dt q) rfl (wp (G.pick_t (kb rfl (dt q)) rfl) rfl (mv rfl ?_));refine WOps.off rfl rfl rfl rfl ?_;refine WOps.off rfl rfl rfl rfl ?_;refine wp (G.pick_t rfl rfl) rfl (av rfl (wn (we (wg (l':=[(2,.bool true)]) ⟨rfl,trivial⟩ (wrt ?_)))));obtain rfl:=se hF;refine WEx.ret1 rfl rfl ?_;exact ⟨rfl,sk (As:=[]) S⟩
   ·
    refine won rfl (df q) (mv rfl (won rfl (df q) (wp (G.geq rfl rfl rfl) rfl (won rfl (df q) (mv rfl ?_)))));rcases io hF with ⟨E,hF⟩|⟨E,hF⟩
    ·
     refine won rfl (dt E) (mv rfl (won rfl (dt E) (wp (G.leq rfl rfl rfl) rfl (won rfl (df q) (wp (G.pick_t (kb rfl (dt E)) rfl) rfl (wp (G.pick_f (kb rfl (df q)) rfl) rfl (mv rfl ?_)))))));rcases io hF with ⟨J,hF⟩|⟨J,hF⟩
     ·
      refine wof rfl (dt J) rfl (wof rfl (dt J) rfl (wp (G.pick_t (kb rfl (dt J)) rfl) rfl (av rfl (wn (we (wg (l':=[(2,.bool true)]) ⟨rfl,trivial⟩ (wrt ?_)))))));obtain rfl:=se hF;refine WEx.ret1 rfl rfl ?_;exact ⟨rfl,sk (As:=[]) S⟩
     ·
      refine won rfl (df J) (mv rfl (won rfl (df J) (wp (G.eql rfl rfl rfl) rfl (wp (G.pick_f (kb rfl (df J)) rfl) rfl (av rfl (wn (we (wg (l':=[(2,.bool (decide (D=95)))]) ⟨rfl,trivial⟩ (wrt ?_)))))))));obtain rfl:=se hF;refine WEx.ret1 rfl rfl ?_;exact ⟨rfl,sk (As:=[]) S⟩
    ·
     refine wof rfl (df E) rfl (wof rfl (df E) rfl (won rfl (df q) (wp (G.pick_f (kb rfl (df E)) rfl) rfl (wp (G.pick_f (kb rfl (df q)) rfl) rfl (mv rfl ?_)))));refine WOps.on rfl rfl ?_;refine mv rfl ?_;refine WOps.on rfl rfl ?_;refine wp (G.eql rfl rfl rfl) rfl (wp (G.pick_f rfl rfl) rfl (av rfl (wn (we (wg (l':=[(2,.bool (decide (D=95)))]) ⟨rfl,trivial⟩ (wrt ?_))))));obtain rfl:=se hF;refine WEx.ret1 rfl rfl ?_;exact ⟨rfl,sk (As:=[]) S⟩
  ·
   refine wof rfl (df ae) rfl (wof rfl (df ae) rfl ?_);refine WOps.on rfl rfl ?_;refine wp (G.pick_f (kb rfl (df ae)) rfl) rfl (wp (G.pick_f rfl rfl) rfl (mv rfl ?_));refine WOps.on rfl rfl ?_;refine mv rfl ?_;refine WOps.on rfl rfl ?_;refine wp (G.geq rfl rfl rfl) rfl ?_;refine WOps.on rfl rfl ?_;refine mv rfl ?_;rcases io hF with ⟨O,hF⟩|⟨O,hF⟩
   ·
    refine won rfl (dt O) (mv rfl (won rfl (dt O) (wp (G.leq rfl rfl rfl) rfl ?_)));refine WOps.on rfl rfl ?_;refine wp (G.pick_t (kb rfl (dt O)) rfl) rfl (wp (G.pick_f rfl rfl) rfl (mv rfl ?_));rcases io hF with ⟨V,hF⟩|⟨V,hF⟩
    ·
     refine wof rfl (dt V) rfl (wof rfl (dt V) rfl (wp (G.pick_t (kb rfl (dt V)) rfl) rfl (av rfl (wn (we (wg (l':=[(2,.bool true)]) ⟨rfl,trivial⟩ (wrt ?_)))))));obtain rfl:=se hF;refine WEx.ret1 rfl rfl ?_;exact ⟨rfl,sk (As:=[]) S⟩
    ·
     refine won rfl (df V) (mv rfl (won rfl (df V) (wp (G.eql rfl rfl rfl) rfl (wp (G.pick_f (kb rfl (df V)) rfl) rfl (av rfl (wn (we (wg (l':=[(2,.bool (decide (D=95)))]) ⟨rfl,trivial⟩ (wrt ?_)))))))));obtain rfl:=se hF;refine WEx.ret1 rfl rfl ?_;exact ⟨rfl,sk (As:=[]) S⟩
   ·
    refine wof rfl (df O) rfl (wof rfl (df O) rfl ?_);refine WOps.on rfl rfl ?_;refine wp (G.pick_f (kb rfl (df O)) rfl) rfl (wp (G.pick_f rfl rfl) rfl (mv rfl ?_));refine WOps.on rfl rfl ?_;refine mv rfl ?_;refine WOps.on rfl rfl ?_;refine wp (G.eql rfl rfl rfl) rfl (wp (G.pick_f rfl rfl) rfl (av rfl (wn (we (wg (l':=[(2,.bool (decide (D=95)))]) ⟨rfl,trivial⟩ (wrt ?_))))));obtain rfl:=se hF;refine WEx.ret1 rfl rfl ?_;exact ⟨rfl,sk (As:=[]) S⟩
def ps_plain (k:Nat) (q:Int):Option (List (List UInt8)):=(if q=13 then none else (if q=18 then none else (if q=19 then none else (if q=20 then none else (if q=21 then none else (if q=22 then none else (if q=23 then none else (if q=24 then none else (if q=25 then none else (if q=26 then none else (some ([[63]]:List (List UInt8)))))))))))))
theorem ps_plain_calls (k:Nat) (C:Int) {w:World} {r_:(List (List UInt8))} (hF:ps_plain k C=some r_) :
    Calls TP 103 [I C].toArray w fun e w'=>∃ E:Option Addr,∃ J:Nat,∃ O:Grp,e = .returned (.slice E (r_).length J)∧SlO 9 Rp.str (.slice E (r_).length J) (r_) O∧St w (KS []) w' [O]:=by
 unfold ps_plain at hF;have S:=St.ofFalse (As:=[]) (St.init0 w);refine enter 35 [(0,I C)] Tryz.func103 rfl rfl rfl rfl ?_;refine wq (wr (av rfl (wn (we (wq (wq (wr (mv rfl (wn (we ?_))))))))));refine WCode.block ?_;refine wq (wr (wp (G.eql rfl rfl rfl) rfl (av rfl (wn (we ?_)))));rcases io hF with ⟨X,hF⟩|⟨X,hF⟩
 ·
  exact nn hF
 ·
  refine cf rfl (df X) (wq (wr (wp (G.eql rfl rfl rfl) rfl (av rfl (wn (we ?_))))));rcases io hF with ⟨h2,hF⟩|⟨h2,hF⟩
  ·
   exact nn hF
  ·
   refine cf rfl (df h2) (wq (wr (wp (G.eql rfl rfl rfl) rfl (av rfl (wn (we ?_))))));rcases io hF with ⟨Y,hF⟩|⟨Y,hF⟩
   ·
    exact nn hF
   ·
    refine cf rfl (df Y) (wq (wr (wp (G.eql rfl rfl rfl) rfl (av rfl (wn (we ?_))))));rcases io hF with ⟨Z,hF⟩|⟨Z,hF⟩
    ·
     exact nn hF
    ·
     refine cf rfl (df Z) (wq (wr (wp (G.eql rfl rfl rfl) rfl (av rfl (wn (we (wg (l':=[(3,I C),(16,.bool (decide (C=21)))]) ⟨rfl,rfl,trivial⟩ ?_)))))));rcases io hF with ⟨aa,hF⟩|⟨aa,hF⟩
     ·
      exact nn hF
     ·
      refine cf rfl (df aa) (wq (wr (wp (G.eql rfl rfl rfl) rfl (av rfl (wn (we ?_))))));rcases io hF with ⟨ab,hF⟩|⟨ab,hF⟩
      ·
       exact nn hF
      ·
       refine cf rfl (df ab) (wq (wr (wp (G.eql rfl rfl rfl) rfl (av rfl (wn (we ?_))))));rcases io hF with ⟨ad,hF⟩|⟨ad,hF⟩
       ·
        exact nn hF
       ·
        refine cf rfl (df ad) (wq (wr (wp (G.eql rfl rfl rfl) rfl (av rfl (wn (we ?_))))));rcases io hF with ⟨ae,hF⟩|⟨ae,hF⟩
        ·
         exact nn hF
        ·
         refine cf rfl (df ae) (wq (wr (wp (G.eql rfl rfl rfl) rfl (av rfl (wn (we ?_))))));rcases io hF with ⟨af,hF⟩|⟨af,hF⟩
         ·
          exact nn hF
         ·
          refine cf rfl (df af) (wq (wr (wp (G.eql rfl rfl rfl) rfl (av rfl (wn (we (wg (l':=[(31,.bool (decide (C=26)))]) ⟨rfl,trivial⟩ ?_)))))));rcases io hF with ⟨V,hF⟩|⟨V,hF⟩
          ·
           exact nn hF
          ·
           refine cf rfl (df V) (wsk (win (we (wq (wr ?_)))));obtain ⟨q,ai,ag,ah,aj,ak⟩:=sl S (P:=TP) (t:=25) (e:=9) (n:=1) (vs:=[(0,.string (bs [63]))]) (cs:=(zs [[63]])) (by kernel_rfl);refine wee (ag (fc rfl fn_)) rfl ?_;refine av rfl (wn (we (wrt ?_)));obtain rfl:=se hF;refine WEx.ret1 rfl rfl ?_;have D:SlO 9 Rp.str (.slice (some ⟨q,0,none⟩) ([[63]]:List (List UInt8)).length 1) ([[63]]:List (List UInt8)) ((B q (zs [[63]]) 9)++[]):=SlO.lit (GM:=[]) ⟨_,_,[],[],rfl,rfl,⟨rfl,rfl⟩,⟨rfl,rfl⟩⟩ rfl (nb rfl) (nb rfl);rw [List.append_nil] at D;exact ⟨some ⟨q,0,none⟩,1,(B q (zs [[63]]) 9),rfl,D,sk ah⟩
end Go.Proofs.YtnhifhlbelogcaaGreatDoor
