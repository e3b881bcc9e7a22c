/- Functions and their walks (printed by auto.py over the engine). -/
import Derived.Test.YtnhifhlbelogcaaDoorYAb
import Derived.Test.YtnhifhlbelogcaaDoorProg
import Derived.Test.YtnhifhlbelogcaaDoorYPJ
set_option maxRecDepth 100000
set_option maxHeartbeats 1000000
namespace Go.Proofs.YtnhifhlbelogcaaDoor
open Go Go.Eng
set_option linter.unusedSimpArgs false
set_option linter.unusedVariables false
def ps_kid (k:Nat) (q:Tree) (C:Int):Option Tree:=(if C < (q.Kids.length:Int) then ((idx q.Kids C).bind fun D=>some D) else some (⟨0,[],0,0,[]⟩:Tree))
theorem ps_kid_calls (k:Nat) (ad:Tree) {q:Option Addr} {C:Nat} {V:Nat→Prop} (ai:Int) {w:World} (ag:SlR Tree.rp w V q C ad.Kids) (X:∀ b,V b→NK w [] b) {r_:Tree} (hF:ps_kid k ad ai=some r_) :
    Calls TP 22 [.agg (ta ad q C),I ai].toArray w fun e w'=>∃ Y:Option Addr,∃ aa:Nat,e = .returned (.agg (ta r_ Y aa))∧SlR Tree.rp w' V Y aa (r_.Kids)∧St w (KS []) w' []:=by
 unfold ps_kid at hF;have S:=St.ofFalse (As:=[]) (St.init0 w);refine enter 16 [(0,.agg (ta ad q C)),(1,I ai)] Tryd.func22 rfl rfl rfl rfl ?_;refine wq (wr ?_);obtain ⟨aK,aL,aA,aB,aM,aN⟩:=sbx S TP 24 (.agg (ta ad q C));refine wee (aA rfl) rfl ?_;obtain ⟨aC,aO,aD,E,aF,aG⟩:=sv aB (z:=.agg tz) T.zero24;refine wee aD rfl ?_;refine wn (we (wq (wq (wr (mv rfl (wp (G.field T.fld24_4 rfl rfl) rfl ?_))))));refine wrr (G.load1 T.one22 rfl (cell_blk (E.blk 1 rfl) rfl)) rfl ?_;refine wp (G.len T.el22 rfl) rfl (wp (G.lss rfl rfl rfl) rfl (wn (we ?_)));rcases io hF with ⟨ae,hF⟩|⟨ae,hF⟩
 ·
  refine ct rfl (dt ae) (wq (wr (wp (G.field T.fld24_4 rfl rfl) rfl ?_)));refine wrr (G.load1 T.one22 rfl (cell_blk (E.blk 1 rfl) rfl)) rfl ?_;refine mv rfl ?_;obtain ⟨ab,aj,hF⟩:=bo hF;obtain ⟨au,ak,al,am⟩:=idx_spec aj;obtain ⟨aH,ax,aE,an,ao,D,ap⟩:=sat ag al;obtain ⟨J,O,aq,ar⟩:=(Tree.rd_iff.1 ap);subst aq;have D:=D.move ((E.keepF X) _ ao);change cellsAt _ _ (ax+au * 5) (tl ab J O) at D;refine wp (G.idx T.el22 rfl an rfl ak am) rfl ?_;refine wrr (G.loada T.agg24_5 rfl (cs:=(tl ab J O)) D) rfl ?_;obtain ⟨aI,ay,af⟩:=sw E 0 (ta ab J O) T.size24_5 rfl rfl rfl rfl;refine wuu (ay rfl rfl) ?_;refine wn (we (wg (l':=[(4,(Pt aC))]) ⟨rfl,trivial⟩ (wrt (wtr ?_))));obtain rfl:=se hF;refine wrc rfl rfl (cs:=(tl ab J O)) T.agg24_5 (cb (af.blk 0 rfl) rfl) ?_;exact ⟨J,O,rfl,(ar.ext (af.keepF X)),sk af⟩
 ·
  refine cf rfl (df ae) (wsk (we (wq (wr (wp (G.build (cells:=tz) (fs_ (fn_)) (by kernel_rfl)) rfl ?_)))));obtain ⟨aJ,az,ah⟩:=sw E 0 tz T.size24_5 rfl rfl rfl rfl;refine wuu (az rfl rfl) ?_;refine wn (we (wrt ?_));obtain rfl:=se hF;refine wrc rfl rfl (cs:=tzl) T.agg24_5 (cb (ah.blk 0 rfl) rfl) ?_;exact ⟨none,0,rfl,(SlR.nil _ _ _ _),sk ah⟩
def ps_from (k:Nat) (q:Tree) (C:Int):Option (List Tree):=((cut q.Kids (min C (q.Kids.length:Int)) (q.Kids.length:Int)).bind fun D=>some D)
theorem ps_from_calls (k:Nat) (D:Tree) {C:Option Addr} {q:Nat} {J:Nat→Prop} (E:Int) {w:World} (O:SlR Tree.rp w J C q D.Kids) (V:∀ b,J b→NK w [] b) {r_:(List Tree)} (hF:ps_from k D E=some r_) :
    Calls TP 23 [.agg (ta D C q),I E].toArray w fun e w'=>∃ Y:Option Addr,∃ aa:Nat,e = .returned (.slice Y (r_).length aa)∧SlR Tree.rp w' J Y aa (r_)∧St w (KS []) w' []:=by
 unfold ps_from at hF;have S:=St.ofFalse (As:=[]) (St.init0 w);refine enter 13 [(0,.agg (ta D C q)),(1,I E)] Tryd.func23 rfl rfl rfl rfl ?_;refine wq (wr ?_);obtain ⟨ag,ah,ae,X,ai,aj⟩:=sbx S TP 24 (.agg (ta D C q));refine wee (ae rfl) rfl ?_;refine av rfl (wn (we (wq (wr (wp (G.field T.fld24_4 rfl rfl) rfl ?_)))));refine wrr (G.load1 T.one22 rfl (cell_blk (X.blk 0 rfl) rfl)) rfl ?_;refine mv rfl (wp (G.field T.fld24_4 rfl rfl) rfl ?_);refine wrr (G.load1 T.one22 rfl (cell_blk (X.blk 0 rfl) rfl)) rfl ?_;refine wp (G.len T.el22 rfl) rfl (wp (G.min rfl rfl (int_min E (D.Kids.length:Int))) rfl ?_);obtain ⟨af,ab,hF⟩:=bo hF;have ad:=O.cut_lh ab;refine wp (G.cut_l T.el22 rfl rfl ab) rfl (av rfl (wn (we (wg (l':=[(4,.slice (subA C q (min E (D.Kids.length:Int)) 5) af.length (q - (min E (D.Kids.length:Int)).toNat))]) ⟨rfl,trivial⟩ (wrt ?_)))));obtain rfl:=se hF;refine WEx.ret1 rfl rfl ?_;exact ⟨(subA C q (min E (D.Kids.length:Int)) 5),(q - (min E (D.Kids.length:Int)).toNat),rfl,(ad.ext (X.keepF V)),sk X⟩
def ps_last (k:Nat) (q:Tree):Option Int:=(some (max 0 (w64 ((q.Kids.length:Int) - 1))))
theorem ps_last_calls (k:Nat) (D:Tree) {q:Option Addr} {C:Nat} {E:Nat→Prop} {w:World} (O:SlR Tree.rp w E q C D.Kids) (V:∀ b,E b→NK w [] b) {r_:Int} (hF:ps_last k D=some r_) :
    Calls TP 24 [.agg (ta D q C)].toArray w fun e w'=>e = .returned (I r_)∧St w (KS []) w' []:=by
 unfold ps_last at hF;have S:=St.ofFalse (As:=[]) (St.init0 w);refine enter 8 [(0,.agg (ta D q C))] Tryd.func24 rfl rfl rfl rfl ?_;refine wq (wr ?_);obtain ⟨Y,aa,X,J,ab,ad⟩:=sbx S TP 24 (.agg (ta D q C));refine wee (X rfl) rfl ?_;refine av rfl (wn (we (wq (wr (wp (G.field T.fld24_4 rfl rfl) rfl ?_)))));refine wrr (G.load1 T.one22 rfl (cell_blk (J.blk 0 rfl) rfl)) rfl ?_;refine wp (G.len T.el22 rfl) rfl (wp (G.sub rfl rfl (r:=(w64 ((D.Kids.length:Int) - 1))) rfl) rfl (wp (G.max rfl rfl (int_max 0 (w64 ((D.Kids.length:Int) - 1)))) rfl (av rfl (wn (we (wrt ?_))))));obtain rfl:=se hF;refine WEx.ret1 rfl rfl ?_;exact ⟨rfl,sk J⟩
def ps_inRun (k:Nat) (q:Int):Option Bool:=(if 97≤q then (if q≤122 then (some true) else (if 65≤q then (if q≤90 then (some true) else (if 48≤q then (if q≤57 then (some true) else (some (decide (q=95)))) else (some (decide (q=95))))) else (if 48≤q then (if q≤57 then (some true) else (some (decide (q=95)))) else (some (decide (q=95)))))) else (if 65≤q then (if q≤90 then (some true) else (if 48≤q then (if q≤57 then (some true) else (some (decide (q=95)))) else (some (decide (q=95))))) else (if 48≤q then (if q≤57 then (some true) else (some (decide (q=95)))) else (some (decide (q=95))))))
theorem ps_inRun_calls (k:Nat) (E:Int) {w:World} {r_:Bool} (hF:ps_inRun k E=some r_) :
    Calls TP 36 [.int .u8 E].toArray w fun e w'=>e = .returned (.bool r_)∧St w (KS []) w' []:=by
 unfold ps_inRun at hF;have S:=St.ofFalse (As:=[]) (St.init0 w);refine enter 29 [(0,.int .u8 E)] Tryd.func36 rfl rfl rfl rfl ?_;refine wq (wr (av rfl (wn (we (wq (wr (mv rfl (wp (G.geq rfl rfl rfl) rfl (mv rfl ?_)))))))));rcases io hF with ⟨Y,hF⟩|⟨Y,hF⟩
 ·
  refine won rfl (dt Y) (mv rfl (won rfl (dt Y) (wp (G.leq rfl rfl rfl) rfl (wp (G.pick_t (kb rfl (dt Y)) rfl) rfl (mv rfl ?_)))));rcases io hF with ⟨C,hF⟩|⟨C,hF⟩
  ·
   refine wof rfl (dt C) rfl (wof rfl (dt C) rfl (wof rfl (dt C) rfl ?_));refine WOps.off rfl rfl rfl rfl ?_;refine WOps.off rfl rfl rfl rfl ?_;refine wof rfl (dt C) rfl (wp (G.pick_t (kb rfl (dt C)) rfl) rfl (mv rfl ?_));refine WOps.off rfl rfl rfl rfl ?_;refine WOps.off rfl rfl rfl rfl ?_;refine WOps.off rfl rfl rfl rfl ?_;refine WOps.off rfl rfl rfl rfl ?_;refine WOps.off rfl rfl rfl rfl ?_;refine WOps.off rfl rfl rfl rfl ?_;refine wp (G.pick_t rfl rfl) rfl (mv rfl ?_);refine WOps.off rfl rfl rfl rfl ?_;refine WOps.off rfl rfl rfl rfl ?_;refine wp (G.pick_t rfl rfl) rfl (av rfl (wn (we (wg (l':=[(2,.bool true)]) ⟨rfl,trivial⟩ (wrt ?_)))));obtain rfl:=se hF;refine WEx.ret1 rfl rfl ?_;exact ⟨rfl,sk (As:=[]) S⟩
  ·
   refine won rfl (df C) (mv rfl (won rfl (df C) (wp (G.geq rfl rfl rfl) rfl (won rfl (df C) (mv rfl ?_)))));rcases io hF with ⟨aa,hF⟩|⟨aa,hF⟩
   ·
    refine won rfl (dt aa) (mv rfl (won rfl (dt aa) (wp (G.leq rfl rfl rfl) rfl (won rfl (df C) (wp (G.pick_t (kb rfl (dt aa)) rfl) rfl (wp (G.pick_f (kb rfl (df C)) rfl) rfl (mv rfl ?_)))))));rcases io hF with ⟨D,hF⟩|⟨D,hF⟩
    ·
     refine wof rfl (dt D) rfl (wof rfl (dt D) rfl (wof rfl (dt D) rfl ?_));refine WOps.off rfl rfl rfl rfl ?_;refine WOps.off rfl rfl rfl rfl ?_;refine wof rfl (dt D) rfl (wp (G.pick_t (kb rfl (dt D)) rfl) rfl (mv rfl ?_));refine WOps.off rfl rfl rfl rfl ?_;refine WOps.off rfl rfl rfl rfl ?_;refine wp (G.pick_t rfl rfl) rfl (av rfl (wn (we (wg (l':=[(2,.bool true)]) ⟨rfl,trivial⟩ (wrt ?_)))));obtain rfl:=se hF;refine WEx.ret1 rfl rfl ?_;exact ⟨rfl,sk (As:=[]) S⟩
    ·
     refine won rfl (df D) (mv rfl (won rfl (df D) (wp (G.geq rfl rfl rfl) rfl (won rfl (df D) (mv rfl ?_)))));rcases io hF with ⟨ab,hF⟩|⟨ab,hF⟩
     ·
      refine won rfl (dt ab) (mv rfl (won rfl (dt ab) (wp (G.leq rfl rfl rfl) rfl (won rfl (df D) (wp (G.pick_t (kb rfl (dt ab)) rfl) rfl (wp (G.pick_f (kb rfl (df D)) rfl) rfl (mv rfl ?_)))))));rcases io hF with ⟨ad,hF⟩|⟨ad,hF⟩
      ·
       refine wof rfl (dt ad) rfl (wof rfl (dt ad) rfl (wp (G.pick_t (kb rfl (dt ad)) rfl) rfl (av rfl (wn (we (wg (l':=[(2,.bool true)]) ⟨rfl,trivial⟩ (wrt ?_)))))));obtain rfl:=se hF;refine WEx.ret1 rfl rfl ?_;exact ⟨rfl,sk (As:=[]) S⟩
      ·
       refine won rfl (df ad) (mv rfl (won rfl (df ad) (wp (G.eql rfl rfl rfl) rfl (wp (G.pick_f (kb rfl (df ad)) rfl) rfl (av rfl (wn (we (wg (l':=[(2,.bool (decide (E=95)))]) ⟨rfl,trivial⟩ (wrt ?_)))))))));obtain rfl:=se hF;refine WEx.ret1 rfl rfl ?_;exact ⟨rfl,sk (As:=[]) S⟩
     ·
      refine wof rfl (df ab) rfl (wof rfl (df ab) rfl (won rfl (df D) (wp (G.pick_f (kb rfl (df ab)) rfl) rfl (wp (G.pick_f (kb rfl (df D)) rfl) rfl (mv rfl ?_)))));refine WOps.on rfl rfl ?_;refine mv rfl ?_;refine WOps.on rfl rfl ?_;refine wp (G.eql rfl rfl rfl) rfl (wp (G.pick_f rfl rfl) rfl (av rfl (wn (we (wg (l':=[(2,.bool (decide (E=95)))]) ⟨rfl,trivial⟩ (wrt ?_))))));obtain rfl:=se hF;refine WEx.ret1 rfl rfl ?_;exact ⟨rfl,sk (As:=[]) S⟩
   ·
    refine wof rfl (df aa) rfl (wof rfl (df aa) rfl (won rfl (df C) (wp (G.pick_f (kb rfl (df aa)) rfl) rfl (wp (G.pick_f (kb rfl (df C)) rfl) rfl (mv rfl ?_)))));refine WOps.on rfl rfl ?_;refine mv rfl ?_;refine WOps.on rfl rfl ?_;refine wp (G.geq rfl rfl rfl) rfl ?_;refine WOps.on rfl rfl ?_;refine mv rfl ?_;rcases io hF with ⟨ae,hF⟩|⟨ae,hF⟩
    ·
     refine won rfl (dt ae) (mv rfl (won rfl (dt ae) (wp (G.leq rfl rfl rfl) rfl ?_)));refine WOps.on rfl rfl ?_;refine wp (G.pick_t (kb rfl (dt ae)) rfl) rfl (wp (G.pick_f rfl rfl) rfl (mv rfl ?_));rcases io hF with ⟨af,hF⟩|⟨af,hF⟩
     ·
      refine wof rfl (dt af) rfl (wof rfl (dt af) rfl (wp (G.pick_t (kb rfl (dt af)) rfl) rfl (av rfl (wn (we (wg (l':=[(2,.bool true)]) ⟨rfl,trivial⟩ (wrt ?_)))))));obtain rfl:=se hF;refine WEx.ret1 rfl rfl ?_;exact ⟨rfl,sk (As:=[]) S⟩
     ·
      refine won rfl (df af) (mv rfl (won rfl (df af) (wp (G.eql rfl rfl rfl) rfl (wp (G.pick_f (kb rfl (df af)) rfl) rfl (av rfl (wn (we (wg (l':=[(2,.bool (decide (E=95)))]) ⟨rfl,trivial⟩ (wrt ?_)))))))));obtain rfl:=se hF;refine WEx.ret1 rfl rfl ?_;exact ⟨rfl,sk (As:=[]) S⟩
    ·
     refine wof rfl (df ae) rfl (wof rfl (df ae) rfl ?_);refine WOps.on rfl rfl ?_;refine wp (G.pick_f (kb rfl (df ae)) rfl) rfl (wp (G.pick_f rfl rfl) rfl (mv rfl ?_));refine WOps.on rfl rfl ?_;refine mv rfl ?_;refine WOps.on rfl rfl ?_;refine wp (G.eql rfl rfl rfl) rfl (wp (G.pick_f rfl rfl) rfl (av rfl (wn (we (wg (l':=[(2,.bool (decide (E=95)))]) ⟨rfl,trivial⟩ (wrt ?_))))));obtain rfl:=se hF;refine WEx.ret1 rfl rfl ?_;exact ⟨rfl,sk (As:=[]) S⟩
 ·
  refine wof rfl (df Y) rfl (wof rfl (df Y) rfl (wp (G.pick_f (kb rfl (df Y)) rfl) rfl (mv rfl ?_)));refine WOps.on rfl rfl ?_;refine mv rfl ?_;refine WOps.on rfl rfl ?_;refine wp (G.geq rfl rfl rfl) rfl ?_;refine WOps.on rfl rfl ?_;refine mv rfl ?_;rcases io hF with ⟨ag,hF⟩|⟨ag,hF⟩
  ·
   refine won rfl (dt ag) (mv rfl (won rfl (dt ag) (wp (G.leq rfl rfl rfl) rfl ?_)));refine WOps.on rfl rfl ?_;refine wp (G.pick_t (kb rfl (dt ag)) rfl) rfl (wp (G.pick_f rfl rfl) rfl (mv rfl ?_));rcases io hF with ⟨q,hF⟩|⟨q,hF⟩
   ·
    refine wof rfl (dt q) rfl (wof rfl (dt q) rfl (wof rfl (dt q) rfl ?_));refine WOps.off rfl rfl rfl rfl ?_;refine WOps.off rfl rfl rfl rfl ?_;refine wof rfl (dt q) rfl (wp (G.pick_t (kb rfl (dt q)) rfl) rfl (mv rfl ?_));refine WOps.off rfl rfl rfl rfl ?_;refine WOps.off rfl rfl rfl rfl ?_;refine wp (G.pick_t rfl rfl) rfl (av rfl (wn (we (wg (l':=[(2,.bool true)]) ⟨rfl,trivial⟩ (wrt ?_)))));obtain rfl:=se hF;refine WEx.ret1 rfl rfl ?_;exact ⟨rfl,sk (As:=[]) S⟩
   ·
    refine won rfl (df q) (mv rfl (won rfl (df q) (wp (G.geq rfl rfl rfl) rfl (won rfl (df q) (mv rfl ?_)))));rcases io hF with ⟨J,hF⟩|⟨J,hF⟩
    ·
     refine won rfl (dt J) (mv rfl (won rfl (dt J) (wp (G.leq rfl rfl rfl) rfl (won rfl (df q) (wp (G.pick_t (kb rfl (dt J)) rfl) rfl (wp (G.pick_f (kb rfl (df q)) rfl) rfl (mv rfl ?_)))))));rcases io hF with ⟨O,hF⟩|⟨O,hF⟩
     ·
      refine wof rfl (dt O) rfl (wof rfl (dt O) rfl (wp (G.pick_t (kb rfl (dt O)) rfl) rfl (av rfl (wn (we (wg (l':=[(2,.bool true)]) ⟨rfl,trivial⟩ (wrt ?_)))))));obtain rfl:=se hF;refine WEx.ret1 rfl rfl ?_;exact ⟨rfl,sk (As:=[]) S⟩
     ·
      refine won rfl (df O) (mv rfl (won rfl (df O) (wp (G.eql rfl rfl rfl) rfl (wp (G.pick_f (kb rfl (df O)) rfl) rfl (av rfl (wn (we (wg (l':=[(2,.bool (decide (E=95)))]) ⟨rfl,trivial⟩ (wrt ?_)))))))));obtain rfl:=se hF;refine WEx.ret1 rfl rfl ?_;exact ⟨rfl,sk (As:=[]) S⟩
    ·
     refine wof rfl (df J) rfl (wof rfl (df J) rfl (won rfl (df q) (wp (G.pick_f (kb rfl (df J)) rfl) rfl (wp (G.pick_f (kb rfl (df q)) rfl) rfl (mv rfl ?_)))));refine WOps.on rfl rfl ?_;refine mv rfl ?_;refine WOps.on rfl rfl ?_;refine wp (G.eql rfl rfl rfl) rfl (wp (G.pick_f rfl rfl) rfl (av rfl (wn (we (wg (l':=[(2,.bool (decide (E=95)))]) ⟨rfl,trivial⟩ (wrt ?_))))));obtain rfl:=se hF;refine WEx.ret1 rfl rfl ?_;exact ⟨rfl,sk (As:=[]) S⟩
  ·
   refine wof rfl (df ag) rfl (wof rfl (df ag) rfl ?_);refine WOps.on rfl rfl ?_;refine wp (G.pick_f (kb rfl (df ag)) rfl) rfl (wp (G.pick_f rfl rfl) rfl (mv rfl ?_));refine WOps.on rfl rfl ?_;refine mv rfl ?_;refine WOps.on rfl rfl ?_;refine wp (G.geq rfl rfl rfl) rfl ?_;refine WOps.on rfl rfl ?_;refine mv rfl ?_;rcases io hF with ⟨V,hF⟩|⟨V,hF⟩
   ·
    refine won rfl (dt V) (mv rfl (won rfl (dt V) (wp (G.leq rfl rfl rfl) rfl ?_)));refine WOps.on rfl rfl ?_;refine wp (G.pick_t (kb rfl (dt V)) rfl) rfl (wp (G.pick_f rfl rfl) rfl (mv rfl ?_));rcases io hF with ⟨X,hF⟩|⟨X,hF⟩
    ·
     refine wof rfl (dt X) rfl (wof rfl (dt X) rfl (wp (G.pick_t (kb rfl (dt X)) rfl) rfl (av rfl (wn (we (wg (l':=[(2,.bool true)]) ⟨rfl,trivial⟩ (wrt ?_)))))));obtain rfl:=se hF;refine WEx.ret1 rfl rfl ?_;exact ⟨rfl,sk (As:=[]) S⟩
    ·
     refine won rfl (df X) (mv rfl (won rfl (df X) (wp (G.eql rfl rfl rfl) rfl (wp (G.pick_f (kb rfl (df X)) rfl) rfl (av rfl (wn (we (wg (l':=[(2,.bool (decide (E=95)))]) ⟨rfl,trivial⟩ (wrt ?_)))))))));obtain rfl:=se hF;refine WEx.ret1 rfl rfl ?_;exact ⟨rfl,sk (As:=[]) S⟩
   ·
    refine wof rfl (df V) rfl (wof rfl (df V) rfl ?_);refine WOps.on rfl rfl ?_;refine wp (G.pick_f (kb rfl (df V)) rfl) rfl (wp (G.pick_f rfl rfl) rfl (mv rfl ?_));refine WOps.on rfl rfl ?_;refine mv rfl ?_;refine WOps.on rfl rfl ?_;refine wp (G.eql rfl rfl rfl) rfl (wp (G.pick_f rfl rfl) rfl (av rfl (wn (we (wg (l':=[(2,.bool (decide (E=95)))]) ⟨rfl,trivial⟩ (wrt ?_))))));obtain rfl:=se hF;refine WEx.ret1 rfl rfl ?_;exact ⟨rfl,sk (As:=[]) S⟩
def ps_plain (k:Nat) (q:Int):Option (List (List UInt8)):=(if q=13 then (some ([[118,111,105,100]]:List (List UInt8))) else (if q=18 then (some ([[105,110,116]]:List (List UInt8))) else (if q=19 then (some ([[117,110,115,105,103,110,101,100],[105,110,116]]:List (List UInt8))) else (if q=20 then (some ([[104,121,112,101,114]]:List (List UInt8))) else (if q=21 then (some ([[117,110,115,105,103,110,101,100],[104,121,112,101,114]]:List (List UInt8))) else (if q=22 then (some ([[102,108,111,97,116]]:List (List UInt8))) else (if q=23 then (some ([[100,111,117,98,108,101]]:List (List UInt8))) else (if q=24 then (some ([[98,111,111,108]]:List (List UInt8))) else (if q=25 then (some ([[111,112,97,113,117,101]]:List (List UInt8))) else (if q=26 then (some ([[115,116,114,105,110,103]]:List (List UInt8))) else (some ([[63]]:List (List UInt8)))))))))))))
theorem ps_plain_calls (k:Nat) (ab:Int) {w:World} {r_:(List (List UInt8))} (hF:ps_plain k ab=some r_) :
    Calls TP 38 [I ab].toArray w fun e w'=>∃ az:Option Addr,∃ aA:Nat,∃ aB:Grp,e = .returned (.slice az (r_).length aA)∧SlO 9 Rp.str (.slice az (r_).length aA) (r_) aB∧St w (KS []) w' [aB]:=by
 unfold ps_plain at hF;have S:=St.ofFalse (As:=[]) (St.init0 w);refine enter 35 [(0,I ab)] Tryd.func38 rfl rfl rfl rfl ?_;refine wq (wr (av rfl (wn (we (wq (wq (wr (mv rfl (wn (we ?_))))))))));refine WCode.block ?_;refine wq (wr (wp (G.eql rfl rfl rfl) rfl (av rfl (wn (we ?_)))));rcases io hF with ⟨aD,hF⟩|⟨aD,hF⟩
 ·
  refine ct rfl (dt aD) (wq (wr ?_));obtain ⟨b2,bF,aZ,a0,bG,bH⟩:=sl S (P:=TP) (t:=70) (e:=9) (n:=1) (vs:=[(0,.string (bs [118,111,105,100]))]) (cs:=(zs [[118,111,105,100]])) (by kernel_rfl);refine wee (aZ (fc rfl fn_)) rfl ?_;refine av rfl (wn (we (wrt ?_)));refine WEx.in_ret ?_;refine wtr ?_;obtain rfl:=se hF;refine WEx.ret1 rfl rfl ?_;have aC:SlO 9 Rp.str (.slice (some ⟨b2,0,none⟩) ([[118,111,105,100]]:List (List UInt8)).length 1) ([[118,111,105,100]]:List (List UInt8)) ((B b2 (zs [[118,111,105,100]]) 9)++[]):=SlO.lit (GM:=[]) ⟨_,_,[],[],rfl,rfl,⟨rfl,rfl⟩,⟨rfl,rfl⟩⟩ rfl (nb rfl) (nb rfl);rw [List.append_nil] at aC;exact ⟨some ⟨b2,0,none⟩,1,(B b2 (zs [[118,111,105,100]]) 9),rfl,aC,sk a0⟩
 ·
  refine cf rfl (df aD) (wq (wr (wp (G.eql rfl rfl rfl) rfl (av rfl (wn (we ?_))))));rcases io hF with ⟨aE,hF⟩|⟨aE,hF⟩
  ·
   refine ct rfl (dt aE) (wq (wr ?_));obtain ⟨D,a1,aF,aG,a2,a3⟩:=sl S (P:=TP) (t:=70) (e:=9) (n:=1) (vs:=[(0,.string (bs [105,110,116]))]) (cs:=(zs [[105,110,116]])) (by kernel_rfl);refine wee (aF (fc rfl fn_)) rfl ?_;refine av rfl (wn (we (wrt ?_)));refine WEx.in_ret ?_;refine wtr ?_;obtain rfl:=se hF;refine WEx.ret1 rfl rfl ?_;have ad:SlO 9 Rp.str (.slice (some ⟨D,0,none⟩) ([[105,110,116]]:List (List UInt8)).length 1) ([[105,110,116]]:List (List UInt8)) ((B D (zs [[105,110,116]]) 9)++[]):=SlO.lit (GM:=[]) ⟨_,_,[],[],rfl,rfl,⟨rfl,rfl⟩,⟨rfl,rfl⟩⟩ rfl (nb rfl) (nb rfl);rw [List.append_nil] at ad;exact ⟨some ⟨D,0,none⟩,1,(B D (zs [[105,110,116]]) 9),rfl,ad,sk aG⟩
  ·
   refine cf rfl (df aE) (wq (wr (wp (G.eql rfl rfl rfl) rfl (av rfl (wn (we ?_))))));rcases io hF with ⟨ae,hF⟩|⟨ae,hF⟩
   ·
    refine ct rfl (dt ae) (wq (wr ?_));obtain ⟨E,a4,aH,aI,a5,a6⟩:=sl S (P:=TP) (t:=70) (e:=9) (n:=2) (vs:=[(0,.string (bs [117,110,115,105,103,110,101,100])),(1,.string (bs [105,110,116]))]) (cs:=(zs [[117,110,115,105,103,110,101,100],[105,110,116]])) (by kernel_rfl);refine wee (aH (fc rfl (fc rfl fn_))) rfl ?_;refine av rfl (wn (we (wrt ?_)));refine WEx.in_ret ?_;refine wtr ?_;obtain rfl:=se hF;refine WEx.ret1 rfl rfl ?_;have af:SlO 9 Rp.str (.slice (some ⟨E,0,none⟩) ([[117,110,115,105,103,110,101,100],[105,110,116]]:List (List UInt8)).length 2) ([[117,110,115,105,103,110,101,100],[105,110,116]]:List (List UInt8)) ((B E (zs [[117,110,115,105,103,110,101,100],[105,110,116]]) 9)++[]):=SlO.lit (GM:=[]) ⟨_,_,[],[],rfl,rfl,⟨rfl,rfl⟩,⟨_,_,[],[],rfl,rfl,⟨rfl,rfl⟩,⟨rfl,rfl⟩⟩⟩ rfl (nb rfl) (nb rfl);rw [List.append_nil] at af;exact ⟨some ⟨E,0,none⟩,2,(B E (zs [[117,110,115,105,103,110,101,100],[105,110,116]]) 9),rfl,af,sk aI⟩
   ·
    refine cf rfl (df ae) (wq (wr (wp (G.eql rfl rfl rfl) rfl (av rfl (wn (we ?_))))));rcases io hF with ⟨ag,hF⟩|⟨ag,hF⟩
    ·
     refine ct rfl (dt ag) (wq (wr ?_));obtain ⟨q,a7,aJ,aK,a8,a9⟩:=sl S (P:=TP) (t:=70) (e:=9) (n:=1) (vs:=[(0,.string (bs [104,121,112,101,114]))]) (cs:=(zs [[104,121,112,101,114]])) (by kernel_rfl);refine wee (aJ (fc rfl fn_)) rfl ?_;refine av rfl (wn (we (wg (l':=[(2,.slice (some ⟨q,0,none⟩) ([[104,121,112,101,114]]:List (List UInt8)).length 1)]) ⟨rfl,trivial⟩ (wrt ?_))));refine WEx.in_ret ?_;refine wtr ?_;obtain rfl:=se hF;refine WEx.ret1 rfl rfl ?_;have ah:SlO 9 Rp.str (.slice (some ⟨q,0,none⟩) ([[104,121,112,101,114]]:List (List UInt8)).length 1) ([[104,121,112,101,114]]:List (List UInt8)) ((B q (zs [[104,121,112,101,114]]) 9)++[]):=SlO.lit (GM:=[]) ⟨_,_,[],[],rfl,rfl,⟨rfl,rfl⟩,⟨rfl,rfl⟩⟩ rfl (nb rfl) (nb rfl);rw [List.append_nil] at ah;exact ⟨some ⟨q,0,none⟩,1,(B q (zs [[104,121,112,101,114]]) 9),rfl,ah,sk aK⟩
    ·
     refine cf rfl (df ag) (wq (wr (wp (G.eql rfl rfl rfl) rfl (av rfl (wn (we (wg (l':=[(3,I ab),(16,.bool (decide (ab=21)))]) ⟨rfl,rfl,trivial⟩ ?_)))))));rcases io hF with ⟨ai,hF⟩|⟨ai,hF⟩
     ·
      refine ct rfl (dt ai) (wq (wr ?_));obtain ⟨J,aw,aL,aM,a',ba⟩:=sl S (P:=TP) (t:=70) (e:=9) (n:=2) (vs:=[(0,.string (bs [117,110,115,105,103,110,101,100])),(1,.string (bs [104,121,112,101,114]))]) (cs:=(zs [[117,110,115,105,103,110,101,100],[104,121,112,101,114]])) (by kernel_rfl);refine wee (aL (fc rfl (fc rfl fn_))) rfl ?_;refine av rfl (wn (we (wrt ?_)));refine WEx.in_ret ?_;refine wtr ?_;obtain rfl:=se hF;refine WEx.ret1 rfl rfl ?_;have aj:SlO 9 Rp.str (.slice (some ⟨J,0,none⟩) ([[117,110,115,105,103,110,101,100],[104,121,112,101,114]]:List (List UInt8)).length 2) ([[117,110,115,105,103,110,101,100],[104,121,112,101,114]]:List (List UInt8)) ((B J (zs [[117,110,115,105,103,110,101,100],[104,121,112,101,114]]) 9)++[]):=SlO.lit (GM:=[]) ⟨_,_,[],[],rfl,rfl,⟨rfl,rfl⟩,⟨_,_,[],[],rfl,rfl,⟨rfl,rfl⟩,⟨rfl,rfl⟩⟩⟩ rfl (nb rfl) (nb rfl);rw [List.append_nil] at aj;exact ⟨some ⟨J,0,none⟩,2,(B J (zs [[117,110,115,105,103,110,101,100],[104,121,112,101,114]]) 9),rfl,aj,sk aM⟩
     ·
      refine cf rfl (df ai) (wq (wr (wp (G.eql rfl rfl rfl) rfl (av rfl (wn (we ?_))))));rcases io hF with ⟨ak,hF⟩|⟨ak,hF⟩
      ·
       refine ct rfl (dt ak) (wq (wr ?_));obtain ⟨O,bc,aN,aO,bd,be⟩:=sl S (P:=TP) (t:=70) (e:=9) (n:=1) (vs:=[(0,.string (bs [102,108,111,97,116]))]) (cs:=(zs [[102,108,111,97,116]])) (by kernel_rfl);refine wee (aN (fc rfl fn_)) rfl ?_;refine av rfl (wn (we (wrt ?_)));refine WEx.in_ret ?_;refine wtr ?_;obtain rfl:=se hF;refine WEx.ret1 rfl rfl ?_;have al:SlO 9 Rp.str (.slice (some ⟨O,0,none⟩) ([[102,108,111,97,116]]:List (List UInt8)).length 1) ([[102,108,111,97,116]]:List (List UInt8)) ((B O (zs [[102,108,111,97,116]]) 9)++[]):=SlO.lit (GM:=[]) ⟨_,_,[],[],rfl,rfl,⟨rfl,rfl⟩,⟨rfl,rfl⟩⟩ rfl (nb rfl) (nb rfl);rw [List.append_nil] at al;exact ⟨some ⟨O,0,none⟩,1,(B O (zs [[102,108,111,97,116]]) 9),rfl,al,sk aO⟩
      ·
       refine cf rfl (df ak) (wq (wr (wp (G.eql rfl rfl rfl) rfl (av rfl (wn (we ?_))))));rcases io hF with ⟨am,hF⟩|⟨am,hF⟩
       ·
        refine ct rfl (dt am) (wq (wr ?_));obtain ⟨V,bg,aP,aQ,bh,bj⟩:=sl S (P:=TP) (t:=70) (e:=9) (n:=1) (vs:=[(0,.string (bs [100,111,117,98,108,101]))]) (cs:=(zs [[100,111,117,98,108,101]])) (by kernel_rfl);refine wee (aP (fc rfl fn_)) rfl ?_;refine av rfl (wn (we (wrt ?_)));refine WEx.in_ret ?_;refine wtr ?_;obtain rfl:=se hF;refine WEx.ret1 rfl rfl ?_;have an:SlO 9 Rp.str (.slice (some ⟨V,0,none⟩) ([[100,111,117,98,108,101]]:List (List UInt8)).length 1) ([[100,111,117,98,108,101]]:List (List UInt8)) ((B V (zs [[100,111,117,98,108,101]]) 9)++[]):=SlO.lit (GM:=[]) ⟨_,_,[],[],rfl,rfl,⟨rfl,rfl⟩,⟨rfl,rfl⟩⟩ rfl (nb rfl) (nb rfl);rw [List.append_nil] at an;exact ⟨some ⟨V,0,none⟩,1,(B V (zs [[100,111,117,98,108,101]]) 9),rfl,an,sk aQ⟩
       ·
        refine cf rfl (df am) (wq (wr (wp (G.eql rfl rfl rfl) rfl (av rfl (wn (we ?_))))));rcases io hF with ⟨ao,hF⟩|⟨ao,hF⟩
        ·
         refine ct rfl (dt ao) (wq (wr ?_));obtain ⟨X,bn,aR,aS,bp,br⟩:=sl S (P:=TP) (t:=70) (e:=9) (n:=1) (vs:=[(0,.string (bs [98,111,111,108]))]) (cs:=(zs [[98,111,111,108]])) (by kernel_rfl);refine wee (aR (fc rfl fn_)) rfl ?_;refine av rfl (wn (we (wrt ?_)));refine WEx.in_ret ?_;refine wtr ?_;obtain rfl:=se hF;refine WEx.ret1 rfl rfl ?_;have ap:SlO 9 Rp.str (.slice (some ⟨X,0,none⟩) ([[98,111,111,108]]:List (List UInt8)).length 1) ([[98,111,111,108]]:List (List UInt8)) ((B X (zs [[98,111,111,108]]) 9)++[]):=SlO.lit (GM:=[]) ⟨_,_,[],[],rfl,rfl,⟨rfl,rfl⟩,⟨rfl,rfl⟩⟩ rfl (nb rfl) (nb rfl);rw [List.append_nil] at ap;exact ⟨some ⟨X,0,none⟩,1,(B X (zs [[98,111,111,108]]) 9),rfl,ap,sk aS⟩
        ·
         refine cf rfl (df ao) (wq (wr (wp (G.eql rfl rfl rfl) rfl (av rfl (wn (we ?_))))));rcases io hF with ⟨aq,hF⟩|⟨aq,hF⟩
         ·
          refine ct rfl (dt aq) (wq (wr ?_));obtain ⟨C,bu,aT,aU,bv,bx⟩:=sl S (P:=TP) (t:=70) (e:=9) (n:=1) (vs:=[(0,.string (bs [111,112,97,113,117,101]))]) (cs:=(zs [[111,112,97,113,117,101]])) (by kernel_rfl);refine wee (aT (fc rfl fn_)) rfl ?_;refine av rfl (wn (we (wg (l':=[(2,.slice (some ⟨C,0,none⟩) ([[111,112,97,113,117,101]]:List (List UInt8)).length 1)]) ⟨rfl,trivial⟩ (wrt ?_))));refine WEx.in_ret ?_;refine wtr ?_;obtain rfl:=se hF;refine WEx.ret1 rfl rfl ?_;have ar:SlO 9 Rp.str (.slice (some ⟨C,0,none⟩) ([[111,112,97,113,117,101]]:List (List UInt8)).length 1) ([[111,112,97,113,117,101]]:List (List UInt8)) ((B C (zs [[111,112,97,113,117,101]]) 9)++[]):=SlO.lit (GM:=[]) ⟨_,_,[],[],rfl,rfl,⟨rfl,rfl⟩,⟨rfl,rfl⟩⟩ rfl (nb rfl) (nb rfl);rw [List.append_nil] at ar;exact ⟨some ⟨C,0,none⟩,1,(B C (zs [[111,112,97,113,117,101]]) 9),rfl,ar,sk aU⟩
         ·
          refine cf rfl (df aq) (wq (wr (wp (G.eql rfl rfl rfl) rfl (av rfl (wn (we (wg (l':=[(31,.bool (decide (ab=26)))]) ⟨rfl,trivial⟩ ?_)))))));rcases io hF with ⟨au,hF⟩|⟨au,hF⟩
          ·
           refine ct rfl (dt au) (wq (wr ?_));obtain ⟨Y,bz,aV,aW,bA,bB⟩:=sl S (P:=TP) (t:=70) (e:=9) (n:=1) (vs:=[(0,.string (bs [115,116,114,105,110,103]))]) (cs:=(zs [[115,116,114,105,110,103]])) (by kernel_rfl);refine wee (aV (fc rfl fn_)) rfl ?_;refine av rfl (wn (we (wrt ?_)));refine WEx.in_ret ?_;refine wtr ?_;obtain rfl:=se hF;refine WEx.ret1 rfl rfl ?_;have ax:SlO 9 Rp.str (.slice (some ⟨Y,0,none⟩) ([[115,116,114,105,110,103]]:List (List UInt8)).length 1) ([[115,116,114,105,110,103]]:List (List UInt8)) ((B Y (zs [[115,116,114,105,110,103]]) 9)++[]):=SlO.lit (GM:=[]) ⟨_,_,[],[],rfl,rfl,⟨rfl,rfl⟩,⟨rfl,rfl⟩⟩ rfl (nb rfl) (nb rfl);rw [List.append_nil] at ax;exact ⟨some ⟨Y,0,none⟩,1,(B Y (zs [[115,116,114,105,110,103]]) 9),rfl,ax,sk aW⟩
          ·
           refine cf rfl (df au) (wsk (win (we (wq (wr ?_)))));obtain ⟨aa,bC,aX,aY,bD,bE⟩:=sl S (P:=TP) (t:=70) (e:=9) (n:=1) (vs:=[(0,.string (bs [63]))]) (cs:=(zs [[63]])) (by kernel_rfl);refine wee (aX (fc rfl fn_)) rfl ?_;refine av rfl (wn (we (wrt ?_)));obtain rfl:=se hF;refine WEx.ret1 rfl rfl ?_;have ay:SlO 9 Rp.str (.slice (some ⟨aa,0,none⟩) ([[63]]:List (List UInt8)).length 1) ([[63]]:List (List UInt8)) ((B aa (zs [[63]]) 9)++[]):=SlO.lit (GM:=[]) ⟨_,_,[],[],rfl,rfl,⟨rfl,rfl⟩,⟨rfl,rfl⟩⟩ rfl (nb rfl) (nb rfl);rw [List.append_nil] at ay;exact ⟨some ⟨aa,0,none⟩,1,(B aa (zs [[63]]) 9),rfl,ay,sk aY⟩
end Go.Proofs.YtnhifhlbelogcaaDoor
