/- Functions and their walks (printed by auto.py over the engine). -/
import Derived.Test.YtnhifhlbelogcaaDoorYAb
import Derived.Test.YtnhifhlbelogcaaDoorProg
import Derived.Test.YtnhifhlbelogcaaDoorYLA
set_option maxRecDepth 100000
set_option maxHeartbeats 1000000
namespace Go.Proofs.YtnhifhlbelogcaaDoor
open Go Go.Eng
set_option linter.unusedSimpArgs false
set_option linter.unusedVariables false
theorem T.call17:Callable TP 17:=cm Tryd.func17
theorem T.call31:Callable TP 31:=cm Tryd.func31
theorem T.call32:Callable TP 32:=cm Tryd.func32
theorem T.call33:Callable TP 33:=cm Tryd.func33
theorem T.call34:Callable TP 34:=cm Tryd.func34
theorem T.call35:Callable TP 35:=cm Tryd.func35
theorem T.call48:Callable TP 48:=cm Tryd.func48
theorem T.call49:Callable TP 49:=cm Tryd.func49
theorem T.call52:Callable TP 52:=cm Tryd.func52
theorem T.call55:Callable TP 55:=cm Tryd.func55
theorem T.call56:Callable TP 56:=cm Tryd.func56
theorem T.call57:Callable TP 57:=cm Tryd.func57
theorem T.call70:Callable TP 70:=cm Tryd.func70
theorem T.call77:Callable TP 77:=cm Tryd.func77
theorem T.el43:slEl TP 43=some 1:=by kernel_rfl
theorem T.elt35:Elt TP 35 39 4 40:=elt_mk (z:=.agg #[I 0,.string ⟨#[]⟩,I 0,I 0]) Tryd.underlying35 (by kernel_rfl) rfl
theorem T.one5:isOneT TP 5=true:=by kernel_rfl
def st_HasPrefix (k:Nat) (C:List UInt8) (q:List UInt8):Option Bool:=(if (q.length:Int)≤(C.length:Int) then ((cut C 0 (q.length:Int)).bind fun D=>some (decide (D=q))) else some false)
theorem st_HasPrefix_calls (k:Nat) (D:List UInt8) (C:List UInt8) {w:World} {r_:Bool} (hF:st_HasPrefix k D C=some r_) :
    Calls TP 70 [.string (bs D),.string (bs C)].toArray w fun e w'=>e = .returned (.bool r_)∧St w (KS []) w' []:=by
 unfold st_HasPrefix at hF;have S:=St.ofFalse (As:=[]) (St.init0 w);refine enter 18 [(0,.string (bs D)),(1,.string (bs C))] Tryd.func70 rfl rfl rfl rfl ?_;refine wq (wr (av rfl (wn (we (wq (wr (mv rfl (wp (G.lenb T.str9 rfl) rfl (mv rfl (wp (G.lenb T.str9 rfl) rfl (wp (G.geq rfl rfl rfl) rfl (mv rfl ?_))))))))))));rcases io hF with ⟨q,hF⟩|⟨q,hF⟩
 ·
  refine won rfl (dt q) (mv rfl (won rfl (dt q) (mv rfl (won rfl (dt q) (wp (G.lenb T.str9 rfl) rfl (won rfl (dt q) ?_))))));obtain ⟨J,E,hF⟩:=bo hF;refine wp (G.cutb_h T.str9 rfl rfl E) rfl (won rfl (dt q) (mv rfl (won rfl (dt q) (wp (G.eqlb' rfl rfl rfl) rfl (wp (G.pick_t (kb rfl (dt q)) rfl) rfl (av rfl (wn (we (wg (l':=[(4,.bool (decide (J=C)))]) ⟨rfl,trivial⟩ (wrt ?_))))))))));obtain rfl:=se hF;refine WEx.ret1 rfl rfl ?_;exact ⟨rfl,sk (As:=[]) S⟩
 ·
  refine wof rfl (df q) rfl (wof rfl (df q) rfl (wof rfl (df q) rfl (wof rfl (df q) rfl (wof rfl (df q) rfl (wof rfl (df q) rfl (wp (G.pick_f (kb rfl (df q)) rfl) rfl (av rfl (wn (we (wg (l':=[(4,.bool false)]) ⟨rfl,trivial⟩ (wrt ?_)))))))))));obtain rfl:=se hF;refine WEx.ret1 rfl rfl ?_;exact ⟨rfl,sk (As:=[]) S⟩
def HasPrefix (k:Nat) (q:List UInt8) (C:List UInt8):Option Bool:=((st_HasPrefix k q C).bind fun D=>some D)
theorem HasPrefix_calls (k:Nat) (q:List UInt8) (C:List UInt8) {w:World} {r_:Bool} (hF:HasPrefix k q C=some r_) :
    Calls TP 49 [.string (bs q),.string (bs C)].toArray w fun e w'=>e = .returned (.bool r_)∧St w (KS []) w' []:=by
 unfold HasPrefix at hF;have S:=St.ofFalse (As:=[]) (St.init0 w);refine enter 8 [(0,.string (bs q)),(1,.string (bs C))] Tryd.func49 rfl rfl rfl rfl ?_;refine wq (wr (av rfl (wn (we (wq (wr (mv rfl (mv rfl ?_))))))));obtain ⟨O,D,hF⟩:=bo hF;refine wc T.call70 (ec rfl (ec rfl en)) rfl ?_;refine (st_HasPrefix_calls k q C D).mono ?_;rintro _ V ⟨rfl,E⟩;have J:=sc (As:=[]) S E;refine ⟨_,rfl,?_⟩;refine av rfl (wn (we (wrt ?_)));obtain rfl:=se hF;refine WEx.ret1 rfl rfl ?_;exact ⟨rfl,sk J⟩
def st_CutPrefix (k:Nat) (q:List UInt8) (C:List UInt8):Option ((List UInt8)×Bool):=((st_HasPrefix k q C).bind fun D=>if D=true then ((cut q (C.length:Int) (q.length:Int)).bind fun E=>some (E,true)) else some (q,false))
theorem st_CutPrefix_calls (k:Nat) (q:List UInt8) (C:List UInt8) {w:World} {r_:(List UInt8)×Bool} (hF:st_CutPrefix k q C=some r_) :
    Calls TP 77 [.string (bs q),.string (bs C)].toArray w fun e w'=>e = .returned (.tuple #[.string (bs r_.1),.bool r_.2])∧St w (KS []) w' []:=by
 unfold st_CutPrefix at hF;have S:=St.ofFalse (As:=[]) (St.init0 w);refine enter 15 [(0,.string (bs q)),(1,.string (bs C))] Tryd.func77 rfl rfl rfl rfl ?_;refine wq (wr (av rfl (av rfl (wn (we (wq (wq (wr (mv rfl (mv rfl ?_))))))))));obtain ⟨Y,E,hF⟩:=bo hF;refine wc T.call70 (ec rfl (ec rfl en)) rfl ?_;refine (st_HasPrefix_calls k q C E).mono ?_;rintro _ aa ⟨rfl,V⟩;have J:=sc (As:=[]) S V;refine ⟨_,rfl,?_⟩;refine wp (G.not rfl rfl) rfl (wn (we ?_));rcases io hF with ⟨D,hF⟩|⟨D,hF⟩
 ·
  refine cf rfl (nf D) (wsk (we (wq (wr (mv rfl (mv rfl (wp (G.lenb T.str9 rfl) rfl ?_)))))));obtain ⟨X,O,hF⟩:=bo hF;refine wp (G.cutb_l T.str9 rfl rfl O) rfl (av rfl (av rfl (wn (we (wg (l':=[(4,.string (bs X)),(5,.bool true)]) ⟨rfl,rfl,trivial⟩ (wrt ?_))))));obtain rfl:=se hF;refine WEx.ret2 rfl rfl rfl ?_;exact ⟨rfl,sk J⟩
 ·
  refine ct rfl (nt (bf D)) (wq (wr (mv rfl (av rfl (av rfl (wn (we (wrt (wtr ?_)))))))));obtain rfl:=se hF;refine WEx.ret2 rfl rfl rfl ?_;exact ⟨rfl,sk J⟩
def CutPrefix (k:Nat) (C:List UInt8) (D:List UInt8):Option ((List UInt8)×Bool):=((st_CutPrefix k C D).bind fun q=>some (q.1,q.2))
theorem CutPrefix_calls (k:Nat) (q:List UInt8) (C:List UInt8) {w:World} {r_:(List UInt8)×Bool} (hF:CutPrefix k q C=some r_) :
    Calls TP 56 [.string (bs q),.string (bs C)].toArray w fun e w'=>e = .returned (.tuple #[.string (bs r_.1),.bool r_.2])∧St w (KS []) w' []:=by
 unfold CutPrefix at hF;have S:=St.ofFalse (As:=[]) (St.init0 w);refine enter 11 [(0,.string (bs q)),(1,.string (bs C))] Tryd.func56 rfl rfl rfl rfl ?_;refine wq (wr (av rfl (av rfl (wn (we (wq (wr (mv rfl (mv rfl ?_)))))))));obtain ⟨O,D,hF⟩:=bo hF;refine wc T.call77 (ec rfl (ec rfl en)) rfl ?_;refine (st_CutPrefix_calls k q C D).mono ?_;rintro _ V ⟨rfl,E⟩;have J:=sc (As:=[]) S E;refine ⟨_,rfl,?_⟩;refine wp (G.extract rfl rfl) rfl (wp (G.extract rfl rfl) rfl (av rfl (av rfl (wn (we (wrt ?_))))));obtain rfl:=se hF;refine WEx.ret2 rfl rfl rfl ?_;exact ⟨rfl,sk J⟩
def lx_begins (k:Nat) (q:List UInt8):Option Int:=((idx q 0).bind fun c1=>(lx_isBlank k ((c1).toNat:Int)).bind fun Y=>if Y=true then (some 1) else (HasPrefix k q [47,42]).bind fun aa=>if aa=true then (some 2) else (lx_letter k ((c1).toNat:Int)).bind fun C=>if C=true then (some 3) else (lx_digit k ((c1).toNat:Int)).bind fun D=>if D=true then (some 4) else if ((c1).toNat:Int)=45 then (if 1 < (q.length:Int) then ((idx q 1).bind fun E=>(lx_digit k ((E).toNat:Int)).bind fun J=>if J=true then (some 4) else (gv_IndexByte k [123,125,40,41,91,93,60,62,61,59,58,44,42] ((c1).toNat:Int)).bind fun O=>if 0≤O then (some 5) else some 0) else (gv_IndexByte k [123,125,40,41,91,93,60,62,61,59,58,44,42] ((c1).toNat:Int)).bind fun V=>if 0≤V then (some 5) else some 0) else (gv_IndexByte k [123,125,40,41,91,93,60,62,61,59,58,44,42] ((c1).toNat:Int)).bind fun X=>if 0≤X then (some 5) else some 0)
theorem lx_begins_calls (k:Nat) (J:List UInt8) {w:World} {r_:Int} (hF:lx_begins k J=some r_) :
    Calls TP 31 [.string (bs J)].toArray w fun e w'=>e = .returned (I r_)∧St w (KS []) w' []:=by
 unfold lx_begins at hF;have S:=St.ofFalse (As:=[]) (St.init0 w);refine enter 34 [(0,.string (bs J))] Tryd.func31 rfl rfl rfl rfl ?_;refine wq (wr (av rfl (wn (we (wq (wr (mv rfl ?_)))))));obtain ⟨c1,au,hF⟩:=bo hF;refine wp (G.idxb T.str9 rfl rfl au) rfl (av rfl (wn (we (wq ?_))));refine WCode.block ?_;refine wq (wr (mv rfl ?_));obtain ⟨aV,ax,hF⟩:=bo hF;refine wc T.call48 (ec rfl en) rfl ?_;refine (lx_isBlank_calls k ((c1).toNat:Int) ax).mono ?_;rintro _ aW ⟨rfl,aJ⟩;have ay:=sc (As:=[]) S aJ;refine ⟨_,rfl,?_⟩;refine av rfl (wn (we ?_));rcases io hF with ⟨aj,hF⟩|⟨aj,hF⟩
 ·
  refine ct rfl aj (wq (wr (av rfl (wn (we (wrt ?_))))));refine WEx.in_ret ?_;refine wtr ?_;obtain rfl:=se hF;refine WEx.ret1 rfl rfl ?_;exact ⟨rfl,sk ay⟩
 ·
  refine cf rfl (bf aj) (wq (wr (mv rfl ?_)));obtain ⟨aX,ak,hF⟩:=bo hF;refine wc T.call49 (ec rfl (ec rfl en)) rfl ?_;refine (HasPrefix_calls k J [47,42] ak).mono ?_;rintro _ aK ⟨rfl,az⟩;have ad:=scT az ay;refine ⟨_,rfl,?_⟩;refine av rfl (wn (we ?_));rcases io hF with ⟨O,hF⟩|⟨O,hF⟩
  ·
   refine ct rfl O (wq (wr (av rfl (wn (we (wg (l':=[(2,I 2)]) ⟨rfl,trivial⟩ (wrt ?_)))))));refine WEx.in_ret ?_;refine wtr ?_;obtain rfl:=se hF;refine WEx.ret1 rfl rfl ?_;exact ⟨rfl,sk ad⟩
  ·
   refine cf rfl (bf O) (wq (wr (mv rfl ?_)));obtain ⟨aA,al,hF⟩:=bo hF;refine wc T.call50 (ec rfl en) rfl ?_;refine (lx_letter_calls k ((c1).toNat:Int) al).mono ?_;rintro _ aL ⟨rfl,aB⟩;have ae:=scT aB ad;refine ⟨_,rfl,?_⟩;refine av rfl (wn (we (wg (l':=[(0,.string (bs J)),(3,.int .u8 ((c1).toNat:Int)),(12,.bool aA)]) ⟨rfl,rfl,rfl,trivial⟩ ?_)));rcases io hF with ⟨V,hF⟩|⟨V,hF⟩
   ·
    refine ct rfl V (wq (wr (av rfl (wn (we (wrt ?_))))));refine WEx.in_ret ?_;refine wtr ?_;obtain rfl:=se hF;refine WEx.ret1 rfl rfl ?_;exact ⟨rfl,sk ae⟩
   ·
    refine cf rfl (bf V) (wq (wq (wr (mv rfl ?_))));obtain ⟨aM,am,hF⟩:=bo hF;refine wc T.call51 (ec rfl en) rfl ?_;refine (lx_digit_calls k ((c1).toNat:Int) am).mono ?_;rintro _ aN ⟨rfl,aC⟩;have D:=scT aC ae;refine ⟨_,rfl,?_⟩;refine av rfl (wn (we ?_));rcases io hF with ⟨E,hF⟩|⟨E,hF⟩
    ·
     refine ct rfl E (wsk (we (ct rfl E (wq (wr (av rfl (wn (we (wrt ?_)))))))));refine WEx.in_ret ?_;refine wtr ?_;obtain rfl:=se hF;refine WEx.ret1 rfl rfl ?_;exact ⟨rfl,sk D⟩
    ·
     refine cf rfl (bf E) (wr (mv rfl (wp (G.eql rfl rfl rfl) rfl (mv rfl ?_))));rcases io hF with ⟨q,hF⟩|⟨q,hF⟩
     ·
      refine won rfl (dt q) (mv rfl (won rfl (dt q) (wp (G.lenb T.str9 rfl) rfl (won rfl (dt q) (wp (G.gtr rfl rfl rfl) rfl (wp (G.pick_t (kb rfl (dt q)) rfl) rfl (mv rfl ?_)))))));rcases io hF with ⟨C,hF⟩|⟨C,hF⟩
      ·
       refine won rfl (dt C) (mv rfl (won rfl (dt C) ?_));obtain ⟨aD,an,hF⟩:=bo hF;refine wp (G.idxb T.str9 rfl rfl an) rfl (won rfl (dt C) ?_);obtain ⟨aE,ao,hF⟩:=bo hF;refine wc T.call51 (ec rfl en) rfl ?_;refine (lx_digit_calls k ((aD).toNat:Int) ao).mono ?_;rintro _ aO ⟨rfl,aF⟩;have af:=scT aF D;refine ⟨_,rfl,?_⟩;refine wp (G.pick_t (kb rfl (dt C)) rfl) rfl (av rfl (wn (we (wg (l':=[(3,.int .u8 ((c1).toNat:Int)),(15,.bool aE)]) ⟨rfl,rfl,trivial⟩ ?_))));rcases io hF with ⟨X,hF⟩|⟨X,hF⟩
       ·
        refine ct rfl X (wq (wr (av rfl (wn (we (wrt ?_))))));refine WEx.in_ret ?_;refine wtr ?_;obtain rfl:=se hF;refine WEx.ret1 rfl rfl ?_;exact ⟨rfl,sk af⟩
       ·
        refine cf rfl (bf X) (wq (wr (mv rfl ?_)));obtain ⟨aP,ap,hF⟩:=bo hF;refine wc T.call52 (ec rfl (ec rfl en)) rfl ?_;refine (gv_IndexByte_calls k [123,125,40,41,91,93,60,62,61,59,58,44,42] ((c1).toNat:Int) ap).mono ?_;rintro _ aQ ⟨rfl,aG⟩;have ag:=scT aG af;refine ⟨_,rfl,?_⟩;refine wp (G.geq rfl rfl rfl) rfl (av rfl (wn (we ?_)));rcases io hF with ⟨Y,hF⟩|⟨Y,hF⟩
        ·
         refine ct rfl (dt Y) (wq (wr (av rfl (wn (we (wrt ?_))))));refine WEx.in_ret ?_;refine wtr ?_;obtain rfl:=se hF;refine WEx.ret1 rfl rfl ?_;exact ⟨rfl,sk ag⟩
        ·
         refine cf rfl (df Y) (wsk (win (we (wq (wr (av rfl (wn (we (wrt ?_)))))))));obtain rfl:=se hF;refine WEx.ret1 rfl rfl ?_;exact ⟨rfl,sk ag⟩
      ·
       refine wof rfl (df C) rfl (wof rfl (df C) rfl (wof rfl (df C) rfl (wp (G.pick_f (kb rfl (df C)) rfl) rfl (av rfl (wn (we (wg (l':=[(3,.int .u8 ((c1).toNat:Int)),(15,.bool false)]) ⟨rfl,rfl,trivial⟩ ?_)))))));refine WCode.cond_f rfl ?_;refine wq (wr (mv rfl ?_));obtain ⟨aR,aq,hF⟩:=bo hF;refine wc T.call52 (ec rfl (ec rfl en)) rfl ?_;refine (gv_IndexByte_calls k [123,125,40,41,91,93,60,62,61,59,58,44,42] ((c1).toNat:Int) aq).mono ?_;rintro _ aS ⟨rfl,aH⟩;have ah:=scT aH D;refine ⟨_,rfl,?_⟩;refine wp (G.geq rfl rfl rfl) rfl (av rfl (wn (we ?_)));rcases io hF with ⟨aa,hF⟩|⟨aa,hF⟩
       ·
        refine ct rfl (dt aa) (wq (wr (av rfl (wn (we (wrt ?_))))));refine WEx.in_ret ?_;refine wtr ?_;obtain rfl:=se hF;refine WEx.ret1 rfl rfl ?_;exact ⟨rfl,sk ah⟩
       ·
        refine cf rfl (df aa) (wsk (win (we (wq (wr (av rfl (wn (we (wrt ?_)))))))));obtain rfl:=se hF;refine WEx.ret1 rfl rfl ?_;exact ⟨rfl,sk ah⟩
     ·
      refine wof rfl (df q) rfl (wof rfl (df q) rfl (wof rfl (df q) rfl (wp (G.pick_f (kb rfl (df q)) rfl) rfl (mv rfl ?_))));refine WOps.off rfl rfl rfl rfl ?_;refine WOps.off rfl rfl rfl rfl ?_;refine WOps.off rfl rfl rfl rfl ?_;refine wp (G.pick_f rfl rfl) rfl (av rfl (wn (we (wg (l':=[(3,.int .u8 ((c1).toNat:Int)),(15,.bool false)]) ⟨rfl,rfl,trivial⟩ ?_))));refine WCode.cond_f rfl ?_;refine wq (wr (mv rfl ?_));obtain ⟨aT,ar,hF⟩:=bo hF;refine wc T.call52 (ec rfl (ec rfl en)) rfl ?_;refine (gv_IndexByte_calls k [123,125,40,41,91,93,60,62,61,59,58,44,42] ((c1).toNat:Int) ar).mono ?_;rintro _ aU ⟨rfl,aI⟩;have ai:=scT aI D;refine ⟨_,rfl,?_⟩;refine wp (G.geq rfl rfl rfl) rfl (av rfl (wn (we ?_)));rcases io hF with ⟨ab,hF⟩|⟨ab,hF⟩
      ·
       refine ct rfl (dt ab) (wq (wr (av rfl (wn (we (wrt ?_))))));refine WEx.in_ret ?_;refine wtr ?_;obtain rfl:=se hF;refine WEx.ret1 rfl rfl ?_;exact ⟨rfl,sk ai⟩
      ·
       refine cf rfl (df ab) (wsk (win (we (wq (wr (av rfl (wn (we (wrt ?_)))))))));obtain rfl:=se hF;refine WEx.ret1 rfl rfl ?_;exact ⟨rfl,sk ai⟩
mutual
def lx_digits.j1:Nat→List UInt8→Int→Int→Int→Int→Option (Int×Bool)
  | 0,_,_,_,_,_=>none
  | Y+1,J,E,q,C,X=>(if E≤X then (some (0,false)) else (if 4294967295 < (w64 ((w64 (q * E))+X)) then (some (0,false)) else (lx_digits.l1 Y J E (w64 ((w64 (q * E))+X)) (w64 (C+1)))))
def lx_digits.j2:Nat→List UInt8→Int→Int→Int→UInt8→Bool→Option (Int×Bool)
  | 0,_,_,_,_,_,_=>none
  | O+1,J,E,q,C,D,aa=>(if aa=true then (lx_digits.j1 O J E q C (w64 ((w64 (IntKind.u8.wrap (((D).toNat:Int) - 97)))+10))) else (if 65≤((D).toNat:Int) then (if ((D).toNat:Int)≤70 then (lx_digits.j1 O J E q C (w64 ((w64 (IntKind.u8.wrap (((D).toNat:Int) - 65)))+10))) else (lx_digits.j1 O J E q C E)) else (lx_digits.j1 O J E q C E)))
def lx_digits.l1:Nat→List UInt8→Int→Int→Int→Option (Int×Bool)
  | 0,_,_,_,_=>none
  | V+1,J,E,q,C=>if C < (J.length:Int) then ((idx J C).bind fun D=>(lx_digit V ((D).toNat:Int)).bind fun ab=>if ab=true then (lx_digits.j1 V J E q C (w64 (IntKind.u8.wrap (((D).toNat:Int) - 48)))) else if 97≤((D).toNat:Int) then (lx_digits.j2 V J E q C D (decide (((D).toNat:Int)≤102))) else lx_digits.j2 V J E q C D false) else some (q,!(decide (J=[])))
end
def lx_digits (k:Nat) (q:List UInt8) (C:Int):Option (Int×Bool):=(if q.length≤68719476736 then (lx_digits.l1 k q C 0 0) else none)
theorem lx_digits_calls (k:Nat) (C:List UInt8) (E:Int) {w:World} {r_:Int×Bool} (hF:lx_digits k C E=some r_) :
    Calls TP 57 [.string (bs C),I E].toArray w fun e w'=>e = .returned (.tuple #[I r_.1,.bool r_.2])∧St w (KS []) w' []:=by
 unfold lx_digits at hF;have S:=St.ofFalse (As:=[]) (St.init0 w);refine enter 62 [(0,.string (bs C)),(1,I E)] Tryd.func57 rfl rfl rfl rfl ?_;refine wq (wr (av rfl (av rfl (wn (we (wq (wr (av rfl (wn (we (wq (wq (wr (mv rfl ?_))))))))))))));obtain ⟨aL,hF⟩:=guard_some hF;obtain ⟨ag,c3,ar,aW,aM,aF,aG,aX⟩:=St.bytes (P:=TP) (t:=9) (u:=43) S Tryd.underlying9 Tryd.underlying43 Tryd.underlying5 C aL;refine wee (aM rfl) rfl ?_;refine wp (G.len T.el43 rfl) rfl (mv rfl (wn (we ?_)));refine WCode.block ?_;refine wg (l':=[(0,.string (bs C)),(1,I E),(6,I 0),(11,.slice ag C.length c3),(12,I (C.length:Int)),(13,I 0)]) ⟨rfl,rfl,rfl,rfl,rfl,rfl,trivial⟩ ?_;refine wl (fun n_ l_ w_=>∃ q:Int,∃ O:Int,l_=[(0,.string (bs C)),(1,I E),(6,I q),(11,.slice ag C.length c3),(12,I (C.length:Int)),(13,I O)]∧lx_digits.l1 n_ C E q O=some r_∧St w (KS []) w_ [ar]) k ⟨0,0,rfl,hF,aG⟩ ?_;rintro aH _ aQ ⟨q,O,rfl,hF,ah⟩;obtain _ | aa:=aH
 · exact nn hF
 rw [lx_digits.l1] at hF;refine wq (wr (wp (G.lss rfl rfl rfl) rfl (wn (we (wq ?_)))));rcases io hF with ⟨ai,hF⟩|⟨ai,hF⟩
 ·
  refine ct rfl (dt ai) (wsk (we (wq ?_)));refine WCode.block ?_;refine wq (wr ?_);obtain ⟨D,au,hF⟩:=bo hF;obtain ⟨aI,ax,ay,az⟩:=idx_spec au;obtain ⟨b24,aJ,aA,aB,aN,aj,aC⟩:=sat ((SlG.toV (u:=w) aF (aG.nd 0 rfl)).ext (ah.vw 0 rfl)) ay;have aD:aA=[.int .u8 ((D).toNat:Int)]:=aC;subst aD;change cellsAt _ _ (aJ+aI * 1) [.int .u8 ((D).toNat:Int)] at aj;refine wp (G.idx T.el43 rfl aB rfl ax az) rfl ?_;refine wrr (G.load1 T.one5 rfl (cellsAt.at0 aj)) rfl ?_;refine av rfl (wn (we (wq (wr (mv rfl (av rfl (wn (we ?_))))))));refine wqs (fun l_ w_=>∃ ab:Nat,∃ J:Int,l_=[(0,.string (bs C)),(1,I E),(6,I q),(9,I J),(11,.slice ag C.length c3),(12,I (C.length:Int)),(13,I O)]∧lx_digits.j1 ab C E q O J=some r_∧ab≤aa∧St w (KS []) w_ [ar]) ?_ ?_
  ·
   refine WCode.block ?_;refine wq (wr (mv rfl ?_));obtain ⟨aR,aE,hF⟩:=bo hF;refine wc T.call51 (ec rfl en) rfl ?_;refine (lx_digit_calls aa ((D).toNat:Int) aE).mono ?_;rintro _ aS ⟨rfl,aK⟩;have ak:=scT aK ah;refine ⟨_,rfl,?_⟩;refine av rfl (wn (we ?_));rcases io hF with ⟨al,hF⟩|⟨al,hF⟩
   ·
    refine ct rfl al (wr (mv rfl (wp (G.sub rfl rfl (r:=(IntKind.u8.wrap (((D).toNat:Int) - 48))) rfl) rfl (wp (G.convi (by kernel_rfl) Tryd.underlying3 rfl (r:=(w64 (IntKind.u8.wrap (((D).toNat:Int) - 48)))) rfl) rfl (av rfl (wn (win ?_)))))));refine wx _ ?_ ⟨aa,w64 (IntKind.u8.wrap (((D).toNat:Int) - 48)),rfl,hF,(by omega),ak⟩;exact ⟨rfl,rfl,rfl,rfl,rfl,rfl,rfl,trivial⟩
   ·
    refine cf rfl (bf al) ?_;refine wqs (fun l_ w_=>∃ ad:Nat,∃ am:Bool,l_=[(0,.string (bs C)),(1,I E),(6,I q),(8,.int .u8 ((D).toNat:Int)),(9,I E),(11,.slice ag C.length c3),(12,I (C.length:Int)),(13,I O),(24,.bool am)]∧lx_digits.j2 ad C E q O D am=some r_∧ad≤aa∧St w (KS []) w_ [ar]) ?_ ?_
    ·
     refine wr (mv rfl (wp (G.geq rfl rfl rfl) rfl (mv rfl ?_)));rcases io hF with ⟨V,hF⟩|⟨V,hF⟩
     ·
      refine won rfl (dt V) (mv rfl (won rfl (dt V) (wp (G.leq rfl rfl rfl) rfl (wp (G.pick_t (kb rfl (dt V)) rfl) rfl (av rfl (wn ?_))))));refine wx _ ?_ ⟨aa,decide (((D).toNat:Int)≤102),rfl,hF,(by omega),ak⟩;exact ⟨rfl,rfl,rfl,rfl,rfl,rfl,rfl,rfl,rfl,trivial⟩
     ·
      refine wof rfl (df V) rfl (wof rfl (df V) rfl (wp (G.pick_f (kb rfl (df V)) rfl) rfl (av rfl (wn ?_))));refine wx _ ?_ ⟨aa,false,rfl,hF,(by omega),ak⟩;exact ⟨rfl,rfl,rfl,rfl,rfl,rfl,rfl,rfl,rfl,trivial⟩
    ·
     rintro _ aT ⟨ad,am,rfl,hF,aO,ae⟩;obtain _ | af:=ad
     · exact nn hF
     rw [lx_digits.j2] at hF;rcases io hF with ⟨an,hF⟩|⟨an,hF⟩
     ·
      refine ct rfl an (wr (mv rfl (wp (G.sub rfl rfl (r:=(IntKind.u8.wrap (((D).toNat:Int) - 97))) rfl) rfl (wp (G.convi (by kernel_rfl) Tryd.underlying3 rfl (r:=(w64 (IntKind.u8.wrap (((D).toNat:Int) - 97)))) rfl) rfl (wp (G.add rfl rfl (r:=(w64 ((w64 (IntKind.u8.wrap (((D).toNat:Int) - 97)))+10))) rfl) rfl (av rfl (wn (win ?_))))))));refine wx _ ?_ ⟨af,w64 ((w64 (IntKind.u8.wrap (((D).toNat:Int) - 97)))+10),rfl,hF,(by omega),ae⟩;exact ⟨rfl,rfl,rfl,rfl,rfl,rfl,rfl,trivial⟩
     ·
      refine cf rfl (bf an) (wq (wr (mv rfl (wp (G.geq rfl rfl rfl) rfl (mv rfl ?_)))));rcases io hF with ⟨X,hF⟩|⟨X,hF⟩
      ·
       refine won rfl (dt X) (mv rfl (won rfl (dt X) (wp (G.leq rfl rfl rfl) rfl (wp (G.pick_t (kb rfl (dt X)) rfl) rfl (av rfl (wn (we ?_)))))));rcases io hF with ⟨ao,hF⟩|⟨ao,hF⟩
       ·
        refine ct rfl (dt ao) (wr (mv rfl (wp (G.sub rfl rfl (r:=(IntKind.u8.wrap (((D).toNat:Int) - 65))) rfl) rfl (wp (G.convi (by kernel_rfl) Tryd.underlying3 rfl (r:=(w64 (IntKind.u8.wrap (((D).toNat:Int) - 65)))) rfl) rfl (wp (G.add rfl rfl (r:=(w64 ((w64 (IntKind.u8.wrap (((D).toNat:Int) - 65)))+10))) rfl) rfl (av rfl (wn (win ?_))))))));refine wx _ ?_ ⟨af,w64 ((w64 (IntKind.u8.wrap (((D).toNat:Int) - 65)))+10),rfl,hF,(by omega),ae⟩;exact ⟨rfl,rfl,rfl,rfl,rfl,rfl,rfl,trivial⟩
       ·
        refine cf rfl (df ao) (wsk (win ?_));refine wx _ ?_ ⟨af,E,rfl,hF,(by omega),ae⟩;exact ⟨rfl,rfl,rfl,rfl,rfl,rfl,rfl,trivial⟩
      ·
       refine wof rfl (df X) rfl (wof rfl (df X) rfl (wp (G.pick_f (kb rfl (df X)) rfl) rfl (av rfl (wn (we ?_)))));refine WCode.cond_f rfl ?_;refine wsk (win ?_);refine wx _ ?_ ⟨af,E,rfl,hF,(by omega),ae⟩;exact ⟨rfl,rfl,rfl,rfl,rfl,rfl,rfl,trivial⟩
  ·
   rintro _ aU ⟨ab,J,rfl,hF,aP,ap⟩;obtain _ | aV:=ab
   · exact nn hF
   rw [lx_digits.j1] at hF;refine wq (wr (mv rfl (mv rfl (wp (G.mul rfl rfl (r:=(w64 (q * E))) rfl) rfl (mv rfl (wp (G.add rfl rfl (r:=(w64 ((w64 (q * E))+J))) rfl) rfl (av rfl (wn (we (wq (wr (mv rfl (mv rfl (wp (G.geq rfl rfl rfl) rfl (mv rfl ?_)))))))))))))));rcases io hF with ⟨Y,hF⟩|⟨Y,hF⟩
   ·
    refine wof rfl (dt Y) rfl (wof rfl (dt Y) rfl (wp (G.pick_t (kb rfl (dt Y)) rfl) rfl (wn (we (wg (l':=[(0,.string (bs C)),(1,I E),(6,I (w64 ((w64 (q * E))+J))),(11,.slice ag C.length c3),(12,I (C.length:Int)),(13,I O),(55,undef),(56,undef),(57,.bool true)]) ⟨rfl,rfl,rfl,rfl,rfl,rfl,rfl,rfl,rfl,trivial⟩ ?_)))));refine WCode.cond_t rfl ?_;refine wq (wr (av rfl (av rfl (wn (we (wrt ?_))))));refine WEx.in_ret ?_;refine wtr (wtr ?_);refine WEx.in_ret ?_;refine wtr ?_;obtain rfl:=se hF;refine WEx.ret2 rfl rfl rfl ?_;exact ⟨rfl,sk ap⟩
   ·
    refine won rfl (df Y) (mv rfl (won rfl (df Y) (wp (G.gtr rfl rfl rfl) rfl (wp (G.pick_f (kb rfl (df Y)) rfl) rfl (wn (we (wg (l':=[(0,.string (bs C)),(1,I E),(6,I (w64 ((w64 (q * E))+J))),(11,.slice ag C.length c3),(12,I (C.length:Int)),(13,I O),(55,I (w64 ((w64 (q * E))+J))),(56,.bool (decide (4294967295 < (w64 ((w64 (q * E))+J))))),(57,.bool (decide (4294967295 < (w64 ((w64 (q * E))+J)))))]) ⟨rfl,rfl,rfl,rfl,rfl,rfl,rfl,rfl,rfl,trivial⟩ ?_)))))));rcases io hF with ⟨aq,hF⟩|⟨aq,hF⟩
    ·
     refine WCode.cond_t (kb (b:=decide (4294967295 < (w64 ((w64 (q * E))+J)))) rfl (dt aq)) ?_;refine wq (wr (av rfl (av rfl (wn (we (wrt ?_))))));refine WEx.in_ret ?_;refine wtr (wtr ?_);refine WEx.in_ret ?_;refine wtr ?_;obtain rfl:=se hF;refine WEx.ret2 rfl rfl rfl ?_;exact ⟨rfl,sk ap⟩
    ·
     refine WCode.cond_f (kb (b:=decide (4294967295 < (w64 ((w64 (q * E))+J)))) rfl (df aq)) ?_;refine wsk (win (we (wr (wp (G.add rfl rfl (r:=(w64 (O+1))) rfl) rfl (mv rfl (wn ?_))))));refine wag _ _ (by omega) ?_ ⟨w64 ((w64 (q * E))+J),w64 (O+1),rfl,hF,ap⟩;exact ⟨rfl,rfl,rfl,rfl,rfl,rfl,trivial⟩
 ·
  refine cf rfl (df ai) ?_;refine WCode.exit ?_;refine WEx.then_exit ?_;refine WEx.then_exit ?_;refine WEx.in_exit ?_;refine we (wq (wr (mv rfl (mv rfl (wp (G.neqlb' rfl rfl rfl) rfl (av rfl (av rfl (wn (we (wg (l':=[(4,I q),(5,.bool (!(decide (C=[]))))]) ⟨rfl,rfl,trivial⟩ (wrt ?_)))))))))));obtain rfl:=se hF;refine WEx.ret2 rfl rfl rfl ?_;exact ⟨rfl,sk ah⟩
def lx_numbered.j1 (q:Nat) (E:(List UInt8)×Bool) (J:Bool):Option (Int×Bool):=(if J=true then ((cut E.1 1 (E.1.length:Int)).bind fun O=>(lx_digits q O 8).bind fun C=>some (C.1,C.2)) else (lx_digits q E.1 10).bind fun D=>some (D.1,D.2))
def lx_numbered (k:Nat) (V:List UInt8):Option (Int×Bool):=((CutPrefix k V [45]).bind fun q=>(CutPrefix k q.1 [48,120]).bind fun E=>if q.2=true then ((lx_digits k q.1 10).bind fun C=>if C.2=true then ((idx q.1 0).bind fun J=>if ((J).toNat:Int)=48 then (some (w64 (-C.1),false)) else some (w64 (-C.1),decide ((-2147483648)≤(w64 (-C.1))))) else some (w64 (-C.1),false)) else if E.2=true then ((lx_digits k E.1 16).bind fun D=>some (D.1,D.2)) else (idx q.1 0).bind fun O=>if ((O).toNat:Int)=48 then (lx_numbered.j1 k q (decide (1 < (q.1.length:Int)))) else lx_numbered.j1 k q false)
theorem lx_numbered_calls (k:Nat) (af:List UInt8) {w:World} {r_:Int×Bool} (hF:lx_numbered k af=some r_) :
    Calls TP 35 [.string (bs af)].toArray w fun e w'=>e = .returned (.tuple #[I r_.1,.bool r_.2])∧St w (KS []) w' []:=by
 unfold lx_numbered at hF;have S:=St.ofFalse (As:=[]) (St.init0 w);refine enter 64 [(0,.string (bs af))] Tryd.func35 rfl rfl rfl rfl ?_;refine wq (wr (av rfl (av rfl (wn (we (wq (wr (mv rfl ?_))))))));obtain ⟨O,aq,hF⟩:=bo hF;refine wc T.call56 (ec rfl (ec rfl en)) rfl ?_;refine (CutPrefix_calls k af [45] aq).mono ?_;rintro _ aP ⟨rfl,aE⟩;have aF:=sc (As:=[]) S aE;refine ⟨_,rfl,?_⟩;refine mv rfl (wp (G.extract rfl rfl) rfl (wp (G.extract rfl rfl) rfl (av rfl (av rfl (wn (we (wq (wr (mv rfl ?_)))))))));obtain ⟨ai,ar,hF⟩:=bo hF;refine wc T.call56 (ec rfl (ec rfl en)) rfl ?_;refine (CutPrefix_calls k O.1 [48,120] ar).mono ?_;rintro _ aQ ⟨rfl,aG⟩;have V:=scT aG aF;refine ⟨_,rfl,?_⟩;refine mv rfl (wp (G.extract rfl rfl) rfl (wp (G.extract rfl rfl) rfl (av rfl (av rfl (wn (we (wg (l':=[(4,.string (bs O.1)),(5,.bool O.2),(6,.string (bs ai.1)),(7,.bool ai.2)]) ⟨rfl,rfl,rfl,rfl,trivial⟩ (wq ?_))))))));refine WCode.block ?_;refine wq (wr (mv rfl (av rfl (wn (we ?_)))));rcases io hF with ⟨Y,hF⟩|⟨Y,hF⟩
 ·
  refine ct rfl Y (wq (wr (mv rfl ?_)));obtain ⟨E,aj,hF⟩:=bo hF;refine wc T.call57 (ec rfl (ec rfl en)) rfl ?_;refine (lx_digits_calls k O.1 10 aj).mono ?_;rintro _ aH ⟨rfl,au⟩;have aa:=scT au V;refine ⟨_,rfl,?_⟩;refine mv rfl (wp (G.extract rfl rfl) rfl (wp (G.extract rfl rfl) rfl (av rfl (av rfl (wn (we (wg (l':=[(4,.string (bs O.1)),(8,I E.1),(9,.bool E.2)]) ⟨rfl,rfl,rfl,trivial⟩ (wq (wr (mv rfl (wp (G.neg rfl (r:=(w64 (-E.1))) rfl) rfl (mv rfl (mv rfl ?_)))))))))))));rcases io hF with ⟨q,hF⟩|⟨q,hF⟩
  ·
   refine won rfl q (mv rfl (won rfl q ?_));obtain ⟨J,ak,hF⟩:=bo hF;refine wp (G.idxb T.str9 rfl rfl ak) rfl (won rfl q (wp (G.neq rfl rfl rfl) rfl (wp (G.pick_t (kb rfl q) rfl) rfl (mv rfl ?_))));rcases io hF with ⟨C,hF⟩|⟨C,hF⟩
   ·
    refine WOps.off rfl (kbl (b:=!(decide (((J).toNat:Int)=48))) rfl (nf (dt C))) rfl rfl ?_;refine WOps.off rfl (kbl (b:=!(decide (((J).toNat:Int)=48))) rfl (nf (dt C))) rfl rfl ?_;refine WOps.off rfl (kbl (b:=!(decide (((J).toNat:Int)=48))) rfl (nf (dt C))) rfl rfl ?_;refine wp (G.pick_f (kb (b:=!(decide (((J).toNat:Int)=48))) rfl (nf (dt C))) rfl) rfl (av rfl (av rfl (wn (we (wg (l':=[(2,I (w64 (-E.1))),(3,.bool false)]) ⟨rfl,rfl,trivial⟩ (wrt ?_))))));refine WEx.in_ret ?_;refine wtr ?_;obtain rfl:=se hF;refine WEx.ret2 rfl rfl rfl ?_;exact ⟨rfl,sk aa⟩
   ·
    refine WOps.on rfl (kbl (b:=!(decide (((J).toNat:Int)=48))) rfl (nt (df C))) ?_;refine mv rfl ?_;refine WOps.on rfl (kbl (b:=!(decide (((J).toNat:Int)=48))) rfl (nt (df C))) ?_;refine wp (G.neg rfl (r:=(w64 (-E.1))) rfl) rfl ?_;refine WOps.on rfl (kbl (b:=!(decide (((J).toNat:Int)=48))) rfl (nt (df C))) ?_;refine wp (G.geq rfl rfl rfl) rfl (wp (G.pick_t (kb (b:=!(decide (((J).toNat:Int)=48))) rfl (nt (df C))) rfl) rfl (av rfl (av rfl (wn (we (wg (l':=[(2,I (w64 (-E.1))),(3,.bool (decide ((-2147483648)≤(w64 (-E.1)))))]) ⟨rfl,rfl,trivial⟩ (wrt ?_)))))));refine WEx.in_ret ?_;refine wtr ?_;obtain rfl:=se hF;refine WEx.ret2 rfl rfl rfl ?_;exact ⟨rfl,sk aa⟩
  ·
   refine wof rfl (bf q) rfl (wof rfl (bf q) rfl (wof rfl (bf q) rfl (wp (G.pick_f (kb rfl (bf q)) rfl) rfl (mv rfl ?_))));refine WOps.off rfl rfl rfl rfl ?_;refine WOps.off rfl rfl rfl rfl ?_;refine WOps.off rfl rfl rfl rfl ?_;refine wp (G.pick_f rfl rfl) rfl (av rfl (av rfl (wn (we (wg (l':=[(2,I (w64 (-E.1))),(3,.bool false)]) ⟨rfl,rfl,trivial⟩ (wrt ?_))))));refine WEx.in_ret ?_;refine wtr ?_;obtain rfl:=se hF;refine WEx.ret2 rfl rfl rfl ?_;exact ⟨rfl,sk aa⟩
 ·
  refine cf rfl (bf Y) (wq (wr (mv rfl (av rfl (wn (we ?_))))));rcases io hF with ⟨ab,hF⟩|⟨ab,hF⟩
  ·
   refine ct rfl ab (wq (wr (mv rfl ?_)));obtain ⟨ag,al,hF⟩:=bo hF;refine wc T.call57 (ec rfl (ec rfl en)) rfl ?_;refine (lx_digits_calls k ai.1 16 al).mono ?_;rintro _ aI ⟨rfl,ax⟩;have ay:=scT ax V;refine ⟨_,rfl,?_⟩;refine wp (G.extract rfl rfl) rfl (wp (G.extract rfl rfl) rfl (av rfl (av rfl (wn (we (wg (l':=[(2,I ag.1),(3,.bool ag.2)]) ⟨rfl,rfl,trivial⟩ (wrt ?_)))))));refine WEx.in_ret ?_;refine wtr ?_;obtain rfl:=se hF;refine WEx.ret2 rfl rfl rfl ?_;exact ⟨rfl,sk ay⟩
  ·
   refine cf rfl (bf ab) ?_;refine wqs (fun l_ w_=>∃ X:Nat,∃ ad:Bool,l_=[(4,.string (bs O.1)),(46,.bool ad)]∧lx_numbered.j1 X O ad=some r_∧St w (KS []) w_ []) ?_ ?_
   ·
    refine wr (mv rfl ?_);obtain ⟨aJ,am,hF⟩:=bo hF;refine wp (G.idxb T.str9 rfl rfl am) rfl (wp (G.eql rfl rfl rfl) rfl (mv rfl ?_));rcases io hF with ⟨D,hF⟩|⟨D,hF⟩
    ·
     refine won rfl (dt D) (mv rfl (won rfl (dt D) (wp (G.lenb T.str9 rfl) rfl (won rfl (dt D) (wp (G.gtr rfl rfl rfl) rfl (wp (G.pick_t (kb rfl (dt D)) rfl) rfl (av rfl (wn ?_))))))));refine wx _ ?_ ⟨k,decide (1 < (O.1.length:Int)),rfl,hF,V⟩;exact ⟨rfl,rfl,trivial⟩
    ·
     refine wof rfl (df D) rfl (wof rfl (df D) rfl (wof rfl (df D) rfl (wp (G.pick_f (kb rfl (df D)) rfl) rfl (av rfl (wn ?_)))));refine wx _ ?_ ⟨k,false,rfl,hF,V⟩;exact ⟨rfl,rfl,trivial⟩
   ·
    rintro _ aK ⟨X,ad,rfl,hF,ah⟩;unfold lx_numbered.j1 at hF;rcases io hF with ⟨ae,hF⟩|⟨ae,hF⟩
    ·
     refine ct rfl ae (wq (wr (mv rfl ?_)));obtain ⟨az,an,hF⟩:=bo hF;refine wp (G.cutb_l T.str9 rfl rfl an) rfl ?_;obtain ⟨aL,ao,hF⟩:=bo hF;refine wc T.call57 (ec rfl (ec rfl en)) rfl ?_;refine (lx_digits_calls X az 8 ao).mono ?_;rintro _ aM ⟨rfl,aA⟩;have aB:=scT aA ah;refine ⟨_,rfl,?_⟩;refine wp (G.extract rfl rfl) rfl (wp (G.extract rfl rfl) rfl (av rfl (av rfl (wn (we (wrt ?_))))));refine WEx.in_ret ?_;refine wtr ?_;obtain rfl:=se hF;refine WEx.ret2 rfl rfl rfl ?_;exact ⟨rfl,sk aB⟩
    ·
     refine cf rfl (bf ae) (wsk (win (we (wq (wr (mv rfl ?_))))));obtain ⟨aN,ap,hF⟩:=bo hF;refine wc T.call57 (ec rfl (ec rfl en)) rfl ?_;refine (lx_digits_calls X O.1 10 ap).mono ?_;rintro _ aO ⟨rfl,aC⟩;have aD:=scT aC ah;refine ⟨_,rfl,?_⟩;refine wp (G.extract rfl rfl) rfl (wp (G.extract rfl rfl) rfl (av rfl (av rfl (wn (we (wrt ?_))))));obtain rfl:=se hF;refine WEx.ret2 rfl rfl rfl ?_;exact ⟨rfl,sk aD⟩
def lx_IsWord (k:Nat) (C:List UInt8):Option Bool:=((gv_Fields k [98,111,111,108,32,99,97,115,101,32,99,111,110,115,116,32,100,101,102,97,117,108,116,32,100,111,117,98,108,101,32,101,110,117,109,32,102,108,111,97,116,32,104,121,112,101,114,32,105,110,116,32,111,112,97,113,117,101,32,112,114,111,103,114,97,109,32,113,117,97,100,114,117,112,108,101,32,115,116,114,105,110,103,32,115,116,114,117,99,116,32,115,119,105,116,99,104,32,116,121,112,101,100,101,102,32,117,110,105,111,110,32,117,110,115,105,103,110,101,100,32,118,101,114,115,105,111,110,32,118,111,105,100]).bind fun D=>(slContains k (D) C).bind fun q=>some q)
theorem lx_IsWord_calls (k:Nat) (q:List UInt8) {FG:Nat→Prop} {w:World} (hGl:Glob FG w) (hFG:∀ b,FG b→NK w [] b) {r_:Bool} (hF:lx_IsWord k q=some r_) :
    Calls TP 34 [.string (bs q)].toArray w fun e w'=>e = .returned (.bool r_)∧St w (KS []) w' []:=by
 unfold lx_IsWord at hF;have S:=St.ofFalse (As:=[]) (St.init0 w);refine enter 6 [(0,.string (bs q))] Tryd.func34 rfl rfl rfl rfl ?_;refine wq (wr (av rfl (wn (we (wq (wr ?_))))));obtain ⟨X,E,hF⟩:=bo hF;refine wc T.call55 (ec rfl en) rfl ?_;refine (gv_Fields_calls k [98,111,111,108,32,99,97,115,101,32,99,111,110,115,116,32,100,101,102,97,117,108,116,32,100,111,117,98,108,101,32,101,110,117,109,32,102,108,111,97,116,32,104,121,112,101,114,32,105,110,116,32,111,112,97,113,117,101,32,112,114,111,103,114,97,109,32,113,117,97,100,114,117,112,108,101,32,115,116,114,105,110,103,32,115,116,114,117,99,116,32,115,119,105,116,99,104,32,116,121,112,101,100,101,102,32,117,110,105,111,110,32,117,110,115,105,103,110,101,100,32,118,101,114,115,105,111,110,32,118,111,105,100] (hGl.ext (S.keepF hFG)) (St.outF (Bs:=[]) S hFG) E).mono ?_;rintro _ ad ⟨ae,af,ag,rfl,J,Y⟩;have C:=sc (As:=[]) S Y;refine ⟨_,rfl,?_⟩;refine mv rfl ?_;obtain ⟨aa,D,hF⟩:=bo hF;refine wc T.call40 (ec rfl (ec rfl en)) rfl ?_;refine (slContains_calls k (X) q (rds J C 0 rfl) (og C 0 rfl) D).mono ?_;rintro _ ab ⟨rfl,O⟩;have V:=scT O C;refine ⟨_,rfl,?_⟩;refine av rfl (wn (we (wrt ?_)));obtain rfl:=se hF;refine WEx.ret1 rfl rfl ?_;exact ⟨rfl,sk V⟩
def lx_next.j1 (D:Nat) (q:List UInt8) (C:Int):Option (Token×Int×Int):=(some ((⟨C,q,0,0⟩:Token),(q.length:Int),0))
def lx_next (k:Nat) (q:List UInt8):Option (Token×Int×Int):=((lx_begins k q).bind fun D=>if D=1 then (some ((⟨0,[],0,0⟩:Token),1,0)) else if D=2 then ((cut q 2 (q.length:Int)).bind fun V=>(gv_Index k V [42,47]).bind fun E=>if E < 0 then (some ((⟨0,[],0,0⟩:Token),0,33)) else some ((⟨0,[],0,0⟩:Token),w64 (E+4),0)) else if D=3 then ((lx_run k q).bind fun X=>(cut q 0 X).bind fun C=>(lx_IsWord k C).bind fun Y=>if Y=true then (lx_next.j1 k C 2) else if 32 < (C.length:Int) then (some ((⟨0,[],0,0⟩:Token),0,32)) else lx_next.j1 k C 1) else if D=4 then ((cut q 1 (q.length:Int)).bind fun aa=>(lx_run k aa).bind fun J=>(cut q 0 (w64 (1+J))).bind fun ab=>(lx_numbered k ab).bind fun O=>if O.2=true then (some ((⟨3,[],O.1,0⟩:Token),w64 (1+J),0)) else some ((⟨0,[],0,0⟩:Token),0,31)) else if D=5 then ((cut q 0 1).bind fun ad=>some ((⟨4,ad,0,0⟩:Token),1,0)) else some ((⟨0,[],0,0⟩:Token),0,30))
theorem lx_next_calls (k:Nat) (Y:List UInt8) {FG:Nat→Prop} {w:World} (hGl:Glob FG w) (hFG:∀ b,FG b→NK w [] b) {r_:Token×Int×Int} (hF:lx_next k Y=some r_) :
    Calls TP 17 [.string (bs Y)].toArray w fun e w'=>e = .returned (.tuple #[.agg (ka r_.1),I r_.2.1,I r_.2.2])∧St w (KS []) w' []:=by
 unfold lx_next at hF;have S:=St.ofFalse (As:=[]) (St.init0 w);refine enter 73 [(0,.string (bs Y))] Tryd.func17 rfl rfl rfl rfl ?_;refine wq (wr ?_);obtain ⟨J,bP,bh,bj,bQ,bR⟩:=sv S (z:=.agg #[I 0,.string (bs []),I 0,I 0]) T.zero39;refine wee bh rfl ?_;refine av rfl (av rfl (wn (we (wq (wq (wr (mv rfl ?_)))))));obtain ⟨aP,aQ,hF⟩:=bo hF;refine wc T.call31 (ec rfl en) rfl ?_;refine (lx_begins_calls k Y aQ).mono ?_;rintro _ bS ⟨rfl,aR⟩;have C:=scT aR bj;refine ⟨_,rfl,?_⟩;refine wn (we ?_);refine WCode.block ?_;refine wq (wr (wp (G.eql rfl rfl rfl) rfl (av rfl (wn (we ?_)))));rcases io hF with ⟨aa,hF⟩|⟨aa,hF⟩
 ·
  refine ct rfl (dt aa) (wq (wr (wp (G.build (cells:=#[I 0,.string (bs []),I 0,I 0]) (fs_ (fn_)) (by kernel_rfl)) rfl ?_)));obtain ⟨bn,aS,an⟩:=sw C 0 #[I 0,.string (bs []),I 0,I 0] T.size39_4 rfl rfl rfl rfl;refine wuu (aS rfl rfl) ?_;refine av rfl (av rfl (wn (we (wrt ?_))));refine WEx.in_ret ?_;refine wtr ?_;obtain rfl:=se hF;refine WEx.retc2 rfl rfl (cs:=[I 0,.string (bs []),I 0,I 0]) T.agg39_4 (cb (an.blk 0 rfl) rfl) rfl rfl ?_;exact ⟨rfl,sk an⟩
 ·
  refine cf rfl (df aa) (wq (wr (wp (G.eql rfl rfl rfl) rfl (av rfl (wn (we ?_))))));rcases io hF with ⟨ab,hF⟩|⟨ab,hF⟩
  ·
   refine ct rfl (dt ab) (wq (wr (mv rfl ?_)));obtain ⟨aT,aE,hF⟩:=bo hF;refine wp (G.cutb_l T.str9 rfl rfl aE) rfl ?_;obtain ⟨ao,aF,hF⟩:=bo hF;refine wc T.call32 (ec rfl (ec rfl en)) rfl ?_;refine (gv_Index_calls k aT [42,47] (hGl.ext (C.keepF hFG)) (St.outF (Bs:=[]) C hFG) aF).mono ?_;rintro _ bp ⟨rfl,aU⟩;have ap:=scT aU C;refine ⟨_,rfl,?_⟩;refine av rfl (wn (we (wg (l':=[(2,(Pt J)),(5,I ao)]) ⟨rfl,rfl,trivial⟩ (wq (wq (wr (mv rfl (wp (G.lss rfl rfl rfl) rfl (wn (we ?_))))))))));rcases io hF with ⟨ad,hF⟩|⟨ad,hF⟩
   ·
    refine ct rfl (dt ad) (wq (wr (wp (G.build (cells:=#[I 0,.string (bs []),I 0,I 0]) (fs_ (fn_)) (by kernel_rfl)) rfl ?_)));obtain ⟨br,aV,aq⟩:=sw ap 0 #[I 0,.string (bs []),I 0,I 0] T.size39_4 rfl rfl rfl rfl;refine wuu (aV rfl rfl) ?_;refine av rfl (av rfl (wn (we (wrt (wtr ?_)))));refine WEx.in_ret ?_;refine wtr ?_;obtain rfl:=se hF;refine WEx.retc2 rfl rfl (cs:=[I 0,.string (bs []),I 0,I 0]) T.agg39_4 (cb (aq.blk 0 rfl) rfl) rfl rfl ?_;exact ⟨rfl,sk aq⟩
   ·
    refine cf rfl (df ad) (wsk (we (wq (wr (wp (G.build (cells:=#[I 0,.string (bs []),I 0,I 0]) (fs_ (fn_)) (by kernel_rfl)) rfl (mv rfl (wp (G.add rfl rfl (r:=(w64 (ao+4))) rfl) rfl ?_)))))));obtain ⟨bu,aW,ar⟩:=sw ap 0 #[I 0,.string (bs []),I 0,I 0] T.size39_4 rfl rfl rfl rfl;refine wuu (aW rfl rfl) ?_;refine av rfl (av rfl (wn (we (wrt ?_))));refine WEx.in_ret ?_;refine wtr ?_;obtain rfl:=se hF;refine WEx.retc2 rfl rfl (cs:=[I 0,.string (bs []),I 0,I 0]) T.agg39_4 (cb (ar.blk 0 rfl) rfl) rfl rfl ?_;exact ⟨rfl,sk ar⟩
  ·
   refine cf rfl (df ab) (wq (wr (wp (G.eql rfl rfl rfl) rfl (av rfl (wn (we ?_))))));rcases io hF with ⟨ae,hF⟩|⟨ae,hF⟩
   ·
    refine ct rfl (dt ae) (wq (wr (mv rfl (mv rfl ?_))));obtain ⟨bv,aG,hF⟩:=bo hF;refine wc T.call33 (ec rfl en) rfl ?_;refine (lx_run_calls k Y aG).mono ?_;rintro _ bx ⟨rfl,aX⟩;have aY:=scT aX C;refine ⟨_,rfl,?_⟩;obtain ⟨q,aH,hF⟩:=bo hF;refine wp (G.cutb_h T.str9 rfl rfl aH) rfl (wp (G.build (cells:=#[I 1,.string (bs q),I 0,I 0]) (fs_ (fc rfl (fc rfl fn_))) (by kernel_rfl)) rfl ?_);obtain ⟨O,bz,aZ,a0,bA,bB⟩:=sv aY (z:=.agg #[I 0,.string (bs []),I 0,I 0]) T.zero39;refine wee aZ rfl ?_;obtain ⟨bC,a1,V⟩:=sw a0 0 #[I 1,.string (bs q),I 0,I 0] T.size39_4 rfl rfl rfl rfl;refine wuu (a1 rfl rfl) ?_;refine wn (we (wg (l':=[(2,(Pt J)),(6,(Pt O))]) ⟨rfl,rfl,trivial⟩ ?_));refine wqs (fun l_ w_=>∃ au:Nat,∃ D:Int,l_=[(2,(Pt J)),(6,(Pt O))]∧lx_next.j1 au q D=some r_∧St w (KS []) w_ [(B O #[I D,.string (bs q),I 0,I 0] 39),(B J #[I 0,.string (bs []),I 0,I 0] 39)]) ?_ ?_
    ·
     refine WCode.block ?_;refine wq (wr (wp (G.field T.fld39_1 rfl rfl) rfl ?_));refine wrr (G.load1 T.one9 rfl (cell_blk (V.blk 0 rfl) rfl)) rfl ?_;obtain ⟨bD,aI,hF⟩:=bo hF;refine wc T.call34 (ec rfl en) rfl ?_;refine (lx_IsWord_calls k q (hGl.ext (V.keepF hFG)) (St.outF (Bs:=[]) V hFG) aI).mono ?_;rintro _ bE ⟨rfl,a2⟩;have X:=scT a2 V;refine ⟨_,rfl,?_⟩;refine av rfl (wn (we ?_));rcases io hF with ⟨af,hF⟩|⟨af,hF⟩
     ·
      refine ct rfl af (wr (wp (G.field T.fld39_0 rfl rfl) rfl ?_));obtain ⟨bF,a3,a4⟩:=so (P:=TP) X 0 3 (I 2) (off:=0) (cur':=#[I 2,.string (bs q),I 0,I 0]) rfl T.size3_1 rfl rfl rfl;refine wuu (a3 rfl rfl) ?_;refine wn (win ?_);refine wx _ ?_ ⟨k,2,rfl,hF,a4⟩;exact ⟨rfl,rfl,trivial⟩
     ·
      refine cf rfl (bf af) (wq (wr (wp (G.field T.fld39_1 rfl rfl) rfl ?_)));refine wrr (G.load1 T.one9 rfl (cell_blk (X.blk 0 rfl) rfl)) rfl ?_;refine wp (G.lenb T.str9 rfl) rfl (wp (G.gtr rfl rfl rfl) rfl (av rfl (wn (we ?_))));rcases io hF with ⟨ag,hF⟩|⟨ag,hF⟩
      ·
       refine ct rfl (dt ag) (wq (wr (wp (G.build (cells:=#[I 0,.string (bs []),I 0,I 0]) (fs_ (fn_)) (by kernel_rfl)) rfl ?_)));obtain ⟨bG,a5,ax⟩:=sw X 1 #[I 0,.string (bs []),I 0,I 0] T.size39_4 rfl rfl rfl rfl;refine wuu (a5 rfl rfl) ?_;refine av rfl (av rfl (wn (we (wg (l':=[(2,(Pt J)),(3,I 0),(4,I 32)]) ⟨rfl,rfl,rfl,trivial⟩ (wrt ?_)))));refine WEx.in_ret ?_;refine wtr ?_;refine WEx.in_ret ?_;refine wtr ?_;obtain rfl:=se hF;refine WEx.retc2 rfl rfl (cs:=[I 0,.string (bs []),I 0,I 0]) T.agg39_4 (cb (ax.blk 1 rfl) rfl) rfl rfl ?_;exact ⟨rfl,sk ax⟩
      ·
       refine cf rfl (df ag) (wsk (win ?_));refine wx _ ?_ ⟨k,1,rfl,hF,X⟩;exact ⟨rfl,rfl,trivial⟩
    ·
     rintro _ a6 ⟨au,D,rfl,hF,a7⟩;unfold lx_next.j1 at hF;refine wq ?_;refine WCode.drawH (.one 1 0 (.one 0 1 (.one 2 1 (.one 3 0 (.one 4 2 (.one 5 0 (.one 6 0 .nil))))))) (fun W_=>cellsAt W_ O 0 [I D,.string (bs q),I 0,I 0]∧True) T.mixed (by kernel_rfl) (by intro _ _ d _ _ h;cases d <;> exact h) rfl rfl (by kernel_rfl) ?_ ?_
     all_goals have ay:=a7.drew
     all_goals generalize a6.drew=bH at *
     · exact ⟨cb (ay.blk 0 rfl) rfl,trivial⟩
     refine hp rfl wants (G.field T.fld39_1 rfl rfl) rfl ?_;refine WH.r rfl wants (fun _ h_=>G.loada T.agg39_4 rfl (cs:=[I D,.string (bs q),I 0,I 0]) (cellsAt.part h_.1 0 rfl)) rfl ?_;refine WH.r rfl wants (fun _ h_=>G.load1 T.one9 rfl (cellsAt.at h_.1 1 rfl)) rfl ?_;refine hp rfl wants (G.lenb T.str9 rfl) rfl ?_;obtain ⟨bI,a8,ah⟩:=sw ay 1 #[I D,.string (bs q),I 0,I 0] T.size39_4 rfl rfl rfl rfl;refine WH.u rfl wants (a8 rfl rfl) ⟨cb (ah.blk 0 rfl) rfl,trivial⟩ ?_;refine hp rfl wants (ga rfl) rfl ?_;refine hp rfl wants (ga rfl) rfl ?_;refine WH.nil ?_;refine we (wrt ?_);refine WEx.in_ret ?_;refine wtr ?_;obtain rfl:=se hF;refine WEx.retc2 rfl rfl (cs:=[I D,.string (bs q),I 0,I 0]) T.agg39_4 (cb (ah.blk 1 rfl) rfl) rfl rfl ?_;exact ⟨rfl,sk ah⟩
   ·
    refine cf rfl (df ae) (wq (wr (wp (G.eql rfl rfl rfl) rfl (av rfl (wn (we (wg (l':=[(0,.string (bs Y)),(2,(Pt J)),(11,I aP),(48,.bool (decide (aP=4)))]) ⟨rfl,rfl,rfl,rfl,trivial⟩ ?_)))))));rcases io hF with ⟨ai,hF⟩|⟨ai,hF⟩
    ·
     refine ct rfl (dt ai) (wq (wr (mv rfl ?_)));obtain ⟨a9,aJ,hF⟩:=bo hF;refine wp (G.cutb_l T.str9 rfl rfl aJ) rfl ?_;obtain ⟨az,aK,hF⟩:=bo hF;refine wc T.call33 (ec rfl en) rfl ?_;refine (lx_run_calls k a9 aK).mono ?_;rintro _ bJ ⟨rfl,aw⟩;have a':=scT aw C;refine ⟨_,rfl,?_⟩;refine wp (G.add rfl rfl (r:=(w64 (1+az))) rfl) rfl (av rfl (wn (we (wq (wr (mv rfl (mv rfl ?_)))))));obtain ⟨ba,aL,hF⟩:=bo hF;refine wp (G.cutb_h T.str9 rfl rfl aL) rfl ?_;obtain ⟨E,aM,hF⟩:=bo hF;refine wc T.call35 (ec rfl en) rfl ?_;refine (lx_numbered_calls k ba aM).mono ?_;rintro _ bK ⟨rfl,bc⟩;have aA:=scT bc a';refine ⟨_,rfl,?_⟩;refine mv rfl (wp (G.extract rfl rfl) rfl (wp (G.extract rfl rfl) rfl (av rfl (av rfl (wn (we (wg (l':=[(2,(Pt J)),(7,I (w64 (1+az))),(8,I E.1),(9,.bool E.2)]) ⟨rfl,rfl,rfl,rfl,trivial⟩ (wq (wq (wr (mv rfl (wp (G.not rfl rfl) rfl (wn (we ?_))))))))))))));rcases io hF with ⟨aj,hF⟩|⟨aj,hF⟩
     ·
      refine cf rfl (nf aj) (wsk (we (wq (wr (mv rfl (wp (G.build (cells:=#[I 3,.string (bs []),I E.1,I 0]) (fs_ (fc rfl (fc rfl fn_))) (by kernel_rfl)) rfl (mv rfl ?_)))))));obtain ⟨bL,bd,aB⟩:=sw aA 0 #[I 3,.string (bs []),I E.1,I 0] T.size39_4 rfl rfl rfl rfl;refine wuu (bd rfl rfl) ?_;refine av rfl (av rfl (wn (we (wrt ?_))));refine WEx.in_ret ?_;refine wtr ?_;obtain rfl:=se hF;refine WEx.retc2 rfl rfl (cs:=[I 3,.string (bs []),I E.1,I 0]) T.agg39_4 (cb (aB.blk 0 rfl) rfl) rfl rfl ?_;exact ⟨rfl,sk aB⟩
     ·
      refine ct rfl (nt (bf aj)) (wq (wr (wp (G.build (cells:=#[I 0,.string (bs []),I 0,I 0]) (fs_ (fn_)) (by kernel_rfl)) rfl ?_)));obtain ⟨bM,be,aC⟩:=sw aA 0 #[I 0,.string (bs []),I 0,I 0] T.size39_4 rfl rfl rfl rfl;refine wuu (be rfl rfl) ?_;refine av rfl (av rfl (wn (we (wrt (wtr ?_)))));refine WEx.in_ret ?_;refine wtr ?_;obtain rfl:=se hF;refine WEx.retc2 rfl rfl (cs:=[I 0,.string (bs []),I 0,I 0]) T.agg39_4 (cb (aC.blk 0 rfl) rfl) rfl rfl ?_;exact ⟨rfl,sk aC⟩
    ·
     refine cf rfl (df ai) (wq (wr (wp (G.eql rfl rfl rfl) rfl (av rfl (wn (we ?_))))));rcases io hF with ⟨ak,hF⟩|⟨ak,hF⟩
     ·
      refine ct rfl (dt ak) (wq (wr (mv rfl ?_)));obtain ⟨al,aN,hF⟩:=bo hF;refine wp (G.cutb_h T.str9 rfl rfl aN) rfl (wp (G.build (cells:=#[I 4,.string (bs al),I 0,I 0]) (fs_ (fc rfl (fc rfl fn_))) (by kernel_rfl)) rfl ?_);obtain ⟨bN,bg,aD⟩:=sw C 0 #[I 4,.string (bs al),I 0,I 0] T.size39_4 rfl rfl rfl rfl;refine wuu (bg rfl rfl) ?_;refine av rfl (av rfl (wn (we (wrt ?_))));refine WEx.in_ret ?_;refine wtr ?_;obtain rfl:=se hF;refine WEx.retc2 rfl rfl (cs:=[I 4,.string (bs al),I 0,I 0]) T.agg39_4 (cb (aD.blk 0 rfl) rfl) rfl rfl ?_;exact ⟨rfl,sk aD⟩
     ·
      refine cf rfl (df ak) (wsk (win (we (wq (wr (wp (G.build (cells:=#[I 0,.string (bs []),I 0,I 0]) (fs_ (fn_)) (by kernel_rfl)) rfl ?_))))));obtain ⟨bO,aO,am⟩:=sw C 0 #[I 0,.string (bs []),I 0,I 0] T.size39_4 rfl rfl rfl rfl;refine wuu (aO rfl rfl) ?_;refine av rfl (av rfl (wn (we (wrt ?_))));obtain rfl:=se hF;refine WEx.retc2 rfl rfl (cs:=[I 0,.string (bs []),I 0,I 0]) T.agg39_4 (cb (am.blk 0 rfl) rfl) rfl rfl ?_;exact ⟨rfl,sk am⟩
def lx_Scan.l1:Nat→List UInt8→List Token→Int→Option ((List Token)×Int×Int)
  | 0,_,_,_=>none
  | E+1,C,J,D=>if D < (C.length:Int) then ((cut C D (C.length:Int)).bind fun O=>(lx_next E O).bind fun q=>if q.2.2=0 then (if q.1.Kind=0 then (lx_Scan.l1 E C J (w64 (D+q.2.1))) else (cat J ([(⟨q.1.Kind,q.1.Text,q.1.Number,D⟩:Token)]:List Token)).bind fun V=>lx_Scan.l1 E C V (w64 (D+q.2.1))) else some ([],q.2.2,D)) else (cat J ([(⟨5,[],0,(C.length:Int)⟩:Token)]:List Token)).bind fun X=>some (X,0,0)
def lx_Scan (k:Nat) (q:List UInt8):Option ((List Token)×Int×Int):=(if 16000 < (q.length:Int) then (some ([],34,16000)) else (lx_Scan.l1 k q [] 0))
theorem lx_Scan_calls (k:Nat) (D:List UInt8) {FG:Nat→Prop} {w:World} (hGl:Glob FG w) (hFG:∀ b,FG b→NK w [] b) {r_:(List Token)×Int×Int} (hF:lx_Scan k D=some r_) :
    Calls TP 12 [.string (bs D)].toArray w fun e w'=>∃ af:Option Addr,∃ ag:Nat,∃ ah:Grp,e = .returned (.tuple #[.slice af (r_.1).length ag,I r_.2.1,I r_.2.2])∧SlO 39 Token.rp (.slice af (r_.1).length ag) (r_.1) ah∧St w (KS []) w' [ah]:=by
 unfold lx_Scan at hF;have S:=St.ofFalse (As:=[]) (St.init0 w);refine enter 47 [(0,.string (bs D))] Tryd.func12 rfl rfl rfl rfl ?_;refine wq (wr (av rfl (av rfl (av rfl (wn (we (wq (wq (wr (mv rfl (wp (G.lenb T.str9 rfl) rfl (wp (G.gtr rfl rfl rfl) rfl (wn (we ?_))))))))))))));rcases io hF with ⟨aq,hF⟩|⟨aq,hF⟩
 ·
  refine ct rfl (dt aq) (wq (wr (av rfl (av rfl (av rfl (wn (we (wrt (wtr ?_)))))))));obtain rfl:=se hF;refine WEx.ret3 rfl rfl rfl rfl ?_;have aZ:=S.emp;exact ⟨none,0,[],rfl,(sn 39 Token.rp),sk aZ⟩
 ·
  refine cf rfl (df aq) (wsk (we (wq (wr (av rfl (wn (we (wq (wq (wr (av rfl (wn (we ?_)))))))))))));refine WCode.block ?_;have aB:=S.emp;refine wg (l':=[(0,.string (bs D)),(5,.slice none 0 0),(6,I 0)]) ⟨rfl,rfl,rfl,trivial⟩ ?_;refine wl (fun n_ l_ w_=>∃ V:Option Addr,∃ X:Nat,∃ E:List Token,∃ ae:Grp,∃ C:Int,l_=[(0,.string (bs D)),(5,.slice V E.length X),(6,I C)]∧lx_Scan.l1 n_ D E C=some r_∧(SlO 39 Token.rp (.slice V E.length X) E ae)∧St w (KS []) w_ [ae]) k ⟨none,0,[],[],0,rfl,hF,(sn 39 Token.rp),aB⟩ ?_;rintro aC _ a2 ⟨V,X,E,ae,C,rfl,hF,Y,J⟩;obtain _ | aD:=aC
  · exact nn hF
  rw [lx_Scan.l1] at hF;refine wq (wq (wr (mv rfl (mv rfl (wp (G.lenb T.str9 rfl) rfl (wp (G.lss rfl rfl rfl) rfl (wn (we ?_))))))));rcases io hF with ⟨aa,hF⟩|⟨aa,hF⟩
  ·
   refine ct rfl (dt aa) (wsk (we ?_));refine WCode.block ?_;refine wq (wr (mv rfl (mv rfl ?_)));obtain ⟨aE,ar,hF⟩:=bo hF;refine wp (G.cutb_l T.str9 rfl rfl ar) rfl ?_;obtain ⟨q,au,hF⟩:=bo hF;refine wc T.call17 (ec rfl en) rfl ?_;refine (lx_next_calls aD aE (hGl.ext (J.keepF hFG)) (St.outF (Bs:=[]) J hFG) au).mono ?_;rintro _ a3 ⟨rfl,aF⟩;have aG:=scT aF J;refine ⟨_,rfl,?_⟩;refine mv rfl (wp (G.extract rfl rfl) rfl (wp (G.extract rfl rfl) rfl (wp (G.extract rfl rfl) rfl ?_)));obtain ⟨aH,a4,aI,aJ,a5,a6⟩:=sv aG (z:=.agg #[I 0,.string (bs []),I 0,I 0]) T.zero39;refine wee aI rfl ?_;obtain ⟨a7,aK,O⟩:=sw aJ 0 (ka q.1) T.size39_4 rfl rfl rfl rfl;refine wuu (aK rfl rfl) ?_;refine av rfl (av rfl (wn (we (wg (l':=[(0,.string (bs D)),(5,.slice V E.length X),(6,I C),(7,(Pt aH)),(8,I q.2.1),(9,I q.2.2)]) ⟨rfl,rfl,rfl,rfl,rfl,rfl,trivial⟩ (wq (wq (wr (mv rfl (wp (G.neq rfl rfl rfl) rfl (wn (we ?_)))))))))));rcases io hF with ⟨ab,hF⟩|⟨ab,hF⟩
   ·
    refine WCode.cond_f (kb rfl (nf (dt ab))) ?_;refine wsk (we (wq (wq (wr (wp (G.field T.fld39_0 rfl rfl) rfl ?_)))));refine wrr (G.load1 T.one3 rfl (cell_blk (O.blk 0 rfl) rfl)) rfl ?_;refine wp (G.neq rfl rfl rfl) rfl (wn (we ?_));rcases io hF with ⟨ad,hF⟩|⟨ad,hF⟩
    ·
     refine WCode.cond_f (kb rfl (nf (dt ad))) ?_;refine wsk (we (wr (mv rfl (mv rfl (wp (G.add rfl rfl (r:=(w64 (C+q.2.1))) rfl) rfl (av rfl (wn (win ?_))))))));have aL:=O.front 1 rfl;refine wag _ _ (by omega) ?_ ⟨V,X,E,ae,w64 (C+q.2.1),rfl,hF,Y,(sk aL)⟩;exact ⟨rfl,rfl,rfl,trivial⟩
    ·
     refine WCode.cond_t (kb rfl (nt (df ad))) ?_;refine wq (wr (mv rfl (wp (G.field T.fld39_3 rfl rfl) rfl ?_)));obtain ⟨a8,aM,ai⟩:=so (P:=TP) O 0 3 (I C) (off:=3) (cur':=#[I q.1.Kind,.string (bs q.1.Text),I q.1.Number,I C]) rfl T.size3_1 rfl rfl rfl;refine wuu (aM rfl rfl) ?_;refine wn (we (wr (mv rfl ?_)));refine wrr (G.loada T.agg39_4 rfl (cs:=[I q.1.Kind,.string (bs q.1.Text),I q.1.Number,I C]) (cb (ai.blk 0 rfl) rfl)) rfl ?_;obtain ⟨a9,aw,aN,aO,a',ba⟩:=sl ai (P:=TP) (t:=35) (e:=39) (n:=1) (vs:=[(0,.agg #[I q.1.Kind,.string (bs q.1.Text),I q.1.Number,I C])]) (cs:=#[I q.1.Kind,.string (bs q.1.Text),I q.1.Number,I C]) (by kernel_rfl);refine wee (aN (fc rfl fn_)) rfl ?_;obtain ⟨aj,ax,hF⟩:=bo hF;have ak:=aO.front 2 rfl;obtain ⟨al,am,aP,bc,aQ,ay,aR,a0⟩:=St.appP (P:=TP) (r:=Token.rp) (M:=([(⟨q.1.Kind,q.1.Text,q.1.Number,C⟩:Token)]:List Token)) ak T.elt35 rfl Y (Rd.of_blk (ak.blk 1 rfl) (n:=1) (sz:=4) rfl) ⟨_,_,[],[],rfl,rfl,⟨rfl,rfl⟩,⟨rfl,rfl⟩⟩ rfl ax;refine wee (aQ rfl rfl) rfl ?_;refine av rfl (wn (we (wg (l':=[(0,.string (bs D)),(5,.slice al aj.length am),(6,I C),(8,I q.2.1)]) ⟨rfl,rfl,rfl,rfl,trivial⟩ (wr (mv rfl (mv rfl (wp (G.add rfl rfl (r:=(w64 (C+q.2.1))) rfl) rfl (av rfl (wn (win ?_))))))))));refine wag _ _ (by omega) ?_ ⟨al,am,aj,aP,w64 (C+q.2.1),rfl,hF,ay,(sk aR)⟩;exact ⟨rfl,rfl,rfl,trivial⟩
   ·
    refine WCode.cond_t (kb rfl (nt (df ab))) ?_;refine wq (wr (mv rfl (mv rfl (av rfl (av rfl (av rfl (wn (we (wg (l':=[(2,.slice none 0 0),(3,I q.2.2),(4,I C)]) ⟨rfl,rfl,rfl,trivial⟩ (wrt (wtr ?_)))))))))));refine WEx.in_ret ?_;refine wtr ?_;refine WEx.in_ret ?_;refine wtr ?_;obtain rfl:=se hF;refine WEx.ret3 rfl rfl rfl rfl ?_;have aS:=O.emp;exact ⟨none,0,[],rfl,(sn 39 Token.rp),sk aS⟩
  ·
   refine cf rfl (df aa) ?_;refine WCode.exit ?_;refine WEx.then_exit ?_;refine WEx.then_exit ?_;refine WEx.in_exit ?_;refine we (wq (wr (mv rfl (mv rfl (wp (G.lenb T.str9 rfl) rfl (wp (G.build (cells:=#[I 5,.string (bs []),I 0,I (D.length:Int)]) (fs_ (fc rfl (fc rfl fn_))) (by kernel_rfl)) rfl ?_))))));obtain ⟨bd,be,aT,aU,bg,bh⟩:=sl J (P:=TP) (t:=35) (e:=39) (n:=1) (vs:=[(0,.agg #[I 5,.string (bs []),I 0,I (D.length:Int)])]) (cs:=#[I 5,.string (bs []),I 0,I (D.length:Int)]) (by kernel_rfl);refine wee (aT (fc rfl fn_)) rfl ?_;obtain ⟨aV,az,hF⟩:=bo hF;have an:=aU.front 1 rfl;obtain ⟨ao,ap,aW,bj,aX,aA,aY,a1⟩:=St.appP (P:=TP) (r:=Token.rp) (M:=([(⟨5,[],0,(D.length:Int)⟩:Token)]:List Token)) an T.elt35 rfl Y (Rd.of_blk (an.blk 1 rfl) (n:=1) (sz:=4) rfl) ⟨_,_,[],[],rfl,rfl,⟨rfl,rfl⟩,⟨rfl,rfl⟩⟩ rfl az;refine wee (aX rfl rfl) rfl ?_;refine av rfl (av rfl (av rfl (wn (we (wg (l':=[(2,.slice ao aV.length ap),(3,I 0),(4,I 0)]) ⟨rfl,rfl,rfl,trivial⟩ (wrt ?_))))));obtain rfl:=se hF;refine WEx.ret3 rfl rfl rfl rfl ?_;exact ⟨ao,ap,aW,rfl,aA,sk aY⟩
end Go.Proofs.YtnhifhlbelogcaaDoor
