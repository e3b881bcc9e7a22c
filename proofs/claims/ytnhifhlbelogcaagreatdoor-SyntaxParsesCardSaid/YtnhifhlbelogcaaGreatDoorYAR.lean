/- The lists of a tree: each has its own memory; 'lists' gives them all. -/
import Derived.Test.YtnhifhlbelogcaaGreatDoorYAQ
set_option linter.unusedVariables false
set_option linter.unusedSimpArgs false
namespace Go.Proofs.YtnhifhlbelogcaaGreatDoor
open Go Go.Eng
theorem U.call12:Callable Tryz.prog 12:=Callable.mk Tryz.func12 (by kernel_rfl) (by kernel_rfl)
theorem U.elt26:Elt Tryz.prog 26 27 1 24:=elt_mk (z:=.slice none 0 0) Tryz.underlying26 (by kernel_rfl) rfl
structure FI where
 A:Option Addr
 c:Nat
 l:List TreeH
 G:Grp
def FI.h (x:FI):Hs:=(x.A,x.l.length,x.c)
def FI.ok (x:FI):Prop:=SlO 29 TreeH.rp (.slice x.A x.l.length x.c) x.l x.G∧x.l.length≤999990
mutual
def cntT:Tree→Nat
 | ⟨_,_,_,_,l⟩=>cntL l+1
def cntL:List Tree→Nat
 | []=>0
 | t::l=>cntT t+cntL l
end
theorem cntT_eq (t:Tree):cntT t=cntL t.Kids+1:=by cases t;rfl
theorem cntL_mem:∀ {l:List Tree} {t:Tree},t∈l→cntT t≤cntL l
 | u::l,t,h=>by
  rw [cntL];rcases List.mem_cons.1 h with rfl | h
  · omega
  · have:=cntL_mem h;omega
theorem cntL_len:∀ l:List Tree,l.length≤cntL l
 | []=>Nat.le_refl _
 | t::l=>by rw [cntL,cntT_eq,List.length_cons];have:=cntL_len l;omega
def ListsC (A:Option Addr) (c:Nat) (kids:List Tree) (FL:List FI) (G:Grp):Prop:=∀ (K:Int) (nm:List UInt8) (x a:Int) (w:World),(∀ b o,(b,o)∈G→w.heap[b]? = some o) →
 Calls Tryz.prog 12 [.agg #[.int .i64 K,.string (bs nm),.int .i64 x,.int .i64 a,.slice A kids.length c]].toArray w fun e w'=>∃ A' c' G',e = .returned (.slice A' (FL.map FI.h).length c')∧SlO 27 Rp.hs (.slice A' (FL.map FI.h).length c') (FL.map FI.h) G'∧St w (KS []) w' [G']
structure Flat (kids:List Tree) (A:Option Addr) (c:Nat) (G:Grp) (FL:List FI):Prop where
 ok:∀ x∈FL,x.ok
 grp:G=FL.flatMap FI.G
 lists:ListsC A c kids FL G
 len:FL.length=cntL kids+1
def FlatP (t:Tree):Prop:=cntT t≤900000→∀ (A:Option Addr) (c:Nat) (G:Grp),SlO 29 Tree.rp (.slice A t.Kids.length c) t.Kids G→∃ FL,Flat t.Kids A c G FL
theorem kids_flat:∀ (l:List Tree) (xs:List Value) (G:Grp),(∀ t∈l,FlatP t∧cntT t≤900000)→elemsO Tree.rp l xs G→∃ (hs:List TreeH) (Fs:List (List FI)),hs.length=l.length∧Fs.length=l.length∧elemsO TreeH.rp hs xs []∧G=Fs.flatten.flatMap FI.G∧(∀ x∈Fs.flatten,x.ok)∧Fs.flatten.length=cntL l ∧
 ∀ (i:Nat) (hi:i < l.length),∃ A c Gi F,hs[i]? = some ⟨l[i].Kind,l[i].Name,l[i].Number,l[i].At,(A,l[i].Kids.length,c)⟩∧Fs[i]? = some F∧(∀ b o,(b,o)∈Gi→(b,o)∈G)∧ListsC A c l[i].Kids F Gi
 | [],xs,G,_,h=>by
  obtain ⟨rfl,rfl⟩:=h;exact ⟨[],[],rfl,rfl,⟨rfl,rfl⟩,rfl,fun x hx=>absurd hx (by simp),rfl,fun i hi=>absurd hi (by simp)⟩
 | t::l,xs,G,hP,h=>by
  obtain ⟨cs,ys,ab,q,rfl,rfl,hown,hel⟩:=h;obtain ⟨A,c,G',rfl,hO,rfl⟩:=Tree.own_iff.1 hown;obtain ⟨FL,hF⟩:=(hP t List.mem_cons_self).1 (hP t List.mem_cons_self).2 A c _ hO;obtain ⟨hs,Fs,e1,C,D,E,J,O,V⟩:=kids_flat l ys q (fun u hu=>hP u (List.mem_cons_of_mem _ hu)) hel;refine ⟨⟨t.Kind,t.Name,t.Number,t.At,(A,t.Kids.length,c)⟩::hs,FL::Fs,by simp [e1],by simp [C],⟨_,ys,[],[],rfl,rfl,⟨rfl,rfl⟩,D⟩,?_,?_,?_,?_⟩
  · rw [List.flatten_cons,List.flatMap_append,← hF.grp,← E]
  · intro x hx
    rw [List.flatten_cons,List.mem_append] at hx;exact hx.elim (hF.ok x) (J x)
  · rw [List.flatten_cons,List.length_append,hF.len,O,cntL,cntT_eq]
  · intro i hi
    cases i with
    | zero=>exact ⟨A,c,_,FL,rfl,rfl,fun b o hb=>List.mem_append_left _ hb,hF.lists⟩
    | succ i =>
     obtain ⟨A',c',Gi,F,X,Y,Z,aa⟩:=V i (by simpa using hi);exact ⟨A',c',Gi,F,X,Y,fun b o hb=>List.mem_append_right _ (Z b o hb),aa⟩
set_option maxRecDepth 100000 in
set_option maxHeartbeats 1000000 in
theorem lists_walk {l:List Tree} {A:Option Addr} {c:Nat} {xs:List Value} {q E:Grp} {hs:List TreeH} {Fs:List (List FI)} (hrow:RowG 29 5 (.slice A hs.length c) hs.length xs q) (hcnt:cntL l+1≤900000)
 (e1:hs.length=l.length) (aE:Fs.length=l.length) (aj:elemsO TreeH.rp hs xs []) (aF:Fs.flatten.length=cntL l)
 (ak:∀ (i:Nat) (hi:i < l.length),∃ A c Gi F,hs[i]? = some ⟨l[i].Kind,l[i].Name,l[i].Number,l[i].At,(A,l[i].Kids.length,c)⟩∧Fs[i]? = some F∧(∀ b o,(b,o)∈Gi→(b,o)∈E)∧ListsC A c l[i].Kids F Gi) :
 ListsC A c l (⟨A,c,hs,q⟩::Fs.flatten) (q++E):=by
 intro K nm x a w hG;have hO':SlO 29 TreeH.rp (.slice A hs.length c) hs q:=⟨xs,q,[],hrow,aj,(List.append_nil _).symm⟩;have hllen:l.length≤1000000:=by have:=cntL_len l;omega
 have hNK:∀ b,b∈keys (q++E)→NK w [] b:=fun b hb=>by
  refine ⟨by simp [keys],?_⟩;obtain ⟨⟨k,o⟩,hko,rfl⟩:=List.mem_map.1 hb;have:=hG k o hko;rcases Nat.lt_or_ge k w.heap.size with h | h
  · exact h
  · rw [Array.getElem?_eq_none h] at this;cases this
 have S:=St.ofFalse (As:=[]) (St.init0 w);refine enter 24 [(0,.agg #[.int .i64 K,.string (bs nm),.int .i64 x,.int .i64 a,.slice A l.length c])] Tryz.func12 rfl rfl rfl rfl ?_;refine WCode.seq ?_;refine WCode.region ?_;obtain ⟨J,w1,al,ad,aG,aH⟩:=St.box S Tryz.prog 29 (.agg #[.int .i64 K,.string (bs nm),.int .i64 x,.int .i64 a,.slice A l.length c]);refine WOps.e (al rfl) rfl ?_;refine WOps.p (G.assign rfl) rfl ?_;refine WOps.nil ?_;refine WEx.then_ ?_;refine WCode.seq ?_;refine WCode.region ?_;refine WOps.p (G.field T.fld29_4 rfl (show 0+4=4 from rfl)) rfl ?_;refine WOps.r (G.load1 T.one27 rfl (cell_blk (ad.blk 0 rfl) rfl)) rfl ?_;obtain ⟨b2,aI,am,an,aJ,aK⟩:=St.lit ad (P:=Tryz.prog) (t:=26) (e:=27) (n:=1) (vs:=[(0,.slice A l.length c)]) (cs:=#[.slice A l.length c]) (by kernel_rfl);refine WOps.e (am (evp_cons rfl evp_nil)) rfl ?_;refine WOps.p (G.assign rfl) rfl ?_;refine WOps.nil ?_;refine WEx.then_ ?_;refine WCode.seq ?_;refine WCode.seq ?_;refine WCode.region ?_;refine WOps.p (G.assign rfl) rfl ?_;refine WOps.nil ?_;refine WEx.then_ ?_;refine WCode.block ?_;have Z:SlO 27 Rp.hs (.slice (some ⟨b2,0,none⟩) ([((A,l.length,c):Hs)]:List Hs).length 1) [((A,l.length,c):Hs)] ([(b2,.cells #[.slice A l.length c] 27 (0,0))]++[]):=SlO.lit (GM:=[]) ⟨_,_,[],[],rfl,rfl,⟨rfl,rfl⟩,⟨rfl,rfl⟩⟩ rfl (Nat.le_of_ble_eq_true rfl) (Nat.le_of_ble_eq_true rfl);rw [List.append_nil] at Z;refine WCode.forget (l':=[(1,.pointer (some ⟨J,0,none⟩)),(3,.slice (some ⟨b2,0,none⟩) 1 1),(4,.int .i64 0)]) ⟨rfl,rfl,rfl,trivial⟩ ?_;refine WCode.loop (fun n_ l_ w_=>∃ (i:Nat) (X:Option Addr) (c3:Nat) (L:List Hs) (D:Grp),n_=l.length - i∧i≤l.length∧l_=[(1,.pointer (some ⟨J,0,none⟩)),(3,.slice X L.length c3),(4,.int .i64 (i:Int))]∧L=(A,l.length,c)::((Fs.take i).flatten.map FI.h)∧SlO 27 Rp.hs (.slice X L.length c3) L D∧St w (KS []) w_ [D,[(J,.cells #[.int .i64 K,.string (bs nm),.int .i64 x,.int .i64 a,.slice A l.length c] 29 (0,0))]]) l.length
  ⟨0,some ⟨b2,0,none⟩,1,[(A,l.length,c)],_,rfl,Nat.zero_le _,rfl,rfl,Z,an⟩ ?_
 rintro aL _ ab ⟨i,X,c3,L,D,hn,hil,rfl,hL,aa,O⟩;refine WCode.seq ?_;refine WCode.seq ?_;refine WCode.region ?_;refine WOps.p (G.move rfl) rfl ?_;refine WOps.p (G.field T.fld29_4 rfl (show 0+4=4 from rfl)) rfl ?_;refine WOps.r (G.load1 T.one27 rfl (cell_blk (O.blk 1 rfl) rfl)) rfl ?_;refine WOps.p (G.len T.el27 rfl) rfl ?_;refine WOps.p (G.lss rfl rfl rfl) rfl ?_;refine WOps.nil ?_;refine WEx.then_ ?_;by_cases h:i < l.length
 · refine WCode.cond_t (kb (b:=decide ((i:Int) < (l.length:Int))) rfl (decide_eq_true (by omega))) ?_
   refine WCode.skip ?_;refine WEx.then_ ?_;refine WCode.seq ?_;refine WCode.block ?_;refine WCode.region ?_;refine WOps.p (G.move rfl) rfl ?_;refine WOps.p (G.field T.fld29_4 rfl (show 0+4=4 from rfl)) rfl ?_;refine WOps.r (G.load1 T.one27 rfl (cell_blk (O.blk 1 rfl) rfl)) rfl ?_;refine WOps.p (G.move rfl) rfl ?_;obtain ⟨Ai,ci,Gi,F,ao,Y,ap,aq⟩:=ak i h;have hk:=O.keepF (As:=[]) (F:=fun b=>b∈keys (q++E)) hNK;have hnow:∀ b o,(b,o)∈q++E→ab.heap[b]? = some o:=fun b o hb=>(hk b (mem_keys hb)).trans (hG b o hb)
   have hR:SlR TreeH.rp ab (·∈keys q) A c hs:=hO'.rd (fun b o hb=>hnow b o (List.mem_append_left _ hb));obtain ⟨aM,ar,cs,eA,hFb,hc,hrd⟩:=SlR.at_ hR ao;have hq:cs=[.int .i64 l[i].Kind,.string (bs l[i].Name),.int .i64 l[i].Number,.int .i64 l[i].At,.slice Ai l[i].Kids.length ci]:=hrd;subst hq;change cellsAt _ _ (ar+i * 5) _ at hc;refine WOps.p (G.idx T.el27 rfl eA rfl rfl h) rfl ?_;refine WOps.r (G.loada T.agg29_5 rfl (cs:=[.int .i64 l[i].Kind,.string (bs l[i].Name),.int .i64 l[i].Number,.int .i64 l[i].At,.slice Ai l[i].Kids.length ci]) hc) rfl ?_;refine WOps.call U.call12 (evs_cons rfl evs_nil) rfl ?_;refine (aq _ _ _ _ ab (fun b o hb=>hnow b o (List.mem_append_right _ (ap b o hb)))).mono ?_;rintro _ aN ⟨aO,c4,au,rfl,ae,ax⟩;have ay:=St.callN (As:=[]) O ax;refine ⟨_,rfl,?_⟩;have af:=ay.front 1 rfl;change St _ _ _ [D,au,[(J,.cells #[.int .i64 K,.string (bs nm),.int .i64 x,.int .i64 a,.slice A l.length c] 29 (0,0))]] at af;have hFlen:(Fs.take i).flatten.length+F.length≤Fs.flatten.length:=by
    have C:i < Fs.length:=by omega
    have V:Fs[i]=F:=by rw [List.getElem?_eq_getElem C] at Y;exact Option.some.inj Y
    have az:(Fs.take (i+1)).flatten=(Fs.take i).flatten++F:=by rw [List.take_succ_eq_append_getElem C,List.flatten_append,V];simp
    have aA:Fs.flatten=(Fs.take (i+1)).flatten++(Fs.drop (i+1)).flatten:=by rw [← List.flatten_append,List.take_append_drop]
    rw [aA,List.length_append,az,List.length_append]
    omega
   have hlen:L.length+(F.map FI.h).length≤68719476736:=by
    rw [hL,List.length_cons,List.length_map,List.length_map]
    omega
   obtain ⟨ag,ah,aB,aP,aC,ai,aD⟩:=St.appO (P:=Tryz.prog) af U.elt26 rfl aa ae (cat_at hlen);refine WOps.e (aC rfl rfl) rfl ?_;refine WOps.p (G.assign rfl) rfl ?_;refine WOps.nil ?_;refine WEx.in_normal ?_;refine WEx.then_ ?_;refine WCode.region ?_;refine WOps.p (G.move rfl) rfl ?_;refine WOps.p (G.add rfl rfl rfl) rfl ?_;refine WOps.p (G.assign rfl) rfl ?_;refine WOps.nil ?_;have hw:w64 ((i:Int)+1)=((i+1:Nat):Int):=w64_succ (by omega);refine WEx.again (l.length - (i+1)) [(1,.pointer (some ⟨J,0,none⟩)),(3,.slice ag (L++F.map FI.h).length ah),(4,.int .i64 ((i+1:Nat):Int))] (by omega) ⟨rfl,rfl,by rw [← hw];rfl,trivial⟩ ⟨i+1,ag,ah,L++F.map FI.h,aB,rfl,h,rfl,?_,ai,aD⟩;have C:i < Fs.length:=by omega
   have V:Fs[i]=F:=by rw [List.getElem?_eq_getElem C] at Y;exact Option.some.inj Y
   rw [hL,List.take_succ_eq_append_getElem C,List.flatten_append,V]
   simp
 · refine WCode.cond_f (kb (b:=decide ((i:Int) < (l.length:Int))) rfl (decide_eq_false (by omega))) ?_
   refine WCode.exit ?_;refine WEx.then_exit ?_;refine WEx.then_exit ?_;refine WEx.in_exit ?_;refine WEx.then_ ?_;refine WCode.seq ?_;refine WCode.region ?_;refine WOps.p (G.move rfl) rfl ?_;refine WOps.p (G.assign rfl) rfl ?_;refine WOps.nil ?_;refine WEx.then_ ?_;refine WCode.ret ?_;refine WEx.ret1 rfl rfl ?_;have hLe:L=(((⟨A,c,hs,q⟩:FI)::Fs.flatten).map FI.h):=by
    rw [hL,List.take_of_length_le (by omega),List.map_cons]
    show _=(A,hs.length,c)::_
    rw [e1]
   rw [← hLe];exact ⟨X,c3,D,rfl,aa,St.keep (As:=[D]) O⟩
theorem flat_all {t:Tree} (h:Sm t):FlatP t:=by
 induction h with
 | @mk K nm x a l hl hs ih =>
  intro hcnt A c G hO;have hcnt':cntL l+1≤900000:=hcnt;obtain ⟨xs,q,E,hrow,hel,rfl⟩:=hO;obtain ⟨hs',Fs,e1,J,C,O,V,D,X⟩:=kids_flat l xs E (fun t ht=>⟨ih t ht,by have:=cntL_mem ht;omega⟩) hel;have hrow':RowG 29 5 (.slice A hs'.length c) hs'.length xs q:=by rw [e1];exact hrow
  refine ⟨⟨A,c,hs',q⟩::Fs.flatten,?_,?_,?_,?_⟩
  · intro y hy
    rcases List.mem_cons.1 hy with rfl | hy
    · refine ⟨⟨xs,q,[],hrow',C,(List.append_nil _).symm⟩,?_⟩
      have:=cntL_len l
      show hs'.length≤999990
      omega
    · exact V y hy
  · rw [List.flatMap_cons,← O]
  · exact lists_walk hrow' hcnt' e1 J C D X
  · rw [List.length_cons,D]
end Go.Proofs.YtnhifhlbelogcaaGreatDoor
