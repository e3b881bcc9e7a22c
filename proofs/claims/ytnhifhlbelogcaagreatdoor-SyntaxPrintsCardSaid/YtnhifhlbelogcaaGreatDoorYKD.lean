/- PROVED: SyntaxPrints returns true for every two trees and every place. No condition beside the card's own. -/
import Derived.Test.YtnhifhlbelogcaaGreatDoorYRA
import Derived.Test.YtnhifhlbelogcaaGreatDoorYPG
import Derived.Test.YtnhifhlbelogcaaGreatDoorYKA
import Derived.Test.YtnhifhlbelogcaaGreatDoorCards
import Derived.Test.YtnhifhlbelogcaaGreatDoorTie
import Derived.Test.YtnhifhlbelogcaaGreatDoorYPtrs
import Derived.SizedLaws
import Derived.WalkKit
import Derived.ProofKit
import Derived.OpenShut
import Derived.ChangeMaps5
import Derived.Deep.DeepHandedRow
import Derived.Deep.DeepWitnessRowRef
import Derived.Lib.LaidTab
import Derived.Lib.LaidU8
set_option linter.unusedVariables false
set_option linter.unusedSimpArgs false
namespace Go.Proofs.YtnhifhlbelogcaaGreatDoor
open Go Go.Eng
theorem add_ (k:Nat) {a b:Int} (ha:0≤a) (ha':a≤1125899906842624) (hb:0≤b) (hb':b≤1125899906842624):∃ r,(∀ k,sy_add k a b=some r)∧0≤r∧r≤2147483648∧(r≤2147483647→r=a+b):=by
 unfold sy_add;rw [w64_of (n:=2147483647 - a) (by omega) (by omega),w64_of (n:=a+b) (by omega) (by omega)];by_cases h:2147483647 - a < b
 · exact ⟨2147483648,fun k=>by rw [if_pos h],by omega,by omega,by omega⟩
 · exact ⟨a+b,fun k=>by rw [if_neg h],by omega,by omega,fun _=>rfl⟩
theorem thrice_ {a:Int} (ha:0≤a) (ha':a≤1125899906842624):∃ r,(∀ k,sy_thrice k a=some r)∧0≤r∧r≤2147483648∧(r≤2147483647→r=3 * a):=by
 obtain ⟨V,q,C,X,e1⟩:=add_ 0 ha ha' ha ha';obtain ⟨D,E,J,q2,O⟩:=add_ 0 ha ha' C (by omega);refine ⟨D,fun k=>?_,J,q2,fun h=>?_⟩
 · unfold sy_thrice
   rw [q,Option.bind_some,E]
   rfl
 · have:=O h
   have:=e1 (by omega)
   omega
theorem size_ {t:Tree} (h:OkT t):∀ dp:Nat,dp≤65536→∃ r:Int,Ev (fun k=>sy_size k t (dp:Int)) r∧0≤r∧r≤2147483648∧(r≤2147483647→(wt t:Int)≤r):=by
 induction h with
 | @mk K nm x a l hl hn hx hs ih =>
  intro dp hdp;by_cases D:(65536:Int)≤(dp:Int)
  · refine ⟨2147483648,Ev.unf ?_,by omega,by omega,by omega⟩
    simp only [sy_size];exact ep D et
  · obtain ⟨J,O,V,X,Y⟩:=add_ 0 (a:=(nm.length:Int)) (b:=500) (by omega) (by omega) (by omega) (by omega)
    have loop:∀ (d i:Nat) (y:Int),l.length - i=d→i≤l.length→0≤y→y≤2147483648→∃ r:Int,Ev (fun k=>sy_size.l1 k (⟨K,nm,x,a,l⟩:Tree) (dp:Int) y (i:Int)) r∧0≤r∧r≤2147483648∧(r≤2147483647→y+(wtL (l.drop i):Int)≤r):=by
     intro d
     induction d with
     | zero =>
      intro i y Z aa C E;refine ⟨y,Ev.unf ?_,C,E,fun _=>by rw [List.drop_eq_nil_of_le (by omega),wtL];omega⟩;simp only [sy_size.l1];refine eg (by omega) (Ev.unf ?_);simp only [sy_size.j1];exact eg (by simp) et
     | succ d ihd =>
      intro i y Z aa C E;have hi:i < l.length:=by omega
      by_cases hy:y≤2147483647
      · obtain ⟨an,ab,ad,ao,e1⟩:=ih l[i] (List.getElem_mem hi) (dp+1) (by omega)
        obtain ⟨ae,af,ag,q2,ah⟩:=add_ 0 C (by omega) ad (by omega);obtain ⟨ai,aj,ak,al,am⟩:=ihd (i+1) ae (by omega) (by omega) ag q2;refine ⟨ai,Ev.unf ?_,ak,al,fun h=>?_⟩
        · simp only [sy_size.l1]
          refine ep (by omega) (Ev.unf ?_);simp only [sy_size.j1];refine ep (decide_eq_true hy) (ebc (idx_at rfl hi) ?_);rw [w64_succ (by omega)];refine eb ab (eb (ea af) ?_);rw [w64_succ (by omega)];exact aj
        · have:=am h
          have:=ah (by omega);have:=e1 (by omega);rw [List.drop_eq_getElem_cons hi,wtL]
          omega
      · refine ⟨y,Ev.unf ?_,C,E,fun h=>absurd h hy⟩
        simp only [sy_size.l1];refine ep (by omega) (Ev.unf ?_);simp only [sy_size.j1];exact eg (by simpa using hy) et
    obtain ⟨r,h,p,q,e⟩:=loop l.length 0 J rfl (Nat.zero_le _) V X;refine ⟨r,Ev.unf ?_,p,q,fun h=>?_⟩
    · simp only [sy_size]
      exact eg D (eb (ea O) h)
    · have:=e h
      have:=Y (by omega);rw [List.drop_zero] at *;rw [wt]
      omega
def SW:List NK→Nat
 | []=>0
 | p::l=>max (tokLen p.1) (tokLen p.2)+10+SW l
theorem SW_app:∀ l m:List NK,SW (l++m)=SW l+SW m
 | [],m=>by rw [List.nil_append,SW,Nat.zero_add]
 | p::l,m=>by rw [List.cons_append,SW,SW,SW_app l m];omega
theorem each_len (s:Tk) (hs:tokLen s≤2):∀ l:List NK,tokLen (eachT l s)≤SW l
 | []=>Nat.le_refl _
 | p::l=>by
  have:=each_len s hs l;unfold eachT at this ⊢;rw [List.map_cons,List.flatten_cons,tokLen_append,tokLen_append,SW];omega
theorem comma_len:∀ l:List NK,tokLen ((l.map fun q=>[44]::q.1).flatten)≤SW l
 | []=>Nat.le_refl _
 | p::l=>by
  have:=comma_len l;have h:tkl [44]=2:=rfl;rw [List.map_cons,List.flatten_cons,tokLen_append,tokLen,SW];omega
theorem betw_len (l:List NK):tokLen (betwT l)≤SW l:=by
 cases l with
 | nil=>exact Nat.le_refl _
 | cons p l =>
  have:=comma_len l;rw [betwT,tokLen_append,SW];omega
theorem defs_len:∀ l:List NK,tokLen ((l.map (·.2)).flatten)≤SW l
 | []=>Nat.le_refl _
 | p::l=>by
  have:=defs_len l;rw [List.map_cons,List.flatten_cons,tokLen_append,SW];omega
theorem cases_len:∀ l:List NK,tokLen ((l.map fun p=>[99,97,115,101]::(p.1++[[58]])).flatten)≤SW l
 | []=>Nat.le_refl _
 | p::l=>by
  have:=cases_len l;have h:tkl [99,97,115,101]=5:=rfl;have h:tokLen [[58]]=2:=rfl;rw [List.map_cons,List.flatten_cons,tokLen_append,tokLen,tokLen_append,SW];omega
theorem kid0 (l:List NK):tokLen (kidT l 0)+SW (l.drop 1)≤SW l+2:=by
 cases l with
 | nil=>exact Nat.le_refl _
 | cons p l=>show tokLen p.1+SW l≤SW (p::l)+2;rw [SW];omega
theorem kid01 (l:List NK):tokLen (kidT l 0)+tokLen (kidT l 1)+SW (l.drop 2)≤SW l+4:=by
 cases l with
 | nil=>exact Nat.le_refl _
 | cons p l =>
  have:=kid0 l
  show tokLen p.1+tokLen (kidT l 0)+SW (l.drop 1)≤SW (p::l)+4
  rw [SW];omega
theorem itoa_nat (u:Nat):Lib.itoa (u:Int)=Lib.decDigits u:=by unfold Lib.itoa;rw [if_neg (by omega)];simp
theorem itoa_neg (u:Nat) (h:1≤u):Lib.itoa (-(u:Int))=45::Lib.decDigits u:=by unfold Lib.itoa;rw [if_pos (by omega)];simp
theorem itoa_len {x:Int} (h:NB x):(Lib.itoa x).length≤20:=by
 obtain ⟨q,C⟩:=h;by_cases D:0≤x
 · obtain ⟨u,hu⟩:∃ u:Nat,x=(u:Int):=⟨x.toNat,by omega⟩
   rw [hu,itoa_nat];have:=dec_len 19 u (by omega) (by omega)
   omega
 · obtain ⟨u,hu⟩:∃ u:Nat,x = -(u:Int):=⟨x.natAbs,by omega⟩
   rw [hu,itoa_neg u (by omega),List.length_cons];have:=dec_len 19 u (by omega) (by omega)
   omega
theorem plainT_tok (K:Int):tokLen (plainT K)≤22:=by
 unfold plainT
 repeat' split
 all_goals decide
theorem tok_ite {c:Prop} [Decidable c] {A B:Tk} {n:Nat} (q:tokLen A≤n) (C:tokLen B≤n):tokLen (if c then A else B)≤n:=by
 split
 · exact q
 · exact C
theorem wS_len (K:Int) (nm:By) {x:Int} (hx:NB x) (l:List NK):tokLen (wS K nm x l)≤100+nm.length+SW l:=by
 have q:=kid0 l;have C:=kid01 l;have he:=each_len [] (by decide) (l.drop 1);have ht:=(tl_le nm).2.1;have hi:=itoa_len hx;have hti:=(tl_le (Lib.itoa x)).2.1;have hp:=plainT_tok K;have c1:tkl [91]=2:=rfl;have c2:tkl [93]=2:=rfl;have c3:tkl [60]=2:=rfl;have c4:tkl [62]=2:=rfl;have D:tkl [42]=2:=rfl;unfold wS;refine tok_ite ?_ (tok_ite ?_ (tok_ite ?_ (tok_ite ?_ (tok_ite ?_ (tok_ite ?_ ?_)))))
 all_goals (try simp only [tokLen_append,tokLen])
 all_goals omega
theorem wN_len (K:Int) (nm:By) {x:Int} (hx:NB x) (l:List NK):tokLen (wN K nm x l)≤200+nm.length+SW l:=by
 have V:=kid0 l;have X:=kid01 l;have D:=each_len [[59]] (by decide) l;have E:=each_len [[59]] (by decide) (l.drop 1);have he:=each_len [] (by decide) (l.drop 1);have hb:=betw_len l;have J:=betw_len (l.drop 2);have hd:=defs_len l;have hc:=cases_len (l.take (l.length - 1));have O:=each_len [] (by decide) (l.drop (l.length - 1));have q:=SW_app (l.take (l.length - 1)) (l.drop (l.length - 1));rw [List.take_append_drop] at q;have ht:=(tl_le nm).2.1;have hS:=wS_len K nm hx l;have c1:tkl [101,110,117,109]=5:=rfl;have c2:tkl [115,116,114,117,99,116]=7:=rfl;have c3:tkl [117,110,105,111,110]=6:=rfl;have c4:tkl [115,119,105,116,99,104]=7:=rfl;have C:tkl [100,101,102,97,117,108,116]=8:=rfl;have c6:tkl [112,114,111,103,114,97,109]=8:=rfl;have c7:tkl [118,101,114,115,105,111,110]=8:=rfl;have c8:∀ c:UInt8,tkl [c]=2:=fun _=>rfl
 unfold wN;refine tok_ite ?_ (tok_ite ?_ (tok_ite ?_ (tok_ite ?_ (tok_ite ?_ (tok_ite ?_ (tok_ite ?_ (tok_ite ?_ (tok_ite ?_ (tok_ite ?_ ?_)))))))))
 all_goals (try simp only [tokLen_append,tokLen,c1,c2,c3,c4,C,c6,c7,c8])
 all_goals omega
theorem nk_len {t:Tree} (h:OkT t):max (tokLen (nk t).1) (tokLen (nk t).2)+10≤wt t:=by
 induction h with
 | @mk K nm x a l hl hn hx hs ih =>
  have hw:∀ m:List Tree,(∀ t∈m,max (tokLen (nk t).1) (tokLen (nk t).2)+10≤wt t)→SW (m.map nk)≤wtL m:=by
   intro m
   induction m with
   | nil=>intro _;exact Nat.le_refl _
   | cons t m ihm =>
    intro h;have q:=ihm fun u hu=>h u (List.mem_cons_of_mem _ hu)
    have C:=h t List.mem_cons_self;rw [List.map_cons,SW,wtL];omega
  have q:=hw l ih;have C:=wN_len K nm hx (l.map nk);have D:=kid0 (l.map nk);have ht:=(tl_le nm).2.1;have c1:tkl [99,111,110,115,116]=6:=rfl;have c2:tkl [116,121,112,101,100,101,102]=8:=rfl;have c3:tkl [61]=2:=rfl;have c4:tkl [59]=2:=rfl;have E:tokLen (wD K nm x (l.map nk))≤210+nm.length+SW (l.map nk):=by
   unfold wD;refine tok_ite ?_ (tok_ite ?_ ?_)
   all_goals simp only [tokLen_append,tokLen]
   all_goals omega
  rw [nk_eq,wt]
  show max (tokLen (wN K nm x (l.map nk))) (tokLen (wD K nm x (l.map nk)))+10≤_
  omega
theorem pick_ {c n:Int} (hc:-9223372036854775808≤c) (hc':c < 9223372036854775808) (hn:0 < n):∃ r:Nat,(r:Int) < n∧∀ k,sy_pick k c n=some (r:Int):=by
 unfold sy_pick;by_cases h:c < 0
 · rw [w64_of (n:=c+1) (by omega) (by omega),w64_of (n:=-(c+1)) (by omega) (by omega)]
   have q:=Int.tmod_nonneg (a:=-(c+1)) n (by omega);have C:=Int.tmod_lt_of_pos (-(c+1)) hn;refine ⟨((-(c+1)).tmod n).toNat,by omega,fun k=>?_⟩;rw [if_pos h,if_neg (by omega)]
   congr 1
   omega
 · have q:=Int.tmod_nonneg (a:=c) n (by omega)
   have C:=Int.tmod_lt_of_pos c hn;refine ⟨(c.tmod n).toNat,by omega,fun k=>?_⟩;rw [if_neg h,if_neg (by omega)]
   congr 1
   omega
def Evl (p:Nat→Prop):Prop:=∃ q,∀ k,q≤k→p k
theorem Evl.and {p q:Nat→Prop} (h:Evl p) (h':Evl q):Evl fun k=>p k∧q k:=by
 obtain ⟨a,h⟩:=h;obtain ⟨b,h'⟩:=h';exact ⟨a+b,fun k hk=>⟨h k (by omega),h' k (by omega)⟩⟩
theorem Evl.awake:Evl fun k=>sy_awake k=some true:=⟨60,fun k h=>by
 obtain ⟨d,rfl⟩:=Nat.exists_eq_add_of_le h;rw [Nat.add_comm];exact sy_awake_k d⟩
theorem OkT.sm {t:Tree} (h:OkT t):wt t≤2147483647→Sm t:=by
 induction h with
 | @mk K nm x a l q C D E ih =>
  intro hw;rw [wt] at hw;have hl:=wtL_len l;refine .mk (by omega) fun t ht=>ih t ht ?_
  obtain ⟨i,hi,e⟩:=List.getElem_of_mem ht;have:=wtL_mem (List.getElem?_eq_getElem hi);rw [e] at this
  omega
theorem wtL_set {u:Tree}:∀ (l:List Tree) (j:Nat),wtL (l.set j u)≤wtL l+wt u
 | [],_=>Nat.le_add_right _ _
 | t::l,0=>by rw [List.set_cons_zero,wtL,wtL];omega
 | t::l,j+1=>by have:=wtL_set (u:=u) l j;rw [List.set_cons_succ,wtL,wtL];omega
theorem tok_len {t:Tree} (h:OkT t) (hw:wt t≤2147483647):tokLen (nk t).1≤BB:=by
 have:=nk_len h;simp only [BB]
 omega
theorem sames {t u:Tree} (h:Sm t):∃ b,(Evl fun k=>ps_Same k t u=some b)∧(Evl fun k=>rf_Same k t u=some b):=by
 obtain ⟨b,hb,eB⟩:=same_ h u;obtain ⟨b',hb',eB'⟩:=rsame_ h u;obtain rfl:b=b':=by rw [Bool.eq_iff_iff,eB,eB']
 exact ⟨b,hb,hb'⟩
theorem law_H {t u:Tree} (ht:OkT t) (hu:OkT u) {at_:Int} (ha:NB at_):∃ k E J O D,sy_size k t 0=some E∧sy_size k u 0=some J∧sy_add k E J=some O∧sy_thrice k O=some D ∧
 (¬ 2147483647 < D→sy_awake k=some true∧wt t < 2147483648∧∃ p b,ps_Print k t=some p∧rp_Print k t=some p∧ps_Same k t u=some b∧rf_Same k t u=some b∧ps_Same k t t=some true ∧
  (t.Kids.length≠0→∃ j,j < t.Kids.length∧sy_pick k at_ (t.Kids.length:Int)=some (j:Int)∧∃ p b,ps_Print k (tsw t j u)=some p∧rp_Print k (tsw t j u)=some p∧ps_Same k (tsw t j u) t=some b∧rf_Same k (tsw t j u) t=some b)):=by
 obtain ⟨E,q,ai,ax,e1⟩:=size_ ht 0 (by omega);obtain ⟨J,C,aj,q2,ak⟩:=size_ hu 0 (by omega);obtain ⟨O,ag,al,ay,am⟩:=add_ 0 ai (by omega) aj (by omega);obtain ⟨D,ah,az,q4,an⟩:=thrice_ al (by omega);by_cases hr:2147483647 < D
 · obtain ⟨k,h⟩:=Evl.and q C
   obtain ⟨q,C⟩:=h k (Nat.le_refl _);exact ⟨k,E,J,O,D,q,C,ag k,ah k,fun h=>absurd hr h⟩
 · have ap:=an (by omega)
   have aq:=am (by omega);have ar:=e1 (by omega);have au:=ak (by omega);have hsm:=ht.sm (by omega);obtain ⟨p,V,X⟩:=prints_ ht (tok_len ht (by omega));obtain ⟨b,Y,Z⟩:=sames (u:=u) hsm;obtain ⟨b',aa,eB⟩:=same_ hsm t;obtain rfl:=eB.2 rfl;have F:=Evl.and q (Evl.and C (Evl.awake.and (Evl.and V (Evl.and X (Y.and (Z.and aa))))));by_cases ao:t.Kids.length=0
   · obtain ⟨k,h⟩:=F
     obtain ⟨q,C,fa,V,X,Y,Z,aa⟩:=h k (Nat.le_refl _);exact ⟨k,E,J,O,D,q,C,ag k,ah k,fun _=>⟨fa,by omega,p,b,V,X,Y,Z,aa,fun h=>absurd ao h⟩⟩
   · obtain ⟨j,hj,hk⟩:=pick_ (c:=at_) (n:=(t.Kids.length:Int)) ha.1 (by have:=ha.2;omega) (by omega)
     have hs:wt (tsw t j u)≤wt t+wt u:=by
      have:=wtL_set (u:=u) t.Kids j;rw [wt_eq,wt_eq t]
      show t.Name.length+500+wtL (t.Kids.set j u)≤_
      omega
     have ho:OkT (tsw t j u):=by
      obtain ⟨ab,ad,ae,af⟩:=ht;refine .mk (by rw [List.length_set];exact ab) ad ae fun v hv=>?_
      rcases List.mem_or_eq_of_mem_set hv with hv | rfl
      · exact af v hv
      · exact hu
     obtain ⟨p',ab,ad⟩:=prints_ ho (tok_len ho (by omega));obtain ⟨b',ae,af⟩:=sames (u:=t) (ho.sm (by omega));obtain ⟨k,h⟩:=F.and (Evl.and ab (Evl.and ad (ae.and af)));obtain ⟨⟨q,C,fa,V,X,Y,Z,aa⟩,ab,ad,ae,af⟩:=h k (Nat.le_refl _);exact ⟨k,E,J,O,D,q,C,ag k,ah k,fun _=>⟨fa,by omega,p,b,V,X,Y,Z,aa,fun _=>⟨j,by omega,hk k,p',b',ab,ad,ae,af⟩⟩⟩
end Go.Proofs.YtnhifhlbelogcaaGreatDoor
set_option linter.unusedVariables false
namespace Go.Eng
open Go Go.RowKit Go.WideShapes Go.ChangeShapes Go.Deep
section
variable {H:Type} {enc:TypeId×Value→H} {P:Program} {α:Type} {r:Rp α} {w:World} {F:Nat→Prop}
theorem elems.snoc {x:α} {cs:List Value} (h:r.rd w F x cs):∀ {L:List α} {xs:List Value},elems r w F L xs→elems r w F (L++[x]) (xs++cs)
 | [],_,q=>by cases q;exact ⟨cs,[],by simp,h,rfl⟩
 | y::L,_,⟨ds,ys,e,C,D⟩=>by subst e;exact ⟨ds,ys++cs,by simp,C,elems.snoc h D⟩
theorem cell_none {a:Addr} {v:Value} (h:w.cell? a=some v):a.spot=none∧a.block < w.heap.size:=by
 obtain ⟨b,o,sp⟩:=a;have hsp:sp=none:=by
  unfold World.cell? at h;cases sp with
  | none=>rfl
  | some q=>split at h <;> simp at h
 refine ⟨hsp,?_⟩;rcases Nat.lt_or_ge b w.heap.size with hl | hl
 · exact hl
 · unfold World.cell? at h
   simp [Array.getElem?_eq_none hl] at h
def Old (w:World):Nat→Prop:=fun b=>b < w.heap.size
theorem Old.nk {w:World}:∀ b,Old w b→NK w [] b:=fun b h=>⟨by simp [keys],h⟩
theorem fld {base:Nat} {spare:Nat→Bool} {held:Bool} {fs:Array Field} {m:Nat} {cs:List Value} {xs:List (DataW H×List MemPlace)} (hf:∀ (i:Nat) (f:Field),fs[i]? = some f→DataW.trod enc P w base spare held m f.type ((cs.drop f.offset).take (P.cellsOf f.type))=xs[i]?)
 (i t o k:Nat) (q:(fs[i]?).map (fun f=>(f.type,f.offset))=some (t,o)) (hk:P.cellsOf t=k) {x:DataW H×List MemPlace} (hx:xs[i]? = some x):DataW.trod enc P w base spare held m t ((cs.drop o).take k)=some x:=by
 cases hi:fs[i]? with
 | none=>rw [hi] at q;cases q
 | some f =>
  rw [hi] at q;simp only [Option.map_some,Option.some.injEq,Prod.mk.injEq] at q;have:=hf i f hi;rw [q.1,q.2,hk,hx] at this;exact this
def Light (P:Program) (t:TypeId) (d:DataW H):Prop:=∀ n∈d.weights P t,n≤reachBytes
theorem weightsAll_mem {e:TypeId}:∀ {ds:List (DataW H)} {d:DataW H},d∈ds→∀ n∈d.weights P e,n∈DataW.weightsAll P e ds
 | x::ds,d,h,n,hn=>by
  simp only [DataW.weightsAll,List.mem_append];rcases List.mem_cons.1 h with rfl | h
  · exact .inl hn
  · exact .inr (weightsAll_mem h n hn)
theorem Light.slice {t e:TypeId} {els sp:List (DataW H)} (ht:P.underlying t=some (.slice e)) (h:Light P t (.slice els sp)):(els.length+sp.length) * P.bytesOf e≤reachBytes∧∀ d∈els,Light P e d:=by
 refine ⟨h _ (by unfold DataW.weights;rw [ht];exact List.mem_cons_self),fun d hd n hn=>h n ?_⟩;unfold DataW.weights;rw [ht];exact List.mem_cons_of_mem _ (List.mem_append_left _ (weightsAll_mem hd n hn))
theorem Light.field {t:TypeId} {fs:Array Field} {ds:List (DataW H)} (ht:P.underlying t=some (.struct fs)) (h:Light P t (.agg ds)) {i:Nat} {f:Field} {d:DataW H} (hf:fs[i]? = some f) (hd:ds[i]? = some d):Light P f.type d:=fun n hn=>h n (by
 unfold DataW.weights;rw [ht];exact DataW.weights_mem_each (j:=i) (by rw [List.getElem?_map,Array.getElem?_toList,hf];rfl) hd n hn)
theorem fldL {fs:Array Field} {xs:List (DataW H×List MemPlace)} {T:TypeId} (hT:P.underlying T=some (.struct fs)) (hL:Light P T (.agg (xs.map (·.1))))
 (i t o:Nat) (q:(fs[i]?).map (fun f=>(f.type,f.offset))=some (t,o)) {x:DataW H×List MemPlace} (hx:xs[i]? = some x):Light P t x.1:=by
 cases hi:fs[i]? with
 | none=>rw [hi] at q;cases q
 | some f =>
  rw [hi] at q;simp only [Option.map_some,Option.some.injEq,Prod.mk.injEq] at q;have:=hL.field hT (i:=i) (d:=x.1) hi (by rw [List.getElem?_map,hx];rfl);rw [q.1] at this;exact this
theorem str_trod {base:Nat} {spare:Nat→Bool} {held:Bool} {t:TypeId} (ht:P.underlying t=some .string) {n:Nat} {cs:List Value} {y:DataW H×List MemPlace} (h:DataW.trod enc P w base spare held n t cs=some y) (hL:Light P t y.1):∃ s:By,cs=[.string (bs s)]∧s.length≤reachBytes:=by
 obtain ⟨s,rfl,hy,_⟩:=DataW.trod_string ht h;obtain ⟨l,rfl⟩:=bs_ex s;rw [hy] at hL;have q:Light P t (DataW.lit (.string (bs l).data.toList):DataW H):=hL;have C:(bs l).data.toList.length≤reachBytes:=q _ (by unfold DataW.weights;exact List.mem_singleton_self _);exact ⟨l,rfl,by simpa [bs] using C⟩
theorem int_trod {base:Nat} {spare:Nat→Bool} {held:Bool} {t:TypeId} (ht:P.underlying t=some (.int .i64)) {n:Nat} {cs:List Value} {y:DataW H×List MemPlace} (h:DataW.trod enc P w base spare held n t cs=some y):∃ z:Int,(-9223372036854775808≤z∧z≤9223372036854775807)∧cs=[.int .i64 z]:=by
 obtain ⟨q,C,_,w0⟩:=DataW.trod_int ht h;refine ⟨q,?_,C⟩;simp only [Lit.wf,Bool.and_eq_true,decide_eq_true_eq] at w0;have D:IntKind.i64.min = -9223372036854775808:=rfl;have E:IntKind.i64.max=9223372036854775807:=rfl;rw [D,E] at w0;exact w0
theorem slr_part {t e:TypeId} (ht:P.underlying t=some (.slice e)) (r:Rp α) (hsz:P.cellsOf e=r.sz) (J:0 < r.sz) (OK:α→Prop) {n:Nat} {cs:List Value} {Y:DataW H×List MemPlace}
 (hel:∀ n cs y els sp,Y.1 = .slice els sp→y.1∈els→DataW.trod enc P w 0 (fun _=>true) true n e cs=some y→Light P e y.1→∃ x,OK x∧r.rd w (Old w) x cs)
 (h:DataW.trod enc P w 0 (fun _=>true) true n t cs=some Y) (hL:Light P t Y.1) :
 ∃ (A:OA) (cap:Nat) (L:List α),cs=[.slice A L.length cap]∧SlR r w (Old w) A cap L∧(∀ x∈L,OK x)∧L.length * P.bytesOf e≤reachBytes:=by
 rcases open_slice ht h with ⟨rfl,_⟩|⟨a',len,cap,m,n,D,Pl,rfl,_,hlc,hcm,hm,hyy,hx⟩
 · exact ⟨none,0,[],rfl,SlR.nil _ _ _ _,by simp,by simp [reachBytes]⟩
 · simp only [if_true] at hm
   subst hm;rw [hyy] at hL;obtain ⟨hw,hel'⟩:=hL.slice ht;have key:∀ k,k≤len→∃ (L:List α) (xs:List Value),L.length=k∧(∀ x∈L,OK x)∧elems r w (Old w) L xs∧∀ j v,xs[j]? = some v→w.cell? (a'.add j)=some v:=by
    intro k
    induction k with
    | zero=>intro _;exact ⟨[],[],rfl,by simp,rfl,by simp⟩
    | succ k ih =>
     intro hk;obtain ⟨L,xs,hL,hok,he,hcell⟩:=ih (by omega);obtain ⟨cs',C,O⟩:=hx k (by omega);have hmem:D k∈(List.range len).map D:=List.mem_map.2 ⟨k,List.mem_range.2 (by omega),rfl⟩;obtain ⟨x,hxo,hrd⟩:=hel _ _ _ _ _ (by rw [hyy]) hmem O (hel' _ hmem);rw [hsz] at C;obtain ⟨_,hlen,hat⟩:=World.cells?_some C;refine ⟨L++[x],xs++cs',by simp [hL],?_,he.snoc hrd,?_⟩
     · intro y hy
       rcases List.mem_append.1 hy with hy | hy
       · exact hok y hy
       · obtain rfl:y=x:=by simpa using hy
         exact hxo
     · intro j v hj
       have hll:xs.length=k * r.sz:=by rw [he.len,hL]
       rcases Nat.lt_or_ge j (k * r.sz) with hlt | hge
       · rw [List.getElem?_append_left (by omega)] at hj
         exact hcell j v hj
       · rw [List.getElem?_append_right (by omega),hll] at hj
         have hjl:j - k * r.sz < r.sz:=by
          have:=(List.getElem?_eq_some_iff.1 hj).1;rw [r.len hrd] at this;exact this
         have:=hat (j - k * r.sz) hjl;rw [add_add,show k * r.sz+(j - k * r.sz)=j by omega] at this;rw [this,hj]
   obtain ⟨L,xs,hL,hok,he,hcell⟩:=key len (Nat.le_refl _);subst hL;have hw':L.length * P.bytesOf e≤reachBytes:=Nat.le_trans (Nat.mul_le_mul_right _ (by simp)) hw;refine ⟨some a',_,L,rfl,⟨hlc,hcm,xs,he,fun hpos=>?_⟩,hok,hw'⟩;have hll:xs.length=L.length * r.sz:=he.len;have hpos':0 < L.length * r.sz:=Nat.mul_pos hpos J;have q:=hcell 0 _ (List.getElem?_eq_getElem (by omega));have E:a'.add 0=a':=by simp [Addr.add]
   rw [E] at q;obtain ⟨V,X⟩:=cell_none q;obtain ⟨b,off,sp⟩:=a';subst V;refine ⟨b,off,rfl,X,fun j v hj=>?_⟩;have:=hcell j v hj
   rwa [Addr.add_lit] at this
end
end Go.Eng
namespace Go.Proofs.YtnhifhlbelogcaaGreatDoor
open Go Go.Eng Go.ChangeShapes Go.WideShapes Go.ChangeAt Go.RowKit
section
variable {H:Type} {enc:TypeId×Value→H} {w:World}
theorem len5 {α:Type}:∀ {l:List α},l.length=5→∃ a b c d e,l=[a,b,c,d,e]
 | [a,b,c,d,e],_=>⟨a,b,c,d,e,rfl⟩
theorem k29:Tryz.prog.cellsOf 29=5:=by kernel_rfl
theorem b29:Tryz.prog.bytesOf 29=64:=by kernel_rfl
set_option maxRecDepth 100000 in
theorem tree_of_trod:∀ (N n:Nat) (cs:List Value) (y:DataW H×List MemPlace),SizeOf.sizeOf y.1 < N→DataW.trod enc Tryz.prog w 0 (fun _=>true) true n 29 cs=some y→Light Tryz.prog 29 y.1→∃ x:Tree,OkT x∧Tree.rp.rd w (Old w) x cs:=by
 intro N
 induction N with
 | zero=>intro n cs y h;omega
 | succ N ih =>
  intro n cs y hN h hL;obtain ⟨xs,n',_,hy,hl,hxl,hg⟩:=DataW.trod_struct Tryz.underlying29 h;rw [hy] at hL hN;have hL':Light Tryz.prog 29 (.agg (xs.map (·.1))):=hL;rw [k29] at hl;obtain ⟨c0,c1,c2,c3,c4,rfl⟩:=len5 hl;obtain ⟨E,J,y2,O,q,rfl⟩:=len5 hxl;have V:=fld hg 0 3 0 1 rfl (by kernel_rfl) rfl;have X:=fld hg 1 9 1 1 rfl (by kernel_rfl) rfl;have Y:=fld hg 2 3 2 1 rfl (by kernel_rfl) rfl;have Z:=fld hg 3 3 3 1 rfl (by kernel_rfl) rfl;have aa:=fld hg 4 27 4 1 rfl (by kernel_rfl) rfl;have l1:=fldL Tryz.underlying29 hL' 1 9 1 rfl rfl;have ab:=fldL Tryz.underlying29 hL' 4 27 4 rfl rfl;obtain ⟨ad,_,ae⟩:=int_trod Tryz.underlying3 V;obtain ⟨s,e1,af⟩:=str_trod Tryz.underlying9 X l1;obtain ⟨ag,C,ah⟩:=int_trod Tryz.underlying3 Y;obtain ⟨ai,_,aj⟩:=int_trod Tryz.underlying3 Z;obtain ⟨A,cap,L,ak,hR,hok,hlen⟩:=slr_part Tryz.underlying27 Tree.rp k29 (by decide) OkT (fun n cs y els sp e hm ht hl=>ih n cs y (by
   have af:=List.sizeOf_lt_of_mem hm;have C:SizeOf.sizeOf q.1=1+SizeOf.sizeOf els+SizeOf.sizeOf sp:=by rw [e];exact DataW.slice.sizeOf_spec els sp
   have D:SizeOf.sizeOf (DataW.agg [E.1,J.1,y2.1,O.1,q.1]) < N+1:=hN;rw [DataW.agg.sizeOf_spec] at D;simp only [List.cons.sizeOf_spec] at D
   omega) ht hl) aa ab
  cases ae;cases e1;cases ah;cases aj;cases ak
  rw [b29] at hlen;have hr:reachBytes=140737488351232:=rfl;exact ⟨⟨ad,s,ag,ai,L⟩,.mk (by omega) (by omega) C hok,Tree.rd_iff.2 ⟨A,cap,rfl,hR⟩⟩
set_option maxRecDepth 100000 in
theorem open_tree {q:Go.Reach} {C:Nat} {v:Value} {d:DataW H} {ps:List MemPlace} (hval:Value.okWide Tryz.prog w q C 29 v) (hd:DataW.Trod enc Tryz.prog w 0 (fun _=>true) true 29 v d ps) (hL:Light Tryz.prog 29 d) :
 ∃ (x:Tree) (A:OA) (c:Nat),OkT x∧v = .agg #[.int .i64 x.Kind,.string (bs x.Name),.int .i64 x.Number,.int .i64 x.At,.slice A x.Kids.length c]∧SlR Tree.rp w (Old w) A c x.Kids:=by
 obtain ⟨cs,rfl,hsz⟩:=okWide_struct Tryz.underlying29 hval;obtain ⟨fuel,hf⟩:=hd;have hf':DataW.trod enc Tryz.prog w 0 (fun _=>true) true fuel 29 cs.toList=some (d,ps):=hf;obtain ⟨x,hok,hrd⟩:=tree_of_trod _ fuel cs.toList (d,ps) (Nat.lt_succ_self _) hf' hL;obtain ⟨A,c,e,hR⟩:=Tree.rd_iff.1 hrd;refine ⟨x,A,c,hok,?_,hR⟩
 congr 1
 rw [← e]
end
theorem open_i64 {H:Type} {enc:TypeId×Value→H} {w:World} {P:Program} {t:TypeId} (ht:P.underlying t=some (.int .i64)) {q:Go.Reach} {C:Nat} {v:Value} {d:DataW H} {ps:List MemPlace} (hval:Value.okWide P w q C t v) (hd:DataW.Trod enc P w 0 (fun _=>true) true t v d ps):∃ x:Int,v = .int .i64 x∧NB x∧d = .lit (.int .i64 x)∧ps=[]:=by
 obtain ⟨a,rfl,D,E,wf⟩:=ChangeShapes.open_int ht hval hd;refine ⟨a,rfl,?_,D,E⟩;simp only [Lit.wf,Bool.and_eq_true,decide_eq_true_eq] at wf;exact wf
theorem own:ownKnob Tryz.prog.godebug=none:=by kernel_rfl
theorem laidOut:laidOutB Tryz.prog=true:=by kernel_rfl
theorem gAType:(Tryz.prog.globals[1]?).map (·.type)=some 110:=by kernel_rfl
theorem cells5:Tryz.prog.cellsOf 5=1:=by kernel_rfl
theorem cells110:Tryz.prog.cellsOf 110=256:=by kernel_rfl
theorem gPType:(Tryz.prog.globals[3]?).map (·.type)=some 143:=by kernel_rfl
theorem cells135:Tryz.prog.cellsOf 135=1:=by kernel_rfl
theorem cells143:Tryz.prog.cellsOf 143=20:=by kernel_rfl
theorem powData_eq:(Rows.laid_internal_strconv_uint64pow10:DataW Unit)=Lib.tabData .u64 Lib.pow10Tab:=by kernel_rfl
theorem tabData_eq:(Rows.laid_strings_asciiSpace:DataW Unit)=Lib.tabData .u8 Lib.asciiSpaceTab:=by kernel_rfl
theorem int_of_shape {P:Program} {w:World} {g:Nat} {t:TypeId} {zero:Array Value} (h:w.ShapedOpen P) (hg:g < P.globals.size)
 (C:((begin P (fun _ _=>0) default).world.heap[g]?).bind Obj.row? = some (zero,t)) (hz:zero.size=1)
 (hb:P.buildable t=true) (hc:P.cellTypes P.depth t=some [t]) (hu:P.underlying t=some (.int .i64)):∃ m,w.cell? ⟨g,0,none⟩=some (.int .i64 m):=by
 obtain ⟨cs,hh,hs,hr⟩:=h.1 g zero t hg C;obtain ⟨ts,hts,_,hall⟩:=hr hb;rw [hc] at hts;cases hts;have q:0 < cs.size:=by omega
 obtain ⟨u,hu',hok⟩:=hall 0 cs[0] (by simp [q]);have:u=t:=by simpa using hu'.symm
 subst this;have hcell:w.cell? ⟨g,0,none⟩=some cs[0]:=by simp [World.cell?,hh,q]
 rw [hcell];unfold Cell.ok at hok;rw [hu] at hok;cases hv:cs[0] <;> rw [hv] at hok <;> first | (simp at hok;done) | skip
 rename_i k m
 have hk:k = .i64:=by cases k <;> simp at hok <;> first | rfl | exact absurd hok (by simp)
 subst hk;exact ⟨m,rfl⟩
theorem max_cell {w:World} (h:w.ShapedOpen Tryz.prog):∃ m,w.cell? ⟨0,0,none⟩=some (.int .i64 m) :=
 int_of_shape (t:=3) (zero:=#[.int .i64 0]) h (of_decide_eq_true (by kernel_rfl)) (by kernel_rfl) rfl (by kernel_rfl) (by kernel_rfl) Tryz.underlying3
def FGl:Nat→Prop:=fun b=>b=1∨b=0∨b=3
theorem globs {W:World} (hL:laidMet Tryz.prog Rows.syntaxPrintsRow.laid W) (hsh:W.ShapedOpen Tryz.prog):Glob FGl W∧∀ b,FGl b→Go.Eng.NK W [] b:=by
 have J : Lib.TabIs Tryz.prog W "strings.asciiSpace" .u8 Lib.asciiSpaceTab := by
  obtain ⟨g,t,cs,fuel,p,E,q,C,D⟩:=Lib.laidMet.reads hL (.tail _ (.tail _ (.tail _ (.tail _ (.head _)))));obtain rfl:=Option.some.inj (gA.symm.trans E);obtain rfl:=Option.some.inj (gAType.symm.trans q);rw [tabData_eq] at D;unfold Lib.TabIs;rw [C,← Lib.cells_of_tab Tryz.underlying110 Tryz.underlying5 cells5 cells110 D]
 have C : Lib.TabIs Tryz.prog W "internal/strconv.uint64pow10" .u64 Lib.pow10Tab := by
  obtain ⟨g,t,cs,fuel,p,E,q,C,D⟩:=Lib.laidMet.reads hL (.tail _ (.tail _ (.head _)));obtain rfl:=Option.some.inj (gP.symm.trans E);obtain rfl:=Option.some.inj (gPType.symm.trans q);rw [powData_eq] at D;unfold Lib.TabIs;rw [C,← Lib.cells_of_tab Tryz.underlying143 Tryz.underlying135 cells135 cells143 D]
 have q:∃ m,W.cell? ⟨0,0,none⟩=some (.int .i64 m):=max_cell hsh;refine ⟨⟨.inl rfl,.inr (.inl rfl),.inr (.inr rfl),q,J,C⟩,?_⟩;have c0:=J.cell gA 0 (by rw [Lib.asciiSpaceTab_length];decide);have c3:=C.cell gP 0 (by rw [Lib.pow10Tab_length];decide);have lt:∀ {b o:Nat} {v:Value},W.cell? ⟨b,o,none⟩=some v→b < W.heap.size:=by
  intro b o v h;rcases Nat.lt_or_ge b W.heap.size with hl | hl
  · exact hl
  · unfold World.cell? at h
    simp [Array.getElem?_eq_none hl] at h
 obtain ⟨m,hm⟩:=q;rintro b (rfl | rfl | rfl)
 · exact ⟨by simp [keys],lt c0⟩
 · exact ⟨by simp [keys],lt hm⟩
 · exact ⟨by simp [keys],lt c3⟩
noncomputable def laidWorld (os:Os):World :=
 let N:=(World.settled Tryz.prog os).heap.size
 let w0:=World.holding Tryz.prog os ⟨#[
  .cells #[.int .u16 9,.int .u16 13,.int .u16 1,.int .u16 32,.int .u16 133,.int .u16 101,.int .u16 160,.int .u16 5760,.int .u16 5600,.int .u16 8192,.int .u16 8202,.int .u16 1,.int .u16 8232,.int .u16 8233,.int .u16 1,.int .u16 8239,.int .u16 8287,.int .u16 48,.int .u16 12288,.int .u16 12288,.int .u16 1] 129,
  .cells #[.slice (some ⟨N,0,none⟩) 7 7,.slice none 0 0,.int .i64 2] 126],#[],[]⟩
 let put (h:Array Obj) (g:Nat) (cs:Array Value):Array Obj:=h.modify g fun
  | .cells _ t frozen=>.cells cs t frozen
  | o=>o
 let q:=put w0.heap 1 (Lib.asciiSpaceTab.map fun z=>Value.int .u8 z).toArray
 let C:=put q 2 #[.pointer (some ⟨N+1,0,none⟩)]
 let D:=put C 3 #[.int .u64 1,.int .u64 10,.int .u64 100,.int .u64 1000,.int .u64 10000,.int .u64 100000,.int .u64 1000000,.int .u64 10000000,.int .u64 100000000,.int .u64 1000000000,.int .u64 10000000000,.int .u64 100000000000,.int .u64 1000000000000,.int .u64 10000000000000,.int .u64 100000000000000,.int .u64 1000000000000000,.int .u64 10000000000000000,.int .u64 100000000000000000,.int .u64 1000000000000000000,.int .u64 10000000000000000000]
 let E:=put D 4 #[.int .u8 0,.int .u8 1,.int .u8 28,.int .u8 2,.int .u8 29,.int .u8 14,.int .u8 24,.int .u8 3,.int .u8 30,.int .u8 22,.int .u8 20,.int .u8 15,.int .u8 25,.int .u8 17,.int .u8 4,.int .u8 8,.int .u8 31,.int .u8 27,.int .u8 13,.int .u8 23,.int .u8 21,.int .u8 19,.int .u8 16,.int .u8 7,.int .u8 26,.int .u8 12,.int .u8 18,.int .u8 6,.int .u8 11,.int .u8 5,.int .u8 10,.int .u8 9]
 let J:=put E 5 #[.int .u8 0,.int .u8 1,.int .u8 56,.int .u8 2,.int .u8 57,.int .u8 49,.int .u8 28,.int .u8 3,.int .u8 61,.int .u8 58,.int .u8 42,.int .u8 50,.int .u8 38,.int .u8 29,.int .u8 17,.int .u8 4,.int .u8 62,.int .u8 47,.int .u8 59,.int .u8 36,.int .u8 45,.int .u8 43,.int .u8 51,.int .u8 22,.int .u8 53,.int .u8 39,.int .u8 33,.int .u8 30,.int .u8 24,.int .u8 18,.int .u8 12,.int .u8 5,.int .u8 63,.int .u8 55,.int .u8 48,.int .u8 27,.int .u8 60,.int .u8 41,.int .u8 37,.int .u8 16,.int .u8 46,.int .u8 35,.int .u8 44,.int .u8 21,.int .u8 52,.int .u8 32,.int .u8 23,.int .u8 11,.int .u8 54,.int .u8 26,.int .u8 40,.int .u8 15,.int .u8 34,.int .u8 20,.int .u8 31,.int .u8 10,.int .u8 25,.int .u8 14,.int .u8 19,.int .u8 9,.int .u8 13,.int .u8 8,.int .u8 7,.int .u8 6]
 { w0 with heap:=J }
end Go.Proofs.YtnhifhlbelogcaaGreatDoor
namespace Go.Proofs.YtnhifhlbelogcaaGreatDoor
open Go Go.Eng Go.ChangeShapes Go.WideShapes Go.ChangeAt Go.RowKit
set_option linter.unusedVariables false
namespace SyntaxPrintsProof
set_option maxRecDepth 100000 in
theorem contract (H:Type) (enc:TypeId×Value→H) (W:World) (base:Nat) (args:Array Value) (ds gs:List (DataW H)) (before:List MemPlace)
 (C:∀ (j:Nat) t v,Tryz.f5.params[j]? = some t→args[j]? = some v→Value.okWide Tryz.prog W .any base t v)
 (hW:DataW.Whole enc Tryz.prog Tryz.f5.params.toList Rows.syntaxPrintsSpec.vars false W args.toList ds gs before) (hL:laidMetH Tryz.prog Rows.syntaxPrintsRow.laid W) (hsh:W.ShapedOpen Tryz.prog)
 (hre:(DataW.weightsEach Tryz.prog (Tryz.f5.params.toList++(OpenSpec.ofChange Rows.syntaxPrintsSpec).bare.plain.varTypes Tryz.prog) (ds++gs)).all (·≤reachBytes)=true) :
 Calls Tryz.prog 5 args W fun e W'=>∃ v,e = .returned v∧Rows.syntaxPrintsSpec.post enc Tryz.prog Tryz.f5 false true false false W args v W':=by
 have hval:∀ (j:Nat) t v,Tryz.f5.params[j]? = some t→args[j]? = some v→Value.okWide Tryz.prog W .any base t v:=C;have hW':=hW;have hlt:∀ x∈before,x.block < W.heap.size:=fun x hx=>hW.lt x hx
 obtain ⟨p,q,E,hV,rfl,hfz,hnd⟩:=hW;have hA:DataW.TrodAll enc Tryz.prog W 0 (fun _=>true) true Tryz.f5.params.toList args.toList ds p:=E;have D:=hA;have hts:Tryz.f5.params.toList.all (fun t=>Tryz.prog.readableRec t && decide (t < Tryz.prog.types.size))=true:=by kernel_rfl
 rw [Tryz.params5] at hA hval hre;obtain ⟨J,ar,ag,au,aB,aC,hargs,rfl,rfl,ah,ai⟩:=trodAll_cons hA;obtain ⟨O,ax,aj,ay,aD,aE,rfl,rfl,rfl,ak,V⟩:=trodAll_cons ai;obtain ⟨X,az,d2,aA,aF,q2,rfl,rfl,rfl,al,Y⟩:=trodAll_cons V;obtain ⟨rfl,rfl,rfl⟩:=trodAll_nil Y;obtain rfl:args = #[J,O,X]:=by cases args;simp_all
 obtain ⟨rfl,rfl⟩:=trodVars_none hV;obtain ⟨hGl,hFG⟩:=globs (W:=W) hL hsh;have Z:Light Tryz.prog 29 ag:=fun n hn=>of_decide_eq_true (List.all_eq_true.1 hre n (DataW.weights_mem_each (j:=0) rfl rfl n hn))
 obtain ⟨x0,aG,c0,aa,rfl,ab⟩:=open_tree (hval 0 29 J rfl rfl) ah Z;have ad:Light Tryz.prog 29 aj:=fun n hn=>of_decide_eq_true (List.all_eq_true.1 hre n (DataW.weights_mem_each (j:=1) rfl rfl n hn))
 obtain ⟨aH,aI,c1,ae,rfl,af⟩:=open_tree (hval 1 29 O rfl rfl) ak ad;obtain ⟨aJ,rfl,am,rfl,rfl⟩:=open_i64 Tryz.underlying3 (hval 2 3 X rfl rfl) al;obtain ⟨k,V,Y,aK,aL,an,ao,ap,aq,hH⟩:=law_H aa ae am;refine (law_calls ab Old.nk af Old.nk hGl hFG an ao ap aq hH).mono fun e W' ⟨he,hS⟩=>?_
 subst he;have hb:Below W.heap.size W W':=hS.toFalse.toBelow;simp only [List.append_nil] at hW' D hlt;exact ⟨_,rfl,post_below (pv:=[]) hW' (fun _ _ _=>(trodAll_cons_mk (shut_bool Tryz.underlying4 _) trodAll_mk0)) (fun sp hsp=>args_below laidOut hb hts D hlt sp hsp) (fun _ _=>rfl) (by simp)
  hb (ok_one (by kernel_rfl) rfl (okWide_bool_mk Tryz.underlying4 _))⟩
theorem laid_met (os:Os):laidMet Tryz.prog Rows.syntaxPrintsRow.laid ((laidWorld os).forCall (fun _ _=>0) ⟨#[],#[.agg #[.int .i64 0,.string ⟨#[]⟩,.int .i64 0,.int .i64 0,.slice none 0 0],.agg #[.int .i64 0,.string ⟨#[]⟩,.int .i64 0,.int .i64 0,.slice none 0 0],.int .i64 0],[]⟩).memory :=
 laidMet_of_run' 8 (by kernel_rfl) (by kernel_rfl)
theorem reads (os:Os) {H:Type} (enc:TypeId×Value→H):∃ places,DataW.whole enc Tryz.prog ((laidWorld os).forCall (fun _ _=>0) ⟨#[],#[.agg #[.int .i64 0,.string ⟨#[]⟩,.int .i64 0,.int .i64 0,.slice none 0 0],.agg #[.int .i64 0,.string ⟨#[]⟩,.int .i64 0,.int .i64 0,.slice none 0 0],.int .i64 0],[]⟩).memory Tryz.f5.params.toList Rows.syntaxPrintsSpec.vars false (#[.agg #[.int .i64 0,.string ⟨#[]⟩,.int .i64 0,.int .i64 0,.slice none 0 0],.agg #[.int .i64 0,.string ⟨#[]⟩,.int .i64 0,.int .i64 0,.slice none 0 0],.int .i64 0]:Array Value).toList 8=some ([.agg [.lit (.int .i64 0),.lit (.string []),.lit (.int .i64 0),.lit (.int .i64 0),.nil],.agg [.lit (.int .i64 0),.lit (.string []),.lit (.int .i64 0),.lit (.int .i64 0),.nil],.lit (.int .i64 0)],[],places) :=
 ⟨[],by kernel_rfl⟩
set_option maxRecDepth 100000 in
theorem lifted (os:Os) (started:os.Started) (H:Type) (enc:TypeId×Value→H) (F:Stop.Interp) :
 ReturnsInHanded {} Tryz.checked os 5 .any ((OpenSpec.ofChange Rows.syntaxPrintsSpec).preRow enc Tryz.prog Tryz.f5 Rows.syntaxPrintsRow.domain false Rows.syntaxPrintsRow.laid) (((OpenSpec.ofChange Rows.syntaxPrintsSpec).at F).post enc Tryz.prog Tryz.f5 false true false false):=by
 obtain ⟨places,hx⟩:=reads os enc;refine returnsInHanded_of_row (C:=Tryz.checked) (s:=OpenSpec.ofChange Rows.syntaxPrintsSpec) own started (by kernel_rfl) Tryz.func5
  (witness_row_atRef (enc:=enc) (C:=Tryz.checked) false (laidWorld os) #[.agg #[.int .i64 0,.string ⟨#[]⟩,.int .i64 0,.int .i64 0,.slice none 0 0],.agg #[.int .i64 0,.string ⟨#[]⟩,.int .i64 0,.int .i64 0,.slice none 0 0],.int .i64 0] rfl (by kernel_rfl) (by kernel_rfl) (by kernel_rfl)
   (OpenSpec.preRow_of_cond 8 hx (by kernel_rfl) (fun k hk=>by cases hk) (by kernel_rfl) (laid_met os))) ?_
 intro W base args ds gs before hval hW _ hcond hre hL hsh _;exact contract H enc W base args ds gs before hval hW hL hsh hre
theorem said:Rows.SyntaxPrintsSaid :=
 OpenClaim.holds_of_cond 5 Tryz.f5 rfl rfl rfl rfl rfl rfl rfl ⟨rfl,rfl,rfl,rfl,rfl⟩ rfl rfl rfl rfl rfl (by kernel_rfl) Tryz.func5 (by kernel_rfl)
  (of_decide_eq_true (by kernel_rfl)) (by unfold Func.isWrapper;first | (rw [if_pos (by decide +kernel)];kernel_rfl) | (rw [if_neg (by decide +kernel)];exact ⟨rfl,rfl⟩))
  (fun os started H enc _ F=>by rw [OpenClaim.pre_eq_preRow];exact lifted os started H enc F)
theorem plain (f : FuncId) (fn : Func) (hf : Tryz.pinned.checked.prog.funcNamed "callbox/callboxlaw04.SyntaxPrints" = some f) (hfn : Tryz.pinned.checked.prog.funcs[f]? = some fn) :
 true=Tryz.pinned.checked.prog.looks []∧∀ (j:Nat) t,fn.params[j]? = some t→Tryz.pinned.checked.prog.wantsStandIn t=false:=by
 obtain rfl : f = 5 := Option.some.inj ((show Tryz.prog.funcNamed "callbox/callboxlaw04.SyntaxPrints" = some 5 by kernel_rfl).symm.trans hf) |>.symm;obtain rfl : fn = Tryz.f5 := (Option.some.inj (Tryz.func5.symm.trans hfn)).symm;refine ⟨by kernel_rfl, fun j t ht => ?_⟩;rw [Tryz.params5] at ht;have hm : t ∈ #[29, 29, 3] := Array.mem_of_getElem? ht;simp only [List.mem_toArray, List.mem_cons, List.not_mem_nil, or_false] at hm;rcases hm with rfl | rfl | rfl
 · exact (show Tryz.prog.wantsStandIn 29=false by kernel_rfl)
 · exact (show Tryz.prog.wantsStandIn 29=false by kernel_rfl)
 · exact (show Tryz.prog.wantsStandIn 3=false by kernel_rfl)
end SyntaxPrintsProof
theorem syntaxPrintsProved:Rows.SyntaxPrintsCardSaid :=
 Claim7.holds_tied_plain_at .later [] _ _ _ _ SyntaxPrintsProof.said (fun _ h=>by cases h) (by kernel_rfl) (fun _ h=>by cases h) syntaxPrints_row_tie rfl ⟨rfl,rfl⟩ (by kernel_rfl) rfl SyntaxPrintsProof.plain (by kernel_rfl)
#print axioms syntaxPrintsProved
end Go.Proofs.YtnhifhlbelogcaaGreatDoor
