/- SyntaxBack's plain law, its parts: what Parse, Same and Print come to. -/
import Derived.Test.YtnhifhlbelogcaaDoorYBF
import Derived.Test.YtnhifhlbelogcaaDoorYBJ
import Derived.Test.YtnhifhlbelogcaaDoorYBK
set_option linter.unusedVariables false
set_option linter.unusedSimpArgs false
namespace Go.Proofs.YtnhifhlbelogcaaDoor
open Go Go.Eng
theorem toks_tn {s:List UInt8} {W:List Token} (h:Run s 0 s.length W) (hT:(scanS s).1=W++[⟨5,[],0,(s.length:Int)⟩]):TN (scanS s).1:=by
 refine ⟨scanS_len s,fun t ht hk=>?_⟩;rw [hT] at ht;rcases List.mem_append.1 ht with ht | ht
 · rcases h.toks t ht with ⟨q,_⟩|⟨q,_⟩|⟨_,c,p,C,_⟩
   · omega
   · omega
   · rw [C];simp
 · rw [List.mem_singleton] at ht
   subst ht;exact absurd hk (show (5:Int)≠1 by decide)
structure Good (s:List UInt8) (W:List Token) (v:Tree):Prop where
 run:Run s 0 s.length W
 len:s.length≤16000
 ok:(scanS s).2.1=0
 toks:(scanS s).1=W++[⟨5,[],0,(s.length:Int)⟩]
 sm:Sm v
 src:∃ p,Ev (fun k=>ps_source k (kS (scanS s).1 0 0)) (none,v,p)
 parse:Ev (fun k=>ps_Parse k s) (v,0,0)
theorem parse_ (s:List UInt8):(∃ W v,Good s W v)∨∃ e a,e≠0∧Ev (fun k=>ps_Parse k s) (noT,e,a):=by
 by_cases q:(scanS s).2.1=0
 · obtain ⟨hl,W,hW,hT⟩:=scanS_run q
   have hn:0 < (scanS s).1.length:=by rw [hT];simp
   rcases source_l (toks_scan q) _ 0 [] hn (Nat.le_refl _) (by simp) smL_nil (fun _ _ _=>by simp) with ⟨v,p,sv,C,_⟩|⟨e,a,z,p,he,C,_⟩
   · refine .inl ⟨W,v,hW,hl,q,hT,sv,⟨p,C⟩,?_⟩
     unfold ps_Parse;exact Ev.bind (lx_Scan_ s) (Ev.pos q (Ev.bind C (Ev.neg (by simp) Ev.ret)))
   · refine .inr ⟨e,a,he,?_⟩
     unfold ps_Parse;exact Ev.bind (lx_Scan_ s) (Ev.pos q (Ev.bind C (Ev.pos rfl (Ev.bindc (x:=(some (faultV e a))) rfl (Ev.bindc (faultOf_V e a) Ev.ret)))))
 · refine .inr ⟨(scanS s).2.1,(scanS s).2.2,q,?_⟩
   unfold ps_Parse;exact Ev.bind (lx_Scan_ s) (Ev.neg q Ev.ret)
theorem source_5:∀ k:Nat,(∀ (s:ParK) l v p,ps_source.l1 k s l=some (none,v,p)→∃ t,ps_token 0 p=some t∧t.Kind=5)∧(∀ (s:ParK) l v p,ps_source.j1 k s l=some (none,v,p)→∃ t,ps_token 0 p=some t∧t.Kind=5):=by
 intro k
 induction k with
 | zero=>exact ⟨fun s l v p h=>(nomatch h),fun s l v p h=>(nomatch h)⟩
 | succ k ih =>
  refine ⟨fun s l v p h=>?_,fun s l v p h=>?_⟩
  · simp only [ps_source.l1] at h
    obtain ⟨t,ht,h⟩:=Option.bind_eq_some_iff.1 h;by_cases C:t.Kind=5
    · rw [if_pos C] at h
      cases h
      exact ⟨t,ht,C⟩
    · rw [if_neg C] at h
      obtain ⟨b,hb,h⟩:=Option.bind_eq_some_iff.1 h;have chk:∀ (x:Option Value) (w:Tree) (q:ParK),(if x.isSome=true then some (x,w,q) else ps_source.j1 k s l)=some (none,v,p)→∃ t,ps_token 0 p=some t∧t.Kind=5:=fun x w q h=>by
       cases x with
       | none=>exact ih.2 s l v p h
       | some x=>rw [if_pos (by simp)] at h;exact nomatch (congrArg Prod.fst (Option.some.inj h))
      split at h
      · obtain ⟨x,hx,h⟩:=Option.bind_eq_some_iff.1 h
        exact chk _ _ _ h
      · obtain ⟨c,hc,h⟩:=Option.bind_eq_some_iff.1 h
        obtain ⟨x,hx,h⟩:=Option.bind_eq_some_iff.1 h;exact chk _ _ _ h
  · simp only [ps_source.j1] at h
    obtain ⟨⟨f,w,q⟩,ht,h⟩:=Option.bind_eq_some_iff.1 h;cases f with
    | some f=>rw [if_pos (by simp)] at h;exact nomatch (congrArg Prod.fst (Option.some.inj h))
    | none =>
     rw [if_neg (by simp)] at h;obtain ⟨m,hm,h⟩:=Option.bind_eq_some_iff.1 h;exact ih.1 _ _ v p h
theorem Good.spell {s:List UInt8} {W:List Token} {v:Tree} (g:Good s W v):n1 v=W.map sp:=by
 obtain ⟨p,hp⟩:=g.src;obtain ⟨k,hk⟩:=Ev.get hp;have hTN:=toks_tn g.run g.toks;obtain ⟨n',d',rfl,D,E,q⟩:=source_lt hTN k 0 0 (Nat.zero_le _) v p hk;obtain ⟨t,ht,C⟩:=(source_5 k).1 _ _ _ _ hk;have ht:=token_get ht;have hn:=((toks_scan g.ok).2.1 n' t ht).1 C;have hW:n'=W.length:=by rw [g.toks] at hn;simpa using hn
 rw [← q,List.nil_append,g.toks,seg,List.drop_zero,hW,Nat.sub_zero,List.take_left' rfl]
mutual
theorem nk_er:∀ t:Tree,nk (er t)=nk t
 | ⟨K,nm,x,a,l⟩=>by rw [er,nk,nk,nkL_er l]
theorem nkL_er:∀ l:List Tree,nkL (erL l)=nkL l
 | []=>by rw [erL]
 | t::l=>by rw [erL,nkL,nkL,nk_er t,nkL_er l]
end
theorem nk_same {t u:Tree} (h:er t=er u):nk t=nk u:=by rw [← nk_er t,h,nk_er]
theorem same_ {t:Tree} (h:Sm t):∀ u:Tree,∃ b,Ev (fun k=>ps_Same k t u) b∧(b=true ↔ er t=er u):=by
 induction h with
 | @mk K nm x a l hl hs hx ih =>
  intro u;obtain ⟨K',nm',x',a',m⟩:=u;have hno:∀ {P:Prop},¬ P→(false=true ↔ P):=fun h=>⟨fun e=>(nomatch e),fun e=>absurd e h⟩
  simp only [er_mk,Tree.mk.injEq,true_and];have go:∀ {b:Bool},Ev (fun k=>ps_Same (k+1) (⟨K,nm,x,a,l⟩:Tree) (⟨K',nm',x',a',m⟩:Tree)) b→Ev (fun k=>ps_Same k (⟨K,nm,x,a,l⟩:Tree) (⟨K',nm',x',a',m⟩:Tree)) b:=fun h=>Ev.unf h
  by_cases q:K=K'
  · by_cases C:nm=nm'
    · by_cases D:x=x'
      · subst q C D
        by_cases E:(l.length:Int)=(m.length:Int)
        · have loop:∀ (d i:Nat),l.length - i=d→i≤l.length→∃ b,Ev (fun k=>ps_EqualFunc.l1 k l m (i:Int)) b∧(b=true ↔ erL (l.drop i)=erL (m.drop i)):=by
           intro d
           induction d with
           | zero =>
            intro i J O;refine ⟨true,Ev.unf ?_,?_⟩
            · simp only [ps_EqualFunc.l1]
              exact Ev.neg (by omega) Ev.ret
            · rw [List.drop_eq_nil_of_le (by omega),List.drop_eq_nil_of_le (by omega)];simp
           | succ d ihd =>
            intro i J O;have hi:i < l.length:=by omega
            have hi':i < m.length:=by omega
            obtain ⟨b,hb,e1⟩:=ih l[i] (List.getElem_mem hi) m[i];obtain ⟨c,hc,V⟩:=ihd (i+1) (by omega) (by omega);rw [List.drop_eq_getElem_cons hi,List.drop_eq_getElem_cons hi',erL_cons,erL_cons,List.cons.injEq,← e1,← V];cases b with
            | true =>
             refine ⟨c,Ev.unf ?_,by simp⟩;simp only [ps_EqualFunc.l1];refine Ev.pos (by omega) (Ev.bindc (idx_at rfl hi) (Ev.bindc (idx_at rfl hi') (Ev.bind hb (Ev.pos rfl ?_))));rw [w64_succ (by omega)];exact hc
            | false =>
             refine ⟨false,Ev.unf ?_,by simp⟩;simp only [ps_EqualFunc.l1];exact Ev.pos (by omega) (Ev.bindc (idx_at rfl hi) (Ev.bindc (idx_at rfl hi') (Ev.bind hb (Ev.neg (by simp) Ev.ret))))
          obtain ⟨b,hb,e⟩:=loop l.length 0 rfl (Nat.zero_le _);rw [List.drop_zero,List.drop_zero] at e;refine ⟨b,go ?_,by simpa using e⟩;simp only [ps_Same];refine Ev.pos trivial (Ev.pos trivial (Ev.pos trivial (Ev.bind (Ev.unf ?_) Ev.ret)));simp only [ps_EqualFunc];exact Ev.pos E hb
        · refine ⟨false,go ?_,hno fun h=>E ?_⟩
          · simp only [ps_Same]
            refine Ev.pos trivial (Ev.pos trivial (Ev.pos trivial (Ev.bind (Ev.unf ?_) Ev.ret)));simp only [ps_EqualFunc];exact Ev.neg E Ev.ret
          · have:=congrArg List.length h.2.2.2
            rw [erL_len,erL_len] at this
            omega
      · refine ⟨false,go ?_,hno fun h=>D h.2.2.1⟩
        simp only [ps_Same];exact Ev.pos q (Ev.pos C (Ev.neg D Ev.ret))
    · refine ⟨false,go ?_,hno fun h=>C h.2.1⟩
      simp only [ps_Same];exact Ev.pos q (Ev.neg C Ev.ret)
  · refine ⟨false,go ?_,hno fun h=>q h.1⟩
    simp only [ps_Same];exact Ev.neg q Ev.ret
theorem same_t {t u:Tree} (h:Sm t) (e:er t=er u):Ev (fun k=>ps_Same k t u) true:=by
 obtain ⟨b,hb,e1⟩:=same_ h u;rw [e1.2 e] at hb;exact hb
abbrev outT (t:Tree):List UInt8:=putL [] (nk t).1
theorem print_ {t:Tree} (h:Sm t) (hl:tokLen (nk t).1≤BB):(∃ W v,Good (outT t) W v∧er v=er t∧Ev (fun k=>ps_Print k t) (outT t,0))∨Ev (fun k=>ps_Print k t) ([],43):=by
 have hn:Ev (fun k=>ps_node k (⟨[]⟩:WriK) t) (⟨outT t⟩:WriK):=(node_ h).1 [] (by rw [List.length_nil];omega);unfold ps_Print;rcases parse_ (outT t) with ⟨W,v,g⟩|⟨e,a,he,hp⟩
 · obtain ⟨b,hb,e⟩:=same_ g.sm t
   cases b with
   | true=>exact .inl ⟨W,v,g,e.1 rfl,Ev.bind hn (Ev.bind g.parse (Ev.pos rfl (Ev.bind hb (Ev.pos rfl Ev.ret))))⟩
   | false=>exact .inr (Ev.bind hn (Ev.bind g.parse (Ev.pos rfl (Ev.bind hb (Ev.neg (by simp) Ev.ret)))))
 · exact .inr (Ev.bind hn (Ev.bind hp (Ev.neg he Ev.ret)))
theorem Good.move {s f:List UInt8} {W V:List Token} {v:Tree} (g:Good s W v) (hV:Run f 0 f.length V) (hf:f.length≤16000) (e:V.map erK=W.map erK):∃ u,Good f V u∧er u=er v:=by
 have hs:=scan_all hf hV;have ag:(scanS f).2.1=0:=by rw [hs]
 have hT:(scanS f).1=V++[⟨5,[],0,(f.length:Int)⟩]:=by rw [hs]
 have hm:erP (kS (scanS f).1 0 0)=erP (kS (scanS s).1 0 0):=by
  show (⟨(scanS f).1.map erK,((0:Nat):Int),((0:Nat):Int)⟩:ParK)=⟨(scanS s).1.map erK,((0:Nat):Int),((0:Nat):Int)⟩
  rw [hT,g.toks,List.map_append,List.map_append,e];rfl
 obtain ⟨p,D,ah⟩:=g.src;rcases parse_ f with ⟨V',u,g'⟩|⟨e',a',he,hp⟩
 · obtain ⟨p',C,Y⟩:=g'.src
   have J:=source_ec (D+C) (kS (scanS s).1 0 0);have E:=source_ec (D+C) (kS (scanS f).1 0 0);have O:ps_source (D+C) (kS (scanS s).1 0 0)=some (none,v,p):=ah _ (by omega);have X:ps_source (D+C) (kS (scanS f).1 0 0)=some (none,u,p'):=Y _ (by omega);rw [hm,X] at E;rw [O] at J;rcases J with ⟨z,_⟩|⟨r,q,aa,ab,ad⟩
   · cases z
   · rcases E with ⟨z,_⟩|⟨r',q',ae,y2,af⟩
     · cases z
     · cases aa;cases ae
       rw [ab] at y2;cases y2;refine ⟨u,?_,af.2.1.symm.trans ad.2.1⟩;have hV':V'=V:=by
        have:=g'.toks.symm.trans hT;exact List.append_cancel_right this
       subst hV';exact g'
 · exfalso
   have hn:0 < (scanS f).1.length:=by rw [hT];simp
   rcases source_l (toks_scan ag) _ 0 [] hn (Nat.le_refl _) (by simp) smL_nil (fun _ _ _=>by simp) with ⟨u,p',sv,ai,_⟩|⟨aj,E,z,p',ak,⟨C,Y⟩,_⟩
   · have:Ev (fun k=>ps_Parse k f) (u,0,0):=by
      unfold ps_Parse;exact Ev.bind (lx_Scan_ f) (Ev.pos ag (Ev.bind ai (Ev.neg (by simp) Ev.ret)))
     have:=congrArg (fun r:Tree×Int×Int=>r.2.1) (Ev.det this hp);exact he this.symm
   · have J:=source_ec (D+C) (kS (scanS s).1 0 0)
     have E:=source_ec (D+C) (kS (scanS f).1 0 0);have X:ps_source (D+C) (kS (scanS f).1 0 0)=some (some (faultV aj _),z,p'):=Y _ (by omega);have O:ps_source (D+C) (kS (scanS s).1 0 0)=some (none,v,p):=ah _ (by omega);rw [hm,X] at E;rw [O] at J;rcases J with ⟨z,_⟩|⟨r,q,aa,ab,ad⟩
     · cases z
     · rcases E with ⟨z,_⟩|⟨r',q',ae,y2,af⟩
       · cases z
       · cases aa;cases ae
         rw [ab] at y2;cases y2;have:=af.1.2 rfl;have:=ad.1.1 this;cases this
theorem tokLen_ne:∀ L:Tk,tokLen (ne L)=tokLen L
 | []=>rfl
 | []::L=>by rw [ne_e,tokLen_ne L,tokLen,tkl,if_pos rfl,Nat.zero_add]
 | (c::s)::L=>by rw [ne_c,tokLen,tokLen,tokLen_ne L]
theorem putL_ne:∀ (L:Tk) (o:List UInt8),putL o (ne L)=putL o L
 | [],o=>rfl
 | []::L,o=>by
  rw [ne_e,putL_ne L o]
  show putL o L=putL (put1 o []) L
  unfold put1;rw [if_neg (fun h=>joins_ne h rfl),List.append_nil]
 | (c::s)::L,o=>by rw [ne_c];exact putL_ne L _
theorem tokLen_le (m:Nat):∀ L:Tk,(∀ x∈L,x.length≤m)→tokLen L≤L.length * (m+1)
 | [],_=>Nat.zero_le _
 | x::L,h=>by
  have q:=tokLen_le m L fun y hy=>h y (List.mem_cons_of_mem _ hy)
  have C:=h x List.mem_cons_self;have D:=(tl_le x).2.1;rw [tokLen,List.length_cons,Nat.succ_mul];omega
theorem Run.short {s:List UInt8} {a b:Nat} {W:List Token} (h:Run s a b W):∀ t∈W,(sp t).length≤s.length:=by
 induction h with
 | refl=>intro t h;exact nomatch h
 | skip ha hn _ ih=>exact ih
 | @tok a b c t W ha hn hr ih =>
  intro u hu;rcases List.mem_cons.1 hu with rfl | hu
  · obtain ⟨q,C⟩:=tok_ok ha hn
    rw [drop_cons ha] at hn;have:=(tok_of hn).2.1
    show (sp t).length≤_
    omega
  · exact ih u hu
theorem Good.back {s:List UInt8} {W:List Token} {v:Tree} (g:Good s W v):∃ V u,(outT v).length≤s.length∧Good (outT v) V u∧er u=er v∧Ev (fun k=>ps_Print k v) (outT v,0)∧Ev (fun k=>ps_Print k u) (outT v,0):=by
 have hq:outT v=putL [] (W.map sp):=by rw [← g.spell,n1,putL_ne]
 obtain ⟨hle,V,hV,e⟩:=glue_scan g.run;rw [← hq] at hle hV;obtain ⟨u,gu,eu⟩:=g.move hV (by have:=g.len;omega) e;have hWl:W.length≤16000:=by have:=scanS_len s;rw [g.toks] at this;simpa using this
 have hbb:tokLen (nk v).1≤BB:=by
  rw [← tokLen_ne]
  show tokLen (n1 v)≤BB
  rw [g.spell];have q:=tokLen_le 16000 (W.map sp) fun x hx=>by
   obtain ⟨t,ht,rfl⟩:=List.mem_map.1 hx;have:=g.run.short t ht;have:=g.len
   omega
  rw [List.length_map] at q;have:W.length * 16001≤16000 * 16001:=Nat.mul_le_mul_right _ hWl;simp only [BB]
  omega
 have key:∀ w:Tree,Sm w→er w=er v→Ev (fun k=>ps_Print k w) (outT v,0):=fun w hw ew=>by
  have hnk:nk w=nk v:=nk_same ew;rcases print_ hw (by rw [hnk];exact hbb) with ⟨W',v',_,_,h⟩ | h
  · unfold outT at h ⊢
    rw [hnk] at h;exact h
  · exfalso
    have hn:Ev (fun k=>ps_node k (⟨[]⟩:WriK) w) (⟨outT v⟩:WriK):=by
     have:=(node_ hw).1 [] (by rw [List.length_nil,hnk];omega);rw [hnk] at this;exact this
    have C:Ev (fun k=>ps_Print k w) (outT v,0):=by
     unfold ps_Print;exact Ev.bind hn (Ev.bind gu.parse (Ev.pos rfl (Ev.bind (same_t gu.sm (eu.trans ew.symm)) (Ev.pos rfl Ev.ret))))
    have:=congrArg Prod.snd (Ev.det h C);exact absurd this (show (43:Int)≠0 by decide)
 exact ⟨V,u,hle,gu,eu,key v g.sm rfl,key u gu.sm eu⟩
end Go.Proofs.YtnhifhlbelogcaaDoor
set_option linter.unusedVariables false
set_option linter.unusedSimpArgs false
namespace Go.Proofs.YtnhifhlbelogcaaDoor
open Go Go.Eng
set_option maxRecDepth 1000000 in
theorem sy_awake_k (k:Nat):sy_awake (k+60)=some true:=by kernel_rfl
theorem add_ (k:Nat) {a b:Int} (ha:0≤a) (ha':a≤1125899906842624) (hb:0≤b) (hb':b≤1125899906842624):∃ r,(∀ k,sy_add k a b=some r)∧0≤r∧r≤2147483648∧(r≤2147483647→r=a+b):=by
 unfold sy_add;rw [w64_of (n:=2147483647 - a) (by omega) (by omega),w64_of (n:=a+b) (by omega) (by omega)];by_cases h:2147483647 - a < b
 · exact ⟨2147483648,fun k=>by rw [if_pos h],by omega,by omega,by omega⟩
 · exact ⟨a+b,fun k=>by rw [if_neg h],by omega,by omega,fun _=>rfl⟩
theorem thrice_ {a:Int} (ha:0≤a) (ha':a≤1125899906842624):∃ r,(∀ k,sy_thrice k a=some r)∧0≤r∧r≤2147483648∧(r≤2147483647→r=3 * a):=by
 obtain ⟨X,q,C,Y,e1⟩:=add_ 0 ha ha' ha ha';obtain ⟨D,E,J,O,V⟩:=add_ 0 ha ha' C (by omega);refine ⟨D,fun k=>?_,J,O,fun h=>?_⟩
 · unfold sy_thrice
   rw [q,Option.bind_some,E]
   rfl
 · have:=V h
   have:=e1 (by omega)
   omega
inductive OkT:Tree→Prop where
 | mk {K:Int} {nm:List UInt8} {x a:Int} {l:List Tree}:l.length≤4398046511104→nm.length≤1125899906842624→NB x→(∀ t∈l,OkT t)→OkT ⟨K,nm,x,a,l⟩
theorem OkT.sm {t:Tree} (h:OkT t):Sm t:=by
 induction h with
 | mk q D C E ih=>exact .mk q ih C
mutual
def wt:Tree→Nat
 | ⟨_,nm,_,_,l⟩=>nm.length+500+wtL l
def wtL:List Tree→Nat
 | []=>0
 | t::l=>wt t+wtL l
end
theorem size_ {t:Tree} (h:OkT t):∀ dp:Nat,dp≤65536→∃ r:Int,Ev (fun k=>sy_size k t (dp:Int)) r∧0≤r∧r≤2147483648∧(r≤2147483647→(wt t:Int)≤r):=by
 induction h with
 | @mk K nm x a l hl hn hx hs ih =>
  intro dp hdp;by_cases D:(65536:Int)≤(dp:Int)
  · refine ⟨2147483648,Ev.unf ?_,by omega,by omega,by omega⟩
    simp only [sy_size];exact Ev.pos D Ev.ret
  · obtain ⟨J,O,V,X,Y⟩:=add_ 0 (a:=(nm.length:Int)) (b:=500) (by omega) (by omega) (by omega) (by omega)
    have loop:∀ (d i:Nat) (y:Int),l.length - i=d→i≤l.length→0≤y→y≤2147483648→∃ r:Int,Ev (fun k=>sy_size.l1 k (⟨K,nm,x,a,l⟩:Tree) (dp:Int) y (i:Int)) r∧0≤r∧r≤2147483648∧(r≤2147483647→y+(wtL (l.drop i):Int)≤r):=by
     intro d
     induction d with
     | zero =>
      intro i y aa ab C E;refine ⟨y,Ev.unf ?_,C,E,fun _=>by rw [List.drop_eq_nil_of_le (by omega),wtL];omega⟩;simp only [sy_size.l1];refine Ev.neg (by omega) (Ev.unf ?_);simp only [sy_size.j1];exact Ev.neg (by simp) Ev.ret
     | succ d ihd =>
      intro i y aa ab C E;have hi:i < l.length:=by omega
      by_cases hy:y≤2147483647
      · obtain ⟨ap,ad,ae,aq,e1⟩:=ih l[i] (List.getElem_mem hi) (dp+1) (by omega)
        obtain ⟨af,ag,ah,ai,aj⟩:=add_ 0 C (by omega) ae (by omega);obtain ⟨ak,al,am,an,ao⟩:=ihd (i+1) af (by omega) (by omega) ah ai;refine ⟨ak,Ev.unf ?_,am,an,fun h=>?_⟩
        · simp only [sy_size.l1]
          refine Ev.pos (by omega) (Ev.unf ?_);simp only [sy_size.j1];refine Ev.pos (decide_eq_true hy) (Ev.bindc (idx_at rfl hi) ?_);rw [w64_succ (by omega)];refine Ev.bind ad (Ev.bind (Ev.all ag) ?_);rw [w64_succ (by omega)];exact al
        · have:=ao h
          have:=aj (by omega);have:=e1 (by omega);rw [List.drop_eq_getElem_cons hi,wtL]
          omega
      · refine ⟨y,Ev.unf ?_,C,E,fun h=>absurd h hy⟩
        simp only [sy_size.l1];refine Ev.pos (by omega) (Ev.unf ?_);simp only [sy_size.j1];exact Ev.neg (by simpa using hy) Ev.ret
    obtain ⟨r,h,p,q,e⟩:=loop l.length 0 J rfl (Nat.zero_le _) V X;refine ⟨r,Ev.unf ?_,p,q,fun h=>?_⟩
    · simp only [sy_size]
      exact Ev.neg D (Ev.bind (Ev.all O) h)
    · have:=e h
      have:=Y (by omega);rw [List.drop_zero] at *;rw [wt]
      omega
def SW:List NK→Nat
 | []=>0
 | p::l=>max (tokLen p.1) (tokLen p.2)+10+SW l
theorem SW_app:∀ l m:List NK,SW (l++m)=SW l+SW m
 | [],m=>by rw [List.nil_append,SW,Nat.zero_add]
 | p::l,m=>by rw [List.cons_append,SW,SW,SW_app l m];omega
theorem each_len (s:Tk) (hs:tokLen s≤2):∀ l:List NK,tokLen (eachT l s)≤SW l
 | []=>Nat.le_refl _
 | p::l=>by
  have:=each_len s hs l;unfold eachT at this ⊢;rw [List.map_cons,List.flatten_cons,tokLen_append,tokLen_append,SW];omega
theorem comma_len:∀ l:List NK,tokLen ((l.map fun q=>[44]::q.1).flatten)≤SW l
 | []=>Nat.le_refl _
 | p::l=>by
  have:=comma_len l;have h:tkl [44]=2:=rfl;rw [List.map_cons,List.flatten_cons,tokLen_append,tokLen,SW];omega
theorem betw_len (l:List NK):tokLen (betwT l)≤SW l:=by
 cases l with
 | nil=>exact Nat.le_refl _
 | cons p l =>
  have:=comma_len l;rw [betwT,tokLen_append,SW];omega
theorem defs_len:∀ l:List NK,tokLen ((l.map (·.2)).flatten)≤SW l
 | []=>Nat.le_refl _
 | p::l=>by
  have:=defs_len l;rw [List.map_cons,List.flatten_cons,tokLen_append,SW];omega
theorem cases_len:∀ l:List NK,tokLen ((l.map fun p=>[99,97,115,101]::(p.1++[[58]])).flatten)≤SW l
 | []=>Nat.le_refl _
 | p::l=>by
  have:=cases_len l;have h:tkl [99,97,115,101]=5:=rfl;have h:tokLen [[58]]=2:=rfl;rw [List.map_cons,List.flatten_cons,tokLen_append,tokLen,tokLen_append,SW];omega
theorem kid0 (l:List NK):tokLen (kidT l 0)+SW (l.drop 1)≤SW l+2:=by
 cases l with
 | nil=>exact Nat.le_refl _
 | cons p l=>show tokLen p.1+SW l≤SW (p::l)+2;rw [SW];omega
theorem kid01 (l:List NK):tokLen (kidT l 0)+tokLen (kidT l 1)+SW (l.drop 2)≤SW l+4:=by
 cases l with
 | nil=>exact Nat.le_refl _
 | cons p l =>
  have:=kid0 l
  show tokLen p.1+tokLen (kidT l 0)+SW (l.drop 1)≤SW (p::l)+4
  rw [SW];omega
theorem itoa_len {x:Int} (h:NB x):(Lib.itoa x).length≤20:=by
 obtain ⟨q,C⟩:=h;by_cases D:0≤x
 · obtain ⟨u,hu⟩:∃ u:Nat,x=(u:Int):=⟨x.toNat,by omega⟩
   rw [hu,itoa_nat];have:=dec_len 19 u (by omega) (by omega)
   omega
 · obtain ⟨u,hu⟩:∃ u:Nat,x = -(u:Int):=⟨x.natAbs,by omega⟩
   rw [hu,itoa_neg u (by omega),List.length_cons];have:=dec_len 19 u (by omega) (by omega)
   omega
theorem plainT_tok (K:Int):tokLen (plainT K)≤22:=by
 unfold plainT
 repeat' split
 all_goals decide
theorem tok_ite {c:Prop} [Decidable c] {A B:Tk} {n:Nat} (q:tokLen A≤n) (C:tokLen B≤n):tokLen (if c then A else B)≤n:=by
 split
 · exact q
 · exact C
theorem wS_len (K:Int) (nm:List UInt8) {x:Int} (hx:NB x) (l:List NK):tokLen (wS K nm x l)≤100+nm.length+SW l:=by
 have q:=kid0 l;have C:=kid01 l;have he:=each_len [] (by decide) (l.drop 1);have ht:=(tl_le nm).2.1;have hi:=itoa_len hx;have hti:=(tl_le (Lib.itoa x)).2.1;have hp:=plainT_tok K;have c1:tkl [91]=2:=rfl;have c2:tkl [93]=2:=rfl;have c3:tkl [60]=2:=rfl;have c4:tkl [62]=2:=rfl;have D:tkl [42]=2:=rfl;unfold wS;refine tok_ite ?_ (tok_ite ?_ (tok_ite ?_ (tok_ite ?_ (tok_ite ?_ (tok_ite ?_ ?_)))))
 all_goals (try simp only [tokLen_append,tokLen])
 all_goals omega
theorem wN_len (K:Int) (nm:List UInt8) {x:Int} (hx:NB x) (l:List NK):tokLen (wN K nm x l)≤200+nm.length+SW l:=by
 have aa:=kid0 l;have ab:=kid01 l;have O:=each_len [[59]] (by decide) l;have V:=each_len [[59]] (by decide) (l.drop 1);have he:=each_len [] (by decide) (l.drop 1);have hb:=betw_len l;have X:=betw_len (l.drop 2);have hd:=defs_len l;have hc:=cases_len (l.take (l.length - 1));have Y:=each_len [] (by decide) (l.drop (l.length - 1));have q:=SW_app (l.take (l.length - 1)) (l.drop (l.length - 1));rw [List.take_append_drop] at q;have ht:=(tl_le nm).2.1;have hS:=wS_len K nm hx l;have c1:tkl [101,110,117,109]=5:=rfl;have c2:tkl [115,116,114,117,99,116]=7:=rfl;have c3:tkl [117,110,105,111,110]=6:=rfl;have c4:tkl [115,119,105,116,99,104]=7:=rfl;have C:tkl [100,101,102,97,117,108,116]=8:=rfl;have D:tkl [112,114,111,103,114,97,109]=8:=rfl;have E:tkl [118,101,114,115,105,111,110]=8:=rfl;have J:∀ c:UInt8,tkl [c]=2:=fun _=>rfl
 unfold wN;refine tok_ite ?_ (tok_ite ?_ (tok_ite ?_ (tok_ite ?_ (tok_ite ?_ (tok_ite ?_ (tok_ite ?_ (tok_ite ?_ (tok_ite ?_ (tok_ite ?_ ?_)))))))))
 all_goals (try simp only [tokLen_append,tokLen,c1,c2,c3,c4,C,D,E,J])
 all_goals omega
theorem nk_len {t:Tree} (h:Sm t):max (tokLen (nk t).1) (tokLen (nk t).2)+10≤wt t:=by
 induction h with
 | @mk K nm x a l hl hs hx ih =>
  have hw:∀ m:List Tree,(∀ t∈m,max (tokLen (nk t).1) (tokLen (nk t).2)+10≤wt t)→SW (m.map nk)≤wtL m:=by
   intro m
   induction m with
   | nil=>intro _;exact Nat.le_refl _
   | cons t m ihm =>
    intro h;have q:=ihm fun u hu=>h u (List.mem_cons_of_mem _ hu)
    have C:=h t List.mem_cons_self;rw [List.map_cons,SW,wtL];omega
  have q:=hw l ih;have C:=wN_len K nm hx (l.map nk);have D:=kid0 (l.map nk);have ht:=(tl_le nm).2.1;have c1:tkl [99,111,110,115,116]=6:=rfl;have c2:tkl [116,121,112,101,100,101,102]=8:=rfl;have c3:tkl [61]=2:=rfl;have c4:tkl [59]=2:=rfl;have E:tokLen (wD K nm x (l.map nk))≤210+nm.length+SW (l.map nk):=by
   unfold wD;refine tok_ite ?_ (tok_ite ?_ ?_)
   all_goals simp only [tokLen_append,tokLen]
   all_goals omega
  rw [nk_eq,wt]
  show max (tokLen (wN K nm x (l.map nk))) (tokLen (wD K nm x (l.map nk)))+10≤_
  omega
variable {s:List UInt8}
theorem Run.head {a b:Nat} {W:List Token} (h:Run s a b W):∃ q,Run s a q []∧a≤q∧q≤b∧(∀ h:0 < W.length,W[0].At=(q:Int))∧(W=[]→q=b):=by
 induction h with
 | refl=>exact ⟨_,.refl,Nat.le_refl _,Nat.le_refl _,fun h=>absurd h (by simp),fun _=>rfl⟩
 | @skip a b c W ha hn hr ih =>
  obtain ⟨q,C,O,D,E,J⟩:=ih;exact ⟨q,.skip ha hn C,by omega,D,E,J⟩
 | @tok a b c t W ha hn hr ih =>
  have:=hr.le;exact ⟨a,.refl,Nat.le_refl _,by omega,fun _=>rfl,fun h=>absurd h (by simp)⟩
theorem Run.piece {a b:Nat} {W:List Token} (h:Run s a b W):∀ (j:Nat) (hj:j < W.length),∃ q p:Nat,W[j].At=(q:Int)∧a≤q∧q < p∧p≤b∧Run s q p [W[j]]∧(∀ h:j+1 < W.length,W[j+1].At=(p:Int))∧(j+1=W.length→p=b):=by
 induction h with
 | refl=>intro j hj;exact absurd hj (by simp)
 | @skip a b c W ha hn hr ih =>
  intro j hj;obtain ⟨q,p,e1,D,C⟩:=ih j hj;exact ⟨q,p,e1,by omega,C⟩
 | @tok a b c t W ha hn hr ih =>
  intro j hj;obtain ⟨ab,ad⟩:=tok_ok ha hn;cases j with
  | zero =>
   obtain ⟨p,E,ae,J,O,V⟩:=hr.head;refine ⟨a,p,rfl,Nat.le_refl _,by omega,J,.tok ha hn E,fun h=>O (by simpa using h),fun h=>V ?_⟩;rw [List.length_cons] at h;exact List.eq_nil_of_length_eq_zero (by omega)
  | succ j =>
   obtain ⟨q,p,e1,D,C,X,e5,Y,aa⟩:=ih j (by simpa using hj);exact ⟨q,p,e1,by omega,C,X,e5,fun h=>Y (by simpa using h),fun h=>aa (by simpa using h)⟩
theorem Run.move {a b:Nat} {W:List Token} (h:Run s a b W):∀ (g:List UInt8) (a':Nat),g.drop a'=s.drop a→∃ V,Run g a' (a'+(b - a)) V∧V.map erK=W.map erK:=by
 have lt:∀ {a a':Nat} {g:List UInt8},a < s.length→g.drop a'=s.drop a→a' < g.length:=fun h e=>by
  have:=congrArg List.length e;rw [List.length_drop,List.length_drop] at this
  omega
 induction h with
 | refl=>intro g a' e;exact ⟨[],by rw [Nat.sub_self,Nat.add_zero];exact .refl,rfl⟩
 | @skip a b c W ha hn hr ih =>
  intro g a' e;have:=hr.le;obtain ⟨V,hV,hv⟩:=ih g (a'+c) (by rw [← List.drop_drop,e,List.drop_drop]);rw [show a'+c+(b - (a+c))=a'+(b - a) by omega] at hV;exact ⟨V,.skip (lt ha e) (by rw [e];exact hn) hV,hv⟩
 | @tok a b c t W ha hn hr ih =>
  intro g a' e;have:=hr.le;obtain ⟨V,hV,hv⟩:=ih g (a'+c) (by rw [← List.drop_drop,e,List.drop_drop]);rw [show a'+c+(b - (a+c))=a'+(b - a) by omega] at hV;exact ⟨_,.tok (lt ha e) (by rw [e];exact hn) hV,by rw [List.map_cons,List.map_cons,hv];rfl⟩
theorem Run.append {a b c:Nat} {W V:List Token} (h:Run s a b W) (k:Run s b c V):Run s a c (W++V):=by
 induction h with
 | refl=>exact k
 | skip ha hn _ ih=>exact .skip ha hn (ih k)
 | tok ha hn _ ih=>exact .tok ha hn (ih k)
theorem piece_run {q p:Nat} {t:Token} (h:Run s q p [t]) (hq:q < p) (hp:p≤s.length) {f z:List UInt8} {a:Nat} (hf:f.drop a=(s.take p).drop q++32::z):∃ V,Run f a (a+(p - q)+1) V∧V.map erK=[erK t]∧f.drop (a+(p - q)+1)=z:=by
 have hl:((s.take p).drop q).length=p - q:=by rw [List.length_drop,List.length_take];omega
 have hc:=h.cut (x:=32::z) (.inr ⟨z,rfl⟩) hp;obtain ⟨V,hV,hv⟩:=hc.move f a (by rw [hf,List.drop_append_of_le_length (by rw [List.length_take];omega)]);have D:=drop_more hf;rw [hl] at D;have C:f.drop (a+(p - q))=[32]++z:=D;refine ⟨V++[],hV.append (.skip (drop_lt C (by simp)) (by rw [C,List.singleton_append,nextS_cons,if_pos (by decide)]) .refl),by rw [List.append_nil];exact hv,drop_more C⟩
theorem spread_l {W:List Token} {v:Tree} (g:Good s W v) (r4:Tree×Int×Int):∀ (d i:Nat) (x:List UInt8),W.length - i=d→i≤W.length→x.length≤i * 16001 →
 ∃ y,(∀ r,Ev (fun k=>law_Back.j3 k r4 (x++y)) r→Ev (fun k=>law_Back.l1 k s r4 (scanS s) x (i:Int)) r) ∧
  ∀ (f z:List UInt8) (a:Nat),f.drop a=y++z→∃ V,Run f a (a+y.length) V∧V.map erK=(W.drop i).map erK:=by
 have hTl:(scanS s).1.length=W.length+1:=by rw [g.toks];simp
 have hlen:=scanS_len s;intro d
 induction d with
 | zero =>
  intro i x E J O;refine ⟨[],fun r hr=>Ev.unf ?_,fun f z a _=>⟨[],.refl,by rw [List.drop_eq_nil_of_le (by omega)]⟩⟩;simp only [law_Back.l1];rw [w64_succ (by omega)];rw [List.append_nil] at hr;exact Ev.neg (by omega) hr
 | succ d ih =>
  intro i x E J O;have hi:i < W.length:=by omega
  obtain ⟨q,p,e1,am,X,an,e5,Y,aa⟩:=g.run.piece i hi;have hs:=g.len;have C:i < (scanS s).1.length:=by omega
  have D:i+1 < (scanS s).1.length:=by omega
  have ab:(scanS s).1[i].At=(q:Int):=by
   rw [← e1];simp only [g.toks];rw [List.getElem_append_left hi]
  have ad:(scanS s).1[i+1].At=(p:Int):=by
   by_cases hj:i+1 < W.length
   · rw [← Y hj]
     simp only [g.toks];rw [List.getElem_append_left hj]
   · have:i+1=W.length:=by omega
     rw [aa this];simp only [g.toks];rw [List.getElem_append_right (by omega)]
     simp [this]
  have hm:((s.take p).drop q).length=p - q:=by rw [List.length_drop,List.length_take];omega
  have hx:(x++(s.take p).drop q++[32]).length≤(i+1) * 16001:=by
   rw [List.length_append,List.length_append,hm,List.length_singleton,Nat.succ_mul];omega
  have hiw:i * 16001≤16001 * 16001:=Nat.mul_le_mul_right _ (by omega);obtain ⟨y,ae,k2⟩:=ih (i+1) _ (by omega) (by omega) hx;refine ⟨(s.take p).drop q++32::y,fun r hr=>Ev.unf ?_,fun f z a hf=>?_⟩
  · simp only [law_Back.l1]
    rw [w64_succ (by omega)];refine Ev.pos (by omega) (Ev.bindc (idx_at rfl C) (Ev.bindc (idx_at rfl D) (Ev.bindc (cut_at ab ad (by omega) (by omega)) (Ev.bindc (cat_at (by rw [hm];omega)) (Ev.bindc (cat_at (by rw [List.length_append,hm,List.length_singleton];omega)) (ae r ?_))))));simp only [List.append_assoc,List.singleton_append] at hr ⊢;exact hr
  · obtain ⟨af,ag,ah,ai⟩:=piece_run e5 X (by omega) (f:=f) (z:=y++z) (a:=a) (by rw [hf];simp)
    obtain ⟨aj,ak,al⟩:=k2 f z _ ai;refine ⟨af++aj,?_,?_⟩
    · have:=ag.append ak
      rw [List.length_append,List.length_cons,hm];rw [show a+(p - q+(y.length+1))=a+(p - q)+1+y.length by omega];exact this
    · rw [List.map_append,ah,al,List.drop_eq_getElem_cons hi,List.map_cons];rfl
theorem back_j3 {W:List Token} {v:Tree} (g:Good s W v) {y:List UInt8} {V:List Token} (hV:Run y 0 y.length V) (e:V.map erK=W.map erK):Ev (fun k=>law_Back.j3 k (v,0,0) y) true:=by
 unfold law_Back.j3;by_cases h:16000 < (y.length:Int)
 · rcases parse_ y with ⟨W',u,g'⟩|⟨e,a,_,hp⟩
   · exact Ev.bind g'.parse (Ev.pos h Ev.ret)
   · exact Ev.bind hp (Ev.pos h Ev.ret)
 · obtain ⟨u,gu,eu⟩:=g.move hV (by omega) e
   exact Ev.bind gu.parse (Ev.neg h (Ev.pos rfl (Ev.bind (same_t g.sm eu.symm) Ev.ret)))
theorem back_j1 (s:List UInt8):Ev (fun k=>law_Back.j1 k s) true:=by
 unfold law_Back.j1;rcases parse_ s with ⟨W,v,g⟩|⟨e,a,he,hp⟩
 · obtain ⟨V,u,hle,gu,eu,C,D⟩:=g.back
   refine Ev.bind g.parse (Ev.pos rfl (Ev.bind C (Ev.bind gu.parse (Ev.bind D (Ev.pos rfl (Ev.pos rfl (Ev.pos rfl (Ev.neg ?_ (Ev.pos rfl (Ev.bind (same_t g.sm eu.symm) ?_))))))))))
   · show ¬ (s.length:Int) < ((outT v).length:Int)
     omega
   · unfold law_Back.j2
     refine Ev.neg (by simp) (Ev.bind (lx_Scan_ s) (Ev.pos g.ok ?_));obtain ⟨y,E,k2⟩:=spread_l g (v,0,0) W.length 0 [] rfl (Nat.zero_le _) (Nat.zero_le _);refine E true ?_;obtain ⟨O,q,J⟩:=k2 y [] 0 (by simp);rw [Nat.zero_add] at q;rw [List.nil_append];exact back_j3 g q J
 · refine Ev.bind hp (Ev.neg he (Ev.pos rfl ?_))
   unfold law_Back.j4;exact Ev.ret
theorem back_true {t:Tree} {s:List UInt8} (ht:OkT t) (hs:s.length≤281474976710656):∃ k,law_Back k t s=some true:=by
 refine Ev.get ?_;unfold law_Back;obtain ⟨ah,V,X,ai,Y⟩:=size_ ht 0 (by omega);obtain ⟨aa,q,C,ab,_⟩:=thrice_ (a:=(s.length:Int)) (by omega) (by omega);obtain ⟨ad,D,E,ae,e17⟩:=add_ 0 X (by omega) C (by omega);obtain ⟨J,O,af,ag,e22⟩:=thrice_ E (by omega);refine Ev.bind V (Ev.bind (Ev.all q) (Ev.bind (Ev.all D) (Ev.bind (Ev.all O) ?_)));by_cases hb:(2147483647:Int) < J
 · exact Ev.pos hb Ev.ret
 refine Ev.neg hb ?_;have haw:Ev (fun k=>sy_awake k) true:=⟨60,fun k hk=>by
  obtain ⟨j,rfl⟩:∃ j,k=j+60:=⟨k - 60,by omega⟩;exact sy_awake_k j⟩
 have hwt:tokLen (nk t).1≤BB:=by
  have:=e22 (by omega);have:=e17 (by omega);have:=Y (by omega);have:=nk_len ht.sm;simp only [BB]
  omega
 refine Ev.bind haw ?_;rcases print_ ht.sm hwt with ⟨W,v,g,e,hp⟩ | hp
 · exact Ev.bind hp (Ev.bind g.parse (Ev.pos rfl (Ev.pos rfl (Ev.pos rfl (Ev.pos rfl (Ev.bind (same_t g.sm e) (Ev.pos rfl (back_j1 s))))))))
 · have:∀ r:Tree×Int×Int,Ev (fun k=>ps_Parse k []) r→Ev (fun k=>ps_Parse k (([]:List UInt8),(43:Int)).1) r:=fun r h=>h
   rcases parse_ [] with ⟨W,v,g⟩|⟨e,a,_,hq⟩
   · exact Ev.bind hp (Ev.bind (this _ g.parse) (Ev.pos rfl (Ev.neg (by decide) (Ev.pos rfl (Ev.pos rfl (back_j1 s))))))
   · exact Ev.bind hp (Ev.bind (this _ hq) (Ev.pos rfl (Ev.neg (by decide) (Ev.pos rfl (Ev.pos rfl (back_j1 s))))))
end Go.Proofs.YtnhifhlbelogcaaDoor
