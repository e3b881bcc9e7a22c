/- Both parsers: unions, types, declarations. -/
import Derived.Test.YtnhifhlbelogcaaDoorYSK
set_option linter.unusedVariables false
set_option linter.unusedSimpArgs false
namespace Go.Proofs.YtnhifhlbelogcaaDoor
open Go Go.Eng
variable {T:List Token} {n0 n d:Nat} {e a:Int} {t:Token}
theorem arm_j1 {M:Nat} (hT:Toks T) (hd:d≤8) (hD:HD T M) (h:e=0→M≤n∧n0≤n) (x:Token) {l:List Tree} (hl:l.length≤1000) (hsm:e=0→∀ t∈l,Sm t) :
 Sim Q0 T n0 n d e a (fun k=>ps_arm.j1 k x (kS T n d) l) (fun k=>pr_arm.j1 k x (rF T n d e a) l):=by
 refine Sim.unf ?_;simp only [ps_arm.j1,pr_arm.j1];refine Sim.seq (hD n d e a hd (fun he=>(h he).1)) fun v n1 e1 C D q=>?_
 refine Sim.cat2 (by simp only [List.length_singleton];omega) (Sim.unf ?_);simp only [ps_arm.j4,pr_arm.j3];exact Sim.want hT _ fun n2 E J _ O=>Sim.ret (fun _=>by omega) fun h=>.mk (by simp only [List.length_append,List.length_singleton];omega) (smL_app (hsm (by omega)) (smL_one (q (by omega))))
theorem arm_bad {M:Nat} (hT:Toks T) (hd:d≤8) (hD:HD T M) (he:e≠0) (hn:n < T.length) (x:Token) {l:List Tree} (hl:l.length≤1000):∃ w,Ev (fun k=>pr_arm.l1 k x (rF T n d e a) l) (w,rF T n d e a):=by
 obtain ⟨w,hw⟩:=(arm_j1 (n0:=n) (a:=a) hT hd hD (fun h=>absurd h he) x hl (fun h=>absurd h he)).bad he hn;exact ⟨w,Ev.step (Ev.neg he hw) (fun k=>by rw [pr_arm.l1])⟩
theorem arm_l {M:Nat} (hT:Toks T) (hd:d≤8) (hD:HD T M) (x:Token):∀ (m n:Nat) (e a:Int) (l:List Tree),l.length < 64→(e=0→T.length - n≤m∧n0 < n∧M≤n)→(e=0→∀ t∈l,Sm t) →
 Sim Q0 T n0 n d e a (fun k=>Option.bind (ps_value k (kS T n d)) fun q=>(if (q.1).isSome=true then (some (q.1,(⟨0,([]:List UInt8),0,0,[]⟩:Tree),q.2.2)) else (Option.bind (cat l ([q.2.1]:List Tree)) fun E=>(ps_arm.j3 k x q.2.2 E)))) (fun k=>pr_arm.l1 k x (rF T n d e a) l):=by
 have hTl:=hT.1;intro m
 induction m with
 | zero =>
  intro n e a l hl h hsm;refine Sim.cases (fun he ha t ht hn=>?_) (fun he t ht hn=>arm_bad hT hd hD he hn x (by omega));have:=h he
  omega
 | succ m ih =>
  intro n e a l hl h hsm;refine Sim.cases (fun he ha t ht hn=>?_) (fun he t ht hn=>arm_bad hT hd hD he hn x (by omega));obtain ⟨hm,ab,hM⟩:=h he;refine Sim.unfR ?_;simp only [pr_arm.l1];refine Sim.preR (fun r hr=>Ev.pos he hr) ?_;refine Sim.seq (value_sim hT) fun v n1 e1 ad ae J=>?_
  refine Sim.cat2 (by simp only [List.length_singleton];omega) (Sim.unf ?_);simp only [ps_arm.j3,pr_arm.j2];have hlv:(l++[v]).length≤64:=by simp only [List.length_append,List.length_singleton];omega
  have hlp:0 < (l++[v]).length:=by simp only [List.length_append,List.length_singleton];omega
  have hLs:e1=0→∀ t∈l++[v],Sm t:=fun h=>smL_app (hsm he) (smL_one (J h))
  generalize l++[v]=L at hlv hlp hLs;refine Sim.want hT _ fun n2 af ag _ ah=>?_
  refine Sim.unfS ?_;simp only [ps_arm.l1];refine Sim.preS (fun _ _ r hr=>Ev.neg (by omega) hr) ?_;refine Sim.is hT _ (fun O V hk=>?_) (fun _=>arm_j1 hT hd hD (fun _=>by omega) x (by omega) (fun h=>hLs (by omega)));subst O V;refine Sim.lt fun C=>?_
  obtain ⟨u,hu⟩:=at_some C;have hk':=hk u hu;by_cases D:(L.length:Int)=64
  · obtain ⟨w,hw⟩:=arm_bad (a:=u.At) hT hd hD (show (42:Int)≠0 by decide) C x (l:=L) (by omega)
    refine Sim.fault (by decide) C (z:=⟨0,[],0,0,[]⟩) (p:=kS T n2 d) (Ev.unf ?_) (Ev.pos D (Ev.bind (Ev.all (pr_fail_ hu 42)) (Ev.bind (Ev.all (pr_want_F hu (by decide) _)) hw)));simp only [ps_arm.j2];exact Ev.bind (ps_is1 hu _) (Ev.bind (ps_more_yes' hu hk' (by omega)) (Ev.pos rfl Ev.ret))
  · refine Sim.preR (fun r hr=>Ev.neg D hr) (Sim.unfS ?_)
    simp only [ps_arm.j2];refine Sim.preS (fun _ _ r hr=>Ev.bind (ps_is1 hu _) (Ev.bind (ps_more_no (by omega)) (Ev.neg (by simp) hr))) ?_;exact Sim.want hT _ fun X Y aa _ ai=>ih X Y aa L (by omega) (fun _=>by omega) (fun h=>hLs (by omega))
theorem arm_sim {M:Nat} (hT:Toks T) (hd:d≤8) (hD:HD T M) (h:e=0→M≤n):Sim Q0 T n n d e a (fun k=>ps_arm k (kS T n d)) (fun k=>pr_arm k (rF T n d e a)):=by
 refine Sim.unf ?_;simp only [ps_arm,pr_arm];refine Sim.tok fun t ht=>?_
 refine Sim.unfS ?_;simp only [ps_arm.l1];refine Sim.preS (fun _ _ r hr=>Ev.pos (by simp) hr) (Sim.unfS ?_);simp only [ps_arm.j2];refine Sim.lt fun hn=>?_
 refine Sim.preS (fun _ _ r hr=>Ev.bind (ps_is1 ht _) (Ev.bind (ps_more_no (by simp)) (Ev.neg (by simp) hr))) ?_;exact Sim.want hT _ fun q C D _ E=>arm_l hT hd hD t T.length q C D [] (by simp) (fun _=>by omega) (fun _=>smL_nil)
theorem choice_j1 {M:Nat} (hT:Toks T) (hd:d≤8) (hD:HD T M) (h:e=0→M≤n∧n0≤n) {l:List Tree} (hl:l.length≤100) (hsm:e=0→∀ t∈l,Sm t) :
 Sim Q0 T n0 n d e a (fun k=>ps_choice.j1 k (kS T n d) l) (fun k=>pr_choice.j1 k (rF T n d e a) l):=by
 refine Sim.unf ?_;simp only [ps_choice.j1,pr_choice.j1];refine Sim.cases (fun he ha t ht hn=>?_) (fun he t ht hn=>⟨l,Ev.bindc (idx_some ht) (Ev.bind (Ev.all (pr_may_F ht he _)) (Ev.neg (by simp) (Ev.bind (Ev.all (pr_want_F ht he _)) Ev.ret)))⟩);subst he ha;obtain ⟨hM,E⟩:=h rfl;cases hk:(isK t && (t.Text == [100,101,102,97,117,108,116]))
 · refine Sim.pre (fun _ _ r hr=>Ev.bind (ps_is1 ht _) (Ev.neg (by rw [hk];decide) hr)) (fun r hr=>Ev.bindc (idx_some ht) (Ev.bind (Ev.all fun k=>(pr_may_ ht hT.1 _ k).trans (by rw [hk])) (Ev.neg (by simp) hr))) ?_
   exact Sim.want hT _ fun n1 e1 C _ q=>Sim.ret (fun _=>by omega) fun _=>⟨by omega,hsm rfl⟩
 · have q:=hT.next ht (isK_ne5 hk)
   refine Sim.pre (fun _ _ r hr=>Ev.bind (ps_is1 ht _) (Ev.pos hk (Ev.bind (ps_want_t ht hT.1 hk) (Ev.neg (by simp) hr)))) (fun r hr=>Ev.bindc (idx_some ht) (Ev.bind (Ev.all fun k=>(pr_may_ ht hT.1 _ k).trans (by rw [hk])) (Ev.pos rfl hr))) (Sim.fwd q ?_);refine Sim.want hT _ fun n1 e1 C _ q=>?_
   refine Sim.seq (hD n1 d e1 C hd (fun _=>by omega)) fun v n2 J O V D=>?_
   refine Sim.cat2 (by simp only [List.length_singleton];omega) ?_;refine Sim.want hT _ fun X Y aa _ ab=>?_
   exact Sim.want hT _ fun ad ae af _ ag=>Sim.ret (fun _=>by omega) fun h=>⟨by simp only [List.length_append,List.length_singleton];omega,smL_app (hsm rfl) (smL_one (.one (D (by omega))))⟩
theorem choice_bad {M:Nat} (hT:Toks T) (hd:d≤8) (hD:HD T M) (he:e≠0) (hn:n < T.length) {l:List Tree} (hl:l.length≤100):∃ w,Ev (fun k=>pr_choice.l1 k (rF T n d e a) l) (w,rF T n d e a):=by
 obtain ⟨w,hw⟩:=(choice_j1 (n0:=n) (a:=a) hT hd hD (fun h=>absurd h he) hl (fun h=>absurd h he)).bad he hn;exact ⟨w,Ev.step (Ev.neg he hw) (fun k=>by rw [pr_choice.l1])⟩
theorem choice_l {M:Nat} (hT:Toks T) (hd:d≤8) (hD:HD T M):∀ (m n:Nat) (e a:Int) (l:List Tree),1≤l.length→l.length≤64→(e=0→T.length - n≤m∧n0 < n∧M≤n)→(e=0→∀ t∈l,Sm t) →
 Sim Q0 T n0 n d e a (fun k=>ps_choice.j2 k (kS T n d) l) (fun k=>pr_choice.l1 k (rF T n d e a) l):=by
 have hTl:=hT.1;intro m
 induction m with
 | zero =>
  intro n e a l D hl h hsm;refine Sim.cases (fun he ha t ht hn=>?_) (fun he t ht hn=>choice_bad hT hd hD he hn (by omega));have:=h he
  omega
 | succ m ih =>
  intro n e a l D hl h hsm;refine Sim.cases (fun he ha t ht hn=>?_) (fun he t ht hn=>choice_bad hT hd hD he hn (by omega));obtain ⟨hm,V,hM⟩:=h he;refine Sim.unf ?_;simp only [ps_choice.j2,pr_choice.l1];refine Sim.pre (fun _ _ r hr=>Ev.bind (ps_is1 ht _) (Ev.bind (ps_more_no (by rw [w64_of (by omega) (by omega)];omega)) (Ev.neg (by simp) hr))) (fun r hr=>Ev.pos he hr) ?_;refine Sim.seq (arm_sim hT hd hD (fun _=>hM)) fun v n1 e1 X Y E=>?_
  refine Sim.cat2 (by simp only [List.length_singleton];omega) (Sim.unfS ?_);have hlv:(l++[v]).length≤65:=by simp only [List.length_append,List.length_singleton];omega
  have hlp:2≤(l++[v]).length:=by simp only [List.length_append,List.length_singleton];omega
  have hLs:e1=0→∀ t∈l++[v],Sm t:=fun h=>smL_app (hsm he) (smL_one (E h))
  generalize l++[v]=L at hlv hlp hLs;simp only [ps_choice.l1];refine Sim.preS (fun _ _ r hr=>Ev.neg (by omega) hr) ?_;refine Sim.is hT _ (fun J O hk=>?_) (fun _=>choice_j1 hT hd hD (fun _=>by omega) (by omega) (fun h=>hLs h));subst J O;refine Sim.lt fun q=>?_
  obtain ⟨u,hu⟩:=at_some q;have hk':=hk u hu;by_cases C:64 < (L.length:Int)
  · obtain ⟨w,hw⟩:=choice_bad (a:=u.At) hT hd hD (show (42:Int)≠0 by decide) q (l:=L) (by omega)
    refine Sim.fault (by decide) q (z:=[]) (p:=kS T n1 d) (Ev.unf ?_) (Ev.pos C (Ev.bind (Ev.all (pr_fail_ hu 42)) hw));simp only [ps_choice.j2];exact Ev.bind (ps_is1 hu _) (Ev.bind (ps_more_yes' hu hk' (by rw [w64_of (by omega) (by omega)];omega)) (Ev.pos rfl Ev.ret))
  · exact Sim.preR (fun r hr=>Ev.neg C hr) (ih n1 0 0 L (by omega) (by omega) (fun _=>by omega) (fun _=>hLs rfl))
theorem choice_sim {M:Nat} (hT:Toks T) (hd:d≤8) (hD:HD T M) (h:e=0→M≤n):Sim Q0 T n n d e a (fun k=>ps_choice k (kS T n d)) (fun k=>pr_choice k (rF T n d e a)):=by
 refine Sim.unf ?_;simp only [ps_choice,pr_choice];refine Sim.want hT _ fun n1 e1 O _ V=>?_
 refine Sim.want hT _ fun n2 C D _ X=>?_
 refine Sim.seq (hD n2 d C D hd (fun _=>by omega)) fun v Y aa ab ad q=>?_
 refine Sim.want hT _ fun ae af ag _ ah=>?_
 refine Sim.want hT _ fun E e5 J _ ai=>?_
 refine Sim.unfS ?_;simp only [ps_choice.l1];exact Sim.preS (fun _ _ r hr=>Ev.pos (by simp) hr) (choice_l hT hd hD T.length E e5 J [v] (by simp) (by simp) (fun _=>by omega) (fun h=>smL_one (q (by omega))))
theorem body_rel {M:Nat} (hT:Toks T) (hd:d < 8) (hD:HD T M) (h:e=0→M≤n) (txt:List UInt8) (K:Int) (hK:e=0→K=bodyK txt∧K≠0) (nm:List UInt8) (x:Int) (hn:n < T.length) :
 (e=0→a=0→(∃ kids n',n < n'∧n' < T.length∧Sml.sm kids∧Ev (fun k=>ps_body k (kS T n d) txt) (none,K,kids,kS T n' d)∧Ev (fun k=>pr_body k (rF T n d e a) ⟨K,nm,0,x,[]⟩) (⟨K,nm,0,x,kids⟩,rS T n' d)) ∨
  ∃ e' a' O V p kids n',e'≠0∧n' < T.length∧Ev (fun k=>ps_body k (kS T n d) txt) (some (faultV e' a'),O,V,p)∧Ev (fun k=>pr_body k (rF T n d e a) ⟨K,nm,0,x,[]⟩) (⟨K,nm,0,x,kids⟩,rF T n' d e' a')) ∧
 (e≠0→∃ kids,Ev (fun k=>pr_body k (rF T n d e a) ⟨K,nm,0,x,[]⟩) (⟨K,nm,0,x,kids⟩,rF T n d e a)):=by
 have hu:w64 ((d:Int)+1)=((d+1:Nat):Int):=w64_succ (by omega);have hdn:w64 (((d+1:Nat):Int) - 1)=(d:Int):=by rw [w64_of (by omega) (by omega)];omega
 have gen:∀ {F:Nat→Option (Option Value×List Tree×ParK)} {fr:Nat→Option (List Tree×ParR)},Sim Q0 T n n (d+1) e a F fr →
  (e=0→∀ r,Ev (fun k=>Option.bind (F k) fun q=>(if (q.1).isSome=true then (some (q.1,(0:Int),([]:List Tree),(⟨q.2.2.tokens,q.2.2.next,w64 (q.2.2.deep - 1)⟩:ParK))) else (some (none,K,(q.2.1),(⟨q.2.2.tokens,q.2.2.next,w64 (q.2.2.deep - 1)⟩:ParK))))) r→Ev (fun k=>ps_body k (kS T n d) txt) r) →
  (∀ r,Ev (fun k=>Option.bind (fr k) fun J=>pr_body.j1 k ⟨K,nm,0,x,[]⟩ J.2 (J.1)) r→Ev (fun k=>pr_body k (rF T n d e a) ⟨K,nm,0,x,[]⟩) r) →
  (e=0→a=0→(∃ kids n',n < n'∧n' < T.length∧Sml.sm kids∧Ev (fun k=>ps_body k (kS T n d) txt) (none,K,kids,kS T n' d)∧Ev (fun k=>pr_body k (rF T n d e a) ⟨K,nm,0,x,[]⟩) (⟨K,nm,0,x,kids⟩,rS T n' d)) ∨
   ∃ e' a' O V p kids n',e'≠0∧n' < T.length∧Ev (fun k=>ps_body k (kS T n d) txt) (some (faultV e' a'),O,V,p)∧Ev (fun k=>pr_body k (rF T n d e a) ⟨K,nm,0,x,[]⟩) (⟨K,nm,0,x,kids⟩,rF T n' d e' a')) ∧
  (e≠0→∃ kids,Ev (fun k=>pr_body k (rF T n d e a) ⟨K,nm,0,x,[]⟩) (⟨K,nm,0,x,kids⟩,rF T n d e a)):=by
  intro F fr hS hps hpr;obtain ⟨X,C⟩:=hS hn;have hj:∀ (kids:List Tree) (n':Nat) (e' a':Int),Ev fr (kids,rF T n' (d+1) e' a')→Ev (fun k=>pr_body k (rF T n d e a) ⟨K,nm,0,x,[]⟩) (⟨K,nm,0,x,kids⟩,rF T n' d e' a'):=fun kids n' e' a' hr=>by
   refine hpr _ (Ev.bind hr (Ev.unf ?_));simp only [pr_body.j1];rw [hdn];exact Ev.ret
  refine ⟨fun he ha=>?_,fun he=>?_⟩
  · rcases X he ha with ⟨v,n',l1,l2,sv,s,r⟩|⟨e',a',z',p',w,n',he',l,s,r⟩
    · refine .inl ⟨v,n',l1,l2,sv,hps he _ (Ev.bind s (Ev.neg (by simp) (Ev.cast Ev.ret ?_))),hj _ _ _ _ r⟩
      simp only [hdn]
    · exact .inr ⟨e',a',_,_,_,w,n',he',l,hps he _ (Ev.bind s (Ev.pos rfl Ev.ret)),hj _ _ _ _ r⟩
  · obtain ⟨w,hw⟩:=C he
    exact ⟨w,hj _ _ _ _ hw⟩
 have hbk:e=0→(txt=[101,110,117,109]→K=4)∧(¬ txt=[101,110,117,109]→txt=[115,116,114,117,99,116]→K=6)∧(¬ txt=[101,110,117,109]→¬ txt=[115,116,114,117,99,116]→K=7):=fun he=>by
  obtain ⟨C,Y⟩:=hK he;unfold bodyK at C;refine ⟨fun h=>by rw [if_pos h] at C;exact C,fun ha hb=>by rw [if_neg ha,if_pos hb] at C;exact C,fun ha hb=>?_⟩;rw [if_neg ha,if_neg hb] at C;by_cases hc:txt=[117,110,105,111,110]
  · rw [if_pos hc] at C;exact C
  · rw [if_neg hc] at C;exact absurd C Y
 by_cases D:K=4
 · refine gen (members_sim (d:=d+1) hT) (fun he r hr=>Ev.unf ?_) (fun r hr=>Ev.unf ?_)
   · have hx:txt=[101,110,117,109]:=Classical.byContradiction fun hx=>by
      by_cases hy:txt=[115,116,114,117,99,116]
      · have:=(hbk he).2.1 hx hy;omega
      · have:=(hbk he).2.2 hx hy;omega
     subst D;simp only [ps_body,hu];exact Ev.pos hx hr
   · simp only [pr_body,hu]
     exact Ev.pos D hr
 · by_cases E:K=6
   · refine gen (fields_sim (d:=d+1) hT (by omega) hD h) (fun he r hr=>Ev.unf ?_) (fun r hr=>Ev.unf ?_)
     · have hx:¬ txt=[101,110,117,109]:=fun hx=>D ((hbk he).1 hx)
       have hy:txt=[115,116,114,117,99,116]:=Classical.byContradiction fun hy=>by
        have:=(hbk he).2.2 hx hy;omega
       subst E;simp only [ps_body,hu];exact Ev.neg hx (Ev.pos hy hr)
     · simp only [pr_body,hu]
       exact Ev.neg D (Ev.pos E hr)
   · refine gen (choice_sim (d:=d+1) hT (by omega) hD h) (fun he r hr=>Ev.unf ?_) (fun r hr=>Ev.unf ?_)
     · have hx:¬ txt=[101,110,117,109]:=fun hx=>D ((hbk he).1 hx)
       have hy:¬ txt=[115,116,114,117,99,116]:=fun hy=>E ((hbk he).2.1 hx hy)
       obtain rfl:=(hbk he).2.2 hx hy;simp only [ps_body,hu];exact Ev.neg hx (Ev.neg hy hr)
     · simp only [pr_body,hu]
       exact Ev.neg D (Ev.neg E hr)
theorem body_seq {β σ:Type} [Sml β] {Q:Reach β σ} {M:Nat} (hT:Toks T) (hd:d < 8) (hD:HD T M) (h:e=0→M≤n) (txt:List UInt8) (K:Int) (hK:e=0→K=bodyK txt∧K≠0) (nm:List UInt8) (x:Int)
 {gs:Nat→(Option Value×Int×List Tree×ParK)→Option (Option Value×β×ParK)} {z:(Option Value×Int×List Tree×ParK)→β} {p:(Option Value×Int×List Tree×ParK)→ParK} {gr:Nat→Tree×ParR→Option σ}
 (hg:∀ kids n' e' a',(e'=0→n < n'∧e=0)→(e'=0→Sml.sm kids)→Sim Q T n0 n' d e' a' (fun k=>gs k (none,K,kids,kS T n' d)) (fun k=>gr k (⟨K,nm,0,x,kids⟩,rF T n' d e' a'))) :
 Sim Q T n0 n d e a (fun k=>Option.bind (ps_body k (kS T n d) txt) fun t=>if t.1.isSome=true then some (t.1,z t,p t) else gs k t) (fun k=>Option.bind (pr_body k (rF T n d e a) ⟨K,nm,0,x,[]⟩) (gr k)):=by
 intro hn;obtain ⟨J,O⟩:=body_rel (a:=a) hT hd hD h txt K hK nm x hn;refine ⟨fun he ha=>?_,fun he=>?_⟩
 · rcases J he ha with ⟨v,n',l1,l2,sv,s,r⟩|⟨e',a',ad,C,p',w,n',he',l,s,r⟩
   · rcases (hg v n' 0 0 (fun _=>⟨l1,he⟩) (fun _=>sv) l2).1 rfl rfl with ⟨v',n2,V,X,sv',s',r'⟩|⟨Y,aa,C,ab,q,n2,D,m,s',r'⟩
     · exact .inl ⟨v',n2,V,X,sv',Ev.bind s (Ev.neg (by simp) s'),Q.mono (fun x hx=>Ev.bind r hx) r'⟩
     · exact .inr ⟨Y,aa,C,ab,q,n2,D,m,Ev.bind s (Ev.neg (by simp) s'),Q.mono (fun x hx=>Ev.bind r hx) r'⟩
   · obtain ⟨q,hw⟩:=(hg w n' e' a' (fun h=>absurd h he') (fun h=>absurd h he') l).2 he'
     exact .inr ⟨e',a',_,_,q,n',he',l,Ev.bind s (Ev.pos rfl Ev.ret),Q.mono (fun x hx=>Ev.bind r hx) hw⟩
 · obtain ⟨w,hw⟩:=O he
   obtain ⟨q,E⟩:=(hg w n e a (fun h=>absurd h he) (fun h=>absurd h he) hn).2 he;exact ⟨q,Q.mono (fun x hx=>Ev.bind hw hx) E⟩
theorem typ_bad (ht:T[n]? = some t) (he:e≠0):∃ w,Ev (fun k=>pr_typed k (rF T n d e a)) (w,rF T n d e a):=by
 refine ⟨⟨0,[],0,t.At,[]⟩,Ev.unf ?_⟩;simp only [pr_typed];refine Ev.bind (Ev.all (pr_bodied_ ht)) (Ev.neg he (Ev.unf ?_));simp only [pr_typed.j1];exact Ev.pos (by simp) (Ev.bind (Ev.all (pr_bare_F he ht)) Ev.ret)
theorem typ_sim (hT:Toks T) (hd:d≤8) (hD:HD T (n+1)):Sim Q0 T n n d e a (fun k=>ps_typ k (kS T n d)) (fun k=>pr_typed k (rF T n d e a)):=by
 have hTl:=hT.1;refine Sim.cases (fun he ha t ht hn=>?_) (fun he t ht hn=>typ_bad ht he);subst he ha;by_cases hb:bodied t=0
 · refine Sim.unf ?_
   simp only [ps_typ,pr_typed];refine Sim.pre (fun _ _ r hr=>Ev.bind (ps_shallow_no hT ht (fun h=>h.1 hb)) (Ev.neg (by simp) (Ev.bind (ps_isBody_ hT ht) (Ev.neg (by simp [hb]) hr)))) (fun r hr=>Ev.bind (Ev.all (pr_bodied_ ht)) (Ev.pos (by simp) (Ev.unf ?_))) (Sim.eta (Sim.tail (bare_sim hT) (fun _=>Nat.le_refl n)));simp only [pr_typed.j1];exact Ev.pos (by simp [hb]) hr
 · by_cases D:8≤d
   · refine Sim.fault (e':=41) (a':=t.At) (by decide) hn (z:=⟨0,[],0,0,[]⟩) (p:=kS T n d) (w:=⟨0,[],0,0,[]⟩) (Ev.unf ?_) (show Ev (fun k=>pr_typed k (rF T n d 0 0)) _ from Ev.unf ?_)
     · simp only [ps_typ]
       exact Ev.bind (ps_shallow_yes hT ht hb D) (Ev.pos rfl Ev.ret)
     · simp only [pr_typed]
       refine Ev.bind (Ev.all (pr_bodied_ ht)) (Ev.pos (by simp) (Ev.unf ?_));simp only [pr_typed.j1];exact Ev.neg (by simp [hb]) (Ev.pos (by omega) (Ev.bind (Ev.all (pr_fail_ ht 41)) Ev.ret))
   · have E:t.Kind≠5:=fun V=>hb (by unfold bodied;rw [if_neg (by omega)])
     have O:=hT.next ht E;have hw:w64 ((n:Int)+1)=((n+1:Nat):Int):=w64_succ (by omega);have hbt:bodied t=bodyK t.Text:=by
      unfold bodied at hb ⊢;by_cases J:t.Kind=2
      · rw [if_pos J]
      · rw [if_neg J] at hb;exact absurd rfl hb
     refine Sim.unf ?_;simp only [ps_typ,pr_typed];refine Sim.pre (gs:=fun k=>Option.bind (ps_body k (kS T (n+1) d) t.Text) fun q=>(if (q.1).isSome=true then (some (q.1,(⟨0,([]:List UInt8),0,0,[]⟩:Tree),q.2.2.2)) else (some (none,(⟨q.2.1,([]:List UInt8),0,t.At,(q.2.2.1)⟩:Tree),q.2.2.2))))
      (gr:=fun k=>Option.bind (pr_body k (rF T (n+1) d 0 0) ⟨bodied t,[],0,t.At,[]⟩) fun C=>some (C.1,C.2))
      (fun _ _ r hr=>Ev.bind (ps_shallow_no hT ht (fun h=>D h.2)) (Ev.neg (by simp) (Ev.bind (ps_isBody_ hT ht) (Ev.pos (by simp [hb]) (Ev.bind (Ev.all (ps_token_ ht)) ?_))))) (fun r hr=>Ev.bind (Ev.all (pr_bodied_ ht)) (Ev.pos (by simp) (Ev.unf ?_))) ?_
     · rw [hw];exact hr
     · simp only [pr_typed.j1]
       refine Ev.neg (by simp [hb]) (Ev.neg (by omega) (Ev.bindc (idx_some ht) ?_));rw [hw];exact hr
     · refine Sim.fwd O (body_seq (n0:=n) hT (by omega) hD (fun _=>Nat.le_refl _) t.Text (bodied t) (fun _=>⟨hbt,hb⟩) [] t.At fun kids n' e' a' h' hk=>Sim.ret (fun _=>by omega) fun h=>.mk (Nat.le_trans (hk h).1 (by decide)) (hk h).2)
theorem decl_bad (ht:T[n]? = some t) (he:e≠0) (b:Bool):∃ w,Ev (fun k=>pr_declaration k (rF T n d e a) b) (w,rF T n d e a):=by
 obtain ⟨w,hw⟩:=typ_bad (d:=d) (a:=a) ht he;refine ⟨⟨14,[],0,0,[w]⟩,Ev.unf ?_⟩;simp only [pr_declaration];refine Ev.bindc (idx_some ht) (Ev.bind (Ev.all (pr_is_F ht he _)) (Ev.neg (by simp) (Ev.unf ?_)));simp only [pr_declaration.j1];refine Ev.neg (by simp) (Ev.bind (Ev.all (pr_may_F ht he _)) (Ev.neg (by simp) (Ev.bind (Ev.all (pr_may_F ht he _)) (Ev.neg (by simp) (Ev.bind hw ?_)))));exact Ev.bind (Ev.all (pr_may_F ht he _)) (Ev.neg (by simp) (Ev.bind (sized_bad w 0 ht he) Ev.ret))
theorem decl_sim (hT:Toks T) (hd:d≤8) (hD:HD T (n+1)) (b:Bool) (hb:b=false→e=0→∀ t,T[n]? = some t→isW t [118,111,105,100]=false):Sim Q0 T n n d e a (fun k=>ps_declaration k (kS T n d)) (fun k=>pr_declaration k (rF T n d e a) b):=by
 have hTl:=hT.1;refine Sim.cases (fun he ha t ht hn=>?_) (fun he t ht hn=>decl_bad ht he b);subst he ha;have hw:=hT.w1 ht (s:=[118,111,105,100]) (by decide);refine Sim.unf ?_;simp only [ps_declaration,pr_declaration];refine Sim.pre (fun _ _ r hr=>Ev.bind (Ev.all (ps_token_ ht)) hr) (fun r hr=>Ev.bindc (idx_some ht) hr) ?_;by_cases hv:isW t [118,111,105,100]=true
 · have hbt:b=true:=by
    cases b
    · rw [hb rfl rfl t ht] at hv;exact absurd hv (by decide)
    · rfl
   have D:t.Kind≠5:=by unfold isW at hv;simp at hv;omega
   have q:=hT.next ht D;have E:w64 ((n:Int)+1)=((n+1:Nat):Int):=w64_succ (by omega);refine Sim.pre (fun _ _ r hr=>Ev.bind (may_yes hT ht (by decide) hv) (Ev.pos rfl hr)) (fun r hr=>Ev.bind (Ev.all fun k=>(pr_is_ ht _ k).trans (by rw [hw,hv])) (Ev.pos rfl (Ev.unf ?_))) (Sim.fwd q (Sim.ret (fun _=>Nat.lt_succ_self n) fun _=>.leaf));simp only [pr_declaration.j1];refine Ev.pos (by simp [hbt]) ?_;rw [E];exact hr
 · have hv':isW t [118,111,105,100]=false:=by simpa using hv
   refine Sim.pre (fun _ _ r hr=>Ev.bind (may_no hT ht (by decide) hv') (Ev.neg (by simp) hr)) (fun r hr=>Ev.bind (Ev.all fun k=>(pr_is_ ht _ k).trans (by rw [hw,hv'])) (Ev.neg (by simp) hr)) (Sim.unfR ?_);simp only [pr_declaration.j1];refine Sim.preR (fun r hr=>Ev.neg (by simp) hr) ?_;refine Sim.may hT _ (fun _ _ _=>?_) (fun _=>?_)
   · refine Sim.eta ?_
     unfold pr_sized;exact Sim.name hT 14 fun n1 e1 J s x q=>sized1_sim hT s x _ .leaf (fun _=>by omega)
   · refine Sim.may hT _ (fun _ _ _=>?_) (fun _=>?_)
     · refine Sim.eta ?_
       unfold pr_sized;exact Sim.name hT 14 fun n1 e1 J s x q=>sized2_sim hT s x _ .leaf (fun _=>by omega)
     · refine Sim.seq (typ_sim hT hd hD) fun v n1 e1 J q C=>?_
       refine Sim.may hT _ (fun _ _ _=>?_) (fun _=>?_)
       · exact Sim.name hT 17 fun n2 O V s x X=>Sim.ret (fun _=>by omega) fun h=>.one (C (by omega))
       · refine Sim.eta ?_
         unfold pr_sized;exact Sim.name hT 14 fun n2 O V s x X=>sized0_sim hT s x _ (fun h=>C (by omega)) (fun _=>by omega)
theorem HD_all (hT:Toks T):∀ (m M:Nat),T.length - M≤m→HD T M:=by
 intro m
 induction m with
 | zero =>
  intro M hM n d e a hd h;refine Sim.cases (fun he ha t ht hn=>?_) (fun he t ht hn=>decl_bad ht he true);have:=h he
  omega
 | succ m ih =>
  intro M hM n d e a hd h;refine Sim.cases (fun he ha t ht hn=>?_) (fun he t ht hn=>decl_bad ht he true);have:=h he;exact decl_sim hT hd (ih (n+1) (by omega)) true (fun h=>absurd h (by decide))
theorem HD_ (hT:Toks T) (M:Nat):HD T M:=HD_all hT _ M (Nat.le_refl _)
end Go.Proofs.YtnhifhlbelogcaaDoor
