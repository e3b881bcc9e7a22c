/- Both parsers, step by step: what both do alike. -/
import Derived.Test.YtnhifhlbelogcaaDoorYSA
set_option linter.unusedVariables false
set_option linter.unusedSimpArgs false
set_option linter.unusedSectionVars false
namespace Go.Proofs.YtnhifhlbelogcaaDoor
open Go Go.Eng
variable {T:List Token} {n0 n d:Nat} {e a:Int} {α β ρ σ:Type} {t:Token}
theorem at_some (h:n < T.length):∃ t,T[n]? = some t:=⟨_,List.getElem?_eq_getElem h⟩
inductive Sm:Tree→Prop where
 | mk {K:Int} {nm:List UInt8} {x a:Int} {l:List Tree}:l.length≤4398046511104→(∀ t∈l,Sm t)→(hx:NB x:=by first | exact nb0 | assumption)→Sm ⟨K,nm,x,a,l⟩
class Sml (α:Type) where
 sm:α→Prop
instance:Sml Tree:=⟨Sm⟩
instance:Sml (List Tree):=⟨fun l=>l.length≤1000∧∀ t∈l,Sm t⟩
theorem Sm.leaf {K:Int} {nm:List UInt8} {x a:Int} (hx:NB x:=by exact nb0):Sm ⟨K,nm,x,a,[]⟩:=.mk (by decide) (fun t h=>absurd h (by simp)) hx
theorem sm_leaf {v:Tree} (h:v.Kids=[]∧NB v.Number):Sm v:=by
 cases v
 obtain ⟨h,g⟩:=h;cases h;exact Sm.leaf g
theorem smL_nil:∀ t∈([]:List Tree),Sm t:=fun t h=>absurd h (by simp)
theorem smL_cons {v:Tree} {l:List Tree} (hv:Sm v) (hl:∀ t∈l,Sm t):∀ t∈v::l,Sm t:=fun t h=>by
 rcases List.mem_cons.1 h with rfl | h
 · exact hv
 · exact hl t h
theorem smL_one {v:Tree} (hv:Sm v):∀ t∈[v],Sm t:=smL_cons hv smL_nil
theorem Sm.two {K:Int} {nm:List UInt8} {x a:Int} {v u:Tree} (hv:Sm v) (hu:Sm u) (hx:NB x:=by exact nb0):Sm ⟨K,nm,x,a,[v,u]⟩:=.mk (by simp) (smL_cons hv (smL_one hu)) hx
theorem Sm.one {K:Int} {nm:List UInt8} {x a:Int} {v:Tree} (hv:Sm v) (hx:NB x:=by exact nb0):Sm ⟨K,nm,x,a,[v]⟩:=.mk (by simp) (smL_one hv) hx
theorem smL_app {l m:List Tree} (hl:∀ t∈l,Sm t) (hm:∀ t∈m,Sm t):∀ t∈l++m,Sm t:=fun t h=>(List.mem_append.1 h).elim (hl t) (hm t)
structure Reach (α ρ:Type) where
 rt:(Nat→Option ρ)→α→ParR→Prop
 mono:∀ {f g:Nat→Option ρ},(∀ r,Ev g r→Ev f r)→∀ {v s},rt g v s→rt f v s
def Q0:Reach α (α×ParR) where
 rt f v s:=Ev f (v,s)
 mono h _ _ hv:=h _ hv
def QC (P:α→Prop) (C:Nat→α→ParR→Option ρ):Reach α ρ where
 rt f v s:=P v∧∀ r,Ev (fun k=>C k v s) r→Ev f r
 mono h _ _ hv:=⟨hv.1,fun r hr=>h r (hv.2 r hr)⟩
def Sim [Sml α] (Q:Reach α ρ) (T:List Token) (n0 n d:Nat) (e a:Int) (fs:Nat→Option (Option Value×α×ParK)) (fr:Nat→Option ρ):Prop :=
 n < T.length →
  (e=0→a=0→(∃ v n',n0 < n'∧n' < T.length∧Sml.sm v∧Ev fs (none,v,kS T n' d)∧Q.rt fr v (rS T n' d)) ∨
   ∃ e a z p w n',e≠0∧n' < T.length∧Ev fs (some (faultV e a),z,p)∧Q.rt fr w (rF T n' d e a)) ∧
  (e≠0→∃ w,Q.rt fr w (rF T n d e a))
section
variable [Sml α] {Q:Reach α ρ} {fs gs:Nat→Option (Option Value×α×ParK)} {fr gr:Nat→Option ρ}
theorem Sim.pre (hs:e=0→a=0→∀ r,Ev gs r→Ev fs r) (hr:∀ r,Ev gr r→Ev fr r) (h:Sim Q T n0 n d e a gs gr):Sim Q T n0 n d e a fs fr:=by
 intro hn;obtain ⟨q,C⟩:=h hn;refine ⟨fun he ha=>?_,fun he=>?_⟩
 · rcases q he ha with ⟨v,n',l1,l2,sv,s,r⟩|⟨e',a',z,p,w,n',he',l,s,r⟩
   · exact .inl ⟨v,n',l1,l2,sv,hs he ha _ s,Q.mono hr r⟩
   · exact .inr ⟨e',a',z,p,w,n',he',l,hs he ha _ s,Q.mono hr r⟩
 · obtain ⟨w,hw⟩:=C he
   exact ⟨w,Q.mono hr hw⟩
theorem Sim.preS (hs:e=0→a=0→∀ r,Ev gs r→Ev fs r) (h:Sim Q T n0 n d e a gs fr):Sim Q T n0 n d e a fs fr:=h.pre hs (fun _ h=>h)
theorem Sim.preR (hr:∀ r,Ev gr r→Ev fr r) (h:Sim Q T n0 n d e a fs gr):Sim Q T n0 n d e a fs fr:=h.pre (fun _ _ _ h=>h) hr
theorem Sim.unf (h:Sim Q T n0 n d e a (fun k=>fs (k+1)) (fun k=>fr (k+1))):Sim Q T n0 n d e a fs fr:=h.pre (fun _ _ _ h=>Ev.unf h) (fun _ h=>Ev.unf h)
theorem Sim.unfS (h:Sim Q T n0 n d e a (fun k=>fs (k+1)) fr):Sim Q T n0 n d e a fs fr:=h.preS (fun _ _ _ h=>Ev.unf h)
theorem Sim.unfR (h:Sim Q T n0 n d e a fs (fun k=>fr (k+1))):Sim Q T n0 n d e a fs fr:=h.preR (fun _ h=>Ev.unf h)
theorem Sim.split {fr:Int→Int→Nat→Option ρ} (q:∀ t,T[n]? = some t→e=0→Sim Q T n0 n d 0 0 fs (fr 0 0)) (C:e≠0→∀ t,T[n]? = some t→∃ w,Q.rt (fr e a) w (rF T n d e a)):Sim Q T n0 n d e a fs (fr e a):=by
 intro hn;obtain ⟨t,ht⟩:=at_some hn;refine ⟨fun he ha=>?_,fun he=>C he t ht⟩;subst he ha;exact (q t ht rfl hn).1 rfl rfl
theorem Sim.cases (q:e=0→a=0→∀ t,T[n]? = some t→n < T.length→Sim Q T n0 n d e a fs fr) (C:e≠0→∀ t,T[n]? = some t→n < T.length→∃ w,Q.rt fr w (rF T n d e a)):Sim Q T n0 n d e a fs fr:=by
 intro hn;obtain ⟨t,ht⟩:=at_some hn;exact ⟨fun he ha=>(q he ha t ht hn hn).1 he ha,fun he=>C he t ht hn⟩
theorem Sim.fault {e' a':Int} {z p w} {n':Nat} (he:e'≠0) (hl:n' < T.length) (hs:Ev fs (some (faultV e' a'),z,p)) (hr:Q.rt fr w (rF T n' d e' a')):Sim Q T n0 n d 0 0 fs fr :=
 fun _=>⟨fun _ _=>.inr ⟨e',a',z,p,w,n',he,hl,hs,hr⟩,fun h=>absurd rfl h⟩
theorem Sim.bad (h:Sim Q T n0 n d e a fs fr) (he:e≠0) (hn:n < T.length):∃ w,Q.rt fr w (rF T n d e a):=(h hn).2 he
theorem Sim.lt (h:n < T.length→Sim Q T n0 n d e a fs fr):Sim Q T n0 n d e a fs fr:=fun hn=>h hn hn
end
theorem Sim.ret [Sml α] {v:α} (h:e=0→n0 < n) (hs:e=0→Sml.sm v):Sim Q0 T n0 n d e a (fun _=>some (none,v,kS T n d)) (fun _=>some (v,rF T n d e a)):=by
 intro hn;exact ⟨fun he ha=>by subst he ha;exact .inl ⟨v,n,h rfl,hn,hs rfl,Ev.ret,Ev.ret⟩,fun _=>⟨v,Ev.ret⟩⟩
theorem Sim.cont [Sml α] {P:α→Prop} {C:Nat→α→ParR→Option ρ} {v:α} (hP:P v) (h:e=0→n0 < n) (hs:e=0→Sml.sm v):Sim (QC P C) T n0 n d e a (fun _=>some (none,v,kS T n d)) (fun k=>C k v (rF T n d e a)):=by
 intro hn;exact ⟨fun he ha=>by subst he ha;exact .inl ⟨v,n,h rfl,hn,hs rfl,Ev.ret,hP,fun r hr=>hr⟩,fun _=>⟨v,hP,fun r hr=>hr⟩⟩
theorem Sim.of_agree {fs:Nat→Option (Option Value×Tree×ParK)} {fr:Int→Int→Nat→Option (Tree×ParR)} (q:∀ t,T[n]? = some t→Agree T n d fs (fr 0 0)) (C:e≠0→∀ t,T[n]? = some t→∃ w,Ev (fr e a) (w,rF T n d e a)):Sim Q0 T n n d e a fs (fr e a):=by
 refine Sim.split (fr:=fr) (fun t ht _=>fun _=>⟨fun _ _=>?_,fun h=>absurd rfl h⟩) C;rcases q t ht with ⟨v,n',l1,l2,s,r,hk⟩ | h
 · exact .inl ⟨v,n',l1,l2,sm_leaf hk,s,r⟩
 · exact .inr h
section
variable [Sml α] [Sml β] {Q:Reach β σ}
theorem Sim.seqC {P:α→Prop} {C:Nat→α→ParR→Option σ} {F:Nat→Option (Option Value×α×ParK)} {fr:Nat→Option σ} {gs:Nat→(Option Value×α×ParK)→Option (Option Value×β×ParK)} {z:(Option Value×α×ParK)→β} {p:(Option Value×α×ParK)→ParK}
 (h:Sim (QC P C) T n n d e a F fr) (hg:∀ v n' e' a',P v→(e'=0→n < n'∧e=0)→(e'=0→Sml.sm v)→Sim Q T n0 n' d e' a' (fun k=>gs k (none,v,kS T n' d)) (fun k=>C k v (rF T n' d e' a'))) :
 Sim Q T n0 n d e a (fun k=>Option.bind (F k) fun t=>if t.1.isSome=true then some (t.1,z t,p t) else gs k t) fr:=by
 intro hn;obtain ⟨J,O⟩:=h hn;refine ⟨fun he ha=>?_,fun he=>?_⟩
 · rcases J he ha with ⟨v,n',l1,l2,sv,s,r⟩|⟨e',a',z',p',w,n',he',l,s,r⟩
   · rcases (hg v n' 0 0 r.1 (fun _=>⟨l1,he⟩) (fun _=>sv) l2).1 rfl rfl with ⟨v',n2,V,X,sv',s',r'⟩|⟨Y,aa,ab,ad,q,n2,D,m,s',r'⟩
     · exact .inl ⟨v',n2,V,X,sv',Ev.bind s (Ev.neg (by simp) s'),Q.mono (fun x hx=>r.2 x hx) r'⟩
     · exact .inr ⟨Y,aa,ab,ad,q,n2,D,m,Ev.bind s (Ev.neg (by simp) s'),Q.mono (fun x hx=>r.2 x hx) r'⟩
   · obtain ⟨q,hw⟩:=(hg w n' e' a' r.1 (fun h=>absurd h he') (fun h=>absurd h he') l).2 he'
     exact .inr ⟨e',a',_,_,q,n',he',l,Ev.bind s (Ev.pos rfl Ev.ret),Q.mono (fun x hx=>r.2 x hx) hw⟩
 · obtain ⟨w,hw⟩:=O he
   obtain ⟨q,E⟩:=(hg w n e a hw.1 (fun h=>absurd h he) (fun h=>absurd h he) hn).2 he;exact ⟨q,Q.mono (fun x hx=>hw.2 x hx) E⟩
theorem Sim.toC {C:Nat→α×ParR→Option σ} {F:Nat→Option (Option Value×α×ParK)} {fr:Nat→Option (α×ParR)} (h:Sim Q0 T n0 n d e a F fr):Sim (QC (fun _=>True) fun k v s=>C k (v,s)) T n0 n d e a F (fun k=>Option.bind (fr k) (C k)):=by
 intro hn;obtain ⟨q,D⟩:=h hn;refine ⟨fun he ha=>?_,fun he=>?_⟩
 · rcases q he ha with ⟨v,n',l1,l2,sv,s,r⟩|⟨e',a',z',p',w,n',he',l,s,r⟩
   · exact .inl ⟨v,n',l1,l2,sv,s,trivial,fun x hx=>Ev.bind r hx⟩
   · exact .inr ⟨e',a',z',p',w,n',he',l,s,trivial,fun x hx=>Ev.bind r hx⟩
 · obtain ⟨w,hw⟩:=D he
   exact ⟨w,trivial,fun x hx=>Ev.bind hw hx⟩
theorem Sim.seq {F:Nat→Option (Option Value×α×ParK)} {fr:Nat→Option (α×ParR)} {gs:Nat→(Option Value×α×ParK)→Option (Option Value×β×ParK)} {z:(Option Value×α×ParK)→β} {p:(Option Value×α×ParK)→ParK} {C:Nat→α×ParR→Option σ}
 (h:Sim Q0 T n n d e a F fr) (hg:∀ v n' e' a',(e'=0→n < n'∧e=0)→(e'=0→Sml.sm v)→Sim Q T n0 n' d e' a' (fun k=>gs k (none,v,kS T n' d)) (fun k=>C k (v,rF T n' d e' a'))) :
 Sim Q T n0 n d e a (fun k=>Option.bind (F k) fun t=>if t.1.isSome=true then some (t.1,z t,p t) else gs k t) (fun k=>Option.bind (fr k) (C k)) :=
 Sim.seqC h.toC fun v n' e' a' _ h hs=>hg v n' e' a' h hs
theorem Sim.eta [Sml α] {fs:Nat→Option (Option Value×α×ParK)} {fr:Nat→Option (α×ParR)} (h:Sim Q0 T n0 n d e a fs fr):Sim Q0 T n0 n d e a fs (fun k=>Option.bind (fr k) fun t=>some (t.1,t.2)) :=
 h.preR fun r hr=>Ev.bind hr Ev.ret
theorem isK_ne5 {s:List UInt8} (h:(isK t && (t.Text == s))=true):t.Kind≠5:=by
 unfold isK at h;intro q
 simp [q] at h
theorem pr_is_F (hn:T[n]? = some t) (he:e≠0) (s:List UInt8) (k:Nat):pr_is k (rF T n d e a) s=some false:=by
 unfold pr_is;rw [idx_some hn,Option.bind_some,if_neg he]
theorem pr_may_F (hn:T[n]? = some t) (he:e≠0) (s:List UInt8) (k:Nat):pr_may k (rF T n d e a) s=some (false,rF T n d e a):=by
 unfold pr_may;rw [pr_is_F hn he,Option.bind_some,if_neg Bool.false_ne_true]
theorem pr_want_F (hn:T[n]? = some t) (he:e≠0) (s:List UInt8) (k:Nat):pr_want k (rF T n d e a) s=some (rF T n d e a):=by
 unfold pr_want;rw [pr_may_F hn he,Option.bind_some,if_neg Bool.false_ne_true,pr_fail_F he]
 rfl
theorem Sim.wantK (hT:Toks T) (s:List UInt8) {gs:Nat→(Option Value×Int×ParK)→Option (Option Value×β×ParK)} {z:(Option Value×Int×ParK)→β} {p:(Option Value×Int×ParK)→ParK} {gr:Nat→ParR→Option σ}
 (hg:∀ n' e' a' x,(e'=0→n < n'∧e=0)→(e'=0→∀ t,T[n]? = some t→(isK t && (t.Text == s))=true)→Sim Q T n0 n' d e' a' (fun k=>gs k (none,x,kS T n' d)) (fun k=>gr k (rF T n' d e' a'))) :
 Sim Q T n0 n d e a (fun k=>Option.bind (ps_want k (kS T n d) s) fun t=>if t.1.isSome=true then some (t.1,z t,p t) else gs k t) (fun k=>Option.bind (pr_want k (rF T n d e a) s) (gr k)):=by
 refine Sim.split (fr:=fun e a k=>Option.bind (pr_want k (rF T n d e a) s) (gr k)) (fun t ht he=>?_) (fun he t ht=>?_)
 · have hn:=(List.getElem?_eq_some_iff.1 ht).1
   by_cases h:(isK t && (t.Text == s))=true
   · intro _
     obtain ⟨q,_⟩:=hg (n+1) 0 0 t.At (fun _=>⟨Nat.lt_succ_self n,he⟩) (fun _ u hu=>by rw [ht] at hu;cases hu;exact h) (hT.next ht (isK_ne5 h));have hr:∀ r,Ev (fun k=>gr k (rF T (n+1) d 0 0)) r→Ev (fun k=>Option.bind (pr_want k (rF T n d 0 0) s) (gr k)) r:=fun r hr=>Ev.bind (Ev.all fun k=>(pr_want_ ht hT.1 s k).trans (by rw [if_pos h])) hr
     refine ⟨fun _ _=>?_,fun h=>absurd rfl h⟩;rcases q rfl rfl with ⟨v,n',l1,l2,sv,s,r⟩|⟨e',a',z',p',w,n',he',l,s,r⟩
     · exact .inl ⟨v,n',by omega,l2,sv,Ev.bind (ps_want_t ht hT.1 h) (Ev.neg (by simp) s),Q.mono hr r⟩
     · exact .inr ⟨e',a',z',p',w,n',he',l,Ev.bind (ps_want_t ht hT.1 h) (Ev.neg (by simp) s),Q.mono hr r⟩
   · obtain ⟨w,hw⟩:=(hg n 40 t.At 0 (fun h=>absurd h (by decide)) (fun h=>absurd h (by decide)) hn).2 (by decide)
     exact Sim.fault (by decide) hn (Ev.bind (ps_want_f ht h) (Ev.pos rfl Ev.ret)) (Q.mono (fun r hr=>Ev.bind (Ev.all fun k=>(pr_want_ ht hT.1 s k).trans (by rw [if_neg h])) hr) hw)
 · obtain ⟨w,hw⟩:=(hg n e a 0 (fun h=>absurd h he) (fun h=>absurd h he) (List.getElem?_eq_some_iff.1 ht).1).2 he
   exact ⟨w,Q.mono (fun r hr=>Ev.bind (Ev.all (pr_want_F ht he s)) hr) hw⟩
theorem Sim.want (hT:Toks T) (s:List UInt8) {gs:Nat→(Option Value×Int×ParK)→Option (Option Value×β×ParK)} {z:(Option Value×Int×ParK)→β} {p:(Option Value×Int×ParK)→ParK} {gr:Nat→ParR→Option σ}
 (hg:∀ n' e' a' x,(e'=0→n < n'∧e=0)→Sim Q T n0 n' d e' a' (fun k=>gs k (none,x,kS T n' d)) (fun k=>gr k (rF T n' d e' a'))) :
 Sim Q T n0 n d e a (fun k=>Option.bind (ps_want k (kS T n d) s) fun t=>if t.1.isSome=true then some (t.1,z t,p t) else gs k t) (fun k=>Option.bind (pr_want k (rF T n d e a) s) (gr k)) :=
 Sim.wantK hT s fun n' e' a' x h _=>hg n' e' a' x h
theorem Sim.fwd {fs:Nat→Option (Option Value×β×ParK)} {fr:Nat→Option σ} {n1:Nat} (hn:n1 < T.length) (h:Sim Q T n0 n1 d 0 0 fs fr):Sim Q T n0 n d 0 0 fs fr:=fun _=>⟨(h hn).1,fun h=>absurd rfl h⟩
theorem Sim.may (hT:Toks T) (s:List UInt8) {q C:Nat→Bool×ParK→Option (Option Value×β×ParK)} {D E:Nat→Bool×ParR→Option σ}
 (O:e=0→a=0→(∀ t,T[n]? = some t→(isK t && (t.Text == s))=true)→Sim Q T n0 (n+1) d 0 0 (fun k=>C k (true,kS T (n+1) d)) (fun k=>E k (true,rF T (n+1) d 0 0)))
 (J:(e=0→∀ t,T[n]? = some t→(isK t && (t.Text == s))=false)→Sim Q T n0 n d e a (fun k=>q k (false,kS T n d)) (fun k=>D k (false,rF T n d e a))) :
 Sim Q T n0 n d e a (fun k=>Option.bind (ps_may k (kS T n d) s) fun t=>if t.1=true then C k t else q k t) (fun k=>Option.bind (pr_may k (rF T n d e a) s) fun t=>if t.1=true then E k t else D k t):=by
 by_cases he:e=0
 · by_cases ha:a=0
   · subst he ha
     refine Sim.lt fun hn=>?_
     obtain ⟨t,ht⟩:=at_some hn;have hr:=fun k=>pr_may_ (d:=d) ht hT.1 s k
     have hs:=ps_may_ (d:=d) ht hT.1 s;cases h:(isK t && (t.Text == s))
     · rw [h] at hs
       simp only [h] at hr;refine (J fun _ u hu=>by rw [ht] at hu;cases hu;exact h).pre (fun _ _ r hr'=>?_) (fun r hr'=>?_)
       · exact Ev.bind hs (Ev.neg (by simp) hr')
       · exact Ev.bind (Ev.all hr) (Ev.neg (by simp) hr')
     · rw [h] at hs
       simp only [h] at hr;refine Sim.fwd (hT.next ht (isK_ne5 h)) ((O rfl rfl fun u hu=>by rw [ht] at hu;cases hu;exact h).pre (fun _ _ r hr'=>?_) (fun r hr'=>?_))
       · exact Ev.bind hs (Ev.pos rfl hr')
       · exact Ev.bind (Ev.all hr) (Ev.pos rfl hr')
   · exact fun _=>⟨fun _ h=>absurd h ha,fun h=>absurd he h⟩
 · intro hn
   obtain ⟨t,ht⟩:=at_some hn;refine ⟨fun h=>absurd h he,fun _=>?_⟩;obtain ⟨w,hw⟩:=(J (fun h=>absurd h he) hn).2 he;exact ⟨w,Q.mono (fun r hr=>Ev.bind (Ev.all (pr_may_F ht he s)) (Ev.neg (by simp) hr)) hw⟩
theorem Sim.is (hT:Toks T) (s:List UInt8) {q C:Nat→Option (Option Value×β×ParK)} {D E:Nat→Option σ}
 (O:e=0→a=0→(∀ t,T[n]? = some t→(isK t && (t.Text == s))=true)→Sim Q T n0 n d e a C E)
 (J:(e=0→∀ t,T[n]? = some t→(isK t && (t.Text == s))=false)→Sim Q T n0 n d e a q D) :
 Sim Q T n0 n d e a (fun k=>Option.bind (ps_is k (kS T n d) [s]) fun t=>if t=true then C k else q k) (fun k=>Option.bind (pr_is k (rF T n d e a) s) fun t=>if t=true then E k else D k):=by
 by_cases he:e=0
 · by_cases ha:a=0
   · subst he ha
     refine Sim.lt fun hn=>?_
     obtain ⟨t,ht⟩:=at_some hn;have hr:=fun k=>pr_is_ (d:=d) ht s k
     have hs:=ps_is1 (d:=d) ht s;cases h:(isK t && (t.Text == s))
     · rw [h] at hs
       simp only [h] at hr;refine (J fun _ u hu=>by rw [ht] at hu;cases hu;exact h).pre (fun _ _ r hr'=>?_) (fun r hr'=>?_)
       · exact Ev.bind hs (Ev.neg (by simp) hr')
       · exact Ev.bind (Ev.all hr) (Ev.neg (by simp) hr')
     · rw [h] at hs
       simp only [h] at hr;refine (O rfl rfl fun u hu=>by rw [ht] at hu;cases hu;exact h).pre (fun _ _ r hr'=>?_) (fun r hr'=>?_)
       · exact Ev.bind hs (Ev.pos rfl hr')
       · exact Ev.bind (Ev.all hr) (Ev.pos rfl hr')
   · exact fun _=>⟨fun _ h=>absurd h ha,fun h=>absurd he h⟩
 · intro hn
   obtain ⟨t,ht⟩:=at_some hn;refine ⟨fun h=>absurd h he,fun _=>?_⟩;obtain ⟨w,hw⟩:=(J (fun h=>absurd h he) hn).2 he;exact ⟨w,Q.mono (fun r hr=>Ev.bind (Ev.all (pr_is_F ht he s)) (Ev.neg (by simp) hr)) hw⟩
theorem Sim.name (hT:Toks T) (q:Int) {gs:Nat→(Option Value×Tree×ParK)→Option (Option Value×β×ParK)} {z:(Option Value×Tree×ParK)→β} {p:(Option Value×Tree×ParK)→ParK} {gr:Nat→List UInt8×Int×ParR→Option σ}
 (hg:∀ n' e' a' s x,(e'=0→n < n'∧e=0)→Sim Q T n0 n' d e' a' (fun k=>gs k (none,⟨q,s,0,x,[]⟩,kS T n' d)) (fun k=>gr k (s,x,rF T n' d e' a'))) :
 Sim Q T n0 n d e a (fun k=>Option.bind (ps_name k (kS T n d) q) fun t=>if t.1.isSome=true then some (t.1,z t,p t) else gs k t) (fun k=>Option.bind (pr_name k (rF T n d e a)) (gr k)):=by
 refine Sim.split (fr:=fun e a k=>Option.bind (pr_name k (rF T n d e a)) (gr k)) (fun t ht he=>?_) (fun he t ht=>?_)
 · have hn:=(List.getElem?_eq_some_iff.1 ht).1
   by_cases h:t.Kind=1
   · refine Sim.fwd (hT.next ht (by omega)) ((hg (n+1) 0 0 t.Text t.At (fun _=>⟨Nat.lt_succ_self n,he⟩)).pre (fun _ _ r hr=>?_) (fun r hr=>?_))
     · exact Ev.bind (Ev.all (ps_name_t ht hT.1 h q)) (Ev.neg (by simp) hr)
     · exact Ev.bind (Ev.all (pr_name_t ht hT.1 h)) hr
   · obtain ⟨w,hw⟩:=(hg n 40 t.At [] 0 (fun h=>absurd h (by decide)) hn).2 (by decide)
     exact Sim.fault (by decide) hn (Ev.bind (Ev.all (ps_name_f ht h q)) (Ev.pos rfl Ev.ret)) (Q.mono (fun r hr=>Ev.bind (Ev.all (pr_name_f ht h)) hr) hw)
 · obtain ⟨w,hw⟩:=(hg n e a [] 0 (fun h=>absurd h he) (List.getElem?_eq_some_iff.1 ht).1).2 he
   exact ⟨w,Q.mono (fun r hr=>Ev.bind (Ev.all (pr_name_F ht he)) hr) hw⟩
theorem Sim.tok {gs:Nat→Token→Option (Option Value×β×ParK)} {gr:Nat→Token→Option σ}
 (hg:∀ t,T[n]? = some t→Sim Q T n0 n d e a (fun k=>gs k t) (fun k=>gr k t)) :
 Sim Q T n0 n d e a (fun k=>Option.bind (ps_token k (kS T n d)) (gs k)) (fun k=>Option.bind (idx (rF T n d e a).l (rF T n d e a).at_) (gr k)):=by
 refine Sim.lt fun hn=>?_
 obtain ⟨t,ht⟩:=at_some hn;exact (hg t ht).pre (fun _ _ r hr=>Ev.bind (Ev.all (ps_token_ ht)) hr) (fun r hr=>Ev.bindc (idx_some ht) hr)
theorem Sim.cat2 {N:Nat} {l M:List ρ} {gs:Nat→List ρ→Option (Option Value×β×ParK)} {gr:Nat→List ρ→Option σ} (h:l.length+M.length≤N)
 (hg:Sim Q T n0 n d e a (fun k=>gs k (l++M)) (fun k=>gr k (l++M))) :
 Sim Q T n0 n d e a (fun k=>Option.bind (catN N l M) (gs k)) (fun k=>Option.bind (catN N l M) (gr k)) :=
 hg.pre (fun _ _ r hr=>Ev.bindc (cat_at h) hr) (fun r hr=>Ev.bindc (cat_at h) hr)
end
theorem ps_more_no {st:ParK} {b:Bool} {len most:Int} (h:¬ (b=true∧most≤len)):Ev (fun k=>ps_more k st b len most) none:=by
 unfold ps_more;by_cases hb:b=true
 · exact Ev.pos hb (Ev.neg (fun q=>h ⟨hb,q⟩) Ev.ret)
 · exact Ev.neg hb Ev.ret
theorem ps_more_yes (ht:T[n]? = some t) {len most:Int} (h:most≤len):Ev (fun k=>ps_more k (kS T n d) true len most) (some (faultV 42 t.At)):=by
 unfold ps_more;exact Ev.pos rfl (Ev.pos h (Ev.bind (Ev.all (ps_give_ ht 42)) (Ev.pos rfl Ev.ret)))
theorem Sim.more [Sml β] {Q:Reach β σ} (hT:Toks T) {s:List UInt8} {len most:Int} {gs:Nat→Option (Option Value×β×ParK)} {z:Option Value→β} {p:Option Value→ParK} {gr:Bool→Nat→Option σ} (hle:len≤most)
 (hb:e=0→a=0→len=most→∀ t,T[n]? = some t→∃ w,Q.rt (gr true) w (rF T n d 42 t.At)) (hg:(e=0→len=most→∀ t,T[n]? = some t→(isK t && (t.Text == s))=false)→Sim Q T n0 n d e a gs (gr false)) :
 Sim Q T n0 n d e a (fun k=>Option.bind (ps_is k (kS T n d) [s]) fun t=>Option.bind (ps_more k (kS T n d) t len most) fun m=>if m.isSome=true then some (m,z m,p m) else gs k) (fun k=>Option.bind (pr_is k (rF T n d e a) s) fun t=>if t=true then gr (decide (len=most)) k else gr false k):=by
 by_cases he:e=0
 · by_cases ha:a=0
   · subst he ha
     refine Sim.lt fun hn=>?_
     obtain ⟨t,ht⟩:=at_some hn;have hr:=fun k=>pr_is_ (d:=d) ht s k
     have hs:=ps_is1 (d:=d) ht s;cases h:(isK t && (t.Text == s))
     · rw [h] at hs
       simp only [h] at hr;exact (hg fun _ _ u hu=>by rw [ht] at hu;cases hu;exact h).pre (fun _ _ r hr'=>Ev.bind hs (Ev.bind (ps_more_no (by simp)) (Ev.neg (by simp) hr'))) (fun r hr'=>Ev.bind (Ev.all hr) (Ev.neg (by simp) hr'))
     · rw [h] at hs
       simp only [h] at hr;by_cases hl:len=most
       · obtain ⟨w,hw⟩:=hb rfl rfl hl t ht
         exact Sim.fault (by decide) hn (Ev.bind hs (Ev.bind (ps_more_yes ht (by omega)) (Ev.pos rfl Ev.ret))) (Q.mono (fun r hr'=>Ev.bind (Ev.all hr) (Ev.pos rfl (by simpa only [decide_eq_true hl] using hr'))) hw)
       · exact (hg fun _ q=>absurd q hl).pre (fun _ _ r hr'=>Ev.bind hs (Ev.bind (ps_more_no (by omega)) (Ev.neg (by simp) hr'))) (fun r hr'=>Ev.bind (Ev.all hr) (Ev.pos rfl (by simpa only [decide_eq_false hl] using hr')))
   · exact fun _=>⟨fun _ h=>absurd h ha,fun h=>absurd he h⟩
 · intro hn
   obtain ⟨t,ht⟩:=at_some hn;refine ⟨fun h=>absurd h he,fun _=>?_⟩;obtain ⟨w,hw⟩:=(hg (fun h=>absurd h he) hn).2 he;exact ⟨w,Q.mono (fun r hr=>Ev.bind (Ev.all (pr_is_F ht he s)) (Ev.neg (by simp) hr)) hw⟩
theorem value_sim (hT:Toks T):Sim Q0 T n n d e a (fun k=>ps_value k (kS T n d)) (fun k=>pr_value k (rF T n d e a)) :=
 Sim.of_agree (fr:=fun e a k=>pr_value k (rF T n d e a)) (fun t ht=>value_agree hT ht) (fun he t ht=>by obtain ⟨v,hv⟩:=pr_value_F (d:=d) (a:=a) ht he;exact ⟨v,Ev.all hv⟩)
theorem bare_sim (hT:Toks T):Sim Q0 T n n d e a (fun k=>ps_bare k (kS T n d)) (fun k=>pr_bare k (rF T n d e a)) :=
 Sim.of_agree (fr:=fun e a k=>pr_bare k (rF T n d e a)) (fun t ht=>bare_agree hT ht) (fun he t ht=>⟨_,Ev.all (pr_bare_F he ht)⟩)
theorem wordNumber_sim (hT:Toks T):Sim Q0 T n n d e a (fun k=>ps_wordNumber k (kS T n d)) (fun k=>pr_number k (rF T n d e a) true) :=
 Sim.of_agree (fr:=fun e a k=>pr_number k (rF T n d e a) true) (fun t ht=>wordNumber_agree hT ht) (fun he t ht=>⟨_,Ev.all (pr_number_F ht he)⟩)
theorem number_sim (hT:Toks T):Sim Q0 T n n d e a (fun k=>ps_number k (kS T n d)) (fun k=>pr_number k (rF T n d e a) false):=by
 refine Sim.of_agree (fr:=fun e a k=>pr_number k (rF T n d e a) false) (fun t ht=>?_) (fun he t ht=>⟨_,Ev.all (pr_number_F ht he)⟩);have C:=(List.getElem?_eq_some_iff.1 ht).1;by_cases q:t.Kind=3
 · exact .inl ⟨_,n+1,Nat.lt_succ_self _,hT.next ht (by omega),Ev.all (ps_number_t ht hT.1 q),Ev.all (pr_number_t ht hT.1 q (by simp)),rfl,(hT.2.2 t (List.mem_of_getElem? ht)).2⟩
 · exact .inr ⟨40,t.At,_,_,_,n,by decide,C,Ev.all (ps_number_f ht q),Ev.all (pr_number_f ht (by simp [q]))⟩
end Go.Proofs.YtnhifhlbelogcaaDoor
