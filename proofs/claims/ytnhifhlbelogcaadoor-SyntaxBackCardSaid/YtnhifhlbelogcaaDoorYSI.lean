/- Both parsers: versions and programs. -/
import Derived.Test.YtnhifhlbelogcaaDoorYSH
set_option linter.unusedVariables false
set_option linter.unusedSimpArgs false
namespace Go.Proofs.YtnhifhlbelogcaaDoor
open Go Go.Eng
variable {T:List Token} {n0 n d:Nat} {e a:Int} {t:Token}
theorem version_j1 (hT:Toks T) (s:List UInt8) (x:Int) (tk:ParK) (tr:ParR) {l:List Tree} (hl:l.length≤1000) (C:e=0→n0≤n) (hsm:e=0→∀ t∈l,Sm t) :
 Sim Q0 T n0 n d e a (fun k=>ps_version.j1 k (none,⟨11,s,0,x,[]⟩,tk) (kS T n d) l) (fun k=>pr_version.j1 k (s,x,tr) (rF T n d e a) l):=by
 unfold ps_version.j1 pr_version.j1;refine Sim.want hT _ fun D e5 E _ J=>?_
 refine Sim.seq (wordNumber_sim hT) fun O V X Y aa q=>?_
 refine Sim.cat2 (by simp only [List.length_cons,List.length_nil];omega) ?_;exact Sim.want hT _ fun ab ad ae _ af=>Sim.ret (fun _=>by omega) fun he=>.mk (by simp only [List.length_append,List.length_cons,List.length_nil];omega) (smL_app (smL_one (q (by omega))) (hsm (by omega)))
theorem version_bad (hT:Toks T) (s:List UInt8) (x:Int) (tr:ParR) {l:List Tree} (hl:l.length≤1000) (he:e≠0) (hn:n < T.length) :
 ∃ w,Ev (fun k=>pr_version.l1 k (s,x,tr) (rF T n d e a) l) (w,rF T n d e a):=by
 obtain ⟨w,hw⟩:=(version_j1 (n0:=n) (a:=a) (d:=d) hT s x (kS T n d) tr hl (fun h=>absurd h he) (fun h=>absurd h he)).bad he hn;exact ⟨w,Ev.step (Ev.neg he hw) (fun k=>by rw [pr_version.l1])⟩
def procs (t:Token):Bool:=begins t || isW t [118,111,105,100]
abbrev verT (s:List UInt8) (x:Int) (tr:ParR) (k:Nat) (q:ParR) (L:List Tree):Option (Tree×ParR):=Option.bind (pr_begins k q) fun C=>if C=true then (if (L.length:Int)=64 then (Option.bind (pr_fail k q 42) fun D=>pr_version.l1 k (s,x,tr) D L) else pr_version.l1 k (s,x,tr) q L) else Option.bind (pr_is k q ([118,111,105,100]:List UInt8)) fun E=>if E=true then (if (L.length:Int)=64 then (Option.bind (pr_fail k q 42) fun J=>pr_version.l1 k (s,x,tr) J L) else pr_version.l1 k (s,x,tr) q L) else pr_version.l1 k (s,x,tr) q L
abbrev verM (s:List UInt8) (x:Int) (tr:ParR) (k:Nat) (q:ParR) (L:List Tree):Option (Tree×ParR):=Option.bind (pr_may k q ([125]:List UInt8)) fun C=>if C.1=true then pr_version.j1 k (s,x,tr) C.2 L else verT s x tr k C.2 L
theorem verT_bad (hT:Toks T) (s:List UInt8) (x:Int) (tr:ParR) {L:List Tree} (hl:L.length≤1000) (he:e≠0) (hn:n < T.length) :
 ∃ w,Ev (fun k=>verT s x tr k (rF T n d e a) L) (w,rF T n d e a):=by
 obtain ⟨u,hu⟩:=at_some hn;obtain ⟨w,hw⟩:=version_bad (d:=d) (a:=a) hT s x tr hl he hn;refine ⟨w,Ev.bind (Ev.all (pr_begins_ hu)) ?_⟩;have hw':Ev (fun k=>if (L.length:Int)=64 then (Option.bind (pr_fail k (rF T n d e a) 42) fun C=>(pr_version.l1 k (s,x,tr) C L)) else (pr_version.l1 k (s,x,tr) (rF T n d e a) L)) (w,rF T n d e a):=by
  by_cases q:(L.length:Int)=64
  · exact Ev.pos q (Ev.bind (Ev.all (pr_fail_F he 42)) hw)
  · exact Ev.neg q hw
 by_cases hb:begins u=true
 · exact Ev.pos hb hw'
 · exact Ev.neg hb (Ev.bind (Ev.all (pr_is_F hu he _)) (Ev.neg (by decide) hw))
theorem verM_bad (hT:Toks T) (s:List UInt8) (x:Int) (tr:ParR) {L:List Tree} (hl:L.length≤1000) (he:e≠0) (hn:n < T.length) :
 ∃ w,Ev (fun k=>verM s x tr k (rF T n d e a) L) (w,rF T n d e a):=by
 obtain ⟨u,hu⟩:=at_some hn;obtain ⟨w,hw⟩:=verT_bad (d:=d) (a:=a) hT s x tr hl he hn;exact ⟨w,Ev.bind (Ev.all (pr_may_F hu he _)) (Ev.neg (by simp) hw)⟩
theorem Ev.det {α:Type} {f:Nat→Option α} {r s:α} (q:Ev f r) (C:Ev f s):r=s:=by
 obtain ⟨K,q⟩:=q;obtain ⟨L,C⟩:=C;have:=(q (K+L) (by omega)).symm.trans (C (K+L) (by omega));exact Option.some.inj this
theorem Sim.seqF {α β σ:Type} [Sml α] [Sml β] {Q:Reach β σ} {F:Nat→Option (Option Value×α×ParK)} {fr:Nat→Option (α×ParR)} {gs:Nat→(Option Value×α×ParK)→Option (Option Value×β×ParK)} {z:(Option Value×α×ParK)→β} {p:(Option Value×α×ParK)→ParK} {C:Nat→α×ParR→Option σ} {f:Value} {q:α} {D:ParK}
 (h:Sim Q0 T n n d 0 0 F fr) (hF:Ev F (some f,q,D)) (hg:∀ v n' e' a',e'≠0→n' < T.length→∃ w,Q.rt (fun k=>C k (v,rF T n' d e' a')) w (rF T n' d e' a')) :
 Sim Q T n0 n d 0 0 (fun k=>Option.bind (F k) fun t=>if t.1.isSome=true then some (t.1,z t,p t) else gs k t) (fun k=>Option.bind (fr k) (C k)):=by
 refine Sim.lt fun hn=>?_
 rcases (h hn).1 rfl rfl with ⟨v,n',l1,l2,sv,s,r⟩|⟨e',a',z',p',w,n',he',l,s,r⟩
 · exact absurd (congrArg Prod.fst (Ev.det s hF)) (by simp)
 · obtain ⟨E,hw⟩:=hg w n' e' a' he' l
   exact Sim.fault he' l (Ev.bind s (Ev.pos rfl Ev.ret)) (Q.mono (fun x hx=>Ev.bind r hx) hw)
theorem begins_no {u:Token} (h:begins u=false):¬ u.Kind=1∧∀ s∈([[117,110,115,105,103,110,101,100],[105,110,116],[104,121,112,101,114],[102,108,111,97,116],[100,111,117,98,108,101],[98,111,111,108]]:List (List UInt8)),isW u s=false:=by
 unfold begins at h;by_cases q:u.Kind=1
 · rw [if_pos q] at h;exact absurd h (by decide)
 · refine ⟨q,fun s hs=>?_⟩
   rw [if_neg q] at h;by_cases C:u.Kind=2
   · rw [if_pos C] at h
     rw [isW_eq C];by_cases e:u.Text=s
     · exfalso
       subst e;simp only [List.mem_cons,List.not_mem_nil,or_false] at hs;rcases hs with h' | h' | h' | h' | h' | h' <;> (rw [h'] at h;exact absurd h (by decide))
     · simpa using e
   · exact isW_no C s
theorem ps_procedure_no (hT:Toks T) (ht:T[n]? = some t) (h:procs t=false):∃ z p,Ev (fun k=>ps_procedure k (kS T n d)) (some (faultV 40 t.At),z,p):=by
 have hb:begins t=false:=by unfold procs at h;simp at h;exact h.1
 have hv:isW t [118,111,105,100]=false:=by unfold procs at h;simp at h;exact h.2
 unfold ps_procedure;exact ⟨_,_,Ev.bind (Ev.all (ps_token_ ht)) (Ev.bind (may_no hT ht (by decide) hv) (Ev.neg (by simp) (Ev.bind (ps_bare_no hT ht (begins_no hb).1 (begins_no hb).2) (Ev.pos rfl Ev.ret))))⟩
theorem ps_more_yes' {u:Token} (hu:T[n]? = some u) {b:Bool} (hb:b=true) {len most:Int} (h:most≤len):Ev (fun k=>ps_more k (kS T n d) b len most) (some (faultV 42 u.At)):=by
 subst hb;exact ps_more_yes hu h
theorem version_l (hT:Toks T) (s:List UInt8) (x:Int) (tk:ParK) (tr:ParR):∀ (m n:Nat) (e a:Int) (l:List Tree),l.length≤64→(e=0→T.length - n≤m∧n0 < n)→(e=0→∀ t∈l,Sm t)→(e=0→∀ t,T[n]? = some t→procs t=true→l.length < 64) →
 Sim Q0 T n0 n d e a (fun k=>ps_version.j2 k (none,⟨11,s,0,x,[]⟩,tk) l (kS T n d)) (fun k=>pr_version.l1 k (s,x,tr) (rF T n d e a) l):=by
 have hTl:=hT.1;intro m
 induction m with
 | zero =>
  intro n e a l hl h _ _;refine Sim.split (fr:=fun e a k=>pr_version.l1 k (s,x,tr) (rF T n d e a) l) (fun t ht he=>?_) (fun he t ht=>version_bad hT s x tr (by omega) he (List.getElem?_eq_some_iff.1 ht).1);have hn:=(List.getElem?_eq_some_iff.1 ht).1;have:=h he
  omega
 | succ m ih =>
  intro n e a l hl h hsm hp;refine Sim.split (fr:=fun e a k=>pr_version.l1 k (s,x,tr) (rF T n d e a) l) (fun t ht he=>?_) (fun he t ht=>version_bad hT s x tr (by omega) he (List.getElem?_eq_some_iff.1 ht).1);have hn:=(List.getElem?_eq_some_iff.1 ht).1;obtain ⟨hm,ae⟩:=h he;have hvw:=hT.w1 ht (s:=[118,111,105,100]) (by decide);refine Sim.unf ?_;simp only [ps_version.j2,pr_version.l1];refine Sim.preR (fun r hr=>Ev.pos (by simp) hr) ?_;have key:Sim Q0 T n0 n d 0 0 (fun k=>Option.bind (ps_procedure k (kS T n d)) fun C=>(if (C.1).isSome=true then (some (C.1,(⟨0,([]:List UInt8),0,0,[]⟩:Tree),C.2.2)) else (Option.bind (cat l ([C.2.1]:List Tree)) fun X=>(ps_version.l1 k (none,⟨11,s,0,x,[]⟩,tk) C.2.2 X))))
   (fun k=>Option.bind (pr_procedure k (rF T n d 0 0)) fun O=>Option.bind (cat l ([O.1]:List Tree)) fun aa=>verM s x tr k O.2 aa):=by
   by_cases hpt:procs t=true
   · have D:=hp he t ht hpt
     refine Sim.seq (procedure_sim hT) fun v n1 e1 J Y ab=>?_
     refine Sim.cat2 (by simp only [List.length_singleton];omega) ?_;refine Sim.unfS ?_;simp only [ps_version.l1];refine Sim.preS (fun _ _ r hr=>Ev.neg (by simp only [List.length_append,List.length_singleton];omega) hr) ?_;have hlv:(l++[v]).length≤64:=by simp only [List.length_append,List.length_singleton];omega
     have hLs:e1=0→∀ t∈l++[v],Sm t:=fun h=>smL_app (hsm he) (smL_one (ab h))
     generalize l++[v]=L at hlv hLs;refine Sim.may hT _ (fun q af _=>version_j1 hT s x _ _ (by omega) (fun _=>by omega) (fun _=>hLs q)) (fun _=>?_);refine Sim.split (fr:=fun e1 J k=>verT s x tr k (rF T n1 d e1 J) L) (fun u hu q=>?_) (fun q u hu=>verT_bad hT s x tr (by omega) q (List.getElem?_eq_some_iff.1 hu).1);have E:=(List.getElem?_eq_some_iff.1 hu).1;have hw:=hT.w1 hu (s:=[118,111,105,100]) (by decide);by_cases hpu:procs u=true
     · have hv:¬ begins u=true→isW u [118,111,105,100]=true:=fun hb=>by unfold procs at hpu;simpa [hb] using hpu
       by_cases D:(L.length:Int)=64
       · obtain ⟨w,V⟩:=version_bad (d:=d) (a:=u.At) hT s x tr (show L.length≤1000 by omega) (show (42:Int)≠0 by decide) E
         refine Sim.fault (e':=42) (a':=u.At) (by decide) E (z:=⟨0,[],0,0,[]⟩) (p:=kS T n1 d) (w:=w) ?_ ?_
         · refine Ev.unf ?_
           simp only [ps_version.j2];refine Ev.bind (ps_isBare_ hT hu) ?_;by_cases hb:begins u=true
           · exact Ev.pos hb (Ev.bind (ps_more_yes hu (by omega)) (Ev.pos rfl Ev.ret))
           · exact Ev.neg hb (Ev.bind (ps_is1 hu _) (Ev.bind (ps_more_yes' hu (by rw [hw];exact hv hb) (by omega)) (Ev.pos rfl Ev.ret)))
         · refine Ev.bind (Ev.all (pr_begins_ (e:=0) (a:=0) hu)) ?_
           by_cases hb:begins u=true
           · exact Ev.pos hb (Ev.pos D (Ev.bind (Ev.all (pr_fail_ hu 42)) V))
           · exact Ev.neg hb (Ev.bind (Ev.all (pr_is_ hu _)) (Ev.pos (by rw [hw];exact hv hb) (Ev.pos D (Ev.bind (Ev.all (pr_fail_ hu 42)) V))))
       · refine Sim.preR (fun r hr=>?_) (ih n1 0 0 L hlv (fun _=>by omega) (fun _=>hLs q) (fun _ _ _ _=>by omega))
         refine Ev.bind (Ev.all (pr_begins_ (e:=0) (a:=0) hu)) ?_;by_cases hb:begins u=true
         · exact Ev.pos hb (Ev.neg D hr)
         · exact Ev.neg hb (Ev.bind (Ev.all (pr_is_ hu _)) (Ev.pos (by rw [hw];exact hv hb) (Ev.neg D hr)))
     · refine Sim.preR (fun r hr=>?_) (ih n1 0 0 L hlv (fun _=>by omega) (fun _=>hLs q) (fun _ y hy ad=>by rw [hu] at hy;cases hy;exact absurd ad hpu))
       have hb:¬ begins u=true:=by unfold procs at hpu;intro h;simp [h] at hpu
       have hv:¬ isW u [118,111,105,100]=true:=by unfold procs at hpu;intro h;simp [h] at hpu
       exact Ev.bind (Ev.all (pr_begins_ (e:=0) (a:=0) hu)) (Ev.neg hb (Ev.bind (Ev.all (pr_is_ hu _)) (Ev.neg (by rw [hw];exact hv) hr)))
   · obtain ⟨z,p,hF⟩:=ps_procedure_no (d:=d) hT ht (by simpa using hpt)
     refine Sim.seqF (procedure_sim hT) hF fun v n1 e1 J q E=>?_
     obtain ⟨w,hw⟩:=verM_bad (d:=d) (a:=J) hT s x tr (L:=l++[v]) (by simp only [List.length_append,List.length_singleton];omega) q E;exact ⟨w,Ev.bindc (cat_at (by simp only [List.length_singleton];omega)) hw⟩
  by_cases hb:begins t=true
  · refine Sim.preS (fun _ _ r hr=>Ev.bind (ps_isBare_ hT ht) (Ev.pos hb (Ev.bind (ps_more_no ?_) (Ev.neg (by simp) hr)))) key
    have:=hp he t ht (by unfold procs;simp [hb])
    omega
  · refine Sim.preS (fun _ _ r hr=>Ev.bind (ps_isBare_ hT ht) (Ev.neg hb (Ev.bind (ps_is1 ht _) (Ev.bind (ps_more_no ?_) (Ev.neg (by simp) hr))))) key
    rintro ⟨Y,ag⟩;have:=hp he t ht (by unfold procs;rw [hvw] at Y;simp [Y])
    omega
theorem version_sim (hT:Toks T):Sim Q0 T n n d e a (fun k=>ps_version k (kS T n d)) (fun k=>pr_version k (rF T n d e a)):=by
 unfold ps_version pr_version;refine Sim.want hT _ fun n1 e1 E _ J=>?_
 refine Sim.name hT 11 fun n2 O V s x X=>?_
 refine Sim.want hT _ fun q C D _ Y=>?_
 refine Sim.unfS ?_;simp only [ps_version.l1];exact Sim.preS (fun _ _ r hr=>Ev.pos (by simp) hr) (version_l hT s x _ _ T.length q C D [] (by simp) (fun _=>by omega) (fun _=>smL_nil) (fun _ _ _ _=>by simp))
theorem program_j1 (hT:Toks T) (s:List UInt8) (x:Int) (tk:ParK) (tr:ParR) {l:List Tree} (hl:l.length≤1000) (C:e=0→n0≤n) (hsm:e=0→∀ t∈l,Sm t) :
 Sim Q0 T n0 n d e a (fun k=>ps_program.j1 k (none,⟨10,s,0,x,[]⟩,tk) (kS T n d) l) (fun k=>pr_program.j1 k (s,x,tr) (rF T n d e a) l):=by
 unfold ps_program.j1 pr_program.j1;refine Sim.want hT _ fun D e5 E _ J=>?_
 refine Sim.seq (wordNumber_sim hT) fun O V X Y aa q=>?_
 refine Sim.cat2 (by simp only [List.length_cons,List.length_nil];omega) ?_;exact Sim.ret (fun _=>by omega) fun he=>.mk (by simp only [List.length_append,List.length_cons,List.length_nil];omega) (smL_app (smL_one (q (by omega))) (hsm (by omega)))
theorem program_bad (hT:Toks T) (s:List UInt8) (x:Int) (tr:ParR) {l:List Tree} (hl:l.length≤1000) (he:e≠0) (hn:n < T.length) :
 ∃ w,Ev (fun k=>pr_program.l1 k (s,x,tr) (rF T n d e a) l) (w,rF T n d e a):=by
 obtain ⟨w,hw⟩:=(program_j1 (n0:=n) (a:=a) (d:=d) hT s x (kS T n d) tr hl (fun h=>absurd h he) (fun h=>absurd h he)).bad he hn;exact ⟨w,Ev.step (Ev.neg he hw) (fun k=>by rw [pr_program.l1])⟩
abbrev prgT (s:List UInt8) (x:Int) (tr:ParR) (k:Nat) (q:ParR) (L:List Tree):Option (Tree×ParR):=Option.bind (pr_is k q ([118,101,114,115,105,111,110]:List UInt8)) fun C=>if C=true then (if (L.length:Int)=64 then (Option.bind (pr_fail k q 42) fun D=>pr_program.l1 k (s,x,tr) D L) else pr_program.l1 k (s,x,tr) q L) else pr_program.l1 k (s,x,tr) q L
abbrev prgM (s:List UInt8) (x:Int) (tr:ParR) (k:Nat) (q:ParR) (L:List Tree):Option (Tree×ParR):=Option.bind (pr_may k q ([125]:List UInt8)) fun C=>if C.1=true then pr_program.j1 k (s,x,tr) C.2 L else prgT s x tr k C.2 L
theorem prgT_bad (hT:Toks T) (s:List UInt8) (x:Int) (tr:ParR) {L:List Tree} (hl:L.length≤1000) (he:e≠0) (hn:n < T.length) :
 ∃ w,Ev (fun k=>prgT s x tr k (rF T n d e a) L) (w,rF T n d e a):=by
 obtain ⟨u,hu⟩:=at_some hn;obtain ⟨w,hw⟩:=program_bad (d:=d) (a:=a) hT s x tr hl he hn;exact ⟨w,Ev.bind (Ev.all (pr_is_F hu he _)) (Ev.neg (by decide) hw)⟩
theorem prgM_bad (hT:Toks T) (s:List UInt8) (x:Int) (tr:ParR) {L:List Tree} (hl:L.length≤1000) (he:e≠0) (hn:n < T.length) :
 ∃ w,Ev (fun k=>prgM s x tr k (rF T n d e a) L) (w,rF T n d e a):=by
 obtain ⟨u,hu⟩:=at_some hn;obtain ⟨w,hw⟩:=prgT_bad (d:=d) (a:=a) hT s x tr hl he hn;exact ⟨w,Ev.bind (Ev.all (pr_may_F hu he _)) (Ev.neg (by simp) hw)⟩
theorem ps_version_no (hT:Toks T) (ht:T[n]? = some t) (h:isW t [118,101,114,115,105,111,110]=false):∃ z p,Ev (fun k=>ps_version k (kS T n d)) (some (faultV 40 t.At),z,p):=by
 have hw:=hT.w1 ht (s:=[118,101,114,115,105,111,110]) (by decide);unfold ps_version;exact ⟨_,_,Ev.bind (ps_want_f ht (by rw [hw,h];decide)) (Ev.pos rfl Ev.ret)⟩
theorem program_l (hT:Toks T) (s:List UInt8) (x:Int) (tk:ParK) (tr:ParR):∀ (m n:Nat) (e a:Int) (l:List Tree),l.length≤64→(e=0→T.length - n≤m∧n0 < n)→(e=0→∀ t∈l,Sm t)→(e=0→∀ t,T[n]? = some t→isW t [118,101,114,115,105,111,110]=true→l.length < 64) →
 Sim Q0 T n0 n d e a (fun k=>ps_program.j2 k (none,⟨10,s,0,x,[]⟩,tk) l (kS T n d)) (fun k=>pr_program.l1 k (s,x,tr) (rF T n d e a) l):=by
 have hTl:=hT.1;intro m
 induction m with
 | zero =>
  intro n e a l hl h _ _;refine Sim.split (fr:=fun e a k=>pr_program.l1 k (s,x,tr) (rF T n d e a) l) (fun t ht he=>?_) (fun he t ht=>program_bad hT s x tr (by omega) he (List.getElem?_eq_some_iff.1 ht).1);have hn:=(List.getElem?_eq_some_iff.1 ht).1;have:=h he
  omega
 | succ m ih =>
  intro n e a l hl h hsm hp;refine Sim.split (fr:=fun e a k=>pr_program.l1 k (s,x,tr) (rF T n d e a) l) (fun t ht he=>?_) (fun he t ht=>program_bad hT s x tr (by omega) he (List.getElem?_eq_some_iff.1 ht).1);have hn:=(List.getElem?_eq_some_iff.1 ht).1;obtain ⟨hm,ae⟩:=h he;have hvw:=hT.w1 ht (s:=[118,101,114,115,105,111,110]) (by decide);refine Sim.unf ?_;simp only [ps_program.j2,pr_program.l1];refine Sim.preR (fun r hr=>Ev.pos (by simp) hr) ?_;have key:Sim Q0 T n0 n d 0 0 (fun k=>Option.bind (ps_version k (kS T n d)) fun C=>(if (C.1).isSome=true then (some (C.1,(⟨0,([]:List UInt8),0,0,[]⟩:Tree),C.2.2)) else (Option.bind (cat l ([C.2.1]:List Tree)) fun V=>(ps_program.l1 k (none,⟨10,s,0,x,[]⟩,tk) C.2.2 V))))
   (fun k=>Option.bind (pr_version k (rF T n d 0 0)) fun O=>Option.bind (cat l ([O.1]:List Tree)) fun Y=>prgM s x tr k O.2 Y):=by
   by_cases hpt:isW t [118,101,114,115,105,111,110]=true
   · have E:=hp he t ht hpt
     refine Sim.seq (version_sim hT) fun v n1 e1 J X aa=>?_
     refine Sim.cat2 (by simp only [List.length_singleton];omega) ?_;refine Sim.unfS ?_;simp only [ps_program.l1];refine Sim.preS (fun _ _ r hr=>Ev.neg (by simp only [List.length_append,List.length_singleton];omega) hr) ?_;have hlv:(l++[v]).length≤64:=by simp only [List.length_append,List.length_singleton];omega
     have hLs:e1=0→∀ t∈l++[v],Sm t:=fun h=>smL_app (hsm he) (smL_one (aa h))
     generalize l++[v]=L at hlv hLs;refine Sim.may hT _ (fun q af _=>program_j1 hT s x _ _ (by omega) (fun _=>by omega) (fun _=>hLs q)) (fun _=>?_);refine Sim.split (fr:=fun e1 J k=>prgT s x tr k (rF T n1 d e1 J) L) (fun u hu q=>?_) (fun q u hu=>prgT_bad hT s x tr (by omega) q (List.getElem?_eq_some_iff.1 hu).1);have D:=(List.getElem?_eq_some_iff.1 hu).1;have hw:=hT.w1 hu (s:=[118,101,114,115,105,111,110]) (by decide);by_cases hpu:isW u [118,101,114,115,105,111,110]=true
     · by_cases E:(L.length:Int)=64
       · obtain ⟨w,ab⟩:=program_bad (d:=d) (a:=u.At) hT s x tr (show L.length≤1000 by omega) (show (42:Int)≠0 by decide) D
         refine Sim.fault (e':=42) (a':=u.At) (by decide) D (z:=⟨0,[],0,0,[]⟩) (p:=kS T n1 d) (w:=w) ?_ ?_
         · refine Ev.unf ?_
           simp only [ps_program.j2];exact Ev.bind (ps_is1 hu _) (Ev.bind (ps_more_yes' hu (by rw [hw];exact hpu) (by omega)) (Ev.pos rfl Ev.ret))
         · exact Ev.bind (Ev.all (pr_is_ hu _)) (Ev.pos (by rw [hw];exact hpu) (Ev.pos E (Ev.bind (Ev.all (pr_fail_ hu 42)) ab)))
       · refine Sim.preR (fun r hr=>?_) (ih n1 0 0 L hlv (fun _=>by omega) (fun _=>hLs q) (fun _ _ _ _=>by omega))
         exact Ev.bind (Ev.all (pr_is_ hu _)) (Ev.pos (by rw [hw];exact hpu) (Ev.neg E hr))
     · refine Sim.preR (fun r hr=>?_) (ih n1 0 0 L hlv (fun _=>by omega) (fun _=>hLs q) (fun _ y hy ad=>by rw [hu] at hy;cases hy;exact absurd ad hpu))
       exact Ev.bind (Ev.all (pr_is_ hu _)) (Ev.neg (by rw [hw];exact hpu) hr)
   · obtain ⟨z,p,hF⟩:=ps_version_no (d:=d) hT ht (by simpa using hpt)
     refine Sim.seqF (version_sim hT) hF fun v n1 e1 J q D=>?_
     obtain ⟨w,hw⟩:=prgM_bad (d:=d) (a:=J) hT s x tr (L:=l++[v]) (by simp only [List.length_append,List.length_singleton];omega) q D;exact ⟨w,Ev.bindc (cat_at (by simp only [List.length_singleton];omega)) hw⟩
  refine Sim.preS (fun _ _ r hr=>Ev.bind (ps_is1 ht _) (Ev.bind (ps_more_no ?_) (Ev.neg (by simp) hr))) key;rintro ⟨X,ag⟩;have:=hp he t ht (by rw [hvw] at X;exact X)
  omega
theorem program_sim (hT:Toks T):Sim Q0 T n n d e a (fun k=>ps_program k (kS T n d)) (fun k=>pr_program k (rF T n d e a)):=by
 unfold ps_program pr_program;refine Sim.name hT 10 fun n2 E J s x O=>?_
 refine Sim.want hT _ fun q C D _ V=>?_
 refine Sim.unfS ?_;simp only [ps_program.l1];exact Sim.preS (fun _ _ r hr=>Ev.pos (by simp) hr) (program_l hT s x _ _ T.length q C D [] (by simp) (fun _=>by omega) (fun _=>smL_nil) (fun _ _ _ _=>by simp))
end Go.Proofs.YtnhifhlbelogcaaDoor
