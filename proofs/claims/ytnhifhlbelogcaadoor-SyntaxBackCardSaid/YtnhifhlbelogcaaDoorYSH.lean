/- Both parsers: members; arguments and procedures. -/
import Derived.Test.YtnhifhlbelogcaaDoorYSG
set_option linter.unusedVariables false
set_option linter.unusedSimpArgs false
namespace Go.Proofs.YtnhifhlbelogcaaDoor
open Go Go.Eng
variable {T:List Token} {n0 n d:Nat} {e a:Int} {t:Token}
theorem members_l (hT:Toks T):∀ (m n:Nat) (e a:Int) (l:List Tree),(e=0→T.length - n≤m∧n0 < n∧l.length≤n∧l.length < 64)→(e=0→∀ t∈l,Sm t)→Sim Q0 T n0 n d e a (fun k=>ps_members.l1 k (kS T n d) l) (fun k=>pr_members.l1 k (rF T n d e a) l):=by
 have hTl:=hT.1;have hbad:∀ (n:Nat) (e a:Int) (l:List Tree),e≠0→Ev (fun k=>pr_members.l1 k (rF T n d e a) l) ([],rF T n d e a):=fun n e a l he=>Ev.step (Ev.neg he Ev.ret) (fun k=>by rw [pr_members.l1])
 intro m
 induction m with
 | zero =>
  intro n e a l hl hsm;refine Sim.split (fr:=fun e a k=>pr_members.l1 k (rF T n d e a) l) (fun t ht he=>?_) (fun he t ht=>⟨[],hbad n e a l he⟩);have hn:=(List.getElem?_eq_some_iff.1 ht).1;have:=hl he
  omega
 | succ m ih =>
  intro n e a l hl hsm;refine Sim.split (fr:=fun e a k=>pr_members.l1 k (rF T n d e a) l) (fun t ht he=>?_) (fun he t ht=>⟨[],hbad n e a l he⟩);obtain ⟨hm,aa,ab,ad⟩:=hl he;have hn:=(List.getElem?_eq_some_iff.1 ht).1;refine Sim.unf ?_;simp only [ps_members.l1,pr_members.l1];refine Sim.preR (fun r hr=>Ev.pos (by simp) hr) ?_;refine Sim.name hT 5 fun n1 e1 ae s x af=>?_
  refine Sim.want hT _ fun n2 ag ah _ D=>?_
  refine Sim.seq (value_sim hT) fun v ai aj ak al C=>?_
  refine Sim.cat2 (by simp only [List.length_singleton];omega) ?_;refine Sim.may hT _ (fun q _ _=>Sim.ret (fun _=>by omega) fun _=>⟨by simp only [List.length_append,List.length_singleton];omega,smL_app (hsm he) (smL_one (.one (C q)))⟩) fun _=>?_
  refine Sim.more hT (gr:=fun b k=>pr_members.j1 k _ _ b) (by simp only [List.length_append,List.length_singleton];omega) (fun q E hlen u hu=>⟨[],Ev.unf ?_⟩) fun hmo=>?_
  · simp only [pr_members.j1]
    subst q E;exact Ev.pos (by simp) (Ev.bind (Ev.all (pr_fail_ hu 42)) (Ev.bind (Ev.all (pr_want_F hu (by decide) _)) (hbad _ _ _ _ (by decide))))
  · refine Sim.unfR ?_
    simp only [pr_members.j1];refine Sim.preR (fun r hr=>Ev.neg (by decide) hr) ?_;refine Sim.lt fun J=>?_
    refine Sim.wantK hT _ fun O V X _ Y hk=>ih O V X _ (fun h=>?_) (fun h=>smL_app (hsm he) (smL_one (.one (C (Y h).2))))
    obtain ⟨u,hu⟩:=at_some J;have hk':=hk h u hu;have hne:¬ ((l++[(⟨5,s,0,x,[v]⟩:Tree)]).length:Int)=64:=fun D=>by
     have:=hmo (by omega) D u hu;rw [hk'] at this;exact absurd this (by decide)
    simp only [List.length_append,List.length_singleton] at hne ⊢
    omega
theorem members_sim (hT:Toks T):Sim Q0 T n n d e a (fun k=>ps_members k (kS T n d)) (fun k=>pr_members k (rF T n d e a)):=by
 unfold ps_members pr_members;exact Sim.want hT _ fun n1 e1 q _ C=>members_l hT T.length n1 e1 q [] (fun h=>⟨by omega,by omega,by simp,by decide⟩) (fun _=>smL_nil)
section
variable (x57:Int) (s58:List UInt8) (x59 x60:Int) (l63:List Tree) (t89:List UInt8×Int×ParR)
abbrev argC:Nat→List Tree→ParR→Option (Tree×ParR):=fun k l s=>pr_procedure.j3 k x57 s58 x59 x60 l63 t89 s l
abbrev argP:List Tree→Prop:=fun l=>l.length≤4
theorem args_end (b:Bool×ParR) (h:¬ (e=0)∨b.1=true) {l:List Tree} {r:Tree×ParR} (hr:Ev (fun k=>pr_procedure.j3 k x57 s58 x59 x60 l63 t89 (rF T n d e a) l) r) :
 Ev (fun k=>pr_procedure.l1 k x57 s58 x59 x60 l63 t89 b (rF T n d e a) l) r:=by
 refine Ev.unf ?_;simp only [pr_procedure.l1];by_cases he:e=0
 · have hb:b.1=true:=h.resolve_left (fun h=>h he)
   refine Ev.pos he (Ev.unf ?_);simp only [pr_procedure.j4];exact Ev.neg (by simp [hb]) hr
 · refine Ev.neg he (Ev.unf ?_)
   simp only [pr_procedure.j4];exact Ev.neg (by simp) hr
theorem args_l (hT:Toks T) (b:Bool×ParR) (hb:b.1=false):∀ (m n:Nat) (e a:Int) (l:List Tree),l.length≤4→(e=0→T.length - n≤m∧n0 < n)→(e=0→∀ t∈l,Sm t) →
 Sim (QC argP (argC x57 s58 x59 x60 l63 t89)) T n0 n d e a (fun k=>ps_arguments.l1 k (kS T n d) l)
  (fun k=>Option.bind (pr_is k (rF T n d e a) [44]) fun q=>if q=true then if (l.length:Int)=4 then Option.bind (pr_fail k (rF T n d e a) 42) fun C=>Option.bind (pr_want k C [44]) fun D=>pr_procedure.l1 k x57 s58 x59 x60 l63 t89 b D l else Option.bind (pr_want k (rF T n d e a) [44]) fun E=>pr_procedure.l1 k x57 s58 x59 x60 l63 t89 b E l else pr_procedure.j3 k x57 s58 x59 x60 l63 t89 (rF T n d e a) l):=by
 intro m
 induction m with
 | zero =>
  intro n e a l hl h hsm;refine Sim.unfS ?_;simp only [ps_arguments.l1];refine Sim.is hT _ (fun he ha hk=>Sim.lt fun hn=>?_) (fun hk=>Sim.cont hl (fun he=>(h he).2) (fun he=>⟨by omega,hsm he⟩));have:=h he
  omega
 | succ m ih =>
  intro n e a l hl h hsm;refine Sim.unfS ?_;simp only [ps_arguments.l1];refine Sim.is hT _ (fun he ha hk=>Sim.lt fun hn=>?_) (fun hk=>Sim.cont hl (fun he=>(h he).2) (fun he=>⟨by omega,hsm he⟩));obtain ⟨hm,Y⟩:=h he;obtain ⟨t,ht⟩:=at_some hn;subst he ha;by_cases J:(l.length:Int)=4
  · exact Sim.fault (by decide) hn (Ev.bind (ps_more_yes ht (by omega)) (Ev.pos rfl Ev.ret)) ⟨hl,fun r hr=>Ev.pos J (Ev.bind (Ev.all (pr_fail_ ht 42)) (Ev.bind (Ev.all (pr_want_F ht (by decide) _)) (args_end x57 s58 x59 x60 l63 t89 b (.inl (by decide)) hr)))⟩
  · refine Sim.pre (fun _ _ r hr=>Ev.bind (ps_more_no (by omega)) (Ev.neg (by simp) hr)) (fun r hr=>Ev.neg J hr) ?_
    refine Sim.want hT _ fun n1 e1 aa _ ab=>?_
    refine Sim.split (fr:=fun e a k=>pr_procedure.l1 k x57 s58 x59 x60 l63 t89 b (rF T n1 d e a) l) (fun u hu he=>?_) (fun he u hu=>⟨l,hl,fun r hr=>args_end x57 s58 x59 x60 l63 t89 b (.inl he) hr⟩);refine Sim.unfR ?_;simp only [pr_procedure.l1];refine Sim.preR (fun r hr=>Ev.pos (by simp) hr) (Sim.unfR ?_);simp only [pr_procedure.j4];refine Sim.preR (fun r hr=>Ev.pos (by simp [hb]) hr) ?_;refine Sim.seq (bare_sim hT) fun v n2 V X ad O=>?_
    refine Sim.cat2 (by simp only [List.length_singleton];omega) ?_;exact ih n2 V X _ (by simp only [List.length_append,List.length_singleton];omega) (fun h=>by omega) (fun h=>smL_app (hsm rfl) (smL_one (O h)))
theorem args_sim (hT:Toks T):Sim (QC argP (argC x57 s58 x59 x60 l63 t89)) T n n d e a (fun k=>ps_arguments k (kS T n d))
 (fun k=>Option.bind (idx (rF T n d e a).l (rF T n d e a).at_) fun C=>Option.bind (pr_may k (rF T n d e a) [118,111,105,100]) fun q=>if q.1=true then Option.bind (cat [] [(⟨13,[],0,C.At,[]⟩:Tree)]) fun D=>pr_procedure.j2 k x57 s58 x59 x60 l63 t89 q D else pr_procedure.j2 k x57 s58 x59 x60 l63 t89 q []):=by
 unfold ps_arguments;refine Sim.tok fun t ht=>?_
 refine Sim.may hT _ (fun he ha _=>?_) (fun _=>?_)
 · subst he ha
   refine Sim.preR (fun r hr=>Ev.bindc (cat_at (by simp)) (args_end x57 s58 x59 x60 l63 t89 _ (.inr rfl) hr)) ?_;exact Sim.cont (show _≤4 by simp) (fun _=>Nat.lt_succ_self n) (fun _=>⟨by simp,smL_one .leaf⟩)
 · refine Sim.split (fr:=fun e a k=>pr_procedure.j2 k x57 s58 x59 x60 l63 t89 (false,rF T n d e a) []) (fun u hu he=>?_) (fun he u hu=>⟨[],show _≤4 by decide,fun r hr=>args_end x57 s58 x59 x60 l63 t89 _ (.inl he) hr⟩)
   unfold pr_procedure.j2;refine Sim.unfR ?_;simp only [pr_procedure.l1];refine Sim.preR (fun r hr=>Ev.pos (by simp) hr) (Sim.unfR ?_);simp only [pr_procedure.j4];refine Sim.preR (fun r hr=>Ev.pos (by simp) hr) ?_;refine Sim.seq (bare_sim hT) fun v n2 J O V E=>?_
   refine Sim.preR (fun r hr=>Ev.bindc (cat_at (show ([]:List Tree).length+[v].length≤_ by simp)) hr) ?_;exact args_l x57 s58 x59 x60 l63 t89 hT _ rfl T.length n2 J O [v] (by simp) (fun h=>by omega) (fun h=>smL_one (E h))
end
theorem procedure_j1 (hT:Toks T) (E:e=0→n0≤n) (x:Int) (s:List UInt8) (y z:Int) (l:List Tree) (hr:e=0→Sm ⟨x,s,y,z,l⟩):Sim Q0 T n0 n d e a (fun k=>ps_procedure.j1 k (kS T n d) x s y z l) (fun k=>pr_procedure.j1 k (rF T n d e a) x s y z l):=by
 unfold ps_procedure.j1 pr_procedure.j1;refine Sim.name hT 12 fun n1 e1 J nm D O=>?_
 refine Sim.want hT _ fun n2 V X _ Y=>?_
 refine Sim.seqC (args_sim x s y z l _ hT) fun v aa ab ad hv ae q=>?_
 unfold argC pr_procedure.j3;refine Sim.want hT _ fun af ag ah _ ai=>?_
 refine Sim.want hT _ fun aj e5 ak _ al=>?_
 refine Sim.seq (wordNumber_sim hT) fun am an ao ap aq C=>?_
 unfold pr_procedure.j5;refine Sim.cat2 (by have:v.length≤4:=hv;simp only [List.length_cons,List.length_nil];omega) ?_;exact Sim.want hT _ fun ar au ax _ ay=>Sim.ret (fun _=>by omega) fun he=>.mk (by have:v.length≤4:=hv;simp only [List.length_append,List.length_cons,List.length_nil];omega) (smL_app (smL_cons (C (by omega)) (smL_one (hr (by omega)))) (q (by omega)).2)
theorem procedure_sim (hT:Toks T):Sim Q0 T n n d e a (fun k=>ps_procedure k (kS T n d)) (fun k=>pr_procedure k (rF T n d e a)):=by
 unfold ps_procedure pr_procedure;refine Sim.tok fun t ht=>?_
 refine Sim.may hT _ (fun he ha _=>procedure_j1 hT (fun _=>by omega) _ _ _ _ _ fun _=>.leaf) (fun _=>?_);exact Sim.seq (bare_sim hT) fun v n2 C D E q=>procedure_j1 hT (fun _=>by omega) _ _ _ _ _ fun h=>by have:=q h;cases v;exact this
end Go.Proofs.YtnhifhlbelogcaaDoor
