/- Both parsers: definitions, sources; the tokens of a scan. -/
import Derived.Test.YtnhifhlbelogcaaDoorYSL
import Derived.Test.YtnhifhlbelogcaaDoorYPI
set_option linter.unusedVariables false
set_option linter.unusedSimpArgs false
namespace Go.Proofs.YtnhifhlbelogcaaDoor
open Go Go.Eng
variable {T:List Token} {n0 n d:Nat} {e a:Int} {t:Token}
theorem pr_decl_void (ht:T[n]? = some t) (hT:Toks T) (h:isW t [118,111,105,100]=true):∃ w,Ev (fun k=>pr_declaration k (rS T n d) false) (w,rF T n d 40 t.At):=by
 have hn:=(List.getElem?_eq_some_iff.1 ht).1;have h':=h;unfold isW at h';simp only [Bool.and_eq_true,decide_eq_true_eq,beq_iff_eq] at h';have hb:bodied t=0:=by unfold bodied;rw [if_pos h'.1,h'.2];rfl
 have hg:begins t=false:=by unfold begins;rw [if_neg (by omega),if_pos h'.1,h'.2];rfl
 refine ⟨⟨14,[],0,0,[⟨0,[],0,t.At,[]⟩]⟩,Ev.unf ?_⟩;simp only [pr_declaration];have hno:∀ s:List UInt8,s≠[118,111,105,100]→∀ k,pr_may k (rS T n d) s=some (false,rS T n d):=fun s hs k=>by
  have:=pr_may_ (d:=d) ht hT.1 s k;rw [show (isK t && (t.Text == s))=false by rw [h'.2];simp [Ne.symm hs]] at this;exact this
 refine Ev.bindc (idx_some ht) (Ev.bind (Ev.all fun k=>(pr_is_ ht _ k).trans (by rw [hT.w1 ht (by decide),h])) (Ev.pos rfl (Ev.unf ?_)));simp only [pr_declaration.j1];refine Ev.neg (by simp) (Ev.bind (Ev.all (hno _ (by decide))) (Ev.neg (by simp) (Ev.bind (Ev.all (hno _ (by decide))) (Ev.neg (by simp) (Ev.bind (r:=(⟨0,[],0,t.At,[]⟩,rF T n d 40 t.At)) (Ev.unf ?_) ?_)))))
 · simp only [pr_typed]
   refine Ev.bind (Ev.all (pr_bodied_ (e:=0) (a:=0) ht)) (Ev.pos (by simp) (Ev.unf ?_));simp only [pr_typed.j1];exact Ev.pos (by simp [hb]) (Ev.bind (Ev.all (pr_bare_no ht hg)) Ev.ret)
 · exact Ev.bind (Ev.all (pr_may_F ht (by decide) _)) (Ev.neg (by simp) (Ev.bind (sized_bad _ 0 ht (by decide)) Ev.ret))
theorem definition_sim (hT:Toks T):Sim Q0 T n n 0 0 0 (fun k=>ps_definition k (kS T n 0)) (fun k=>pr_definition k (rF T n 0 0 0)):=by
 have hTl:=hT.1;refine Sim.cases (fun _ _ t ht hn=>?_) (fun he=>absurd rfl he);unfold ps_definition pr_definition;refine Sim.pre (fun _ _ r hr=>Ev.bind (Ev.all (ps_token_ ht)) hr) (fun r hr=>Ev.bindc (idx_some ht) (Ev.bind (Ev.all (pr_bodied_ ht)) hr)) ?_;by_cases hb:bodied t=0
 · refine Sim.preR (fun r hr=>Ev.pos hb hr) ?_
   refine Sim.may hT _ (fun _ _ _=>?_) (fun _=>?_)
   · refine Sim.name hT 2 fun n1 e1 ae s x D=>?_
     refine Sim.want hT _ fun n2 E J _ q=>?_
     refine Sim.seq (number_sim hT) fun v af ag ah ai aa=>?_
     exact Sim.want hT _ fun O V X _ Y=>Sim.ret (fun _=>by omega) fun h=>.one (aa (by omega))
   · refine Sim.may hT _ (fun _ _ _=>?_) (fun _=>?_)
     · refine Sim.cases (fun _ _ u hu ab=>?_) (fun he=>absurd rfl he)
       have hw:=hT.w1 hu (s:=[118,111,105,100]) (by decide);by_cases hv:isW u [118,111,105,100]=true
       · obtain ⟨w,hwv⟩:=pr_decl_void (d:=0) hu hT hv
         exact Sim.fault (e':=40) (a':=u.At) (by decide) ab (Ev.bind (ps_is1 hu _) (Ev.pos (by rw [hw];exact hv) (Ev.bind (Ev.all (ps_give_ hu 40)) (Ev.pos rfl Ev.ret)))) (Ev.bind hwv (Ev.bind (Ev.all (pr_want_F hu (by decide) _)) Ev.ret))
       · have hv':isW u [118,111,105,100]=false:=by simpa using hv
         refine Sim.preS (fun _ _ r hr=>Ev.bind (ps_is1 hu _) (Ev.neg (by rw [hw];exact hv) hr)) ?_;unfold ps_definition.j1;refine Sim.seq (decl_sim hT (by decide) (HD_ hT _) false (fun _ _ y hy=>by rw [hu] at hy;cases hy;exact hv')) fun v n2 E J q C=>?_
         exact Sim.want hT _ fun O V X _ Y=>Sim.ret (fun _=>by omega) fun h=>.one (C (by omega))
     · refine Sim.may hT _ (fun _ _ _=>?_) (fun _=>?_)
       · refine Sim.seq (program_sim hT) fun v n2 E J q C=>?_
         exact Sim.want hT _ fun O V X _ Y=>Sim.ret (fun _=>by omega) fun h=>C (by omega)
       · exact Sim.fault (e':=40) (a':=t.At) (by decide) hn (Ev.bind (ps_isBody_ hT ht) (Ev.neg (by simp [hb]) (Ev.bind (Ev.all (ps_give_ ht 40)) (Ev.pos rfl Ev.ret)))) (Ev.bind (Ev.all (pr_fail_ ht 40)) (Ev.bind (Ev.all (pr_want_F ht (by decide) _)) Ev.ret))
 · have ad:t.Kind≠5:=fun aj=>hb (by unfold bodied;rw [if_neg (by omega)])
   have D:=hT.next ht ad;have hw:w64 ((n:Int)+1)=((n+1:Nat):Int):=w64_succ (by omega);have hbt:bodied t=bodyK t.Text:=by
    unfold bodied at hb ⊢;by_cases q:t.Kind=2
    · rw [if_pos q]
    · rw [if_neg q] at hb;exact absurd rfl hb
   refine Sim.preR (fun r hr=>Ev.neg hb hr) ?_;refine Sim.preS (fun _ _ r hr=>Ev.bind (may_no hT ht (by decide) (bodied_w hb (by decide))) (Ev.neg (by simp) (Ev.bind (may_no hT ht (by decide) (bodied_w hb (by decide))) (Ev.neg (by simp) (Ev.bind (may_no hT ht (by decide) (bodied_w hb (by decide))) (Ev.neg (by simp) (Ev.bind (ps_isBody_ hT ht) (Ev.pos (by simp [hb]) hr)))))))) ?_;simp only [hw];refine Sim.fwd D (Sim.name hT 6 fun n1 e1 ae s x D=>?_);refine body_seq hT (by decide) (HD_ hT 0) (fun _=>Nat.zero_le _) t.Text (bodied t) (fun _=>⟨hbt,hb⟩) s x fun kids n2 E J q hk=>?_
   exact Sim.want hT _ fun O V X _ Y=>Sim.ret (fun _=>by omega) fun h=>.mk (Nat.le_trans (hk (by omega)).1 (by decide)) (hk (by omega)).2
def defT (t:Token):Bool:=decide (bodied t≠0) || (decide (t.Kind=2) && decide (t.Text∈([[99,111,110,115,116],[116,121,112,101,100,101,102],[112,114,111,103,114,97,109]]:List (List UInt8))))
theorem pr_defines_ (hT:Toks T) (ht:T[n]? = some t) (k:Nat):pr_defines k (rF T n d 0 0)=some (defT t):=by
 have hi:=pr_is_ (d:=d) ht;unfold pr_defines defT;rw [pr_bodied_ ht,Option.bind_some,hi,Option.bind_some,hi,Option.bind_some,hi,Option.bind_some,hT.w1 ht (by decide),hT.w1 ht (by decide),hT.w1 ht (by decide)];unfold isW;by_cases hb:bodied t=0
 · rw [if_pos hb]
   by_cases q:t.Kind=2
   · by_cases C:t.Text=[99,111,110,115,116]
     · simp [q,C]
     · by_cases D:t.Text=[116,121,112,101,100,101,102]
       · simp [q,D]
       · simp [q,C,D,hb]
         cases hx:(t.Text == [112,114,111,103,114,97,109]) <;> simp_all
   · simp [q,hb]
 · rw [if_neg hb];simp [hb]
theorem ps_definition_no (hT:Toks T) (ht:T[n]? = some t) (h:defT t=false):∃ z p,Ev (fun k=>ps_definition k (kS T n 0)) (some (faultV 40 t.At),z,p):=by
 unfold defT at h;simp only [Bool.or_eq_false_iff,decide_eq_false_iff_not,ne_eq,Decidable.not_not] at h;have hm:∀ s∈([[99,111,110,115,116],[116,121,112,101,100,101,102],[112,114,111,103,114,97,109]]:List (List UInt8)),isW t s=false:=fun s hs=>by
  by_cases q:t.Kind=2
  · rw [isW_eq q]
    have C:=h.2;by_cases he:t.Text=s
    · exfalso
      subst he
      simp [q] at C
      simp at hs
      rcases hs with h | h | h <;> simp_all
    · simpa using he
  · exact isW_no q s
 unfold ps_definition;exact ⟨_,_,Ev.bind (Ev.all (ps_token_ ht)) (Ev.bind (may_no hT ht (by decide) (hm _ (by simp))) (Ev.neg (by simp) (Ev.bind (may_no hT ht (by decide) (hm _ (by simp))) (Ev.neg (by simp) (Ev.bind (may_no hT ht (by decide) (hm _ (by simp))) (Ev.neg (by simp) (Ev.bind (ps_isBody_ hT ht) (Ev.neg (by simp [h.1]) (Ev.bind (Ev.all (ps_give_ ht 40)) (Ev.pos rfl Ev.ret))))))))))⟩
theorem pss_is (hT:Toks T) (ht:T[n]? = some t):Ev (fun k=>ps_is k (kS T n d) ([([99,111,110,115,116]:List UInt8),([116,121,112,101,100,101,102]:List UInt8),([112,114,111,103,114,97,109]:List UInt8)]:List (List UInt8))) (decide (t.Kind=2) && decide (t.Text∈([[99,111,110,115,116],[116,121,112,101,100,101,102],[112,114,111,103,114,97,109]]:List (List UInt8)))) :=
 (ps_is_ ht (by decide)).cast (hT.word ht (by decide))
abbrev noT:Tree:=⟨0,[],0,0,[]⟩
theorem prP_bad (he:e≠0) (l:List Tree):Ev (fun k=>pr_Parse.l1 k l T (n:Int) (d:Int) e a) (noT,e,a):=by
 refine Ev.unf ?_;simp only [pr_Parse.l1];refine Ev.neg he (Ev.unf ?_);simp only [pr_Parse.j2];refine Ev.neg (by simp) ?_;unfold pr_Parse.j1;exact Ev.neg he Ev.ret
theorem source_l (hT:Toks T):∀ (m n:Nat) (l:List Tree),n < T.length→T.length - n≤m→l.length≤100→(∀ t∈l,Sm t)→(∀ t,T[n]? = some t→defT t=true→l.length≤100) →
 (∃ v p,Sm v∧Ev (fun k=>ps_source.l1 k (kS T n 0) l) (none,v,p)∧Ev (fun k=>pr_Parse.l1 k l T (n:Int) 0 0 0) (v,0,0)) ∨
 ∃ e a z p,e≠0∧Ev (fun k=>ps_source.l1 k (kS T n 0) l) (some (faultV e a),z,p)∧Ev (fun k=>pr_Parse.l1 k l T (n:Int) 0 0 0) (noT,e,a):=by
 have hTl:=hT.1;intro m
 induction m with
 | zero=>intro n l hn hm;omega
 | succ m ih =>
  intro n l hn hm hl hsm _;obtain ⟨t,ht⟩:=at_some hn;by_cases q:t.Kind=5
  · refine .inl ⟨⟨1,[],0,0,l⟩,kS T n 0,.mk (by omega) hsm,Ev.unf ?_,Ev.unf ?_⟩
    · simp only [ps_source.l1]
      exact Ev.bind (Ev.all (ps_token_ ht)) (Ev.pos q Ev.ret)
    · simp only [pr_Parse.l1]
      refine Ev.pos (by simp) (Ev.bindc (idx_some ht) (Ev.unf ?_));simp only [pr_Parse.j2];refine Ev.neg (by simp [q]) ?_;unfold pr_Parse.j1;exact Ev.pos rfl Ev.ret
  · have hpr:∀ {r:Tree×Int×Int},(¬ (defT t=true∧(l.length:Int)=100))→Ev (fun k=>pr_Parse.j3 k l T (n:Int) 0 0 0) r→Ev (fun k=>pr_Parse.l1 k l T (n:Int) 0 0 0) r:=fun {r} hno hr=>by
     refine Ev.unf ?_;simp only [pr_Parse.l1];refine Ev.pos (by simp) (Ev.bindc (idx_some ht) (Ev.unf ?_));simp only [pr_Parse.j2];refine Ev.pos (by simp [q]) (Ev.bind (Ev.all (pr_defines_ (d:=0) hT ht)) ?_);by_cases hd:defT t=true
     · exact Ev.pos hd (Ev.neg (fun h=>hno ⟨hd,h⟩) hr)
     · exact Ev.neg hd hr
    by_cases hmany:defT t=true∧(l.length:Int)=100
    · refine .inr ⟨42,t.At,noT,kS T n 0,by decide,Ev.unf ?_,Ev.unf ?_⟩
      · simp only [ps_source.l1]
        refine Ev.bind (Ev.all (ps_token_ ht)) (Ev.neg q (Ev.bind (ps_isBody_ hT ht) ?_));by_cases hb:bodied t=0
        · refine Ev.neg (by simp [hb]) (Ev.bind (pss_is hT ht) (Ev.bind (ps_more_yes' ht ?_ (by omega)) (Ev.pos rfl Ev.ret)))
          have:=hmany.1;unfold defT at this
          simpa [hb] using this
        · exact Ev.pos (by simp [hb]) (Ev.bind (ps_more_yes ht (by omega)) (Ev.pos rfl Ev.ret))
      · simp only [pr_Parse.l1]
        refine Ev.pos (by simp) (Ev.bindc (idx_some ht) (Ev.unf ?_));simp only [pr_Parse.j2];refine Ev.pos (by simp [q]) (Ev.bind (Ev.all (pr_defines_ (d:=0) hT ht)) (Ev.pos hmany.1 (Ev.pos hmany.2 (Ev.bind (Ev.all (pr_fail_ (d:=0) ht 42)) ?_))));unfold pr_Parse.j1;exact Ev.neg (show ¬ (42:Int)=0 by decide) Ev.ret
    · have hps:∀ {r:Option Value×Tree×ParK},Ev (fun k=>ps_source.j1 k (kS T n 0) l) r→Ev (fun k=>ps_source.l1 k (kS T n 0) l) r:=fun {r} hr=>by
       refine Ev.unf ?_;simp only [ps_source.l1];refine Ev.bind (Ev.all (ps_token_ ht)) (Ev.neg q (Ev.bind (ps_isBody_ hT ht) ?_));by_cases hb:bodied t=0
       · refine Ev.neg (by simp [hb]) (Ev.bind (pss_is hT ht) (Ev.bind (ps_more_no ?_) (Ev.neg (by simp) hr)))
         rintro ⟨J,Y⟩;exact hmany ⟨by unfold defT;rw [J];simp,by omega⟩
       · refine Ev.pos (by simp [hb]) (Ev.bind (ps_more_no ?_) (Ev.neg (by simp) hr))
         rintro ⟨J,Y⟩;exact hmany ⟨by unfold defT;simp [hb],by omega⟩
      rcases (definition_sim (n:=n) hT hn).1 rfl rfl with ⟨v,n',l1,l2,sv,s,r⟩|⟨e',a',z',p',w,n',he',l',s,r⟩
      · have X:l.length < 100:=by
         by_cases hd:defT t=true
         · have:¬ (l.length:Int)=100:=fun h=>hmany ⟨hd,h⟩
           omega
         · obtain ⟨z,p,hF⟩:=ps_definition_no hT ht (by simpa using hd)
           exact absurd (congrArg Prod.fst (Ev.det s hF)) (by simp)
        have hc:cat l [v]=some (l++[v]):=cat_at (by simp only [List.length_singleton];omega);have hsm':=smL_app hsm (smL_one sv);rcases ih n' (l++[v]) l2 (by omega) (by simp only [List.length_append,List.length_singleton];omega) hsm' (fun _ _ _=>by simp only [List.length_append,List.length_singleton];omega) with ⟨aa,C,O,D,E⟩|⟨ab,ad,ae,C,V,D,E⟩
        · refine .inl ⟨aa,C,O,hps (Ev.unf ?_),hpr hmany (Ev.unf ?_)⟩
          · simp only [ps_source.j1]
            exact Ev.bind s (Ev.neg (by simp) (Ev.bindc hc D))
          · simp only [pr_Parse.j3]
            exact Ev.bind r (Ev.bindc hc E)
        · refine .inr ⟨ab,ad,ae,C,V,hps (Ev.unf ?_),hpr hmany (Ev.unf ?_)⟩
          · simp only [ps_source.j1]
            exact Ev.bind s (Ev.neg (by simp) (Ev.bindc hc D))
          · simp only [pr_Parse.j3]
            exact Ev.bind r (Ev.bindc hc E)
      · refine .inr ⟨e',a',noT,p',he',hps (Ev.unf ?_),hpr hmany (Ev.unf ?_)⟩
        · simp only [ps_source.j1]
          exact Ev.bind s (Ev.pos rfl Ev.ret)
        · simp only [pr_Parse.j3]
          exact Ev.bind r (Ev.bindc (cat_at (show l.length+[w].length≤_ by simp only [List.length_singleton];omega)) (prP_bad (d:=0) he' _))
theorem kind_not {a b:Int} {P:Prop} (h:a≠b):a=b→P:=fun e=>absurd e h
theorem numS_nb (b:Bool) (l:List UInt8):NB (numS b l).1:=by
 have D:=fun x=>digS_in (.inl rfl) x
 have q:=fun x=>digS_in (.inr (.inl rfl)) x
 have C:=fun x=>digS_in (.inr (.inr rfl)) x
 unfold numS NB;have:=q l;have:=D (l.drop 1);have:=C (l.drop 2)
 repeat' split
 all_goals first | omega | (show -9223372036854775808≤-(digS 10 l).1∧-(digS 10 l).1≤9223372036854775807;omega) | decide
theorem nextS_tok (m:List UInt8):∀ t k,nextS m = .tok t k→t.Kind≠5∧(t.Kind=4→t.Text.length=1)∧NB t.Number:=by
 intro t k h;cases m with
 | nil=>exact absurd h (by unfold nextS;simp)
 | cons c l =>
  rw [nextS_cons] at h
  split at h
  · cases h
  split at h
  · split at h <;> cases h
  split at h
  · split at h
    · cases h;exact ⟨(by decide:(2:Int)≠5),kind_not (by decide:(2:Int)≠4),nb0⟩
    · split at h
      · cases h
      · cases h;exact ⟨(by decide:(1:Int)≠5),kind_not (by decide:(1:Int)≠4),nb0⟩
  by_cases c4:(isDigit c || minusDigit c l)=true
  · rw [if_pos c4] at h
    by_cases q:(numS (decide (c=45)) (if c=45 then l.take (runLen l) else (c::l).take (1+runLen l))).2=true
    · rw [if_pos q] at h
      have h':=(Nx.tok.inj h).1;subst h';exact ⟨(by decide:(3:Int)≠5),kind_not (by decide:(3:Int)≠4),numS_nb _ _⟩
    · rw [if_neg q] at h
      cases h
  rw [if_neg c4] at h
  split at h
  · cases h;exact ⟨(by decide:(4:Int)≠5),fun _=>rfl,nb0⟩
  · cases h
def TokIn (len:Nat) (t:Token):Prop:=t.Kind≠5∧((t.Kind=4→t.Text.length=1)∧NB t.Number)∧0≤t.At∧t.At≤(len:Int)
theorem scanG_toks (s:List UInt8):∀ (d a:Nat) (acc:List Token),s.length < a+d→a≤s.length→(∀ t∈acc,TokIn s.length t)→(scanG d s a acc).2.1=0 →
 ∃ A,(scanG d s a acc).1=A++[⟨5,[],0,(s.length:Int)⟩]∧∀ t∈A,TokIn s.length t:=by
 intro d
 induction d with
 | zero=>intro a acc D E;omega
 | succ d ih =>
  intro a acc D E hacc q;rw [scanG] at q ⊢;by_cases ha:a < s.length
  · rw [if_pos ha] at q ⊢
    have hok:=nextS_ok _ (drop_ne ha);have htk:=nextS_tok (s.drop a);generalize nextS (s.drop a)=x at hok htk q ⊢;cases x with
    | bad e =>
     have he:e≠0:=by rcases hok with h | h | h | h <;> subst h <;> decide
     exact absurd q he
    | skip k =>
     obtain ⟨J,C⟩:=hok;rw [List.length_drop] at C;exact ih (a+k) acc (by omega) (by omega) hacc q
    | tok t k =>
     obtain ⟨J,C,V⟩:=hok;rw [List.length_drop] at C;obtain ⟨O,k2⟩:=htk t k rfl;refine ih (a+k) _ (by omega) (by omega) (fun u hu=>?_) q;rcases List.mem_append.1 hu with hu | hu
     · exact hacc u hu
     · rw [List.mem_singleton] at hu
       subst hu;exact ⟨O,k2,show (0:Int)≤(a:Int) by omega,show (a:Int)≤(s.length:Int) by omega⟩
  · rw [if_neg ha]
    exact ⟨acc,rfl,hacc⟩
theorem scanS_toks {s:List UInt8} (q:(scanS s).2.1=0):s.length≤16000∧∃ A,(scanS s).1=A++[⟨5,[],0,(s.length:Int)⟩]∧∀ t∈A,TokIn s.length t:=by
 unfold scanS at q ⊢;by_cases h:16000 < s.length
 · rw [if_pos h] at q
   exact absurd q (by decide)
 · rw [if_neg h] at q ⊢
   exact ⟨by omega,scanG_toks s (s.length+1) 0 [] (by omega) (by omega) (fun t ht=>absurd ht (by simp)) q⟩
theorem toks_scan {s:List UInt8} (q:(scanS s).2.1=0):Toks (scanS s).1:=by
 have hl:=scanS_len s;obtain ⟨_,A,hA,hin⟩:=scanS_toks q;rw [hA] at hl ⊢;refine ⟨hl,fun n t ht=>?_,fun t ht=>?_⟩
 · rw [List.length_append,List.length_singleton]
   by_cases hn:n < A.length
   · rw [List.getElem?_append_left hn] at ht
     have:=(hin t (List.mem_of_getElem? ht)).1
     constructor
     · intro h;exact absurd h this
     · intro h;omega
   · rw [List.getElem?_append_right (by omega)] at ht
     have C:=(List.getElem?_eq_some_iff.1 ht).1;rw [List.length_singleton] at C;have:n - A.length=0:=by omega
     rw [this] at ht;cases ht
     constructor
     · intro _;omega
     · intro _;rfl
 · rcases List.mem_append.1 ht with h | h
   · exact (hin t h).2.1
   · rw [List.mem_singleton] at h
     subst h;exact ⟨fun D=>absurd D (show (5:Int)≠4 by decide),nb0⟩
theorem faultOf_V (e a:Int):faultOf (faultV e a)=some (e,a):=rfl
end Go.Proofs.YtnhifhlbelogcaaDoor
