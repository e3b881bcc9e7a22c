/- Both parsers: what stands within a body. -/
import Derived.Test.YtnhifhlbelogcaaDoorYSJ
set_option linter.unusedVariables false
set_option linter.unusedSimpArgs false
namespace Go.Proofs.YtnhifhlbelogcaaDoor
open Go Go.Eng
variable {T:List Token} {n0 n d:Nat} {e a:Int} {t:Token}
theorem ps_shallow_yes (hT:Toks T) (ht:T[n]? = some t) (hb:bodied t≠0) (hd:8≤d):Ev (fun k=>ps_shallow k (kS T n d)) (some (faultV 41 t.At)):=by
 unfold ps_shallow;exact Ev.bind (ps_isBody_ hT ht) (Ev.pos (by simp [hb]) (Ev.pos (show (8:Int)≤(d:Int) by omega) (Ev.bind (Ev.all (ps_give_ ht 41)) (Ev.pos rfl Ev.ret))))
theorem ps_shallow_no (hT:Toks T) (ht:T[n]? = some t) (h:¬ (bodied t≠0∧8≤d)):Ev (fun k=>ps_shallow k (kS T n d)) none:=by
 unfold ps_shallow;by_cases hb:bodied t≠0
 · exact Ev.bind (ps_isBody_ hT ht) (Ev.pos (by simp [hb]) (Ev.neg (show ¬ (8:Int)≤(d:Int) by omega) Ev.ret))
 · exact Ev.bind (ps_isBody_ hT ht) (Ev.neg (by simpa using hb) Ev.ret)
theorem bodied_w (h:bodied t≠0) {s:List UInt8} (hs:s ∉ ([[101,110,117,109],[115,116,114,117,99,116],[117,110,105,111,110]]:List (List UInt8))):isW t s=false:=by
 unfold bodied bodyK at h;by_cases q:t.Kind=2
 · rw [if_pos q] at h
   rw [isW_eq q];by_cases e:t.Text=s
   · exfalso
     subst e;simp only [List.mem_cons,List.not_mem_nil,or_false,not_or] at hs;rw [if_neg hs.1,if_neg hs.2.1,if_neg hs.2.2] at h;exact h rfl
   · simpa using e
 · exact isW_no q s
theorem ps_decl_typ (hT:Toks T) (ht:T[n]? = some t) (q:isW t [118,111,105,100]=false) (C:isW t [111,112,97,113,117,101]=false) (D:isW t [115,116,114,105,110,103]=false) {f:Value} {z:Tree} {p:ParK}
 (h:Ev (fun k=>ps_typ k (kS T n d)) (some f,z,p)):∃ z p,Ev (fun k=>ps_declaration k (kS T n d)) (some f,z,p):=by
 refine ⟨⟨0,[],0,0,[]⟩,p,Ev.unf ?_⟩;simp only [ps_declaration];exact Ev.bind (Ev.all (ps_token_ ht)) (Ev.bind (may_no hT ht (by decide) q) (Ev.neg (by simp) (Ev.bind (may_no hT ht (by decide) C) (Ev.neg (by simp) (Ev.bind (may_no hT ht (by decide) D) (Ev.neg (by simp) (Ev.bind h (Ev.pos rfl Ev.ret))))))))
theorem ps_decl_deep (hT:Toks T) (ht:T[n]? = some t) (hb:bodied t≠0) (hd:8≤d):∃ z p,Ev (fun k=>ps_declaration k (kS T n d)) (some (faultV 41 t.At),z,p):=by
 refine ps_decl_typ hT ht (bodied_w hb (by decide)) (bodied_w hb (by decide)) (bodied_w hb (by decide)) (z:=⟨0,[],0,0,[]⟩) (p:=kS T n d) (Ev.unf ?_);simp only [ps_typ];exact Ev.bind (ps_shallow_yes hT ht hb hd) (Ev.pos rfl Ev.ret)
theorem declT_no (h:declT t=false):bodied t=0∧begins t=false∧isW t [118,111,105,100]=false∧isW t [111,112,97,113,117,101]=false∧isW t [115,116,114,105,110,103]=false:=by
 unfold declT at h;simp only [Bool.or_eq_false_iff,decide_eq_false_iff_not,ne_eq,Decidable.not_not] at h;refine ⟨h.1.1,h.1.2,?_⟩;have q:=h.2;unfold isW;by_cases C:t.Kind=2
 · simp [C] at q ⊢
   exact q
 · simp [C]
theorem ps_decl_no (hT:Toks T) (ht:T[n]? = some t) (h:declT t=false):∃ z p,Ev (fun k=>ps_declaration k (kS T n d)) (some (faultV 40 t.At),z,p):=by
 obtain ⟨hb,hg,q,C,D⟩:=declT_no h;refine ps_decl_typ hT ht q C D (z:=⟨0,[],0,0,[]⟩) (p:=kS T n d) (Ev.unf ?_);simp only [ps_typ];exact Ev.bind (ps_shallow_no hT ht (fun h=>h.1 hb)) (Ev.neg (by simp) (Ev.bind (ps_isBody_ hT ht) (Ev.neg (by simp [hb]) (Ev.bind (ps_bare_no hT ht (begins_no hg).1 (begins_no hg).2) (Ev.pos rfl Ev.ret)))))
theorem faultV_inj {e a e' a':Int} (h:faultV e a=faultV e' a'):e=e'∧a=a':=by
 unfold faultV at h
 simpa using h
theorem Sim.faulty {α ρ:Type} [Sml α] {Q:Reach α ρ} {F:Nat→Option (Option Value×α×ParK)} {fr:Nat→Option ρ} {q:α} {C:ParK} {e' a':Int} (h:Sim Q T n0 n d 0 0 F fr) (hn:n < T.length) (hF:Ev F (some (faultV e' a'),q,C)) :
 e'≠0∧∃ w n',n' < T.length∧Q.rt fr w (rF T n' d e' a'):=by
 rcases (h hn).1 rfl rfl with ⟨v,n',l1,l2,sv,s,r⟩|⟨D,E,z',p',w,n',he',l,s,r⟩
 · exact absurd (congrArg Prod.fst (Ev.det s hF)) (by simp)
 · have:=congrArg Prod.fst (Ev.det s hF)
   obtain ⟨rfl,rfl⟩:=faultV_inj (Option.some.inj this);exact ⟨he',w,n',l,r⟩
def HD (T:List Token) (M:Nat):Prop:=∀ (n d:Nat) (e a:Int),d≤8→(e=0→M≤n)→Sim Q0 T n n d e a (fun k=>ps_declaration k (kS T n d)) (fun k=>pr_declaration k (rF T n d e a) true)
theorem fields_bad (he:e≠0) (l:List Tree):Ev (fun k=>pr_fields.l1 k (rF T n d e a) l) ([],rF T n d e a) :=
 Ev.step (Ev.neg he Ev.ret) (fun k=>by rw [pr_fields.l1])
theorem fields_j2_bad (he:e≠0) (l:List Tree) (c b:Bool):Ev (fun k=>pr_fields.j2 k l (c,rF T n d e a) b) ([],rF T n d e a):=by
 refine Ev.unf ?_;simp only [pr_fields.j2];cases b
 · exact Ev.neg (by simp) (Ev.bind (Ev.all (pr_fail_F he 42)) (fields_bad he l))
 · exact Ev.pos (by simp) (Ev.bind (Ev.all (pr_fail_F he 41)) (Ev.bind (Ev.all (pr_fail_F he 42)) (fields_bad he l)))
theorem fields_j1_bad (ht:T[n]? = some t) (he:e≠0) (l:List Tree) (c b:Bool):Ev (fun k=>pr_fields.j1 k l (c,rF T n d e a) b) ([],rF T n d e a):=by
 refine Ev.unf ?_;simp only [pr_fields.j1];cases b
 · exact Ev.neg (by simp) (fields_bad he l)
 · refine Ev.pos (by simp) (Ev.bind (Ev.all (pr_bodied_ ht)) ?_)
   by_cases hb:bodied t=0
   · exact Ev.pos hb (fields_j2_bad he l c _)
   · exact Ev.neg hb (fields_j2_bad he l c _)
abbrev fldT (k:Nat) (q:ParR) (L:List Tree):Option (List Tree×ParR):=Option.bind (pr_declares k q) fun C=>if C=true then pr_fields.j1 k L (false,q) (decide ((L.length:Int)=64)) else pr_fields.j1 k L (false,q) false
abbrev fldM (k:Nat) (q:ParR) (L:List Tree):Option (List Tree×ParR):=Option.bind (pr_want k q ([59]:List UInt8)) fun D=>Option.bind (pr_may k D ([125]:List UInt8)) fun C=>if C.1=true then some (L,C.2) else Option.bind (pr_declares k C.2) fun E=>if E=true then pr_fields.j1 k L C (decide ((L.length:Int)=64)) else pr_fields.j1 k L C false
theorem fldT_bad (ht:T[n]? = some t) (he:e≠0) (L:List Tree):Ev (fun k=>fldT k (rF T n d e a) L) ([],rF T n d e a):=by
 refine Ev.bind (Ev.all (pr_declares_ ht)) ?_;by_cases hb:declT t=true
 · exact Ev.pos hb (fields_j1_bad ht he L _ _)
 · exact Ev.neg hb (fields_j1_bad ht he L _ _)
theorem fldM_bad (ht:T[n]? = some t) (he:e≠0) (L:List Tree):Ev (fun k=>fldM k (rF T n d e a) L) ([],rF T n d e a) :=
 Ev.bind (Ev.all (pr_want_F ht he _)) (Ev.bind (Ev.all (pr_may_F ht he _)) (Ev.neg (by simp) (fldT_bad ht he L)))
theorem psf_A (hT:Toks T) (ht:T[n]? = some t) (hb:bodied t≠0) (hd:8≤d) (l:List Tree):Ev (fun k=>ps_fields.j1 k l (kS T n d)) (some (faultV 41 t.At),[],kS T n d):=by
 refine Ev.unf ?_;simp only [ps_fields.j1];exact Ev.bind (ps_shallow_yes hT ht hb hd) (Ev.pos rfl Ev.ret)
theorem psf_is (hT:Toks T) (ht:T[n]? = some t):Ev (fun k=>ps_is k (kS T n d) ([([118,111,105,100]:List UInt8),([111,112,97,113,117,101]:List UInt8),([115,116,114,105,110,103]:List UInt8)]:List (List UInt8))) (decide (t.Kind=2) && decide (t.Text∈([[118,111,105,100],[111,112,97,113,117,101],[115,116,114,105,110,103]]:List (List UInt8)))) :=
 (ps_is_ ht (by decide)).cast (hT.word ht (by decide))
theorem psf_B (hT:Toks T) (ht:T[n]? = some t) (hA:¬ (bodied t≠0∧8≤d)) (hD:declT t=true) {l:List Tree} (hl:64≤l.length):Ev (fun k=>ps_fields.j1 k l (kS T n d)) (some (faultV 42 t.At),[],kS T n d):=by
 refine Ev.unf ?_;simp only [ps_fields.j1];refine Ev.bind (ps_shallow_no hT ht hA) (Ev.neg (by simp) (Ev.bind (ps_isBare_ hT ht) ?_));have hl':(64:Int)≤(l.length:Int):=by omega
 by_cases hg:begins t=true
 · exact Ev.pos hg (Ev.bind (ps_more_yes ht hl') (Ev.pos rfl Ev.ret))
 · refine Ev.neg hg (Ev.bind (ps_isBody_ hT ht) ?_)
   by_cases hb:bodied t=0
   · refine Ev.neg (by simp [hb]) (Ev.bind (psf_is hT ht) (Ev.bind (ps_more_yes' ht ?_ hl') (Ev.pos rfl Ev.ret)))
     unfold declT at hD
     simpa [hb,hg] using hD
   · exact Ev.pos (by simp [hb]) (Ev.bind (ps_more_yes ht hl') (Ev.pos rfl Ev.ret))
theorem psf_C (hT:Toks T) (ht:T[n]? = some t) (hA:¬ (bodied t≠0∧8≤d)) {l:List Tree} (hl:declT t=true→l.length < 64) {r:Option Value×List Tree×ParK} (hr:Ev (fun k=>ps_fields.j2 k l (kS T n d)) r):Ev (fun k=>ps_fields.j1 k l (kS T n d)) r:=by
 refine Ev.unf ?_;simp only [ps_fields.j1];refine Ev.bind (ps_shallow_no hT ht hA) (Ev.neg (by simp) (Ev.bind (ps_isBare_ hT ht) ?_));by_cases hg:begins t=true
 · have:=hl (by unfold declT;simp [hg])
   exact Ev.pos hg (Ev.bind (ps_more_no (by omega)) (Ev.neg (by simp) hr))
 · refine Ev.neg hg (Ev.bind (ps_isBody_ hT ht) ?_)
   by_cases hb:bodied t=0
   · refine Ev.neg (by simp [hb]) (Ev.bind (psf_is hT ht) (Ev.bind (ps_more_no ?_) (Ev.neg (by simp) hr)))
     rintro ⟨q,C⟩;have:=hl (by unfold declT;rw [q];simp)
     omega
   · have:=hl (by unfold declT;simp [hb])
     exact Ev.pos (by simp [hb]) (Ev.bind (ps_more_no (by omega)) (Ev.neg (by simp) hr))
theorem fields_l {M:Nat} (hT:Toks T) (hd:d≤8) (hD:HD T M):∀ (m n:Nat) (e a:Int) (l:List Tree),l.length≤64→(e=0→T.length - n≤m∧n0 < n∧M≤n)→(e=0→∀ t∈l,Sm t)→(e=0→∀ t,T[n]? = some t→¬ (bodied t≠0∧8≤d)→declT t=true→l.length < 64) →
 Sim Q0 T n0 n d e a (fun k=>ps_fields.j1 k l (kS T n d)) (fun k=>pr_fields.l1 k (rF T n d e a) l):=by
 have hTl:=hT.1;intro m
 induction m with
 | zero =>
  intro n e a l hl h _ _;refine Sim.cases (fun he ha t ht hn=>?_) (fun he t ht hn=>⟨[],fields_bad he l⟩);have:=h he
  omega
 | succ m ih =>
  intro n e a l hl h hsm hp;refine Sim.cases (fun he ha t ht hn=>?_) (fun he t ht hn=>⟨[],fields_bad he l⟩);obtain ⟨hm,ah,hM⟩:=h he;subst he ha;refine Sim.unfR ?_;simp only [pr_fields.l1];refine Sim.preR (gr:=fun k=>Option.bind (pr_declaration k (rF T n d 0 0) true) fun X=>Option.bind (cat l [X.1]) fun J=>fldM k X.2 J) (fun r hr=>Ev.pos (by simp) hr) ?_;have hbadL:∀ (v:Tree) (n1:Nat) (e1 E:Int),e1≠0→n1 < T.length→∃ w,Ev (fun k=>Option.bind (cat l [v]) fun J=>fldM k (rF T n1 d e1 E) J) (w,rF T n1 d e1 E):=fun v n1 e1 E C q=>by
   obtain ⟨u,hu⟩:=at_some q;exact ⟨_,Ev.bindc (cat_at (by simp only [List.length_singleton];omega)) (fldM_bad hu C _)⟩
  by_cases hA:bodied t≠0∧8≤d
  · obtain ⟨z,p,hF⟩:=ps_decl_deep hT ht hA.1 hA.2
    obtain ⟨Y,w,n1,q,hw⟩:=(hD n d 0 0 hd (fun _=>hM)).faulty hn hF;obtain ⟨aj,ad⟩:=hbadL w n1 41 t.At Y q;exact Sim.fault Y q (psf_A hT ht hA.1 hA.2 l) (Ev.bind hw ad)
  · refine Sim.preS (fun _ _ r hr=>psf_C hT ht hA (hp rfl t ht hA) hr) ?_
    refine Sim.unfS ?_;simp only [ps_fields.j2];by_cases hDt:declT t=true
    · have D:=hp rfl t ht hA hDt
      refine Sim.seq (hD n d 0 0 hd (fun _=>hM)) fun v n1 e1 E ak ae=>?_
      refine Sim.cat2 (by simp only [List.length_singleton];omega) ?_;have hlv:(l++[v]).length≤64:=by simp only [List.length_append,List.length_singleton];omega
      have hlp:0 < (l++[v]).length:=by simp only [List.length_append,List.length_singleton];omega
      have hLs:e1=0→∀ t∈l++[v],Sm t:=fun h=>smL_app (hsm rfl) (smL_one (ae h))
      generalize l++[v]=L at hlv hlp hLs;refine Sim.want hT _ fun n2 al am _ ab=>?_
      refine Sim.unfS ?_;simp only [ps_fields.l1];refine Sim.preS (fun _ _ r hr=>Ev.neg (by omega) hr) ?_;refine Sim.may hT _ (fun C ai _=>Sim.ret (fun _=>by omega) fun _=>⟨by omega,hLs (ab C).2⟩) (fun _=>?_);refine Sim.cases (fun O af u hu V=>?_) (fun O u hu V=>⟨[],fldT_bad hu O L⟩);subst O af;by_cases hDu:declT u=true
      · by_cases D:(L.length:Int)=64
        · by_cases hAu:bodied u≠0∧8≤d
          · refine Sim.fault (by decide) V (psf_A hT hu hAu.1 hAu.2 L) (w:=[]) (Ev.bind (Ev.all (pr_declares_ hu)) (Ev.pos hDu (Ev.unf ?_)))
            simp only [pr_fields.j1];refine Ev.pos (by simpa using D) (Ev.bind (Ev.all (pr_bodied_ hu)) (Ev.neg hAu.1 (Ev.unf ?_)));simp only [pr_fields.j2];exact Ev.pos (by simp;omega) (Ev.bind (Ev.all (pr_fail_ hu 41)) (Ev.bind (Ev.all (pr_fail_F (by decide) 42)) (fields_bad (by decide) L)))
          · refine Sim.fault (by decide) V (psf_B hT hu hAu hDu (l:=L) (by omega)) (w:=[]) (Ev.bind (Ev.all (pr_declares_ hu)) (Ev.pos hDu (Ev.unf ?_)))
            simp only [pr_fields.j1];have aa:∀ b,b=false→Ev (fun k=>pr_fields.j2 k L (false,rF T n2 d 0 0) b) ([],rF T n2 d 42 u.At):=fun b hb=>by
             refine Ev.unf ?_;simp only [pr_fields.j2];exact Ev.neg (by simp [hb]) (Ev.bind (Ev.all (pr_fail_ hu 42)) (fields_bad (by decide) L))
            refine Ev.pos (by simpa using D) (Ev.bind (Ev.all (pr_bodied_ hu)) ?_);by_cases hb:bodied u=0
            · exact Ev.pos hb (aa _ rfl)
            · exact Ev.neg hb (aa _ (by simp;omega))
        · refine Sim.preR (fun r hr=>Ev.bind (Ev.all (pr_declares_ hu)) (Ev.pos hDu (Ev.unf ?_))) (ih n2 0 0 L hlv (fun _=>by omega) (fun _=>hLs (ab rfl).2) (fun _ _ _ _ _=>by omega))
          simp only [pr_fields.j1];exact Ev.neg (by simpa using D) hr
      · refine Sim.preR (fun r hr=>Ev.bind (Ev.all (pr_declares_ hu)) (Ev.neg hDu (Ev.unf ?_))) (ih n2 0 0 L hlv (fun _=>by omega) (fun _=>hLs (ab rfl).2) (fun _ y hy _ ag=>by rw [hu] at hy;cases hy;exact absurd ag hDu))
        simp only [pr_fields.j1];exact Ev.neg (by simp) hr
    · obtain ⟨z,p,hF⟩:=ps_decl_no (d:=d) hT ht (by simpa using hDt)
      exact Sim.seqF (hD n d 0 0 hd (fun _=>hM)) hF fun v n1 e1 E C q=>hbadL v n1 e1 E C q
theorem fields_sim {M:Nat} (hT:Toks T) (hd:d≤8) (hD:HD T M) (h:e=0→M≤n):Sim Q0 T n n d e a (fun k=>ps_fields k (kS T n d)) (fun k=>pr_fields k (rF T n d e a)):=by
 refine Sim.unf ?_;simp only [ps_fields,pr_fields];refine Sim.want hT _ fun n1 e1 q _ C=>?_
 refine Sim.unfS ?_;simp only [ps_fields.l1];exact Sim.preS (fun _ _ r hr=>Ev.pos (by simp) hr) (fields_l hT hd hD T.length n1 e1 q [] (by simp) (fun _=>by omega) (fun _=>smL_nil) (fun _ _ _ _ _=>by simp))
end Go.Proofs.YtnhifhlbelogcaaDoor
