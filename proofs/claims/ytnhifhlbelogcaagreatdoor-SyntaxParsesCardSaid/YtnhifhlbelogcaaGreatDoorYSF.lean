/- Both parsers: bare types agree. -/
import Derived.Test.YtnhifhlbelogcaaGreatDoorYSE
set_option linter.unusedVariables false
set_option linter.unusedSimpArgs false
namespace Go.Proofs.YtnhifhlbelogcaaGreatDoor
open Go Go.Eng
variable {T:List Token} {n d:Nat} {t:Token}
theorem pr_bare_w (hn:T[n]? = some t) (hT:T.length≤16001) (h2:t.Kind=2) (hu:¬ t.Text=[117,110,115,105,103,110,101,100]) (hb:bareK t.Text≠0) (k:Nat):pr_bare k (rS T n d)=some (⟨bareK t.Text,[],0,t.At,[]⟩,rS T (n+1) d):=by
 have q:=(List.getElem?_eq_some_iff.1 hn).1;have hbg:begins t=true:=by unfold begins;rw [if_neg (by omega),if_pos h2,if_neg hu];simp [hb]
 unfold pr_bare;rw [idx_some hn,Option.bind_some,pr_begins_ (e:=0) (a:=0) hn,Option.bind_some,if_pos rfl,hbg];unfold pr_bare.j1;rw [if_neg (show ¬ (!true)=true by decide),if_neg (by omega),pr_base_,Option.bind_some,if_neg hu,show (rS T n d).at_=(n:Int) from rfl,w64_succ (by omega)]
theorem bare_word (hT:Toks T) (hn:T[n]? = some t) (h2:t.Kind=2) (hu:¬ t.Text=[117,110,115,105,103,110,101,100]) (hb:bareK t.Text≠0):Ev (fun k=>ps_bare k (kS T n d)) (none,⟨bareK t.Text,[],0,t.At,[]⟩,kS T (n+1) d):=by
 have hw:=isW_eq h2;unfold ps_bare;refine Ev.bind (Ev.all (ps_token_ hn)) (Ev.neg (by omega) ?_);refine Ev.bind (may_no hT hn (by decide) (by rw [hw];simpa using hu)) (Ev.neg Bool.false_ne_true ?_);by_cases q:t.Text=[105,110,116]
 · exact Ev.bind (may_yes hT hn (by decide) (by rw [hw,q];rfl)) (Ev.pos rfl (Ev.cast Ev.ret (by rw [q];rfl)))
 refine Ev.bind (may_no hT hn (by decide) (by rw [hw];simpa using q)) (Ev.neg Bool.false_ne_true ?_);by_cases C:t.Text=[104,121,112,101,114]
 · exact Ev.bind (may_yes hT hn (by decide) (by rw [hw,C];rfl)) (Ev.pos rfl (Ev.cast Ev.ret (by rw [C];rfl)))
 refine Ev.bind (may_no hT hn (by decide) (by rw [hw];simpa using C)) (Ev.neg Bool.false_ne_true ?_);by_cases D:t.Text=[102,108,111,97,116]
 · exact Ev.bind (may_yes hT hn (by decide) (by rw [hw,D];rfl)) (Ev.pos rfl (Ev.cast Ev.ret (by rw [D];rfl)))
 refine Ev.bind (may_no hT hn (by decide) (by rw [hw];simpa using D)) (Ev.neg Bool.false_ne_true ?_);by_cases E:t.Text=[100,111,117,98,108,101]
 · exact Ev.bind (may_yes hT hn (by decide) (by rw [hw,E];rfl)) (Ev.pos rfl (Ev.cast Ev.ret (by rw [E];rfl)))
 refine Ev.bind (may_no hT hn (by decide) (by rw [hw];simpa using E)) (Ev.neg Bool.false_ne_true ?_);by_cases J:t.Text=[98,111,111,108]
 · exact Ev.bind (may_yes hT hn (by decide) (by rw [hw,J];rfl)) (Ev.pos rfl (Ev.cast Ev.ret (by rw [J];rfl)))
 · exact absurd (by unfold bareK;simp [q,C,D,E,J]) hb
theorem bare_agree (hT:Toks T) (hn:T[n]? = some t):Agree T n d (fun k=>ps_bare k (kS T n d)) (fun k=>pr_bare k (rS T n d)):=by
 have hl:=hT.1;have E:=(List.getElem?_eq_some_iff.1 hn).1;by_cases hk:t.Kind=1
 · refine .inl ⟨⟨27,t.Text,0,t.At,[]⟩,n+1,Nat.lt_succ_self _,hT.next hn (by omega),Ev.all fun k=>?_,Ev.all fun k=>?_,rfl⟩
   · unfold ps_bare;rw [ps_token_ hn,Option.bind_some,if_pos hk,ps_name_t hn hl hk];rfl
   · have hbg:begins t=true:=by unfold begins;rw [if_pos hk]
     unfold pr_bare;rw [idx_some hn,Option.bind_some,pr_begins_ (e:=0) (a:=0) hn,Option.bind_some,if_pos rfl,hbg];unfold pr_bare.j1;rw [if_neg (show ¬ (!true)=true by decide),if_pos hk,show (rS T n d).at_=(n:Int) from rfl,w64_succ (by omega)]
 by_cases h2:t.Kind=2
 · have hw:=isW_eq h2
   by_cases hu:t.Text=[117,110,115,105,103,110,101,100]
   · have hx:=hT.next hn (by omega)
     have q:T[n+1]? = some T[n+1]:=List.getElem?_eq_getElem hx;have hbg:begins t=true:=by unfold begins;rw [if_neg hk,if_pos h2,if_pos hu]
     have hr:∀ k,pr_bare k (rS T n d)=Option.bind (pr_may k (rS T (n+1) d) [105,110,116]) fun C=>if C.1=true then some (⟨19,[],0,t.At,[]⟩,C.2) else Option.bind (pr_want k C.2 [104,121,112,101,114]) fun D=>some (⟨21,[],0,t.At,[]⟩,D):=fun k=>by
      unfold pr_bare;rw [idx_some hn,Option.bind_some,pr_begins_ (e:=0) (a:=0) hn,Option.bind_some,if_pos rfl,hbg];unfold pr_bare.j1;rw [if_neg (show ¬ (!true)=true by decide),if_neg hk,pr_base_,Option.bind_some,if_pos hu,show (rS T n d).at_=(n:Int) from rfl,w64_succ (by omega)]
     have wi:=hT.w1 q (s:=[105,110,116]) (by decide);have wh:=hT.w1 q (s:=[104,121,112,101,114]) (by decide);by_cases hh:isW T[n+1] [104,121,112,101,114]=true
     · have hni:isW T[n+1] [105,110,116]=false:=by
        unfold isW at hh ⊢;simp only [Bool.and_eq_true,decide_eq_true_eq,beq_iff_eq] at hh
        simp [hh.2]
       refine .inl ⟨⟨21,[],0,t.At,[]⟩,n+2,by omega,hT.next q (by unfold isW at hh;simp at hh;omega),?_,Ev.all fun k=>?_,rfl⟩
       · unfold ps_bare
         exact Ev.bind (Ev.all (ps_token_ hn)) (Ev.neg hk (Ev.bind (may_yes hT hn (by decide) (by rw [hw,hu];rfl)) (Ev.pos rfl (Ev.bind (may_yes hT q (by decide) hh) (Ev.pos rfl Ev.ret)))))
       · rw [hr,pr_may_ q hl,wi,hni,Option.bind_some,if_neg Bool.false_ne_true]
         show Option.bind (pr_want k (rS T (n+1) d) _) _=_
         rw [pr_want_ q hl,wh,if_pos hh]
         rfl
     · have hh':isW T[n+1] [104,121,112,101,114]=false:=by simpa using hh
       by_cases hi:isW T[n+1] [105,110,116]=true
       · refine .inl ⟨⟨19,[],0,t.At,[]⟩,n+2,by omega,hT.next q (by unfold isW at hi;simp at hi;omega),?_,Ev.all fun k=>?_,rfl⟩
         · unfold ps_bare
           exact Ev.bind (Ev.all (ps_token_ hn)) (Ev.neg hk (Ev.bind (may_yes hT hn (by decide) (by rw [hw,hu];rfl)) (Ev.pos rfl (Ev.bind (may_no hT q (by decide) hh') (Ev.neg Bool.false_ne_true (Ev.bind (ps_want_t q hl (by rw [wi];exact hi)) (Ev.neg (by simp) Ev.ret)))))))
         · rw [hr,pr_may_ q hl,wi,hi,Option.bind_some,if_pos rfl]
           rfl
       · have hi':isW T[n+1] [105,110,116]=false:=by simpa using hi
         refine .inr ⟨40,T[n+1].At,⟨0,[],0,0,[]⟩,kS T (n+1) d,⟨21,[],0,t.At,[]⟩,n+1,by decide,hx,?_,Ev.all fun k=>?_⟩
         · unfold ps_bare
           exact Ev.bind (Ev.all (ps_token_ hn)) (Ev.neg hk (Ev.bind (may_yes hT hn (by decide) (by rw [hw,hu];rfl)) (Ev.pos rfl (Ev.bind (may_no hT q (by decide) hh') (Ev.neg Bool.false_ne_true (Ev.bind (ps_want_f q (by rw [wi,hi'];decide)) (Ev.pos rfl Ev.ret)))))))
         · rw [hr,pr_may_ q hl,wi,hi',Option.bind_some,if_neg Bool.false_ne_true]
           show Option.bind (pr_want k (rS T (n+1) d) _) _=_
           rw [pr_want_ q hl,wh,if_neg hh]
           rfl
   · by_cases hb:bareK t.Text=0
     · have hbg:begins t=false:=by unfold begins;rw [if_neg hk,if_pos h2,if_neg hu];simp [hb]
       refine .inr ⟨40,t.At,_,_,_,n,by decide,E,ps_bare_no hT hn hk ?_,Ev.all (pr_bare_no hn hbg)⟩;intro s hs;rw [hw];by_cases e:t.Text=s
       · exfalso
         subst e;simp only [List.mem_cons,List.not_mem_nil,or_false] at hs;rcases hs with h | h | h | h | h | h
         · exact hu h
         all_goals (rw [h] at hb;exact absurd hb (by decide))
       · simpa using e
     · exact .inl ⟨_,n+1,Nat.lt_succ_self _,hT.next hn (by omega),bare_word hT hn h2 hu hb,Ev.all (pr_bare_w hn hl h2 hu hb),rfl⟩
 · have hbg:begins t=false:=by unfold begins;rw [if_neg hk,if_neg h2]
   exact .inr ⟨40,t.At,_,_,_,n,by decide,E,ps_bare_no hT hn hk (fun s _=>isW_no h2 s),Ev.all (pr_bare_no hn hbg)⟩
end Go.Proofs.YtnhifhlbelogcaaGreatDoor
