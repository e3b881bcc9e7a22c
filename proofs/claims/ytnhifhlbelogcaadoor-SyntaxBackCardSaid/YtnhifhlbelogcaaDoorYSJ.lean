/- Both parsers: what is behind a name; what begins. -/
import Derived.Test.YtnhifhlbelogcaaDoorYSI
set_option linter.unusedVariables false
set_option linter.unusedSimpArgs false
namespace Go.Proofs.YtnhifhlbelogcaaDoor
open Go Go.Eng
variable {T:List Token} {n0 n d:Nat} {e a:Int} {t:Token}
theorem fixed_sim (hT:Toks T) (s:List UInt8) (x:Int) (o:Tree) (ho:Sm o) (q:Int) (b:Bool) (ht:T[n]? = some t) (h:(isK t && (t.Text == [91]))=true) :
 Sim Q0 T n n d 0 0 (fun k=>ps_fixed k (kS T n d) ⟨14,s,0,x,[]⟩ o) (fun k=>pr_sized.j1 k o q (s,x,rF T n d 0 0) b true):=by
 have O:=hT.next ht (isK_ne5 h);have hTl:=hT.1;unfold ps_fixed pr_sized.j1;refine Sim.pre (gs:=fun k=>Option.bind (ps_value k (kS T (n+1) d)) fun C=>if C.1.isSome=true then some (C.1,(⟨0,[],0,0,[]⟩:Tree),C.2.2) else ps_fixed.j1 k ⟨14,s,0,x,[]⟩ C.2.2 [o,C.2.1])
  (gr:=fun k=>Option.bind (pr_value k (rF T (n+1) d 0 0)) fun D=>Option.bind (cat [o] [D.1]) fun E=>pr_sized.j2 k (s,x,rF T n d 0 0) D.2 E)
  (fun _ _ r hr=>Ev.bind (ps_want_t ht hT.1 h) (Ev.neg (by simp) hr)) (fun r hr=>Ev.pos rfl ?_) (Sim.fwd O ?_)
 · rw [show w64 ((n:Int)+1)=((n+1:Nat):Int) from w64_succ (by omega)]
   exact hr
 · refine Sim.seq (value_sim hT) fun v n2 X Y aa J=>?_
   refine Sim.preR (fun r hr=>Ev.bindc (cat_at (by simp)) hr) ?_;unfold ps_fixed.j1 pr_sized.j2;exact Sim.want hT _ fun ab ad ae _ V=>Sim.ret (fun _=>by omega) fun h=>.two ho (J (V h).2)
theorem listed_sim (hT:Toks T) (s:List UInt8) (x:Int) (o:Tree) (ho:Sm o) (q:Int) (ht:T[n]? = some t) (h:(isK t && (t.Text == [60]))=true) :
 Sim Q0 T n n d 0 0 (fun k=>ps_listed k (kS T n d) ⟨14,s,0,x,[]⟩ o) (fun k=>pr_sized.j1 k o q (s,x,rF T n d 0 0) true false):=by
 have Y:=hT.next ht (isK_ne5 h);have hTl:=hT.1;unfold ps_listed pr_sized.j1;refine Sim.pre (gs:=fun k=>ps_listed.j1 k ⟨14,s,0,x,[]⟩ (none,t.At,kS T (n+1) d) [o])
  (gr:=fun k=>Option.bind (pr_is k (rF T (n+1) d 0 0) ([62]:List UInt8)) fun D=>(if D=true then (Option.bind (pr_want k (rF T (n+1) d 0 0) ([62]:List UInt8)) fun E=>(some ((⟨16,s,0,x,([o]:List Tree)⟩:Tree),E))) else (Option.bind (pr_value k (rF T (n+1) d 0 0)) fun C=>(Option.bind (cat ([o]:List Tree) ([C.1]:List Tree)) fun J=>(Option.bind (pr_want k C.2 ([62]:List UInt8)) fun O=>(some ((⟨16,s,0,x,J⟩:Tree),O)))))))
  (fun _ _ r hr=>Ev.bind (ps_want_t ht hT.1 h) (Ev.neg (by simp) hr)) (fun r hr=>Ev.neg (by simp) (Ev.pos rfl ?_)) (Sim.fwd Y ?_)
 · rw [show w64 ((n:Int)+1)=((n+1:Nat):Int) from w64_succ (by omega)]
   exact hr
 · unfold ps_listed.j1
   refine Sim.is hT _ (fun _ _ _=>?_) (fun _=>?_)
   · exact Sim.want hT _ fun aa ab ad _ V=>Sim.ret (fun _=>by omega) fun h=>.one ho
   · refine Sim.seq (value_sim hT) fun v n2 ae af ag X=>?_
     refine Sim.cat2 (by simp) ?_;exact Sim.want hT _ fun aa ab ad _ V=>Sim.ret (fun _=>by omega) fun h=>.two ho (X (V h).2)
theorem listed_no (hT:Toks T) (s:List UInt8) (x:Int) (o:Tree) {q:Int} (hq:0 < q) (ht:T[n]? = some t) (h:¬ (isK t && (t.Text == [60]))=true) :
 Sim Q0 T n n d 0 0 (fun k=>ps_listed k (kS T n d) ⟨14,s,0,x,[]⟩ o) (fun k=>pr_sized.j1 k o q (s,x,rF T n d 0 0) false false):=by
 have hn:=(List.getElem?_eq_some_iff.1 ht).1;unfold ps_listed pr_sized.j1;exact Sim.fault (e':=40) (a':=t.At) (by decide) hn (Ev.bind (ps_want_f ht h) (Ev.pos rfl Ev.ret)) (Ev.neg (by simp) (Ev.neg (by simp) (Ev.pos hq (Ev.bind (Ev.all (pr_fail_ ht 40)) Ev.ret))))
abbrev szR (o:Tree) (q:Int) (s:List UInt8) (x:Int) (st:ParR) (k:Nat):Option (Tree×ParR):=Option.bind (pr_is k st ([91]:List UInt8)) fun D=>Option.bind (pr_is k st ([60]:List UInt8)) fun C=>if D=true then pr_sized.j1 k o q (s,x,st) C (decide (q < 2)) else pr_sized.j1 k o q (s,x,st) C false
theorem szR_bad (o:Tree) (q:Int) (s:List UInt8) (x:Int) (ht:T[n]? = some t) (he:e≠0):Ev (szR o q s x (rF T n d e a)) (⟨14,s,0,x,[o]⟩,rF T n d e a):=by
 refine Ev.bind (Ev.all (pr_is_F ht he _)) (Ev.bind (Ev.all (pr_is_F ht he _)) (Ev.neg (by decide) ?_));unfold pr_sized.j1;refine Ev.neg (by decide) (Ev.neg (by decide) ?_);by_cases hq:0 < q
 · exact Ev.pos hq (Ev.bind (Ev.all (pr_fail_F he 40)) Ev.ret)
 · exact Ev.neg hq Ev.ret
theorem sized_bad (o:Tree) (q:Int) (ht:T[n]? = some t) (he:e≠0):Ev (fun k=>pr_sized k (rF T n d e a) o q) (⟨14,[],0,0,[o]⟩,rF T n d e a):=by
 unfold pr_sized;exact Ev.bind (Ev.all (pr_name_F ht he)) (szR_bad o q [] 0 ht he)
theorem sign_ne {u:Token} {s s':List UInt8} (hne:s≠s') (h:(isK u && (u.Text == s))=true):(isK u && (u.Text == s'))=false:=by
 simp only [Bool.and_eq_true,beq_iff_eq] at h;rw [h.2]
 simp [hne]
theorem Sim.tail {α:Type} [Sml α] {F:Nat→Option (Option Value×α×ParK)} {fr:Nat→Option (α×ParR)} {z:(Option Value×α×ParK)→α} {p:(Option Value×α×ParK)→ParK} (h:Sim Q0 T n n d e a F fr) (C:e=0→n0≤n) :
 Sim Q0 T n0 n d e a (fun k=>Option.bind (F k) fun t=>if t.1.isSome=true then some (t.1,z t,p t) else some (none,t.2.1,t.2.2)) fr:=by
 refine Sim.preR (gr:=fun k=>Option.bind (fr k) fun t=>some t) (fun r hr=>Ev.fn hr (fun k=>?_)) (Sim.seq h fun v n2 D E J q=>Sim.ret (fun _=>by omega) q);cases hh:fr k <;> rfl
theorem sized_go (hT:Toks T) {q:Int} {s:List UInt8} {x:Int} {o:Tree} {C b2:Bool} {fs:Nat→Option (Option Value×Tree×ParK)} (hu:T[n]? = some t)
 (D:(isK t && (t.Text == [91]))=C) (E:(isK t && (t.Text == [60]))=b2)
 (h:Sim Q0 T n0 n d 0 0 fs (fun k=>pr_sized.j1 k o q (s,x,rF T n d 0 0) b2 (C && decide (q < 2)))):Sim Q0 T n0 n d 0 0 fs (fun k=>szR o q s x (rF T n d 0 0) k):=by
 refine Sim.preR (fun r hr=>Ev.bind (Ev.all fun k=>(pr_is_ hu _ k).trans (by rw [D])) (Ev.bind (Ev.all fun k=>(pr_is_ hu _ k).trans (by rw [E])) ?_)) h;cases C
 · exact Ev.neg (by decide) hr
 · exact Ev.pos rfl (Ev.fn hr fun k=>by rw [Bool.true_and])
theorem sized1_sim (hT:Toks T) (s:List UInt8) (x:Int) (o:Tree) (ho:Sm o) (J:e=0→n0≤n) :
 Sim Q0 T n0 n d e a (fun k=>Option.bind (ps_is k (kS T n d) ([([91]:List UInt8)]:List (List UInt8))) fun O=>(if O=true then (Option.bind (ps_fixed k (kS T n d) ⟨14,s,0,x,[]⟩ o) fun C=>(if (C.1).isSome=true then (some (C.1,(⟨0,([]:List UInt8),0,0,[]⟩:Tree),C.2.2)) else (some (none,C.2.1,C.2.2)))) else (Option.bind (ps_listed k (kS T n d) ⟨14,s,0,x,[]⟩ o) fun D=>(if (D.1).isSome=true then (some (D.1,(⟨0,([]:List UInt8),0,0,[]⟩:Tree),D.2.2)) else (some (none,D.2.1,D.2.2))))))
  (fun k=>szR o 1 s x (rF T n d e a) k):=by
 refine Sim.cases (fun he ha u hu hn=>?_) (fun he u hu hn=>⟨_,szR_bad o 1 s x hu he⟩);subst he ha;cases q:(isK u && (u.Text == [91]))
 · refine Sim.preS (fun _ _ r hr=>Ev.bind (ps_is1 hu _) (Ev.neg (by rw [q];decide) hr)) ?_
   cases E:(isK u && (u.Text == [60]))
   · exact sized_go hT hu q E (Sim.tail (listed_no hT s x o (by decide) hu (by rw [E];decide)) J)
   · exact sized_go hT hu q E (Sim.tail (listed_sim hT s x o ho 1 hu E) J)
 · refine Sim.preS (fun _ _ r hr=>Ev.bind (ps_is1 hu _) (Ev.pos q hr)) ?_
   exact sized_go hT hu q (sign_ne (by decide) q) (Sim.tail (fixed_sim hT s x o ho 1 _ hu q) J)
theorem sized2_sim (hT:Toks T) (s:List UInt8) (x:Int) (o:Tree) (ho:Sm o) (E:e=0→n0≤n) :
 Sim Q0 T n0 n d e a (fun k=>Option.bind (ps_listed k (kS T n d) ⟨14,s,0,x,[]⟩ o) fun C=>(if (C.1).isSome=true then (some (C.1,(⟨0,([]:List UInt8),0,0,[]⟩:Tree),C.2.2)) else (some (none,C.2.1,C.2.2))))
  (fun k=>szR o 2 s x (rF T n d e a) k):=by
 refine Sim.cases (fun he ha u hu hn=>?_) (fun he u hu hn=>⟨_,szR_bad o 2 s x hu he⟩);subst he ha;cases D:(isK u && (u.Text == [91]))
 · cases q:(isK u && (u.Text == [60]))
   · exact sized_go hT hu D q (Sim.tail (listed_no hT s x o (by decide) hu (by rw [q];decide)) E)
   · exact sized_go hT hu D q (Sim.tail (listed_sim hT s x o ho 2 hu q) E)
 · have q:=sign_ne (s':=[60]) (by decide) D
   exact sized_go hT hu D q (Sim.tail (listed_no hT s x o (by decide) hu (by rw [q];decide)) E)
theorem sized0_sim (hT:Toks T) (s:List UInt8) (x:Int) (o:Tree) (ho:e=0→Sm o) (X:e=0→n0 < n) :
 Sim Q0 T n0 n d e a (fun k=>Option.bind (ps_is k (kS T n d) ([([91]:List UInt8)]:List (List UInt8))) fun O=>(if O=true then (Option.bind (ps_fixed k (kS T n d) ⟨14,s,0,x,[]⟩ o) fun C=>(if (C.1).isSome=true then (some (C.1,(⟨0,([]:List UInt8),0,0,[]⟩:Tree),C.2.2)) else (some (none,C.2.1,C.2.2)))) else (Option.bind (ps_is k (kS T n d) ([([60]:List UInt8)]:List (List UInt8))) fun J=>(if J=true then (Option.bind (ps_listed k (kS T n d) ⟨14,s,0,x,[]⟩ o) fun D=>(if (D.1).isSome=true then (some (D.1,(⟨0,([]:List UInt8),0,0,[]⟩:Tree),D.2.2)) else (some (none,D.2.1,D.2.2)))) else (some (none,(⟨14,s,0,x,[o]⟩:Tree),kS T n d))))))
  (fun k=>szR o 0 s x (rF T n d e a) k):=by
 refine Sim.cases (fun he ha u hu hn=>?_) (fun he u hu hn=>⟨_,szR_bad o 0 s x hu he⟩);subst he ha;have V:=X rfl;cases q:(isK u && (u.Text == [91]))
 · refine Sim.preS (fun _ _ r hr=>Ev.bind (ps_is1 hu _) (Ev.neg (by rw [q];decide) hr)) ?_
   cases E:(isK u && (u.Text == [60]))
   · refine sized_go hT hu q E (Sim.pre (fun _ _ r hr=>Ev.bind (ps_is1 hu _) (Ev.neg (by rw [E];decide) hr)) (fun r hr=>?_) (Sim.ret (fun _=>V) fun _=>.one (ho rfl)))
     unfold pr_sized.j1;exact Ev.neg (by decide) (Ev.neg (by decide) (Ev.neg (by decide) hr))
   · refine sized_go hT hu q E (Sim.preS (fun _ _ r hr=>Ev.bind (ps_is1 hu _) (Ev.pos E hr)) (Sim.tail (listed_sim hT s x o (ho rfl) 0 hu E) (fun _=>by omega)))
 · refine Sim.preS (fun _ _ r hr=>Ev.bind (ps_is1 hu _) (Ev.pos q hr)) ?_
   exact sized_go hT hu q (sign_ne (by decide) q) (Sim.tail (fixed_sim hT s x o (ho rfl) 0 _ hu q) (fun _=>by omega))
def declT (t:Token):Bool:=decide (bodied t≠0) || begins t || (decide (t.Kind=2) && decide (t.Text∈([[118,111,105,100],[111,112,97,113,117,101],[115,116,114,105,110,103]]:List (List UInt8))))
theorem pr_declares_ (ht:T[n]? = some t) (k:Nat):pr_declares k (rF T n d e a)=some (declT t):=by
 unfold pr_declares declT;rw [idx_some ht,Option.bind_some,pr_bodied_ ht,Option.bind_some,pr_begins_ ht,Option.bind_some];by_cases hb:bodied t=0
 · rw [if_pos hb]
   by_cases hg:begins t=true
   · rw [if_pos hg];simp [hg]
   · rw [if_neg hg]
     by_cases q:t.Kind=2
     · rw [if_pos q]
       by_cases C:t.Text=[118,111,105,100]
       · rw [if_pos C];simp [q,C]
       · rw [if_neg C]
         by_cases D:t.Text=[111,112,97,113,117,101]
         · rw [if_pos D];simp [q,D]
         · rw [if_neg D]
           have hg':begins t=false:=by simpa using hg
           simp [q,C,D,hb,hg']
     · rw [if_neg q]
       have hg':begins t=false:=by simpa using hg
       simp [q,hb,hg']
 · rw [if_neg hb];simp [hb]
end Go.Proofs.YtnhifhlbelogcaaDoor
