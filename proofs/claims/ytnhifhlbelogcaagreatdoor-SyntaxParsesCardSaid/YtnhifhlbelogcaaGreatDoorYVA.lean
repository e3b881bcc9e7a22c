/- How many nodes a parsed tree has: at most two for each token. -/
import Derived.Test.YtnhifhlbelogcaaGreatDoorYAR
set_option linter.unusedVariables false
set_option linter.unusedSimpArgs false
set_option maxHeartbeats 2000000
namespace Go.Proofs.YtnhifhlbelogcaaGreatDoor
open Go Go.Eng
section
variable {T U:List Token} {K n:Nat} {d:Int} {α β σ:Type} {t:Token}
section
end
structure Two (T U:List Token) (K:Nat):Prop where
 len:T.length≤16001
 eq:∀ i,i≤K→T[i]? = U[i]?
theorem idx_get (h:idx T (n:Int)=some t):T[n]? = some t:=by
 unfold idx at h;rw [if_pos (by omega)] at h
 simpa using h
section
set_option linter.unusedSectionVars false
variable (h2:Two T U K) (k:Nat)
include h2
theorem token_rd:∀ x,ps_token k (⟨T,(n:Nat),d⟩:ParK)=some x→T[n]? = some x∧n < T.length∧(n≤K→ps_token k (⟨U,(n:Nat),d⟩:ParK)=some x):=fun x h=>by
 unfold ps_token at h ⊢;obtain ⟨y,q,hy⟩:=Option.bind_eq_some_iff.1 h;cases hy;have hg:=idx_get q;refine ⟨hg,(List.getElem?_eq_some_iff.1 hg).1,fun hk=>?_⟩;rw [idx_some (by rw [← h2.eq n hk];exact hg)]
 rfl
abbrev NE (T:List Token) (n:Nat) (b:Bool):Prop:=b=true→∀ t,T[n]? = some t→t.Kind≠5
theorem is_rd (L:List (List UInt8)):∀ x,ps_is k (⟨T,(n:Nat),d⟩:ParK) L=some x→NE T n x∧n < T.length∧(n≤K→ps_is k (⟨U,(n:Nat),d⟩:ParK) L=some x):=fun x h=>by
 unfold ps_is at h ⊢;obtain ⟨t,ht,hx⟩:=Option.bind_eq_some_iff.1 h;obtain ⟨q,C,D⟩:=token_rd h2 k t ht;refine ⟨fun hb u hu E=>?_,C,fun hk=>by rw [D hk,Option.bind_some];exact hx⟩;rw [q] at hu;cases hu;rw [if_neg (by omega),if_neg (by omega)] at hx;cases hx;cases hb
theorem w64_up (hn:n < T.length):w64 ((n:Int)+1)=((n+1:Nat):Int):=w64_succ (by have:=h2.len;omega)
end
end
section
variable {T:List Token} {n:Nat} {d z:Int} {α β σ:Type}
theorem cntL_append:∀ l m:List Tree,cntL (l++m)=cntL l+cntL m
 | [],m=>by rw [List.nil_append,cntL,Nat.zero_add]
 | t::l,m=>by rw [List.cons_append,cntL,cntL,cntL_append l m,Nat.add_assoc]
class HasCnt (α:Type) where
 cnt:α→Nat
instance:HasCnt Tree:=⟨cntT⟩
instance:HasCnt (List Tree):=⟨cntL⟩
instance:HasCnt Int:=⟨fun _=>0⟩
instance:HasCnt Token:=⟨fun _=>0⟩
def LC [HasCnt α] (T:List Token) (z:Int) (n:Nat) (A:Option (Option Value×α×ParK)):Prop :=
 ∀ v p,A=some (none,v,p)→∃ (n':Nat) (d':Int),p=⟨T,(n':Int),d'⟩∧n≤n'∧(HasCnt.cnt v:Int)+z≤2 * (n':Int)
def LB (T:List Token) (z:Int) (n:Nat) (A:Option (Option Value×Int×List Tree×ParK)):Prop :=
 ∀ i v p,A=some (none,i,v,p)→∃ (n':Nat) (d':Int),p=⟨T,(n':Int),d'⟩∧n≤n'∧(cntL v:Int)+z≤2 * (n':Int)
section
variable [HasCnt α] [HasCnt β]
theorem LC.nil:LC (α:=α) T z n none:=fun v p h=>nomatch h
theorem LC.ret {v:α} (h:(HasCnt.cnt v:Int)+z≤2 * (n:Int)):LC T z n (some (none,v,(⟨T,(n:Int),d⟩:ParK))):=fun v' p hp=>by
 cases hp
 exact ⟨n,d,rfl,Nat.le_refl _,h⟩
theorem LC.ite {c:Prop} [Decidable c] {A B:Option (Option Value×α×ParK)} (q:c→LC T z n A) (C:¬ c→LC T z n B):LC T z n (if c then A else B):=by
 by_cases h:c
 · rw [if_pos h];exact q h
 · rw [if_neg h];exact C h
theorem LC.pure {γ:Type} {A:Option γ} {G:γ→Option (Option Value×α×ParK)} (hg:∀ x,A=some x→LC T z n (G x)):LC T z n (Option.bind A G):=by
 cases A with
 | none=>exact LC.nil
 | some x=>exact hg x rfl
theorem LC.chk {A:Option (Option Value)} {zz:Option Value→α} {pp:Option Value→ParK} {G:Option Value→Option (Option Value×α×ParK)} (hg:LC T z n (G none)):LC T z n (Option.bind A fun t=>if t.isSome=true then some (t,zz t,pp t) else G t):=by
 refine LC.pure fun x hx=>?_
 cases x with
 | none=>rw [if_neg (by simp)];exact hg
 | some f=>rw [if_pos (by simp)];exact fun v p h=>nomatch (congrArg Prod.fst (Option.some.inj h))
theorem LC.mono {n0:Nat} (h:n0≤n) {A:Option (Option Value×α×ParK)} (hA:LC T z n A):LC T z n0 A:=fun v p hp=>by
 obtain ⟨n',d',e,l,c⟩:=hA v p hp;exact ⟨n',d',e,by omega,c⟩
theorem LC.bind {z1:Int} {A:Option (Option Value×β×ParK)} {zz:(Option Value×β×ParK)→α} {pp:(Option Value×β×ParK)→ParK} {G:(Option Value×β×ParK)→Option (Option Value×α×ParK)} (h:LC T z1 n A)
 (hg:∀ v (n':Nat) (d':Int),n≤n'→(HasCnt.cnt v:Int)+z1≤2 * (n':Int)→LC T z n' (G (none,v,⟨T,(n':Int),d'⟩))):LC T z n (Option.bind A fun t=>if t.1.isSome=true then some (t.1,zz t,pp t) else G t):=by
 refine LC.pure fun x hx=>?_
 obtain ⟨f,v,p⟩:=x;cases f with
 | some f=>rw [if_pos (by simp)];exact fun v p h=>nomatch (congrArg Prod.fst (Option.some.inj h))
 | none =>
  rw [if_neg (by simp)];obtain ⟨n',d',rfl,l,c⟩:=h v p hx;exact LC.mono l (hg v n' d' l c)
theorem LC.bind4 {z1:Int} {A:Option (Option Value×Int×List Tree×ParK)} {zz:(Option Value×Int×List Tree×ParK)→α} {pp:(Option Value×Int×List Tree×ParK)→ParK} {G:(Option Value×Int×List Tree×ParK)→Option (Option Value×α×ParK)} (h:LB T z1 n A)
 (hg:∀ i v (n':Nat) (d':Int),n≤n'→(cntL v:Int)+z1≤2 * (n':Int)→LC T z n' (G (none,i,v,⟨T,(n':Int),d'⟩))):LC T z n (Option.bind A fun t=>if t.1.isSome=true then some (t.1,zz t,pp t) else G t):=by
 refine LC.pure fun x hx=>?_
 obtain ⟨f,i,v,p⟩:=x;cases f with
 | some f=>rw [if_pos (by simp)];exact fun v p h=>nomatch (congrArg Prod.fst (Option.some.inj h))
 | none =>
  rw [if_neg (by simp)];obtain ⟨n',d',rfl,l,c⟩:=h i v p hx;exact LC.mono l (hg i v n' d' l c)
end
theorem LB.ite {c:Prop} [Decidable c] {A B:Option (Option Value×Int×List Tree×ParK)} (q:c→LB T z n A) (C:¬ c→LB T z n B):LB T z n (if c then A else B):=by
 by_cases h:c
 · rw [if_pos h];exact q h
 · rw [if_neg h];exact C h
theorem LB.nil:LB T z n none:=fun _ v p h=>nomatch h
theorem LB.bind {z1:Int} {A:Option (Option Value×List Tree×ParK)} {i:Int} {g:Int→Int} {zz:(Option Value×List Tree×ParK)→Int×List Tree×ParK} (h:LC T z1 n A) (hz:z≤z1) :
 LB T z n (Option.bind A fun t=>if t.1.isSome=true then some (t.1,zz t) else some (none,i,t.2.1,(⟨t.2.2.tokens,t.2.2.next,g t.2.2.deep⟩:ParK))):=fun j v p hp=>by
 obtain ⟨x,hx,hG⟩:=Option.bind_eq_some_iff.1 hp;obtain ⟨f,v',p'⟩:=x;cases f with
 | some f=>rw [if_pos (by simp)] at hG;exact nomatch (congrArg Prod.fst (Option.some.inj hG))
 | none =>
  rw [if_neg (by simp)] at hG;obtain ⟨n',d',rfl,l,c⟩:=h v' p' hx;cases hG;have hc:(cntL v':Int)+z1≤2 * (n':Int):=c;exact ⟨n',_,rfl,l,by show (cntL v':Int)+z≤2 * (n':Int);omega⟩
section
variable (hl:T.length≤16001) (k:Nat)
include hl
theorem twoT:Two T T T.length:=⟨hl,fun _ _=>rfl⟩
theorem LC.want [HasCnt α] (s:List UInt8) {zz:(Option Value×Int×ParK)→α} {pp:(Option Value×Int×ParK)→ParK} {G:(Option Value×Int×ParK)→Option (Option Value×α×ParK)}
 (hg:∀ x (n':Nat) (d':Int),n+1≤n'→LC T z n' (G (none,x,⟨T,(n':Int),d'⟩))):LC T z n (Option.bind (ps_want k (⟨T,(n:Int),d⟩:ParK) s) fun t=>if t.1.isSome=true then some (t.1,zz t,pp t) else G t):=by
 refine LC.bind (z1:=2 * (n:Int)+2) (fun v p h=>?_) fun v n' d' C h2=>hg v n' d' (by have:(HasCnt.cnt v:Nat)=0:=rfl;omega)
 have hj:n < T.length→ps_want.j1 k (⟨T,(n:Int),d⟩:ParK)=some (none,v,p)→p=⟨T,((n+1:Nat):Int),d⟩:=fun hn h=>by
  unfold ps_want.j1 at h;obtain ⟨x,hx,h⟩:=Option.bind_eq_some_iff.1 h;cases h
  show (⟨T,w64 ((n:Int)+1),d⟩:ParK)=_
  rw [w64_up (twoT hl) hn]
 have hp:p=⟨T,((n+1:Nat):Int),d⟩:=by
  unfold ps_want at h;obtain ⟨b,hb,h⟩:=Option.bind_eq_some_iff.1 h;have hn:=(is_rd (twoT hl) k _ b hb).2.1;by_cases q:b=true
  · rw [if_pos q] at h;exact hj hn h
  · rw [if_neg q] at h
    obtain ⟨f,hf,h⟩:=Option.bind_eq_some_iff.1 h;cases f with
    | none=>rw [if_neg (by simp)] at h;exact hj hn h
    | some f=>rw [if_pos (by simp)] at h;exact nomatch (congrArg Prod.fst (Option.some.inj h))
 subst hp;exact ⟨n+1,d,rfl,by omega,by show ((0:Nat):Int)+_≤_;omega⟩
theorem LC.kind [HasCnt α] (q:Int) {zz:(Option Value×Token×ParK)→α} {pp:(Option Value×Token×ParK)→ParK} {G:(Option Value×Token×ParK)→Option (Option Value×α×ParK)}
 (hg:∀ x (n':Nat) (d':Int),n+1≤n'→LC T z n' (G (none,x,⟨T,(n':Int),d'⟩))):LC T z n (Option.bind (ps_kind k (⟨T,(n:Int),d⟩:ParK) q) fun t=>if t.1.isSome=true then some (t.1,zz t,pp t) else G t):=by
 refine LC.bind (z1:=2 * (n:Int)+2) (fun v p h=>?_) fun v n' d' D h2=>hg v n' d' (by have:(HasCnt.cnt v:Nat)=0:=rfl;omega)
 have hj:∀ t,n < T.length→ps_kind.j1 k (⟨T,(n:Int),d⟩:ParK) t=some (none,v,p)→p=⟨T,((n+1:Nat):Int),d⟩:=fun t hn h=>by
  unfold ps_kind.j1 at h;cases h
  show (⟨T,w64 ((n:Int)+1),d⟩:ParK)=_
  rw [w64_up (twoT hl) hn]
 have hp:p=⟨T,((n+1:Nat):Int),d⟩:=by
  unfold ps_kind at h;obtain ⟨t,ht,h⟩:=Option.bind_eq_some_iff.1 h;have hn:=(token_rd (twoT hl) k t ht).2.1;by_cases C:t.Kind=q
  · rw [if_pos C] at h;exact hj t hn h
  · rw [if_neg C] at h
    obtain ⟨f,hf,h⟩:=Option.bind_eq_some_iff.1 h;cases f with
    | none=>rw [if_neg (by simp)] at h;exact hj t hn h
    | some f=>rw [if_pos (by simp)] at h;exact nomatch (congrArg Prod.fst (Option.some.inj h))
 subst hp;exact ⟨n+1,d,rfl,by omega,by show ((0:Nat):Int)+_≤_;omega⟩
theorem LC.may [HasCnt α] (s:List UInt8) {A B:(Bool×ParK)→Option (Option Value×α×ParK)}
 (q:∀ (n':Nat) (d':Int),n+1≤n'→LC T z n' (A (true,⟨T,(n':Int),d'⟩))) (C:LC T z n (B (false,⟨T,(n:Int),d⟩))):LC T z n (Option.bind (ps_may k (⟨T,(n:Int),d⟩:ParK) s) fun t=>if t.1=true then A t else B t):=by
 refine LC.pure fun x hx=>?_
 unfold ps_may at hx;obtain ⟨b,hb,hx⟩:=Option.bind_eq_some_iff.1 hx;have hn:=(is_rd (twoT hl) k _ b hb).2.1;cases b with
 | true =>
  rw [if_pos (by simp)] at hx;cases hx;rw [if_pos (by simp)]
  show LC T z n (A (true,⟨T,w64 ((n:Int)+1),d⟩))
  rw [w64_up (twoT hl) hn];exact LC.mono (Nat.le_succ n) (q (n+1) d (Nat.le_refl _))
 | false =>
  rw [if_neg (by simp)] at hx;cases hx;rw [if_neg (by simp)];exact C
end
end
section
variable {T:List Token}
theorem cat_eq {α:Type} {n:Nat} {L M N:List α} (h:catN n L M=some N):N=L++M:=(cat_spec h).2
theorem LC.give {α:Type} [HasCnt α] {z:Int} {n k:Nat} {s:ParK} {e:Int} {zz:Option Value→α} {pp:Option Value→ParK} {G:Option Value→Option (Option Value×α×ParK)}:LC T z n (Option.bind (ps_give k s e) fun t=>if t.isSome=true then some (t,zz t,pp t) else G t):=by
 refine LC.pure fun x hx=>?_
 unfold ps_give at hx;obtain ⟨t,_,hx⟩:=Option.bind_eq_some_iff.1 hx;cases hx;rw [if_pos (by simp)];exact fun v p h=>nomatch (congrArg Prod.fst (Option.some.inj h))
theorem LC.weak {α:Type} [HasCnt α] {z z1:Int} {n:Nat} {A:Option (Option Value×α×ParK)} (h:LC T z1 n A) (hz:z≤z1):LC T z n A:=fun v p hp=>by
 obtain ⟨n',d',e,l,c⟩:=h v p hp;exact ⟨n',d',e,l,by omega⟩
theorem LC.up1 {α:Type} [HasCnt α] (hl:T.length≤16001) {n:Nat} {d:Int} (hn:n < T.length) {F:ParK→Option (Option Value×α×ParK)} (h:∀ (n:Nat) (d:Int),LC T (2 * (n:Int)) n (F ⟨T,(n:Int),d⟩)):LC T (2 * (n:Int)+2) n (F ⟨T,w64 ((n:Int)+1),d⟩):=by
 rw [w64_up (twoT hl) hn];exact LC.mono (Nat.le_succ n) (LC.weak (h _ _) (by omega))
theorem LB.up1 (hl:T.length≤16001) {n:Nat} {d:Int} (hn:n < T.length) {F:ParK→Option (Option Value×Int×List Tree×ParK)} (h:∀ (n:Nat) (d:Int),LB T (2 * (n:Int)) n (F ⟨T,(n:Int),d⟩)):LB T (2 * (n:Int)+2) n (F ⟨T,w64 ((n:Int)+1),d⟩):=by
 rw [w64_up (twoT hl) hn];intro i v p hp;obtain ⟨n',d',e,l,c⟩:=h _ _ i v p hp;exact ⟨n',d',e,by omega,by omega⟩
theorem name_lc (hl:T.length≤16001) (k:Nat):∀ (n:Nat) (d:Int) (q:Int),LC T (2 * (n:Int)) n (ps_name k (⟨T,(n:Int),d⟩:ParK) q):=by
 intros
 unfold ps_name
 repeat' first | (refine LC.ret (by first | omega | (simp only [HasCnt.cnt,cntT,cntT_eq,cntL,cntL_append] at *;omega))) | refine LC.kind hl _ _ (fun _ _ _ _=>?_) | refine LC.chk ?_ | refine LC.ite (fun _=>?_) (fun _=>?_) | (refine LC.pure (fun _ hx=>?_);obtain rfl:=cat_eq hx) | refine LC.pure (fun _ _=>?_)
theorem number_lc (hl:T.length≤16001) (k:Nat):∀ (n:Nat) (d:Int),LC T (2 * (n:Int)) n (ps_number k (⟨T,(n:Int),d⟩:ParK)):=by
 intros
 unfold ps_number
 repeat' first | (refine LC.ret (by first | omega | (simp only [HasCnt.cnt,cntT,cntT_eq,cntL,cntL_append] at *;omega))) | refine LC.kind hl _ _ (fun _ _ _ _=>?_) | refine LC.chk ?_ | refine LC.ite (fun _=>?_) (fun _=>?_) | (refine LC.pure (fun _ hx=>?_);obtain rfl:=cat_eq hx) | refine LC.pure (fun _ _=>?_)
theorem wordNumber_lc (hl:T.length≤16001) (k:Nat):∀ (n:Nat) (d:Int),LC T (2 * (n:Int)) n (ps_wordNumber k (⟨T,(n:Int),d⟩:ParK)):=by
 intros
 unfold ps_wordNumber
 repeat' first | (refine LC.ret (by first | omega | (simp only [HasCnt.cnt,cntT,cntT_eq,cntL,cntL_append] at *;omega))) | refine LC.bind (number_lc hl _ _ _) (fun _ _ _ _ _=>?_) | (exact LC.weak (number_lc hl _ _ _) (by first | omega | (simp only [HasCnt.cnt,cntT,cntT_eq,cntL,cntL_append] at *;omega))) | exact LC.give | refine LC.chk ?_ | refine LC.ite (fun _=>?_) (fun _=>?_) | (refine LC.pure (fun _ ht=>?_);have hn_:=(token_rd (twoT hl) _ _ ht).2.1) | (refine LC.pure (fun _ hx=>?_);obtain rfl:=cat_eq hx) | refine LC.pure (fun _ _=>?_)
theorem value_lc (hl:T.length≤16001) (k:Nat):∀ (n:Nat) (d:Int),LC T (2 * (n:Int)) n (ps_value k (⟨T,(n:Int),d⟩:ParK)):=by
 intros
 unfold ps_value
 repeat' first | (refine LC.ret (by first | omega | (simp only [HasCnt.cnt,cntT,cntT_eq,cntL,cntL_append] at *;omega))) | refine LC.bind (name_lc hl _ _ _ _) (fun _ _ _ _ _=>?_) | refine LC.bind (LC.up1 hl (by assumption) (F:=fun s=>ps_name _ s _) (fun n d=>name_lc hl _ _ _ _)) (fun _ _ _ _ _=>?_) | (exact LC.weak (name_lc hl _ _ _ _) (by first | omega | (simp only [HasCnt.cnt,cntT,cntT_eq,cntL,cntL_append] at *;omega))) | refine LC.bind (number_lc hl _ _ _) (fun _ _ _ _ _=>?_) | (exact LC.weak (number_lc hl _ _ _) (by first | omega | (simp only [HasCnt.cnt,cntT,cntT_eq,cntL,cntL_append] at *;omega))) | refine LC.chk ?_ | refine LC.ite (fun _=>?_) (fun _=>?_) | (refine LC.pure (fun _ ht=>?_);have hn_:=(token_rd (twoT hl) _ _ ht).2.1) | (refine LC.pure (fun _ hx=>?_);obtain rfl:=cat_eq hx) | refine LC.pure (fun _ _=>?_)
theorem bare_lc (hl:T.length≤16001) (k:Nat):∀ (n:Nat) (d:Int),LC T (2 * (n:Int)) n (ps_bare k (⟨T,(n:Int),d⟩:ParK)):=by
 intros
 unfold ps_bare
 repeat' first | (refine LC.ret (by first | omega | (simp only [HasCnt.cnt,cntT,cntT_eq,cntL,cntL_append] at *;omega))) | refine LC.bind (name_lc hl _ _ _ _) (fun _ _ _ _ _=>?_) | refine LC.bind (LC.up1 hl (by assumption) (F:=fun s=>ps_name _ s _) (fun n d=>name_lc hl _ _ _ _)) (fun _ _ _ _ _=>?_) | (exact LC.weak (name_lc hl _ _ _ _) (by first | omega | (simp only [HasCnt.cnt,cntT,cntT_eq,cntL,cntL_append] at *;omega))) | refine LC.may hl _ _ (fun _ _ _=>?_) ?_ | refine LC.want hl _ _ (fun _ _ _ _=>?_) | exact LC.give | refine LC.chk ?_ | refine LC.ite (fun _=>?_) (fun _=>?_) | (refine LC.pure (fun _ ht=>?_);have hn_:=(token_rd (twoT hl) _ _ ht).2.1) | (refine LC.pure (fun _ hx=>?_);obtain rfl:=cat_eq hx) | refine LC.pure (fun _ _=>?_)
theorem members_l1_lc' (hl:T.length≤16001):∀ k:Nat,∀ (n:Nat) (d:Int) (q:List Tree),LC T (2 * (n:Int) - (cntL q:Int)) n (ps_members.l1 k (⟨T,(n:Int),d⟩:ParK) q):=by
 intro k
 induction k with
 | zero=>intros;simp only [ps_members.l1];exact LC.nil
 | succ k C =>
  intros
  simp only [ps_members.l1]
  repeat' first | (refine LC.ret (by first | omega | (simp only [HasCnt.cnt,cntT,cntT_eq,cntL,cntL_append] at *;omega))) | refine LC.bind (name_lc hl _ _ _ _) (fun _ _ _ _ _=>?_) | refine LC.bind (LC.up1 hl (by assumption) (F:=fun s=>ps_name _ s _) (fun n d=>name_lc hl _ _ _ _)) (fun _ _ _ _ _=>?_) | (exact LC.weak (name_lc hl _ _ _ _) (by first | omega | (simp only [HasCnt.cnt,cntT,cntT_eq,cntL,cntL_append] at *;omega))) | refine LC.want hl _ _ (fun _ _ _ _=>?_) | refine LC.bind (value_lc hl _ _ _) (fun _ _ _ _ _=>?_) | (exact LC.weak (value_lc hl _ _ _) (by first | omega | (simp only [HasCnt.cnt,cntT,cntT_eq,cntL,cntL_append] at *;omega))) | refine LC.may hl _ _ (fun _ _ _=>?_) ?_ | refine LC.bind (C _ _ _) (fun _ _ _ _ _=>?_) | (exact LC.weak (C _ _ _) (by first | omega | (simp only [HasCnt.cnt,cntT,cntT_eq,cntL,cntL_append] at *;omega))) | refine LC.chk ?_ | refine LC.ite (fun _=>?_) (fun _=>?_) | (refine LC.pure (fun _ hx=>?_);obtain rfl:=cat_eq hx) | refine LC.pure (fun _ _=>?_)
theorem members_l1_lc (hl:T.length≤16001) (k:Nat):∀ (n:Nat) (d:Int) (q:List Tree),LC T (2 * (n:Int) - (cntL q:Int)) n (ps_members.l1 k (⟨T,(n:Int),d⟩:ParK) q):=members_l1_lc' hl k
theorem members_lc (hl:T.length≤16001) (k:Nat):∀ (n:Nat) (d:Int),LC T (2 * (n:Int)) n (ps_members k (⟨T,(n:Int),d⟩:ParK)):=by
 intros
 unfold ps_members
 repeat' first | (refine LC.ret (by first | omega | (simp only [HasCnt.cnt,cntT,cntT_eq,cntL,cntL_append] at *;omega))) | refine LC.want hl _ _ (fun _ _ _ _=>?_) | refine LC.bind (members_l1_lc hl _ _ _ _) (fun _ _ _ _ _=>?_) | (exact LC.weak (members_l1_lc hl _ _ _ _) (by first | omega | (simp only [HasCnt.cnt,cntT,cntT_eq,cntL,cntL_append] at *;omega))) | refine LC.chk ?_ | refine LC.ite (fun _=>?_) (fun _=>?_) | (refine LC.pure (fun _ hx=>?_);obtain rfl:=cat_eq hx) | refine LC.pure (fun _ _=>?_)
theorem listed_j1_lc (hl:T.length≤16001) (k:Nat):∀ (n:Nat) (d:Int) (C:Tree) (D:Int) (q:List Tree),LC T (2 * (n:Int) - (cntL q:Int)) n (ps_listed.j1 k C (none,D,(⟨T,(n:Int),d⟩:ParK)) q):=by
 intros
 unfold ps_listed.j1
 repeat' first | (refine LC.ret (by first | omega | (simp only [HasCnt.cnt,cntT,cntT_eq,cntL,cntL_append] at *;omega))) | refine LC.want hl _ _ (fun _ _ _ _=>?_) | refine LC.bind (value_lc hl _ _ _) (fun _ _ _ _ _=>?_) | (exact LC.weak (value_lc hl _ _ _) (by first | omega | (simp only [HasCnt.cnt,cntT,cntT_eq,cntL,cntL_append] at *;omega))) | refine LC.chk ?_ | refine LC.ite (fun _=>?_) (fun _=>?_) | (refine LC.pure (fun _ hx=>?_);obtain rfl:=cat_eq hx) | refine LC.pure (fun _ _=>?_)
theorem listed_lc (hl:T.length≤16001) (k:Nat):∀ (n:Nat) (d:Int) (C:Tree) (q:Tree),LC T (2 * (n:Int) - (cntT q:Int)) n (ps_listed k (⟨T,(n:Int),d⟩:ParK) C q):=by
 intros
 unfold ps_listed
 repeat' first | (refine LC.ret (by first | omega | (simp only [HasCnt.cnt,cntT,cntT_eq,cntL,cntL_append] at *;omega))) | refine LC.want hl _ _ (fun _ _ _ _=>?_) | refine LC.bind (listed_j1_lc hl _ _ _ _ _ _) (fun _ _ _ _ _=>?_) | (exact LC.weak (listed_j1_lc hl _ _ _ _ _ _) (by first | omega | (simp only [HasCnt.cnt,cntT,cntT_eq,cntL,cntL_append] at *;omega))) | refine LC.chk ?_ | refine LC.ite (fun _=>?_) (fun _=>?_) | (refine LC.pure (fun _ hx=>?_);obtain rfl:=cat_eq hx) | refine LC.pure (fun _ _=>?_)
theorem fixed_lc (hl:T.length≤16001) (k:Nat):∀ (n:Nat) (d:Int) (C:Tree) (q:Tree),LC T (2 * (n:Int) - (cntT q:Int)) n (ps_fixed k (⟨T,(n:Int),d⟩:ParK) C q):=by
 intros
 unfold ps_fixed
 repeat' first | (refine LC.ret (by first | omega | (simp only [HasCnt.cnt,cntT,cntT_eq,cntL,cntL_append] at *;omega))) | refine LC.want hl _ _ (fun _ _ _ _=>?_) | refine LC.bind (value_lc hl _ _ _) (fun _ _ _ _ _=>?_) | (exact LC.weak (value_lc hl _ _ _) (by first | omega | (simp only [HasCnt.cnt,cntT,cntT_eq,cntL,cntL_append] at *;omega))) | refine LC.bind (fixed_j1_lc hl _ _ _ _ _) (fun _ _ _ _ _=>?_) | (exact LC.weak (fixed_j1_lc hl _ _ _ _ _) (by first | omega | (simp only [HasCnt.cnt,cntT,cntT_eq,cntL,cntL_append] at *;omega))) | refine LC.chk ?_ | refine LC.ite (fun _=>?_) (fun _=>?_) | (refine LC.pure (fun _ hx=>?_);obtain rfl:=cat_eq hx) | refine LC.pure (fun _ _=>?_)
end
section
variable {T:List Token}
theorem group_lc (hl:T.length≤16001):∀ k:Nat,(∀ (n:Nat) (d:Int),LC T (2 * (n:Int)) n (ps_declaration k (⟨T,(n:Int),d⟩:ParK))) ∧
 (∀ (n:Nat) (d:Int),LC T (2 * (n:Int)) n (ps_typ k (⟨T,(n:Int),d⟩:ParK))) ∧
 (∀ (n:Nat) (d:Int) (D:List UInt8),LB T (2 * (n:Int)) n (ps_body k (⟨T,(n:Int),d⟩:ParK) D)) ∧
 (∀ (n:Nat) (d:Int) (q:List Tree),LC T (2 * (n:Int) - (cntL q:Int)) n (ps_fields.j2 k q (⟨T,(n:Int),d⟩:ParK))) ∧
 (∀ (n:Nat) (d:Int) (q:List Tree),LC T (2 * (n:Int) - (cntL q:Int)) n (ps_fields.j1 k q (⟨T,(n:Int),d⟩:ParK))) ∧
 (∀ (n:Nat) (d:Int) (D:List Tree),LC T (2 * (n:Int) - (cntL D:Int)) n (ps_fields.l1 k (⟨T,(n:Int),d⟩:ParK) D)) ∧
 (∀ (n:Nat) (d:Int),LC T (2 * (n:Int)) n (ps_fields k (⟨T,(n:Int),d⟩:ParK))) ∧
 (∀ (n:Nat) (d:Int) (D:List Tree),LC T (2 * (n:Int) - (cntL D:Int)) n (ps_choice.j1 k (⟨T,(n:Int),d⟩:ParK) D)) ∧
 (∀ (n:Nat) (d:Int) (D:List Tree),LC T (2 * (n:Int) - (cntL D:Int)) n (ps_choice.j2 k (⟨T,(n:Int),d⟩:ParK) D)) ∧
 (∀ (n:Nat) (d:Int) (D:List Tree),LC T (2 * (n:Int) - (cntL D:Int)) n (ps_choice.l1 k (⟨T,(n:Int),d⟩:ParK) D)) ∧
 (∀ (n:Nat) (d:Int),LC T (2 * (n:Int)) n (ps_choice k (⟨T,(n:Int),d⟩:ParK))) ∧
 (∀ (n:Nat) (d:Int) (q:Token) (C:List Tree),LC T (2 * (n:Int) - (cntL C:Int)) n (ps_arm.j4 k q (⟨T,(n:Int),d⟩:ParK) C)) ∧
 (∀ (n:Nat) (d:Int) (q:Token) (C:List Tree),LC T (2 * (n:Int) - (cntL C:Int)) n (ps_arm.j1 k q (⟨T,(n:Int),d⟩:ParK) C)) ∧
 (∀ (n:Nat) (d:Int) (q:Token) (C:List Tree),LC T (2 * (n:Int) - (cntL C:Int)) n (ps_arm.j3 k q (⟨T,(n:Int),d⟩:ParK) C)) ∧
 (∀ (n:Nat) (d:Int) (q:Token) (C:List Tree),LC T (2 * (n:Int) - (cntL C:Int)) n (ps_arm.j2 k q (⟨T,(n:Int),d⟩:ParK) C)) ∧
 (∀ (n:Nat) (d:Int) (q:Token) (C:List Tree),LC T (2 * (n:Int) - (cntL C:Int)) n (ps_arm.l1 k q (⟨T,(n:Int),d⟩:ParK) C)) ∧
 (∀ (n:Nat) (d:Int),LC T (2 * (n:Int)) n (ps_arm k (⟨T,(n:Int),d⟩:ParK))):=by
 intro k
 induction k with
 | zero =>
  refine ⟨?_,?_,?_,?_,?_,?_,?_,?_,?_,?_,?_,?_,?_,?_,?_,?_,?_⟩ <;> intros <;> simp only [ps_declaration,ps_typ,ps_body,ps_fields.j2,ps_fields.j1,ps_fields.l1,ps_fields,ps_choice.j1,ps_choice.j2,ps_choice.l1,ps_choice,ps_arm.j4,ps_arm.j1,ps_arm.j3,ps_arm.j2,ps_arm.l1,ps_arm] <;> first | exact LC.nil | exact LB.nil
 | succ k ih =>
  obtain ⟨E,ad,ae,af,ag,O,ak,ah,ai,V,aj,X,Y,Z,aa,J,ab⟩:=ih;refine ⟨?_,?_,?_,?_,?_,?_,?_,?_,?_,?_,?_,?_,?_,?_,?_,?_,?_⟩
  · intros
    simp only [ps_declaration]
    repeat' first | (refine LC.ret (by first | omega | (simp only [HasCnt.cnt,cntT,cntT_eq,cntL,cntL_append] at *;omega))) | refine LC.may hl _ _ (fun _ _ _=>?_) ?_ | refine LC.bind (name_lc hl _ _ _ _) (fun _ _ _ _ _=>?_) | refine LC.bind (LC.up1 hl (by assumption) (F:=fun s=>ps_name _ s _) (fun n d=>name_lc hl _ _ _ _)) (fun _ _ _ _ _=>?_) | (exact LC.weak (name_lc hl _ _ _ _) (by first | omega | (simp only [HasCnt.cnt,cntT,cntT_eq,cntL,cntL_append] at *;omega))) | refine LC.bind (fixed_lc hl _ _ _ _ _) (fun _ _ _ _ _=>?_) | (exact LC.weak (fixed_lc hl _ _ _ _ _) (by first | omega | (simp only [HasCnt.cnt,cntT,cntT_eq,cntL,cntL_append] at *;omega))) | refine LC.bind (listed_lc hl _ _ _ _ _) (fun _ _ _ _ _=>?_) | (exact LC.weak (listed_lc hl _ _ _ _ _) (by first | omega | (simp only [HasCnt.cnt,cntT,cntT_eq,cntL,cntL_append] at *;omega))) | refine LC.bind (ad _ _) (fun _ _ _ _ _=>?_) | (exact LC.weak (ad _ _) (by first | omega | (simp only [HasCnt.cnt,cntT,cntT_eq,cntL,cntL_append] at *;omega))) | refine LC.chk ?_ | refine LC.ite (fun _=>?_) (fun _=>?_) | (refine LC.pure (fun _ ht=>?_);have hn_:=(token_rd (twoT hl) _ _ ht).2.1) | (refine LC.pure (fun _ hx=>?_);obtain rfl:=cat_eq hx) | refine LC.pure (fun _ _=>?_)
  · intros
    simp only [ps_typ]
    repeat' first | (refine LC.ret (by first | omega | (simp only [HasCnt.cnt,cntT,cntT_eq,cntL,cntL_append] at *;omega))) | refine LC.bind4 (ae _ _ _) (fun _ _ _ _ _ _=>?_) | refine LC.bind4 (LB.up1 hl (by assumption) (F:=fun s=>ps_body _ s _) (fun n d=>ae _ _ _)) (fun _ _ _ _ _ _=>?_) | refine LC.bind (bare_lc hl _ _ _) (fun _ _ _ _ _=>?_) | (exact LC.weak (bare_lc hl _ _ _) (by first | omega | (simp only [HasCnt.cnt,cntT,cntT_eq,cntL,cntL_append] at *;omega))) | refine LC.chk ?_ | refine LC.ite (fun _=>?_) (fun _=>?_) | (refine LC.pure (fun _ ht=>?_);have hn_:=(token_rd (twoT hl) _ _ ht).2.1) | (refine LC.pure (fun _ hx=>?_);obtain rfl:=cat_eq hx) | refine LC.pure (fun _ _=>?_)
  · intros
    simp only [ps_body]
    repeat' first | (refine LC.ret (by first | omega | (simp only [HasCnt.cnt,cntT,cntT_eq,cntL,cntL_append] at *;omega))) | refine LB.ite (fun _=>?_) (fun _=>?_) | exact LB.bind (g:=fun x=>w64 (x - 1)) (members_lc hl _ _ _) (by omega) | exact LB.bind (g:=fun x=>w64 (x - 1)) (ak _ _) (by omega) | exact LB.bind (g:=fun x=>w64 (x - 1)) (aj _ _) (by omega) | refine LC.chk ?_ | refine LC.ite (fun _=>?_) (fun _=>?_) | (refine LC.pure (fun _ hx=>?_);obtain rfl:=cat_eq hx) | refine LC.pure (fun _ _=>?_)
  · intros
    simp only [ps_fields.j2]
    repeat' first | (refine LC.ret (by first | omega | (simp only [HasCnt.cnt,cntT,cntT_eq,cntL,cntL_append] at *;omega))) | refine LC.bind (E _ _) (fun _ _ _ _ _=>?_) | (exact LC.weak (E _ _) (by first | omega | (simp only [HasCnt.cnt,cntT,cntT_eq,cntL,cntL_append] at *;omega))) | refine LC.want hl _ _ (fun _ _ _ _=>?_) | refine LC.bind (O _ _ _) (fun _ _ _ _ _=>?_) | (exact LC.weak (O _ _ _) (by first | omega | (simp only [HasCnt.cnt,cntT,cntT_eq,cntL,cntL_append] at *;omega))) | refine LC.chk ?_ | refine LC.ite (fun _=>?_) (fun _=>?_) | (refine LC.pure (fun _ hx=>?_);obtain rfl:=cat_eq hx) | refine LC.pure (fun _ _=>?_)
  · intros
    simp only [ps_fields.j1]
    repeat' first | (refine LC.ret (by first | omega | (simp only [HasCnt.cnt,cntT,cntT_eq,cntL,cntL_append] at *;omega))) | refine LC.bind (af _ _ _) (fun _ _ _ _ _=>?_) | (exact LC.weak (af _ _ _) (by first | omega | (simp only [HasCnt.cnt,cntT,cntT_eq,cntL,cntL_append] at *;omega))) | refine LC.chk ?_ | refine LC.ite (fun _=>?_) (fun _=>?_) | (refine LC.pure (fun _ hx=>?_);obtain rfl:=cat_eq hx) | refine LC.pure (fun _ _=>?_)
  · intros
    simp only [ps_fields.l1]
    repeat' first | (refine LC.ret (by first | omega | (simp only [HasCnt.cnt,cntT,cntT_eq,cntL,cntL_append] at *;omega))) | refine LC.bind (ag _ _ _) (fun _ _ _ _ _=>?_) | (exact LC.weak (ag _ _ _) (by first | omega | (simp only [HasCnt.cnt,cntT,cntT_eq,cntL,cntL_append] at *;omega))) | refine LC.may hl _ _ (fun _ _ _=>?_) ?_ | refine LC.chk ?_ | refine LC.ite (fun _=>?_) (fun _=>?_) | (refine LC.pure (fun _ hx=>?_);obtain rfl:=cat_eq hx) | refine LC.pure (fun _ _=>?_)
  · intros
    simp only [ps_fields]
    repeat' first | (refine LC.ret (by first | omega | (simp only [HasCnt.cnt,cntT,cntT_eq,cntL,cntL_append] at *;omega))) | refine LC.want hl _ _ (fun _ _ _ _=>?_) | refine LC.bind (O _ _ _) (fun _ _ _ _ _=>?_) | (exact LC.weak (O _ _ _) (by first | omega | (simp only [HasCnt.cnt,cntT,cntT_eq,cntL,cntL_append] at *;omega))) | refine LC.chk ?_ | refine LC.ite (fun _=>?_) (fun _=>?_) | (refine LC.pure (fun _ hx=>?_);obtain rfl:=cat_eq hx) | refine LC.pure (fun _ _=>?_)
  · intros
    simp only [ps_choice.j1]
    repeat' first | (refine LC.ret (by first | omega | (simp only [HasCnt.cnt,cntT,cntT_eq,cntL,cntL_append] at *;omega))) | refine LC.want hl _ _ (fun _ _ _ _=>?_) | refine LC.bind (E _ _) (fun _ _ _ _ _=>?_) | (exact LC.weak (E _ _) (by first | omega | (simp only [HasCnt.cnt,cntT,cntT_eq,cntL,cntL_append] at *;omega))) | refine LC.chk ?_ | refine LC.ite (fun _=>?_) (fun _=>?_) | (refine LC.pure (fun _ hx=>?_);obtain rfl:=cat_eq hx) | refine LC.pure (fun _ _=>?_)
  · intros
    simp only [ps_choice.j2]
    repeat' first | (refine LC.ret (by first | omega | (simp only [HasCnt.cnt,cntT,cntT_eq,cntL,cntL_append] at *;omega))) | refine LC.bind (ab _ _) (fun _ _ _ _ _=>?_) | (exact LC.weak (ab _ _) (by first | omega | (simp only [HasCnt.cnt,cntT,cntT_eq,cntL,cntL_append] at *;omega))) | refine LC.bind (V _ _ _) (fun _ _ _ _ _=>?_) | (exact LC.weak (V _ _ _) (by first | omega | (simp only [HasCnt.cnt,cntT,cntT_eq,cntL,cntL_append] at *;omega))) | refine LC.chk ?_ | refine LC.ite (fun _=>?_) (fun _=>?_) | (refine LC.pure (fun _ hx=>?_);obtain rfl:=cat_eq hx) | refine LC.pure (fun _ _=>?_)
  · intros
    simp only [ps_choice.l1]
    repeat' first | (refine LC.ret (by first | omega | (simp only [HasCnt.cnt,cntT,cntT_eq,cntL,cntL_append] at *;omega))) | refine LC.bind (ai _ _ _) (fun _ _ _ _ _=>?_) | (exact LC.weak (ai _ _ _) (by first | omega | (simp only [HasCnt.cnt,cntT,cntT_eq,cntL,cntL_append] at *;omega))) | refine LC.bind (ah _ _ _) (fun _ _ _ _ _=>?_) | (exact LC.weak (ah _ _ _) (by first | omega | (simp only [HasCnt.cnt,cntT,cntT_eq,cntL,cntL_append] at *;omega))) | refine LC.chk ?_ | refine LC.ite (fun _=>?_) (fun _=>?_) | (refine LC.pure (fun _ hx=>?_);obtain rfl:=cat_eq hx) | refine LC.pure (fun _ _=>?_)
  · intros
    simp only [ps_choice]
    repeat' first | (refine LC.ret (by first | omega | (simp only [HasCnt.cnt,cntT,cntT_eq,cntL,cntL_append] at *;omega))) | refine LC.want hl _ _ (fun _ _ _ _=>?_) | refine LC.bind (E _ _) (fun _ _ _ _ _=>?_) | (exact LC.weak (E _ _) (by first | omega | (simp only [HasCnt.cnt,cntT,cntT_eq,cntL,cntL_append] at *;omega))) | refine LC.bind (V _ _ _) (fun _ _ _ _ _=>?_) | (exact LC.weak (V _ _ _) (by first | omega | (simp only [HasCnt.cnt,cntT,cntT_eq,cntL,cntL_append] at *;omega))) | refine LC.chk ?_ | refine LC.ite (fun _=>?_) (fun _=>?_) | (refine LC.pure (fun _ hx=>?_);obtain rfl:=cat_eq hx) | refine LC.pure (fun _ _=>?_)
  · intros
    simp only [ps_arm.j4]
    repeat' first | (refine LC.ret (by first | omega | (simp only [HasCnt.cnt,cntT,cntT_eq,cntL,cntL_append] at *;omega))) | refine LC.want hl _ _ (fun _ _ _ _=>?_) | refine LC.chk ?_ | refine LC.ite (fun _=>?_) (fun _=>?_) | (refine LC.pure (fun _ hx=>?_);obtain rfl:=cat_eq hx) | refine LC.pure (fun _ _=>?_)
  · intros
    simp only [ps_arm.j1]
    repeat' first | (refine LC.ret (by first | omega | (simp only [HasCnt.cnt,cntT,cntT_eq,cntL,cntL_append] at *;omega))) | refine LC.bind (E _ _) (fun _ _ _ _ _=>?_) | (exact LC.weak (E _ _) (by first | omega | (simp only [HasCnt.cnt,cntT,cntT_eq,cntL,cntL_append] at *;omega))) | refine LC.bind (X _ _ _ _) (fun _ _ _ _ _=>?_) | (exact LC.weak (X _ _ _ _) (by first | omega | (simp only [HasCnt.cnt,cntT,cntT_eq,cntL,cntL_append] at *;omega))) | refine LC.chk ?_ | refine LC.ite (fun _=>?_) (fun _=>?_) | (refine LC.pure (fun _ hx=>?_);obtain rfl:=cat_eq hx) | refine LC.pure (fun _ _=>?_)
  · intros
    simp only [ps_arm.j3]
    repeat' first | (refine LC.ret (by first | omega | (simp only [HasCnt.cnt,cntT,cntT_eq,cntL,cntL_append] at *;omega))) | refine LC.want hl _ _ (fun _ _ _ _=>?_) | refine LC.bind (J _ _ _ _) (fun _ _ _ _ _=>?_) | (exact LC.weak (J _ _ _ _) (by first | omega | (simp only [HasCnt.cnt,cntT,cntT_eq,cntL,cntL_append] at *;omega))) | refine LC.chk ?_ | refine LC.ite (fun _=>?_) (fun _=>?_) | (refine LC.pure (fun _ hx=>?_);obtain rfl:=cat_eq hx) | refine LC.pure (fun _ _=>?_)
  · intros
    simp only [ps_arm.j2]
    repeat' first | (refine LC.ret (by first | omega | (simp only [HasCnt.cnt,cntT,cntT_eq,cntL,cntL_append] at *;omega))) | refine LC.want hl _ _ (fun _ _ _ _=>?_) | refine LC.bind (value_lc hl _ _ _) (fun _ _ _ _ _=>?_) | (exact LC.weak (value_lc hl _ _ _) (by first | omega | (simp only [HasCnt.cnt,cntT,cntT_eq,cntL,cntL_append] at *;omega))) | refine LC.bind (Z _ _ _ _) (fun _ _ _ _ _=>?_) | (exact LC.weak (Z _ _ _ _) (by first | omega | (simp only [HasCnt.cnt,cntT,cntT_eq,cntL,cntL_append] at *;omega))) | refine LC.chk ?_ | refine LC.ite (fun _=>?_) (fun _=>?_) | (refine LC.pure (fun _ hx=>?_);obtain rfl:=cat_eq hx) | refine LC.pure (fun _ _=>?_)
  · intros
    simp only [ps_arm.l1]
    repeat' first | (refine LC.ret (by first | omega | (simp only [HasCnt.cnt,cntT,cntT_eq,cntL,cntL_append] at *;omega))) | refine LC.bind (aa _ _ _ _) (fun _ _ _ _ _=>?_) | (exact LC.weak (aa _ _ _ _) (by first | omega | (simp only [HasCnt.cnt,cntT,cntT_eq,cntL,cntL_append] at *;omega))) | refine LC.bind (Y _ _ _ _) (fun _ _ _ _ _=>?_) | (exact LC.weak (Y _ _ _ _) (by first | omega | (simp only [HasCnt.cnt,cntT,cntT_eq,cntL,cntL_append] at *;omega))) | refine LC.chk ?_ | refine LC.ite (fun _=>?_) (fun _=>?_) | (refine LC.pure (fun _ hx=>?_);obtain rfl:=cat_eq hx) | refine LC.pure (fun _ _=>?_)
  · intros
    simp only [ps_arm]
    repeat' first | (refine LC.ret (by first | omega | (simp only [HasCnt.cnt,cntT,cntT_eq,cntL,cntL_append] at *;omega))) | refine LC.bind (J _ _ _ _) (fun _ _ _ _ _=>?_) | (exact LC.weak (J _ _ _ _) (by first | omega | (simp only [HasCnt.cnt,cntT,cntT_eq,cntL,cntL_append] at *;omega))) | refine LC.chk ?_ | refine LC.ite (fun _=>?_) (fun _=>?_) | (refine LC.pure (fun _ ht=>?_);have hn_:=(token_rd (twoT hl) _ _ ht).2.1) | (refine LC.pure (fun _ hx=>?_);obtain rfl:=cat_eq hx) | refine LC.pure (fun _ _=>?_)
theorem declaration_lc (hl:T.length≤16001) (k:Nat):∀ (n:Nat) (d:Int),LC T (2 * (n:Int)) n (ps_declaration k (⟨T,(n:Int),d⟩:ParK)):=(group_lc hl k).1
theorem body_lc (hl:T.length≤16001) (k:Nat):∀ (n:Nat) (d:Int) (q:List UInt8),LB T (2 * (n:Int)) n (ps_body k (⟨T,(n:Int),d⟩:ParK) q):=(group_lc hl k).2.2.1
end
section
variable {T:List Token}
theorem arguments_l1_lc' (hl:T.length≤16001):∀ k:Nat,∀ (n:Nat) (d:Int) (q:List Tree),LC T (2 * (n:Int) - (cntL q:Int)) n (ps_arguments.l1 k (⟨T,(n:Int),d⟩:ParK) q):=by
 intro k
 induction k with
 | zero=>intros;simp only [ps_arguments.l1];exact LC.nil
 | succ k C =>
  intros
  simp only [ps_arguments.l1]
  repeat' first | (refine LC.ret (by first | omega | (simp only [HasCnt.cnt,cntT,cntT_eq,cntL,cntL_append] at *;omega))) | refine LC.want hl _ _ (fun _ _ _ _=>?_) | refine LC.bind (bare_lc hl _ _ _) (fun _ _ _ _ _=>?_) | (exact LC.weak (bare_lc hl _ _ _) (by first | omega | (simp only [HasCnt.cnt,cntT,cntT_eq,cntL,cntL_append] at *;omega))) | refine LC.bind (C _ _ _) (fun _ _ _ _ _=>?_) | (exact LC.weak (C _ _ _) (by first | omega | (simp only [HasCnt.cnt,cntT,cntT_eq,cntL,cntL_append] at *;omega))) | refine LC.chk ?_ | refine LC.ite (fun _=>?_) (fun _=>?_) | (refine LC.pure (fun _ hx=>?_);obtain rfl:=cat_eq hx) | refine LC.pure (fun _ _=>?_)
theorem arguments_l1_lc (hl:T.length≤16001) (k:Nat):∀ (n:Nat) (d:Int) (q:List Tree),LC T (2 * (n:Int) - (cntL q:Int)) n (ps_arguments.l1 k (⟨T,(n:Int),d⟩:ParK) q):=arguments_l1_lc' hl k
theorem arguments_lc (hl:T.length≤16001) (k:Nat):∀ (n:Nat) (d:Int),LC T (2 * (n:Int)) n (ps_arguments k (⟨T,(n:Int),d⟩:ParK)):=by
 intros
 unfold ps_arguments
 repeat' first | (refine LC.ret (by first | omega | (simp only [HasCnt.cnt,cntT,cntT_eq,cntL,cntL_append] at *;omega))) | refine LC.may hl _ _ (fun _ _ _=>?_) ?_ | refine LC.bind (bare_lc hl _ _ _) (fun _ _ _ _ _=>?_) | (exact LC.weak (bare_lc hl _ _ _) (by first | omega | (simp only [HasCnt.cnt,cntT,cntT_eq,cntL,cntL_append] at *;omega))) | refine LC.bind (arguments_l1_lc hl _ _ _ _) (fun _ _ _ _ _=>?_) | (exact LC.weak (arguments_l1_lc hl _ _ _ _) (by first | omega | (simp only [HasCnt.cnt,cntT,cntT_eq,cntL,cntL_append] at *;omega))) | refine LC.chk ?_ | refine LC.ite (fun _=>?_) (fun _=>?_) | (refine LC.pure (fun _ ht=>?_);have hn_:=(token_rd (twoT hl) _ _ ht).2.1) | (refine LC.pure (fun _ hx=>?_);obtain rfl:=cat_eq hx) | refine LC.pure (fun _ _=>?_)
theorem procedure_j1_lc (hl:T.length≤16001) (k:Nat):∀ (n:Nat) (d:Int) (C:Int) (D:List UInt8) (E:Int) (J:Int) (q:List Tree),LC T (2 * (n:Int) - (cntL q:Int)) n (ps_procedure.j1 k (⟨T,(n:Int),d⟩:ParK) C D E J q):=by
 intros
 unfold ps_procedure.j1
 repeat' first | (refine LC.ret (by first | omega | (simp only [HasCnt.cnt,cntT,cntT_eq,cntL,cntL_append] at *;omega))) | refine LC.bind (name_lc hl _ _ _ _) (fun _ _ _ _ _=>?_) | refine LC.bind (LC.up1 hl (by assumption) (F:=fun s=>ps_name _ s _) (fun n d=>name_lc hl _ _ _ _)) (fun _ _ _ _ _=>?_) | (exact LC.weak (name_lc hl _ _ _ _) (by first | omega | (simp only [HasCnt.cnt,cntT,cntT_eq,cntL,cntL_append] at *;omega))) | refine LC.want hl _ _ (fun _ _ _ _=>?_) | refine LC.bind (arguments_lc hl _ _ _) (fun _ _ _ _ _=>?_) | (exact LC.weak (arguments_lc hl _ _ _) (by first | omega | (simp only [HasCnt.cnt,cntT,cntT_eq,cntL,cntL_append] at *;omega))) | refine LC.bind (wordNumber_lc hl _ _ _) (fun _ _ _ _ _=>?_) | (exact LC.weak (wordNumber_lc hl _ _ _) (by first | omega | (simp only [HasCnt.cnt,cntT,cntT_eq,cntL,cntL_append] at *;omega))) | refine LC.chk ?_ | refine LC.ite (fun _=>?_) (fun _=>?_) | (refine LC.pure (fun _ hx=>?_);obtain rfl:=cat_eq hx) | refine LC.pure (fun _ _=>?_)
theorem procedure_lc (hl:T.length≤16001) (k:Nat):∀ (n:Nat) (d:Int),LC T (2 * (n:Int)) n (ps_procedure k (⟨T,(n:Int),d⟩:ParK)):=by
 intros
 unfold ps_procedure
 repeat' first | (refine LC.ret (by first | omega | (simp only [HasCnt.cnt,cntT,cntT_eq,cntL,cntL_append] at *;omega))) | refine LC.may hl _ _ (fun _ _ _=>?_) ?_ | refine LC.bind (procedure_j1_lc hl _ _ _ _ _ _ _ _) (fun _ _ _ _ _=>?_) | (exact LC.weak (procedure_j1_lc hl _ _ _ _ _ _ _ _) (by first | omega | (simp only [HasCnt.cnt,cntT,cntT_eq,cntL,cntL_append] at *;omega))) | refine LC.bind (bare_lc hl _ _ _) (fun _ _ _ _ _=>?_) | (exact LC.weak (bare_lc hl _ _ _) (by first | omega | (simp only [HasCnt.cnt,cntT,cntT_eq,cntL,cntL_append] at *;omega))) | refine LC.chk ?_ | refine LC.ite (fun _=>?_) (fun _=>?_) | (refine LC.pure (fun _ ht=>?_);have hn_:=(token_rd (twoT hl) _ _ ht).2.1) | (refine LC.pure (fun _ hx=>?_);obtain rfl:=cat_eq hx) | refine LC.pure (fun _ _=>?_)
theorem version_j1_lc (hl:T.length≤16001) (k:Nat):∀ (n:Nat) (d:Int) (C:Tree) (D:ParK) (q:List Tree),LC T (2 * (n:Int) - (cntL q:Int)) n (ps_version.j1 k (none,C,D) (⟨T,(n:Int),d⟩:ParK) q):=by
 intros
 unfold ps_version.j1
 repeat' first | (refine LC.ret (by first | omega | (simp only [HasCnt.cnt,cntT,cntT_eq,cntL,cntL_append] at *;omega))) | refine LC.want hl _ _ (fun _ _ _ _=>?_) | refine LC.bind (wordNumber_lc hl _ _ _) (fun _ _ _ _ _=>?_) | (exact LC.weak (wordNumber_lc hl _ _ _) (by first | omega | (simp only [HasCnt.cnt,cntT,cntT_eq,cntL,cntL_append] at *;omega))) | refine LC.chk ?_ | refine LC.ite (fun _=>?_) (fun _=>?_) | (refine LC.pure (fun _ hx=>?_);obtain rfl:=cat_eq hx) | refine LC.pure (fun _ _=>?_)
theorem versions_lc (hl:T.length≤16001):∀ k:Nat,(∀ (n:Nat) (d:Int) (q:Tree) (C:ParK) (D:List Tree),LC T (2 * (n:Int) - (cntL D:Int)) n (ps_version.j2 k (none,q,C) D (⟨T,(n:Int),d⟩:ParK))) ∧
 (∀ (n:Nat) (d:Int) (q:Tree) (C:ParK) (E:List Tree),LC T (2 * (n:Int) - (cntL E:Int)) n (ps_version.l1 k (none,q,C) (⟨T,(n:Int),d⟩:ParK) E)):=by
 intro k
 induction k with
 | zero =>
  refine ⟨?_,?_⟩ <;> intros <;> simp only [ps_version.j2,ps_version.l1] <;> first | exact LC.nil | exact LB.nil
 | succ k ih =>
  obtain ⟨J,O⟩:=ih;refine ⟨?_,?_⟩
  · intros
    simp only [ps_version.j2]
    repeat' first | (refine LC.ret (by first | omega | (simp only [HasCnt.cnt,cntT,cntT_eq,cntL,cntL_append] at *;omega))) | refine LC.bind (procedure_lc hl _ _ _) (fun _ _ _ _ _=>?_) | (exact LC.weak (procedure_lc hl _ _ _) (by first | omega | (simp only [HasCnt.cnt,cntT,cntT_eq,cntL,cntL_append] at *;omega))) | refine LC.bind (O _ _ _ _ _) (fun _ _ _ _ _=>?_) | (exact LC.weak (O _ _ _ _ _) (by first | omega | (simp only [HasCnt.cnt,cntT,cntT_eq,cntL,cntL_append] at *;omega))) | refine LC.chk ?_ | refine LC.ite (fun _=>?_) (fun _=>?_) | (refine LC.pure (fun _ hx=>?_);obtain rfl:=cat_eq hx) | refine LC.pure (fun _ _=>?_)
  · intros
    simp only [ps_version.l1]
    repeat' first | (refine LC.ret (by first | omega | (simp only [HasCnt.cnt,cntT,cntT_eq,cntL,cntL_append] at *;omega))) | refine LC.bind (J _ _ _ _ _) (fun _ _ _ _ _=>?_) | (exact LC.weak (J _ _ _ _ _) (by first | omega | (simp only [HasCnt.cnt,cntT,cntT_eq,cntL,cntL_append] at *;omega))) | refine LC.may hl _ _ (fun _ _ _=>?_) ?_ | refine LC.bind (version_j1_lc hl _ _ _ _ _ _) (fun _ _ _ _ _=>?_) | (exact LC.weak (version_j1_lc hl _ _ _ _ _ _) (by first | omega | (simp only [HasCnt.cnt,cntT,cntT_eq,cntL,cntL_append] at *;omega))) | refine LC.chk ?_ | refine LC.ite (fun _=>?_) (fun _=>?_) | (refine LC.pure (fun _ hx=>?_);obtain rfl:=cat_eq hx) | refine LC.pure (fun _ _=>?_)
theorem version_l1_lc (hl:T.length≤16001) (k:Nat):∀ (n:Nat) (d:Int) (C:Tree) (D:ParK) (q:List Tree),LC T (2 * (n:Int) - (cntL q:Int)) n (ps_version.l1 k (none,C,D) (⟨T,(n:Int),d⟩:ParK) q):=(versions_lc hl k).2
theorem version_lc (hl:T.length≤16001) (k:Nat):∀ (n:Nat) (d:Int),LC T (2 * (n:Int)) n (ps_version k (⟨T,(n:Int),d⟩:ParK)):=by
 intros
 unfold ps_version
 repeat' first | (refine LC.ret (by first | omega | (simp only [HasCnt.cnt,cntT,cntT_eq,cntL,cntL_append] at *;omega))) | refine LC.want hl _ _ (fun _ _ _ _=>?_) | refine LC.bind (name_lc hl _ _ _ _) (fun _ _ _ _ _=>?_) | refine LC.bind (LC.up1 hl (by assumption) (F:=fun s=>ps_name _ s _) (fun n d=>name_lc hl _ _ _ _)) (fun _ _ _ _ _=>?_) | (exact LC.weak (name_lc hl _ _ _ _) (by first | omega | (simp only [HasCnt.cnt,cntT,cntT_eq,cntL,cntL_append] at *;omega))) | refine LC.bind (version_l1_lc hl _ _ _ _ _ _) (fun _ _ _ _ _=>?_) | (exact LC.weak (version_l1_lc hl _ _ _ _ _ _) (by first | omega | (simp only [HasCnt.cnt,cntT,cntT_eq,cntL,cntL_append] at *;omega))) | refine LC.chk ?_ | refine LC.ite (fun _=>?_) (fun _=>?_) | (refine LC.pure (fun _ hx=>?_);obtain rfl:=cat_eq hx) | refine LC.pure (fun _ _=>?_)
theorem program_j1_lc (hl:T.length≤16001) (k:Nat):∀ (n:Nat) (d:Int) (C:Tree) (D:ParK) (q:List Tree),LC T (2 * (n:Int) - (cntL q:Int)) n (ps_program.j1 k (none,C,D) (⟨T,(n:Int),d⟩:ParK) q):=by
 intros
 unfold ps_program.j1
 repeat' first | (refine LC.ret (by first | omega | (simp only [HasCnt.cnt,cntT,cntT_eq,cntL,cntL_append] at *;omega))) | refine LC.want hl _ _ (fun _ _ _ _=>?_) | refine LC.bind (wordNumber_lc hl _ _ _) (fun _ _ _ _ _=>?_) | (exact LC.weak (wordNumber_lc hl _ _ _) (by first | omega | (simp only [HasCnt.cnt,cntT,cntT_eq,cntL,cntL_append] at *;omega))) | refine LC.chk ?_ | refine LC.ite (fun _=>?_) (fun _=>?_) | (refine LC.pure (fun _ hx=>?_);obtain rfl:=cat_eq hx) | refine LC.pure (fun _ _=>?_)
theorem programs_lc (hl:T.length≤16001):∀ k:Nat,(∀ (n:Nat) (d:Int) (q:Tree) (C:ParK) (D:List Tree),LC T (2 * (n:Int) - (cntL D:Int)) n (ps_program.j2 k (none,q,C) D (⟨T,(n:Int),d⟩:ParK))) ∧
 (∀ (n:Nat) (d:Int) (q:Tree) (C:ParK) (E:List Tree),LC T (2 * (n:Int) - (cntL E:Int)) n (ps_program.l1 k (none,q,C) (⟨T,(n:Int),d⟩:ParK) E)):=by
 intro k
 induction k with
 | zero =>
  refine ⟨?_,?_⟩ <;> intros <;> simp only [ps_program.j2,ps_program.l1] <;> first | exact LC.nil | exact LB.nil
 | succ k ih =>
  obtain ⟨J,O⟩:=ih;refine ⟨?_,?_⟩
  · intros
    simp only [ps_program.j2]
    repeat' first | (refine LC.ret (by first | omega | (simp only [HasCnt.cnt,cntT,cntT_eq,cntL,cntL_append] at *;omega))) | refine LC.bind (version_lc hl _ _ _) (fun _ _ _ _ _=>?_) | (exact LC.weak (version_lc hl _ _ _) (by first | omega | (simp only [HasCnt.cnt,cntT,cntT_eq,cntL,cntL_append] at *;omega))) | refine LC.bind (O _ _ _ _ _) (fun _ _ _ _ _=>?_) | (exact LC.weak (O _ _ _ _ _) (by first | omega | (simp only [HasCnt.cnt,cntT,cntT_eq,cntL,cntL_append] at *;omega))) | refine LC.chk ?_ | refine LC.ite (fun _=>?_) (fun _=>?_) | (refine LC.pure (fun _ hx=>?_);obtain rfl:=cat_eq hx) | refine LC.pure (fun _ _=>?_)
  · intros
    simp only [ps_program.l1]
    repeat' first | (refine LC.ret (by first | omega | (simp only [HasCnt.cnt,cntT,cntT_eq,cntL,cntL_append] at *;omega))) | refine LC.bind (J _ _ _ _ _) (fun _ _ _ _ _=>?_) | (exact LC.weak (J _ _ _ _ _) (by first | omega | (simp only [HasCnt.cnt,cntT,cntT_eq,cntL,cntL_append] at *;omega))) | refine LC.may hl _ _ (fun _ _ _=>?_) ?_ | refine LC.bind (program_j1_lc hl _ _ _ _ _ _) (fun _ _ _ _ _=>?_) | (exact LC.weak (program_j1_lc hl _ _ _ _ _ _) (by first | omega | (simp only [HasCnt.cnt,cntT,cntT_eq,cntL,cntL_append] at *;omega))) | refine LC.chk ?_ | refine LC.ite (fun _=>?_) (fun _=>?_) | (refine LC.pure (fun _ hx=>?_);obtain rfl:=cat_eq hx) | refine LC.pure (fun _ _=>?_)
theorem program_l1_lc (hl:T.length≤16001) (k:Nat):∀ (n:Nat) (d:Int) (C:Tree) (D:ParK) (q:List Tree),LC T (2 * (n:Int) - (cntL q:Int)) n (ps_program.l1 k (none,C,D) (⟨T,(n:Int),d⟩:ParK) q):=(programs_lc hl k).2
theorem program_lc (hl:T.length≤16001) (k:Nat):∀ (n:Nat) (d:Int),LC T (2 * (n:Int)) n (ps_program k (⟨T,(n:Int),d⟩:ParK)):=by
 intros
 unfold ps_program
 repeat' first | (refine LC.ret (by first | omega | (simp only [HasCnt.cnt,cntT,cntT_eq,cntL,cntL_append] at *;omega))) | refine LC.bind (name_lc hl _ _ _ _) (fun _ _ _ _ _=>?_) | refine LC.bind (LC.up1 hl (by assumption) (F:=fun s=>ps_name _ s _) (fun n d=>name_lc hl _ _ _ _)) (fun _ _ _ _ _=>?_) | (exact LC.weak (name_lc hl _ _ _ _) (by first | omega | (simp only [HasCnt.cnt,cntT,cntT_eq,cntL,cntL_append] at *;omega))) | refine LC.want hl _ _ (fun _ _ _ _=>?_) | refine LC.bind (program_l1_lc hl _ _ _ _ _ _) (fun _ _ _ _ _=>?_) | (exact LC.weak (program_l1_lc hl _ _ _ _ _ _) (by first | omega | (simp only [HasCnt.cnt,cntT,cntT_eq,cntL,cntL_append] at *;omega))) | refine LC.chk ?_ | refine LC.ite (fun _=>?_) (fun _=>?_) | (refine LC.pure (fun _ hx=>?_);obtain rfl:=cat_eq hx) | refine LC.pure (fun _ _=>?_)
theorem definition_j1_lc (hl:T.length≤16001) (k:Nat):∀ (n:Nat) (d:Int) (q:Token) (C:Bool),LC T (2 * (n:Int)) n (ps_definition.j1 k q (C,(⟨T,(n:Int),d⟩:ParK))):=by
 intros
 unfold ps_definition.j1
 repeat' first | (refine LC.ret (by first | omega | (simp only [HasCnt.cnt,cntT,cntT_eq,cntL,cntL_append] at *;omega))) | refine LC.bind (declaration_lc hl _ _ _) (fun _ _ _ _ _=>?_) | (exact LC.weak (declaration_lc hl _ _ _) (by first | omega | (simp only [HasCnt.cnt,cntT,cntT_eq,cntL,cntL_append] at *;omega))) | refine LC.want hl _ _ (fun _ _ _ _=>?_) | refine LC.chk ?_ | refine LC.ite (fun _=>?_) (fun _=>?_) | (refine LC.pure (fun _ hx=>?_);obtain rfl:=cat_eq hx) | refine LC.pure (fun _ _=>?_)
theorem definition_lc (hl:T.length≤16001) (k:Nat):∀ (n:Nat) (d:Int),LC T (2 * (n:Int)) n (ps_definition k (⟨T,(n:Int),d⟩:ParK)):=by
 intros
 unfold ps_definition
 repeat' first | (refine LC.ret (by first | omega | (simp only [HasCnt.cnt,cntT,cntT_eq,cntL,cntL_append] at *;omega))) | refine LC.may hl _ _ (fun _ _ _=>?_) ?_ | refine LC.bind (name_lc hl _ _ _ _) (fun _ _ _ _ _=>?_) | refine LC.bind (LC.up1 hl (by assumption) (F:=fun s=>ps_name _ s _) (fun n d=>name_lc hl _ _ _ _)) (fun _ _ _ _ _=>?_) | (exact LC.weak (name_lc hl _ _ _ _) (by first | omega | (simp only [HasCnt.cnt,cntT,cntT_eq,cntL,cntL_append] at *;omega))) | refine LC.want hl _ _ (fun _ _ _ _=>?_) | refine LC.bind (number_lc hl _ _ _) (fun _ _ _ _ _=>?_) | (exact LC.weak (number_lc hl _ _ _) (by first | omega | (simp only [HasCnt.cnt,cntT,cntT_eq,cntL,cntL_append] at *;omega))) | refine LC.bind (definition_j1_lc hl _ _ _ _ _) (fun _ _ _ _ _=>?_) | (exact LC.weak (definition_j1_lc hl _ _ _ _ _) (by first | omega | (simp only [HasCnt.cnt,cntT,cntT_eq,cntL,cntL_append] at *;omega))) | refine LC.bind (program_lc hl _ _ _) (fun _ _ _ _ _=>?_) | (exact LC.weak (program_lc hl _ _ _) (by first | omega | (simp only [HasCnt.cnt,cntT,cntT_eq,cntL,cntL_append] at *;omega))) | refine LC.bind4 (body_lc hl _ _ _ _) (fun _ _ _ _ _ _=>?_) | refine LC.bind4 (LB.up1 hl (by assumption) (F:=fun s=>ps_body _ s _) (fun n d=>body_lc hl _ _ _ _)) (fun _ _ _ _ _ _=>?_) | exact LC.give | refine LC.chk ?_ | refine LC.ite (fun _=>?_) (fun _=>?_) | (refine LC.pure (fun _ ht=>?_);have hn_:=(token_rd (twoT hl) _ _ ht).2.1) | (refine LC.pure (fun _ hx=>?_);obtain rfl:=cat_eq hx) | refine LC.pure (fun _ _=>?_)
theorem sources_lc (hl:T.length≤16001):∀ k:Nat,(∀ (n:Nat) (d:Int) (q:List Tree),LC T (2 * (n:Int) - (cntL q:Int) - 1) n (ps_source.j1 k (⟨T,(n:Int),d⟩:ParK) q)) ∧
 (∀ (n:Nat) (d:Int) (q:List Tree),LC T (2 * (n:Int) - (cntL q:Int) - 1) n (ps_source.l1 k (⟨T,(n:Int),d⟩:ParK) q)):=by
 intro k
 induction k with
 | zero =>
  refine ⟨?_,?_⟩ <;> intros <;> simp only [ps_source.j1,ps_source.l1] <;> first | exact LC.nil | exact LB.nil
 | succ k ih =>
  obtain ⟨C,D⟩:=ih;refine ⟨?_,?_⟩
  · intros
    simp only [ps_source.j1]
    repeat' first | (refine LC.ret (by first | omega | (simp only [HasCnt.cnt,cntT,cntT_eq,cntL,cntL_append] at *;omega))) | refine LC.bind (definition_lc hl _ _ _) (fun _ _ _ _ _=>?_) | (exact LC.weak (definition_lc hl _ _ _) (by first | omega | (simp only [HasCnt.cnt,cntT,cntT_eq,cntL,cntL_append] at *;omega))) | refine LC.bind (D _ _ _) (fun _ _ _ _ _=>?_) | (exact LC.weak (D _ _ _) (by first | omega | (simp only [HasCnt.cnt,cntT,cntT_eq,cntL,cntL_append] at *;omega))) | refine LC.chk ?_ | refine LC.ite (fun _=>?_) (fun _=>?_) | (refine LC.pure (fun _ hx=>?_);obtain rfl:=cat_eq hx) | refine LC.pure (fun _ _=>?_)
  · intros
    simp only [ps_source.l1]
    repeat' first | (refine LC.ret (by first | omega | (simp only [HasCnt.cnt,cntT,cntT_eq,cntL,cntL_append] at *;omega))) | refine LC.bind (C _ _ _) (fun _ _ _ _ _=>?_) | (exact LC.weak (C _ _ _) (by first | omega | (simp only [HasCnt.cnt,cntT,cntT_eq,cntL,cntL_append] at *;omega))) | refine LC.chk ?_ | refine LC.ite (fun _=>?_) (fun _=>?_) | (refine LC.pure (fun _ ht=>?_);have hn_:=(token_rd (twoT hl) _ _ ht).2.1) | (refine LC.pure (fun _ hx=>?_);obtain rfl:=cat_eq hx) | refine LC.pure (fun _ _=>?_)
theorem source_l1_lc (hl:T.length≤16001) (k:Nat):∀ (n:Nat) (d:Int) (q:List Tree),LC T (2 * (n:Int) - (cntL q:Int) - 1) n (ps_source.l1 k (⟨T,(n:Int),d⟩:ParK) q):=(sources_lc hl k).2
theorem source_lc (hl:T.length≤16001) (k:Nat):∀ (n:Nat) (d:Int),LC T (2 * (n:Int) - 1) n (ps_source k (⟨T,(n:Int),d⟩:ParK)):=by
 intros
 unfold ps_source
 repeat' first | (refine LC.ret (by first | omega | (simp only [HasCnt.cnt,cntT,cntT_eq,cntL,cntL_append] at *;omega))) | refine LC.bind (source_l1_lc hl _ _ _ _) (fun _ _ _ _ _=>?_) | (exact LC.weak (source_l1_lc hl _ _ _ _) (by first | omega | (simp only [HasCnt.cnt,cntT,cntT_eq,cntL,cntL_append] at *;omega))) | refine LC.chk ?_ | refine LC.ite (fun _=>?_) (fun _=>?_) | (refine LC.pure (fun _ hx=>?_);obtain rfl:=cat_eq hx) | refine LC.pure (fun _ _=>?_)
end
end Go.Proofs.YtnhifhlbelogcaaGreatDoor
