/- The shapes of trees that are read: words. -/
import Derived.Test.YtnhifhlbelogcaaGreatDoorYPA
set_option linter.unusedVariables false
set_option linter.unusedSimpArgs false
set_option linter.unusedSectionVars false
namespace Go.Proofs.YtnhifhlbelogcaaGreatDoor
open Go Go.Eng
variable {T:List Token} {n d:Int} {α β:Type}
abbrev N40 (x:Int):Prop:=-1099511627776 < x∧x≤1099511627776
def All (P:Tree→Prop) (l:List Tree):Prop:=∀ t∈l,P t
theorem All.nil {P:Tree→Prop}:All P []:=fun t h=>nomatch h
theorem All.cons {P:Tree→Prop} {t:Tree} {l:List Tree} (h:P t) (hl:All P l):All P (t::l):=fun u hu=>by
 rcases List.mem_cons.1 hu with rfl | hu
 · exact h
 · exact hl u hu
theorem All.snoc {P:Tree→Prop} {t:Tree} {l:List Tree} (hl:All P l) (h:P t):All P (l++[t]):=fun u hu=>by
 rcases List.mem_append.1 hu with hu | hu
 · exact hl u hu
 · rw [List.mem_singleton] at hu;rw [hu];exact h
inductive Val:Tree→Prop where
 | ref {c:UInt8} {s:By} {a:Int}:Val ⟨27,c::s,0,a,[]⟩
 | num {x a:Int}:N40 x→Val ⟨28,[],x,a,[]⟩
inductive Mem:Tree→Prop where
 | mk {c:UInt8} {s:By} {a:Int} {v:Tree}:Val v→Mem ⟨5,c::s,0,a,[v]⟩
inductive Sh:Nat→Tree→Prop where
 | ref {c:UInt8} {s:By} {a:Int}:Sh 0 ⟨27,c::s,0,a,[]⟩
 | leaf {K a:Int}:(K=13∨K=18∨K=19∨K=20∨K=21∨K=22∨K=23∨K=24∨K=25∨K=26)→Sh 0 ⟨K,[],0,a,[]⟩
 | enum {a:Int} {l:List Tree}:l≠[]→(∀ t∈l,Mem t)→Sh 0 ⟨4,[],0,a,l⟩
 | struct {a:Int} {l:List Tree}:(∀ t∈l,Sh 1 t)→Sh 0 ⟨6,[],0,a,l⟩
 | union {a:Int} {t:Tree} {l:List Tree}:Sh 1 t→(∀ t∈l,Sh 2 t)→Sh 0 ⟨7,[],0,a,t::l⟩
 | void {a:Int}:Sh 1 ⟨13,[],0,a,[]⟩
 | plain {c:UInt8} {s:By} {a:Int} {t:Tree}:Sh 0 t→Sh 1 ⟨14,c::s,0,a,[t]⟩
 | fixed {c:UInt8} {s:By} {a:Int} {t v:Tree}:Sh 0 t→Val v→Sh 1 ⟨15,c::s,0,a,[t,v]⟩
 | lsa {c:UInt8} {s:By} {a:Int} {t:Tree}:Sh 0 t→Sh 1 ⟨16,c::s,0,a,[t]⟩
 | lsb {c:UInt8} {s:By} {a:Int} {t v:Tree}:Sh 0 t→Val v→Sh 1 ⟨16,c::s,0,a,[t,v]⟩
 | maybe {c:UInt8} {s:By} {a:Int} {t:Tree}:Sh 0 t→Sh 1 ⟨17,c::s,0,a,[t]⟩
 | case {a:Int} {l:List Tree} {t:Tree}:(∀ t∈l,Val t)→Sh 1 t→Sh 2 ⟨8,[],0,a,l++[t]⟩
 | els {a:Int} {t:Tree}:Sh 1 t→Sh 2 ⟨9,[],0,a,[t]⟩
def MemL (l:List Tree):Prop:=l≠[]∧All Mem l
def Cho (l:List Tree):Prop:=∃ t m,l=t::m∧Sh 1 t∧All (Sh 2) m
def ArmL (l:List Tree):Prop:=∃ m t,l=m++[t]∧All Val m∧Sh 1 t
def Bod (i:Int) (l:List Tree):Prop:=(i=4∧MemL l)∨(i=6∧All (Sh 1) l)∨(i=7∧Cho l)
inductive Proc:Tree→Prop where
 | mk {c:UInt8} {s:By} {a:Int} {v r:Tree} {l:List Tree}:Val v→Sh 0 r→All (Sh 0) l→Proc ⟨12,c::s,0,a,v::r::l⟩
inductive Ver:Tree→Prop where
 | mk {c:UInt8} {s:By} {a:Int} {v:Tree} {l:List Tree}:Val v→All Proc l→Ver ⟨11,c::s,0,a,v::l⟩
inductive Prg:Tree→Prop where
 | mk {c:UInt8} {s:By} {a:Int} {v:Tree} {l:List Tree}:Val v→All Ver l→Prg ⟨10,c::s,0,a,v::l⟩
inductive Dfn:Tree→Prop where
 | const {c:UInt8} {s:By} {a:Int} {v:Tree}:Val v→Dfn ⟨2,c::s,0,a,[v]⟩
 | typedef {a:Int} {t:Tree}:Sh 1 t→Dfn ⟨3,[],0,a,[t]⟩
 | body {i a:Int} {c:UInt8} {s:By} {l:List Tree}:Bod i l→Dfn ⟨i,c::s,0,a,l⟩
 | prog {t:Tree}:Prg t→Dfn t
inductive Src:Tree→Prop where
 | mk {l:List Tree}:All Dfn l→Src ⟨1,[],0,0,l⟩
theorem MemL.snoc {l:List Tree} {t:Tree} (h:All Mem l) (ht:Mem t):MemL (l++[t]):=⟨by simp,h.snoc ht⟩
theorem Cho.one {t:Tree} (h:Sh 1 t):Cho [t]:=⟨t,[],rfl,h,All.nil⟩
theorem Cho.snoc {l:List Tree} {t:Tree} (h:Cho l) (ht:Sh 2 t):Cho (l++[t]):=by
 obtain ⟨u,m,rfl,q,C⟩:=h;exact ⟨u,m++[t],rfl,q,C.snoc ht⟩
theorem ArmL.mk {l:List Tree} {t:Tree} (h:All Val l) (ht:Sh 1 t):ArmL (l++[t]):=⟨l,t,rfl,h,ht⟩
theorem ArmL.sh {l:List Tree} {a:Int} (h:ArmL l):Sh 2 ⟨8,[],0,a,l⟩:=by
 obtain ⟨m,t,rfl,q,C⟩:=h;exact .case q C
theorem Bod.sh {i a:Int} {l:List Tree} (h:Bod i l):Sh 0 ⟨i,[],0,a,l⟩:=by
 rcases h with ⟨rfl,q,C⟩|⟨rfl,h⟩|⟨rfl,t,m,rfl,q,C⟩
 · exact .enum q C
 · exact .struct h
 · exact .union q C
def SP (T:List Token) (P:α→Prop) (A:Option (OV×α×ParK)):Prop:=∀ v p,A=some (none,v,p)→P v∧∃ n d:Int,p=⟨T,n,d⟩
def SB (T:List Token) (A:Option (OV×Int×List Tree×ParK)):Prop:=∀ i v p,A=some (none,i,v,p)→Bod i v∧∃ n d:Int,p=⟨T,n,d⟩
section
variable {P:α→Prop}
theorem SP.nil:SP (α:=α) T P none:=fun v p h=>nomatch h
theorem SB.nil:SB T none:=fun i v p h=>nomatch h
theorem SP.ret {v:α} (h:P v):SP T P (some (none,v,(⟨T,n,d⟩:ParK))):=fun v' p hp=>by
 cases hp
 exact ⟨h,n,d,rfl⟩
theorem SP.ite {c:Prop} [Decidable c] {A B:Option (OV×α×ParK)} (q:SP T P A) (C:SP T P B):SP T P (if c then A else B):=by
 by_cases h:c
 · rw [if_pos h];exact q
 · rw [if_neg h];exact C
theorem SP.pure {γ:Type} {A:Option γ} {G:γ→Option (OV×α×ParK)} (hg:∀ x,A=some x→SP T P (G x)):SP T P (Option.bind A G):=by
 cases A with
 | none=>exact SP.nil
 | some x=>exact hg x rfl
theorem SP.chk {A:Option OV} {zz:OV→α} {pp:OV→ParK} {G:OV→Option (OV×α×ParK)} (hg:SP T P (G none)):SP T P (Option.bind A fun t=>if t.isSome=true then some (t,zz t,pp t) else G t):=by
 refine SP.pure fun x hx=>?_
 cases x with
 | none=>rw [if_neg (by simp)];exact hg
 | some f=>rw [if_pos (by simp)];exact fun v p h=>nomatch (congrArg Prod.fst (Option.some.inj h))
theorem SP.bind {Q:β→Prop} {A:Option (OV×β×ParK)} {zz:(OV×β×ParK)→α} {pp:(OV×β×ParK)→ParK} {G:(OV×β×ParK)→Option (OV×α×ParK)} (h:SP T Q A)
 (hg:∀ v (n d:Int),Q v→SP T P (G (none,v,⟨T,n,d⟩))):SP T P (Option.bind A fun t=>if t.1.isSome=true then some (t.1,zz t,pp t) else G t):=by
 refine SP.pure fun x hx=>?_
 obtain ⟨f,v,p⟩:=x;cases f with
 | some f=>rw [if_pos (by simp)];exact fun v p h=>nomatch (congrArg Prod.fst (Option.some.inj h))
 | none =>
  rw [if_neg (by simp)];obtain ⟨hq,n,d,rfl⟩:=h v p hx;exact hg v n d hq
theorem SP.body {A:Option (OV×Int×List Tree×ParK)} {zz:(OV×Int×List Tree×ParK)→α} {pp:(OV×Int×List Tree×ParK)→ParK} {G:(OV×Int×List Tree×ParK)→Option (OV×α×ParK)} (h:SB T A)
 (hg:∀ i v (n d:Int),Bod i v→SP T P (G (none,i,v,⟨T,n,d⟩))):SP T P (Option.bind A fun t=>if t.1.isSome=true then some (t.1,zz t,pp t) else G t):=by
 refine SP.pure fun x hx=>?_
 obtain ⟨f,i,v,p⟩:=x;cases f with
 | some f=>rw [if_pos (by simp)];exact fun v p h=>nomatch (congrArg Prod.fst (Option.some.inj h))
 | none =>
  rw [if_neg (by simp)];obtain ⟨hq,n,d,rfl⟩:=h i v p hx;exact hg i v n d hq
theorem SP.give {k:Nat} {s:ParK} {e:Int} {zz:OV→α} {pp:OV→ParK} {G:OV→Option (OV×α×ParK)}:SP T P (Option.bind (ps_give k s e) fun t=>if t.isSome=true then some (t,zz t,pp t) else G t):=by
 refine SP.pure fun x hx=>?_
 unfold ps_give at hx;obtain ⟨t,_,hx⟩:=Option.bind_eq_some_iff.1 hx;cases hx;rw [if_pos (by simp)];exact fun v p h=>nomatch (congrArg Prod.fst (Option.some.inj h))
theorem SP.may (s:By) {k:Nat} {G:(Bool×ParK)→Option (OV×α×ParK)} (h:∀ b (n d:Int),SP T P (G (b,⟨T,n,d⟩))):SP T P (Option.bind (ps_may k (⟨T,n,d⟩:ParK) s) G):=by
 refine SP.pure fun x hx=>?_
 unfold ps_may at hx;obtain ⟨b,hb,hx⟩:=Option.bind_eq_some_iff.1 hx
 split at hx
 · cases hx;exact h _ _ _
 · cases hx;exact h _ _ _
end
theorem SB.ite {c:Prop} [Decidable c] {A B:Option (OV×Int×List Tree×ParK)} (q:SB T A) (C:SB T B):SB T (if c then A else B):=by
 by_cases h:c
 · rw [if_pos h];exact q
 · rw [if_neg h];exact C
theorem SB.bind {P:List Tree→Prop} {A:Option (OV×List Tree×ParK)} {i:Int} {g:Int→Int} {zz:(OV×List Tree×ParK)→Int×List Tree×ParK} (h:SP T P A) (hi:∀ v,P v→Bod i v) :
 SB T (Option.bind A fun t=>if t.1.isSome=true then some (t.1,zz t) else some (none,i,t.2.1,(⟨t.2.2.tokens,t.2.2.next,g t.2.2.deep⟩:ParK))):=fun j v p hp=>by
 obtain ⟨x,hx,hG⟩:=Option.bind_eq_some_iff.1 hp;obtain ⟨f,v',p'⟩:=x;cases f with
 | some f=>rw [if_pos (by simp)] at hG;exact nomatch (congrArg Prod.fst (Option.some.inj hG))
 | none =>
  rw [if_neg (by simp)] at hG;obtain ⟨hq,n',d',rfl⟩:=h v' p' hx;cases hG;exact ⟨hi _ hq,_,_,rfl⟩
def TK (T:List Token):Prop:=∀ t∈T,(t.Kind=1→t.Text≠[])∧(t.Kind=3→N40 t.Number)
theorem want_sp (k:Nat) (n d:Int) (s:By):SP T (fun _=>True) (ps_want k (⟨T,n,d⟩:ParK) s):=fun v p h=>by
 refine ⟨trivial,?_⟩;have hj:ps_want.j1 k (⟨T,n,d⟩:ParK)=some (none,v,p)→∃ n d:Int,p=⟨T,n,d⟩:=fun h=>by
  unfold ps_want.j1 at h;obtain ⟨x,hx,h⟩:=Option.bind_eq_some_iff.1 h;cases h;exact ⟨_,_,rfl⟩
 unfold ps_want at h;obtain ⟨b,hb,h⟩:=Option.bind_eq_some_iff.1 h
 split at h
 · exact hj h
 · obtain ⟨f,hf,h⟩:=Option.bind_eq_some_iff.1 h
   cases f with
   | none=>rw [if_neg (by simp)] at h;exact hj h
   | some f=>rw [if_pos (by simp)] at h;exact nomatch (congrArg Prod.fst (Option.some.inj h))
theorem kind_sp (k:Nat) (n d:Int) (q:Int):SP T (fun t=>t∈T∧t.Kind=q) (ps_kind k (⟨T,n,d⟩:ParK) q):=fun v p h=>by
 unfold ps_kind at h;obtain ⟨t,ht,h⟩:=Option.bind_eq_some_iff.1 h;have hm:t∈T:=by
  unfold ps_token at ht;obtain ⟨y,hy,ht⟩:=Option.bind_eq_some_iff.1 ht;cases ht;obtain ⟨j,_,e,_⟩:=idx_spec hy;exact List.mem_of_getElem? e
 by_cases hq:t.Kind=q
 · rw [if_pos hq] at h
   unfold ps_kind.j1 at h;cases h;exact ⟨⟨hm,hq⟩,_,_,rfl⟩
 · rw [if_neg hq] at h
   obtain ⟨f,hf,h⟩:=Option.bind_eq_some_iff.1 h;unfold ps_give at hf;obtain ⟨u,_,hf⟩:=Option.bind_eq_some_iff.1 hf;cases hf;rw [if_pos (by simp)] at h;exact nomatch (congrArg Prod.fst (Option.some.inj h))
def Nam (K:Int) (v:Tree):Prop:=∃ c s a,v=⟨K,c::s,0,a,[]⟩
theorem name_sp (hT:TK T) (k:Nat) (n d:Int) (K:Int):SP T (Nam K) (ps_name k (⟨T,n,d⟩:ParK) K):=fun v p h=>by
 unfold ps_name at h;obtain ⟨⟨f,t,q⟩,hk,h⟩:=Option.bind_eq_some_iff.1 h;cases f with
 | some f=>rw [if_pos (by simp)] at h;exact nomatch (congrArg Prod.fst (Option.some.inj h))
 | none =>
  rw [if_neg (by simp)] at h;cases h;obtain ⟨⟨C,D⟩,n',d',rfl⟩:=kind_sp k n d 1 _ _ hk;refine ⟨?_,_,_,rfl⟩;have:=(hT t C).1 D
  show Nam K ⟨K,t.Text,0,t.At,[]⟩
  cases hx:t.Text with
  | nil=>exact absurd hx this
  | cons c s=>exact ⟨c,s,_,rfl⟩
theorem number_sp (hT:TK T) (k:Nat) (n d:Int):SP T Val (ps_number k (⟨T,n,d⟩:ParK)):=fun v p h=>by
 unfold ps_number at h;obtain ⟨⟨f,t,q⟩,hk,h⟩:=Option.bind_eq_some_iff.1 h;cases f with
 | some f=>rw [if_pos (by simp)] at h;exact nomatch (congrArg Prod.fst (Option.some.inj h))
 | none =>
  rw [if_neg (by simp)] at h;cases h;obtain ⟨⟨C,D⟩,n',d',rfl⟩:=kind_sp k n d 3 _ _ hk;exact ⟨.num ((hT t C).2 D),_,_,rfl⟩
theorem SP.name {P:α→Prop} (hT:TK T) {k:Nat} (K:Int) {zz:(OV×Tree×ParK)→α} {pp:(OV×Tree×ParK)→ParK} {G:(OV×Tree×ParK)→Option (OV×α×ParK)}
 (hg:∀ c s a (n d:Int),SP T P (G (none,⟨K,c::s,0,a,[]⟩,⟨T,n,d⟩))):SP T P (Option.bind (ps_name k (⟨T,n,d⟩:ParK) K) fun t=>if t.1.isSome=true then some (t.1,zz t,pp t) else G t) :=
 SP.bind (name_sp hT k n d K) fun v n d ⟨c,s,a,e⟩=>by subst e;exact hg c s a n d
end Go.Proofs.YtnhifhlbelogcaaGreatDoor
set_option linter.unusedVariables false
set_option linter.unusedSimpArgs false
set_option maxHeartbeats 2000000
namespace Go.Proofs.YtnhifhlbelogcaaGreatDoor
open Go Go.Eng
variable {T:List Token}
theorem cat_eq {α:Type} {n:Nat} {L M N:List α} (h:catN n L M=some N):N=L++M:=(cat_spec h).2
theorem Sh.eta {v:Tree} (h:Sh 0 v):Sh 0 ⟨v.Kind,v.Name,v.Number,v.At,v.Kids⟩:=by cases v;exact h
theorem wordNumber_sp (hT:TK T) (k:Nat):∀ (n d:Int),SP T Val (ps_wordNumber k (⟨T,n,d⟩:ParK)):=by
 intros
 unfold ps_wordNumber
 repeat' first | exact SP.ret (by first | assumption | exact .ref) | refine SP.bind (number_sp hT _ _ _) (fun _ _ _ _=>?_) | exact SP.give | refine SP.chk ?_ | refine SP.ite ?_ ?_ | (refine SP.pure (fun _ hx=>?_);obtain rfl:=cat_eq hx) | refine SP.pure (fun _ _=>?_)
theorem value_sp (hT:TK T) (k:Nat):∀ (n d:Int),SP T Val (ps_value k (⟨T,n,d⟩:ParK)):=by
 intros
 unfold ps_value
 repeat' first | exact SP.ret (by first | assumption | exact .ref) | refine SP.name hT _ (fun _ _ _ _ _=>?_) | refine SP.bind (number_sp hT _ _ _) (fun _ _ _ _=>?_) | refine SP.chk ?_ | refine SP.ite ?_ ?_ | (refine SP.pure (fun _ hx=>?_);obtain rfl:=cat_eq hx) | refine SP.pure (fun _ _=>?_)
theorem bare_sp (hT:TK T) (k:Nat):∀ (n d:Int),SP T (Sh 0) (ps_bare k (⟨T,n,d⟩:ParK)):=by
 intros
 unfold ps_bare
 repeat' first | exact SP.ret (by first | assumption | exact .ref | exact .leaf (by decide) | exact Bod.sh (by assumption) | exact Sh.eta (by assumption)) | refine SP.name hT _ (fun _ _ _ _ _=>?_) | refine SP.may _ (fun _ _ _=>?_) | refine SP.bind (want_sp _ _ _ _) (fun _ _ _ _=>?_) | exact SP.give | refine SP.chk ?_ | refine SP.ite ?_ ?_ | (refine SP.pure (fun _ hx=>?_);obtain rfl:=cat_eq hx) | refine SP.pure (fun _ _=>?_)
theorem members_l1_sp (hT:TK T):∀ k:Nat,∀ (n d:Int) (l:List Tree) (h:All Mem l),SP T MemL (ps_members.l1 k (⟨T,n,d⟩:ParK) l):=by
 intro k
 induction k with
 | zero=>intros;simp only [ps_members.l1];exact SP.nil
 | succ k q =>
  intros
  simp only [ps_members.l1]
  repeat' first | exact SP.ret (by first | assumption | exact MemL.snoc (by assumption) (.mk (by assumption))) | refine SP.name hT _ (fun _ _ _ _ _=>?_) | refine SP.bind (want_sp _ _ _ _) (fun _ _ _ _=>?_) | refine SP.bind (value_sp hT _ _ _) (fun _ _ _ _=>?_) | exact value_sp hT _ _ _ | refine SP.may _ (fun _ _ _=>?_) | refine SP.bind (q _ _ _ (by first | assumption | exact All.snoc (by assumption) (.mk (by assumption)) | exact All.nil)) (fun _ _ _ _=>?_) | exact q _ _ _ (by first | assumption | exact All.snoc (by assumption) (.mk (by assumption)) | exact All.nil) | refine SP.chk ?_ | refine SP.ite ?_ ?_ | (refine SP.pure (fun _ hx=>?_);obtain rfl:=cat_eq hx) | refine SP.pure (fun _ _=>?_)
theorem members_sp (hT:TK T) (k:Nat):∀ (n d:Int),SP T MemL (ps_members k (⟨T,n,d⟩:ParK)):=by
 intros
 unfold ps_members
 repeat' first | exact SP.ret (by first | assumption | exact MemL.snoc (by assumption) (.mk (by assumption))) | refine SP.bind (want_sp _ _ _ _) (fun _ _ _ _=>?_) | refine SP.bind (members_l1_sp hT _ _ _ _ (by first | assumption | exact All.snoc (by assumption) (.mk (by assumption)) | exact All.nil)) (fun _ _ _ _=>?_) | exact members_l1_sp hT _ _ _ _ (by first | assumption | exact All.snoc (by assumption) (.mk (by assumption)) | exact All.nil) | refine SP.chk ?_ | refine SP.ite ?_ ?_ | (refine SP.pure (fun _ hx=>?_);obtain rfl:=cat_eq hx) | refine SP.pure (fun _ _=>?_)
theorem listed_j1_sp (hT:TK T) (k:Nat):∀ (n d:Int) (c:UInt8) (s:By) (a:Int) (x:Int) (t:Tree) (h:Sh 0 t),SP T (Sh 1) (ps_listed.j1 k (⟨14,c::s,0,a,[]⟩:Tree) (none,x,(⟨T,n,d⟩:ParK)) [t]):=by
 intros
 unfold ps_listed.j1
 repeat' first | exact SP.ret (by first | assumption | exact .void | exact .plain (by assumption) | exact .maybe (by assumption) | exact .fixed (by assumption) (by assumption) | exact .lsa (by assumption) | exact .lsb (by assumption) (by assumption)) | refine SP.bind (want_sp _ _ _ _) (fun _ _ _ _=>?_) | refine SP.bind (value_sp hT _ _ _) (fun _ _ _ _=>?_) | exact value_sp hT _ _ _ | refine SP.chk ?_ | refine SP.ite ?_ ?_ | (refine SP.pure (fun _ hx=>?_);obtain rfl:=cat_eq hx) | refine SP.pure (fun _ _=>?_)
theorem listed_sp (hT:TK T) (k:Nat):∀ (n d:Int) (c:UInt8) (s:By) (a:Int) (t:Tree) (h:Sh 0 t),SP T (Sh 1) (ps_listed k (⟨T,n,d⟩:ParK) (⟨14,c::s,0,a,[]⟩:Tree) t):=by
 intros
 unfold ps_listed
 repeat' first | exact SP.ret (by first | assumption | exact .void | exact .plain (by assumption) | exact .maybe (by assumption) | exact .fixed (by assumption) (by assumption) | exact .lsa (by assumption) | exact .lsb (by assumption) (by assumption)) | refine SP.bind (want_sp _ _ _ _) (fun _ _ _ _=>?_) | refine SP.bind (listed_j1_sp hT _ _ _ _ _ _ _ _ (by first | assumption | exact .leaf (by decide) | exact Sh.eta (by assumption))) (fun _ _ _ _=>?_) | exact listed_j1_sp hT _ _ _ _ _ _ _ _ (by first | assumption | exact .leaf (by decide) | exact Sh.eta (by assumption)) | refine SP.chk ?_ | refine SP.ite ?_ ?_ | (refine SP.pure (fun _ hx=>?_);obtain rfl:=cat_eq hx) | refine SP.pure (fun _ _=>?_)
theorem fixed_sp (hT:TK T) (k:Nat):∀ (n d:Int) (c:UInt8) (s:By) (a:Int) (t:Tree) (h:Sh 0 t),SP T (Sh 1) (ps_fixed k (⟨T,n,d⟩:ParK) (⟨14,c::s,0,a,[]⟩:Tree) t):=by
 intros
 unfold ps_fixed
 repeat' first | exact SP.ret (by first | assumption | exact .void | exact .plain (by assumption) | exact .maybe (by assumption) | exact .fixed (by assumption) (by assumption) | exact .lsa (by assumption) | exact .lsb (by assumption) (by assumption)) | refine SP.bind (want_sp _ _ _ _) (fun _ _ _ _=>?_) | refine SP.bind (value_sp hT _ _ _) (fun _ _ _ _=>?_) | exact value_sp hT _ _ _ | refine SP.bind (fixed_j1_sp hT _ _ _ _ _ _ _ _ (by first | assumption | exact .leaf (by decide) | exact Sh.eta (by assumption)) (by assumption)) (fun _ _ _ _=>?_) | exact fixed_j1_sp hT _ _ _ _ _ _ _ _ (by first | assumption | exact .leaf (by decide) | exact Sh.eta (by assumption)) (by assumption) | refine SP.chk ?_ | refine SP.ite ?_ ?_ | (refine SP.pure (fun _ hx=>?_);obtain rfl:=cat_eq hx) | refine SP.pure (fun _ _=>?_)
theorem group_sp (hT:TK T):∀ k:Nat,(∀ (n d:Int),SP T (Sh 1) (ps_declaration k (⟨T,n,d⟩:ParK))) ∧
 (∀ (n d:Int),SP T (Sh 0) (ps_typ k (⟨T,n,d⟩:ParK))) ∧
 (∀ (n d:Int) (a:By),SB T (ps_body k (⟨T,n,d⟩:ParK) a)) ∧
 (∀ (n d:Int) (l:List Tree) (h:All (Sh 1) l),SP T (All (Sh 1)) (ps_fields.j2 k l (⟨T,n,d⟩:ParK))) ∧
 (∀ (n d:Int) (l:List Tree) (h:All (Sh 1) l),SP T (All (Sh 1)) (ps_fields.j1 k l (⟨T,n,d⟩:ParK))) ∧
 (∀ (n d:Int) (l:List Tree) (h:All (Sh 1) l),SP T (All (Sh 1)) (ps_fields.l1 k (⟨T,n,d⟩:ParK) l)) ∧
 (∀ (n d:Int),SP T (All (Sh 1)) (ps_fields k (⟨T,n,d⟩:ParK))) ∧
 (∀ (n d:Int) (l:List Tree) (h:Cho l),SP T Cho (ps_choice.j1 k (⟨T,n,d⟩:ParK) l)) ∧
 (∀ (n d:Int) (l:List Tree) (h:Cho l),SP T Cho (ps_choice.j2 k (⟨T,n,d⟩:ParK) l)) ∧
 (∀ (n d:Int) (l:List Tree) (h:Cho l),SP T Cho (ps_choice.l1 k (⟨T,n,d⟩:ParK) l)) ∧
 (∀ (n d:Int),SP T Cho (ps_choice k (⟨T,n,d⟩:ParK))) ∧
 (∀ (n d:Int) (t:Token) (l:List Tree) (h:ArmL l),SP T (Sh 2) (ps_arm.j4 k t (⟨T,n,d⟩:ParK) l)) ∧
 (∀ (n d:Int) (t:Token) (l:List Tree) (h:All Val l),SP T (Sh 2) (ps_arm.j1 k t (⟨T,n,d⟩:ParK) l)) ∧
 (∀ (n d:Int) (t:Token) (l:List Tree) (h:All Val l),SP T (Sh 2) (ps_arm.j3 k t (⟨T,n,d⟩:ParK) l)) ∧
 (∀ (n d:Int) (t:Token) (l:List Tree) (h:All Val l),SP T (Sh 2) (ps_arm.j2 k t (⟨T,n,d⟩:ParK) l)) ∧
 (∀ (n d:Int) (t:Token) (l:List Tree) (h:All Val l),SP T (Sh 2) (ps_arm.l1 k t (⟨T,n,d⟩:ParK) l)) ∧
 (∀ (n d:Int),SP T (Sh 2) (ps_arm k (⟨T,n,d⟩:ParK))):=by
 intro k
 induction k with
 | zero =>
  refine ⟨?_,?_,?_,?_,?_,?_,?_,?_,?_,?_,?_,?_,?_,?_,?_,?_,?_⟩ <;> intros <;> simp only [ps_declaration,ps_typ,ps_body,ps_fields.j2,ps_fields.j1,ps_fields.l1,ps_fields,ps_choice.j1,ps_choice.j2,ps_choice.l1,ps_choice,ps_arm.j4,ps_arm.j1,ps_arm.j3,ps_arm.j2,ps_arm.l1,ps_arm] <;> first | exact SP.nil | exact SB.nil
 | succ k ih =>
  obtain ⟨q,Z,ag,aa,ab,D,ah,ad,ae,E,af,J,O,V,X,C,Y⟩:=ih;refine ⟨?_,?_,?_,?_,?_,?_,?_,?_,?_,?_,?_,?_,?_,?_,?_,?_,?_⟩
  · intros
    simp only [ps_declaration]
    repeat' first | exact SP.ret (by first | assumption | exact .void | exact .plain (by assumption) | exact .maybe (by assumption) | exact .fixed (by assumption) (by assumption) | exact .lsa (by assumption) | exact .lsb (by assumption) (by assumption)) | refine SP.may _ (fun _ _ _=>?_) | refine SP.name hT _ (fun _ _ _ _ _=>?_) | refine SP.bind (fixed_sp hT _ _ _ _ _ _ _ (by first | assumption | exact .leaf (by decide) | exact Sh.eta (by assumption))) (fun _ _ _ _=>?_) | exact fixed_sp hT _ _ _ _ _ _ _ (by first | assumption | exact .leaf (by decide) | exact Sh.eta (by assumption)) | refine SP.bind (listed_sp hT _ _ _ _ _ _ _ (by first | assumption | exact .leaf (by decide) | exact Sh.eta (by assumption))) (fun _ _ _ _=>?_) | exact listed_sp hT _ _ _ _ _ _ _ (by first | assumption | exact .leaf (by decide) | exact Sh.eta (by assumption)) | refine SP.bind (Z _ _) (fun _ _ _ _=>?_) | exact Z _ _ | refine SP.chk ?_ | refine SP.ite ?_ ?_ | (refine SP.pure (fun _ hx=>?_);obtain rfl:=cat_eq hx) | refine SP.pure (fun _ _=>?_)
  · intros
    simp only [ps_typ]
    repeat' first | exact SP.ret (by first | assumption | exact .ref | exact .leaf (by decide) | exact Bod.sh (by assumption) | exact Sh.eta (by assumption)) | refine SP.body (ag _ _ _) (fun _ _ _ _ _=>?_) | refine SP.bind (bare_sp hT _ _ _) (fun _ _ _ _=>?_) | exact bare_sp hT _ _ _ | refine SP.chk ?_ | refine SP.ite ?_ ?_ | (refine SP.pure (fun _ hx=>?_);obtain rfl:=cat_eq hx) | refine SP.pure (fun _ _=>?_)
  · intros
    simp only [ps_body];exact SB.ite (SB.bind (g:=fun x=>w64 (x - 1)) (members_sp hT _ _ _) fun _ h=>.inl ⟨rfl,h⟩) (SB.ite (SB.bind (g:=fun x=>w64 (x - 1)) (ah _ _) fun _ h=>.inr (.inl ⟨rfl,h⟩)) (SB.bind (g:=fun x=>w64 (x - 1)) (af _ _) fun _ h=>.inr (.inr ⟨rfl,h⟩)))
  · intros
    simp only [ps_fields.j2]
    repeat' first | exact SP.ret (by first | assumption | exact All.snoc (by assumption) (by assumption) | exact All.nil) | refine SP.bind (q _ _) (fun _ _ _ _=>?_) | exact q _ _ | refine SP.bind (want_sp _ _ _ _) (fun _ _ _ _=>?_) | refine SP.bind (D _ _ _ (by first | assumption | exact All.snoc (by assumption) (by assumption) | exact All.nil)) (fun _ _ _ _=>?_) | exact D _ _ _ (by first | assumption | exact All.snoc (by assumption) (by assumption) | exact All.nil) | refine SP.chk ?_ | refine SP.ite ?_ ?_ | (refine SP.pure (fun _ hx=>?_);obtain rfl:=cat_eq hx) | refine SP.pure (fun _ _=>?_)
  · intros
    simp only [ps_fields.j1]
    repeat' first | exact SP.ret (by first | assumption | exact All.snoc (by assumption) (by assumption) | exact All.nil) | refine SP.bind (aa _ _ _ (by first | assumption | exact All.snoc (by assumption) (by assumption) | exact All.nil)) (fun _ _ _ _=>?_) | exact aa _ _ _ (by first | assumption | exact All.snoc (by assumption) (by assumption) | exact All.nil) | refine SP.chk ?_ | refine SP.ite ?_ ?_ | (refine SP.pure (fun _ hx=>?_);obtain rfl:=cat_eq hx) | refine SP.pure (fun _ _=>?_)
  · intros
    simp only [ps_fields.l1]
    repeat' first | exact SP.ret (by first | assumption | exact All.snoc (by assumption) (by assumption) | exact All.nil) | refine SP.bind (ab _ _ _ (by first | assumption | exact All.snoc (by assumption) (by assumption) | exact All.nil)) (fun _ _ _ _=>?_) | exact ab _ _ _ (by first | assumption | exact All.snoc (by assumption) (by assumption) | exact All.nil) | refine SP.may _ (fun _ _ _=>?_) | refine SP.chk ?_ | refine SP.ite ?_ ?_ | (refine SP.pure (fun _ hx=>?_);obtain rfl:=cat_eq hx) | refine SP.pure (fun _ _=>?_)
  · intros
    simp only [ps_fields]
    repeat' first | exact SP.ret (by first | assumption | exact All.snoc (by assumption) (by assumption) | exact All.nil) | refine SP.bind (want_sp _ _ _ _) (fun _ _ _ _=>?_) | refine SP.bind (D _ _ _ (by first | assumption | exact All.snoc (by assumption) (by assumption) | exact All.nil)) (fun _ _ _ _=>?_) | exact D _ _ _ (by first | assumption | exact All.snoc (by assumption) (by assumption) | exact All.nil) | refine SP.chk ?_ | refine SP.ite ?_ ?_ | (refine SP.pure (fun _ hx=>?_);obtain rfl:=cat_eq hx) | refine SP.pure (fun _ _=>?_)
  · intros
    simp only [ps_choice.j1]
    repeat' first | exact SP.ret (by first | assumption | exact Cho.one (by assumption) | exact Cho.snoc (by assumption) (by first | assumption | exact .els (by assumption))) | refine SP.bind (want_sp _ _ _ _) (fun _ _ _ _=>?_) | refine SP.bind (q _ _) (fun _ _ _ _=>?_) | exact q _ _ | refine SP.chk ?_ | refine SP.ite ?_ ?_ | (refine SP.pure (fun _ hx=>?_);obtain rfl:=cat_eq hx) | refine SP.pure (fun _ _=>?_)
  · intros
    simp only [ps_choice.j2]
    repeat' first | exact SP.ret (by first | assumption | exact Cho.one (by assumption) | exact Cho.snoc (by assumption) (by first | assumption | exact .els (by assumption))) | refine SP.bind (Y _ _) (fun _ _ _ _=>?_) | exact Y _ _ | refine SP.bind (E _ _ _ (by first | assumption | exact Cho.one (by assumption) | exact Cho.snoc (by assumption) (by first | assumption | exact .els (by assumption)))) (fun _ _ _ _=>?_) | exact E _ _ _ (by first | assumption | exact Cho.one (by assumption) | exact Cho.snoc (by assumption) (by first | assumption | exact .els (by assumption))) | refine SP.chk ?_ | refine SP.ite ?_ ?_ | (refine SP.pure (fun _ hx=>?_);obtain rfl:=cat_eq hx) | refine SP.pure (fun _ _=>?_)
  · intros
    simp only [ps_choice.l1]
    repeat' first | exact SP.ret (by first | assumption | exact Cho.one (by assumption) | exact Cho.snoc (by assumption) (by first | assumption | exact .els (by assumption))) | refine SP.bind (ae _ _ _ (by first | assumption | exact Cho.one (by assumption) | exact Cho.snoc (by assumption) (by first | assumption | exact .els (by assumption)))) (fun _ _ _ _=>?_) | exact ae _ _ _ (by first | assumption | exact Cho.one (by assumption) | exact Cho.snoc (by assumption) (by first | assumption | exact .els (by assumption))) | refine SP.bind (ad _ _ _ (by first | assumption | exact Cho.one (by assumption) | exact Cho.snoc (by assumption) (by first | assumption | exact .els (by assumption)))) (fun _ _ _ _=>?_) | exact ad _ _ _ (by first | assumption | exact Cho.one (by assumption) | exact Cho.snoc (by assumption) (by first | assumption | exact .els (by assumption))) | refine SP.chk ?_ | refine SP.ite ?_ ?_ | (refine SP.pure (fun _ hx=>?_);obtain rfl:=cat_eq hx) | refine SP.pure (fun _ _=>?_)
  · intros
    simp only [ps_choice]
    repeat' first | exact SP.ret (by first | assumption | exact Cho.one (by assumption) | exact Cho.snoc (by assumption) (by first | assumption | exact .els (by assumption))) | refine SP.bind (want_sp _ _ _ _) (fun _ _ _ _=>?_) | refine SP.bind (q _ _) (fun _ _ _ _=>?_) | exact q _ _ | refine SP.bind (E _ _ _ (by first | assumption | exact Cho.one (by assumption) | exact Cho.snoc (by assumption) (by first | assumption | exact .els (by assumption)))) (fun _ _ _ _=>?_) | exact E _ _ _ (by first | assumption | exact Cho.one (by assumption) | exact Cho.snoc (by assumption) (by first | assumption | exact .els (by assumption))) | refine SP.chk ?_ | refine SP.ite ?_ ?_ | (refine SP.pure (fun _ hx=>?_);obtain rfl:=cat_eq hx) | refine SP.pure (fun _ _=>?_)
  · intros
    simp only [ps_arm.j4]
    repeat' first | exact SP.ret (by first | assumption | exact ArmL.sh (by assumption)) | refine SP.bind (want_sp _ _ _ _) (fun _ _ _ _=>?_) | refine SP.chk ?_ | refine SP.ite ?_ ?_ | (refine SP.pure (fun _ hx=>?_);obtain rfl:=cat_eq hx) | refine SP.pure (fun _ _=>?_)
  · intros
    simp only [ps_arm.j1]
    repeat' first | exact SP.ret (by first | assumption | exact ArmL.sh (by assumption)) | refine SP.bind (q _ _) (fun _ _ _ _=>?_) | exact q _ _ | refine SP.bind (J _ _ _ _ (by first | assumption | exact ArmL.mk (by assumption) (by assumption))) (fun _ _ _ _=>?_) | exact J _ _ _ _ (by first | assumption | exact ArmL.mk (by assumption) (by assumption)) | refine SP.chk ?_ | refine SP.ite ?_ ?_ | (refine SP.pure (fun _ hx=>?_);obtain rfl:=cat_eq hx) | refine SP.pure (fun _ _=>?_)
  · intros
    simp only [ps_arm.j3]
    repeat' first | exact SP.ret (by first | assumption | exact ArmL.sh (by assumption)) | refine SP.bind (want_sp _ _ _ _) (fun _ _ _ _=>?_) | refine SP.bind (C _ _ _ _ (by first | assumption | exact All.snoc (by assumption) (by assumption) | exact All.nil)) (fun _ _ _ _=>?_) | exact C _ _ _ _ (by first | assumption | exact All.snoc (by assumption) (by assumption) | exact All.nil) | refine SP.chk ?_ | refine SP.ite ?_ ?_ | (refine SP.pure (fun _ hx=>?_);obtain rfl:=cat_eq hx) | refine SP.pure (fun _ _=>?_)
  · intros
    simp only [ps_arm.j2]
    repeat' first | exact SP.ret (by first | assumption | exact ArmL.sh (by assumption)) | refine SP.bind (want_sp _ _ _ _) (fun _ _ _ _=>?_) | refine SP.bind (value_sp hT _ _ _) (fun _ _ _ _=>?_) | exact value_sp hT _ _ _ | refine SP.bind (V _ _ _ _ (by first | assumption | exact All.snoc (by assumption) (by assumption) | exact All.nil)) (fun _ _ _ _=>?_) | exact V _ _ _ _ (by first | assumption | exact All.snoc (by assumption) (by assumption) | exact All.nil) | refine SP.chk ?_ | refine SP.ite ?_ ?_ | (refine SP.pure (fun _ hx=>?_);obtain rfl:=cat_eq hx) | refine SP.pure (fun _ _=>?_)
  · intros
    simp only [ps_arm.l1]
    repeat' first | exact SP.ret (by first | assumption | exact ArmL.sh (by assumption)) | refine SP.bind (X _ _ _ _ (by first | assumption | exact All.snoc (by assumption) (by assumption) | exact All.nil)) (fun _ _ _ _=>?_) | exact X _ _ _ _ (by first | assumption | exact All.snoc (by assumption) (by assumption) | exact All.nil) | refine SP.bind (O _ _ _ _ (by first | assumption | exact All.snoc (by assumption) (by assumption) | exact All.nil)) (fun _ _ _ _=>?_) | exact O _ _ _ _ (by first | assumption | exact All.snoc (by assumption) (by assumption) | exact All.nil) | refine SP.chk ?_ | refine SP.ite ?_ ?_ | (refine SP.pure (fun _ hx=>?_);obtain rfl:=cat_eq hx) | refine SP.pure (fun _ _=>?_)
  · intros
    simp only [ps_arm]
    repeat' first | exact SP.ret (by first | assumption | exact ArmL.sh (by assumption)) | refine SP.bind (C _ _ _ _ (by first | assumption | exact All.snoc (by assumption) (by assumption) | exact All.nil)) (fun _ _ _ _=>?_) | exact C _ _ _ _ (by first | assumption | exact All.snoc (by assumption) (by assumption) | exact All.nil) | refine SP.chk ?_ | refine SP.ite ?_ ?_ | (refine SP.pure (fun _ hx=>?_);obtain rfl:=cat_eq hx) | refine SP.pure (fun _ _=>?_)
theorem declaration_sp (hT:TK T) (k:Nat):∀ (n d:Int),SP T (Sh 1) (ps_declaration k (⟨T,n,d⟩:ParK)):=(group_sp hT k).1
theorem body_sp (hT:TK T) (k:Nat):∀ (n d:Int) (a:By),SB T (ps_body k (⟨T,n,d⟩:ParK) a):=(group_sp hT k).2.2.1
theorem arguments_l1_sp (hT:TK T):∀ k:Nat,∀ (n d:Int) (l:List Tree) (h:All (Sh 0) l),SP T (All (Sh 0)) (ps_arguments.l1 k (⟨T,n,d⟩:ParK) l):=by
 intro k
 induction k with
 | zero=>intros;simp only [ps_arguments.l1];exact SP.nil
 | succ k q =>
  intros
  simp only [ps_arguments.l1]
  repeat' first | exact SP.ret (by first | assumption | exact All.snoc (by assumption) (by assumption) | exact All.cons (by first | assumption | exact .leaf (by decide)) All.nil) | refine SP.bind (want_sp _ _ _ _) (fun _ _ _ _=>?_) | refine SP.bind (bare_sp hT _ _ _) (fun _ _ _ _=>?_) | exact bare_sp hT _ _ _ | refine SP.bind (q _ _ _ (by first | assumption | exact All.snoc (by assumption) (by assumption) | exact All.cons (by first | assumption | exact .leaf (by decide)) All.nil)) (fun _ _ _ _=>?_) | exact q _ _ _ (by first | assumption | exact All.snoc (by assumption) (by assumption) | exact All.cons (by first | assumption | exact .leaf (by decide)) All.nil) | refine SP.chk ?_ | refine SP.ite ?_ ?_ | (refine SP.pure (fun _ hx=>?_);obtain rfl:=cat_eq hx) | refine SP.pure (fun _ _=>?_)
theorem arguments_sp (hT:TK T) (k:Nat):∀ (n d:Int),SP T (All (Sh 0)) (ps_arguments k (⟨T,n,d⟩:ParK)):=by
 intros
 unfold ps_arguments
 repeat' first | exact SP.ret (by first | assumption | exact All.snoc (by assumption) (by assumption) | exact All.cons (by first | assumption | exact .leaf (by decide)) All.nil) | refine SP.may _ (fun _ _ _=>?_) | refine SP.bind (bare_sp hT _ _ _) (fun _ _ _ _=>?_) | exact bare_sp hT _ _ _ | refine SP.bind (arguments_l1_sp hT _ _ _ _ (by first | assumption | exact All.snoc (by assumption) (by assumption) | exact All.cons (by first | assumption | exact .leaf (by decide)) All.nil)) (fun _ _ _ _=>?_) | exact arguments_l1_sp hT _ _ _ _ (by first | assumption | exact All.snoc (by assumption) (by assumption) | exact All.cons (by first | assumption | exact .leaf (by decide)) All.nil) | refine SP.chk ?_ | refine SP.ite ?_ ?_ | (refine SP.pure (fun _ hx=>?_);obtain rfl:=cat_eq hx) | refine SP.pure (fun _ _=>?_)
theorem procedure_j1_sp (hT:TK T) (k:Nat):∀ (n d:Int) (K:Int) (nm:By) (x a:Int) (l:List Tree) (h:Sh 0 ⟨K,nm,x,a,l⟩),SP T Proc (ps_procedure.j1 k (⟨T,n,d⟩:ParK) K nm x a l):=by
 intros
 unfold ps_procedure.j1
 repeat' first | exact SP.ret (by first | assumption | exact .mk (by assumption) (by assumption) (by assumption)) | refine SP.name hT _ (fun _ _ _ _ _=>?_) | refine SP.bind (want_sp _ _ _ _) (fun _ _ _ _=>?_) | refine SP.bind (arguments_sp hT _ _ _) (fun _ _ _ _=>?_) | exact arguments_sp hT _ _ _ | refine SP.bind (wordNumber_sp hT _ _ _) (fun _ _ _ _=>?_) | exact wordNumber_sp hT _ _ _ | refine SP.chk ?_ | refine SP.ite ?_ ?_ | (refine SP.pure (fun _ hx=>?_);obtain rfl:=cat_eq hx) | refine SP.pure (fun _ _=>?_)
theorem procedure_sp (hT:TK T) (k:Nat):∀ (n d:Int),SP T Proc (ps_procedure k (⟨T,n,d⟩:ParK)):=by
 intros
 unfold ps_procedure
 repeat' first | exact SP.ret (by first | assumption | exact .mk (by assumption) (by assumption) (by assumption)) | refine SP.may _ (fun _ _ _=>?_) | refine SP.bind (procedure_j1_sp hT _ _ _ _ _ _ _ _ (by first | assumption | exact .leaf (by decide) | exact Sh.eta (by assumption))) (fun _ _ _ _=>?_) | exact procedure_j1_sp hT _ _ _ _ _ _ _ _ (by first | assumption | exact .leaf (by decide) | exact Sh.eta (by assumption)) | refine SP.bind (bare_sp hT _ _ _) (fun _ _ _ _=>?_) | exact bare_sp hT _ _ _ | refine SP.chk ?_ | refine SP.ite ?_ ?_ | (refine SP.pure (fun _ hx=>?_);obtain rfl:=cat_eq hx) | refine SP.pure (fun _ _=>?_)
theorem version_j1_sp (hT:TK T) (k:Nat):∀ (n d:Int) (c:UInt8) (s:By) (a:Int) (r:ParK) (l:List Tree) (h:All Proc l),SP T Ver (ps_version.j1 k (none,(⟨11,c::s,0,a,[]⟩:Tree),r) (⟨T,n,d⟩:ParK) l):=by
 intros
 unfold ps_version.j1
 repeat' first | exact SP.ret (by first | assumption | exact .mk (by assumption) (by assumption)) | refine SP.bind (want_sp _ _ _ _) (fun _ _ _ _=>?_) | refine SP.bind (wordNumber_sp hT _ _ _) (fun _ _ _ _=>?_) | exact wordNumber_sp hT _ _ _ | refine SP.chk ?_ | refine SP.ite ?_ ?_ | (refine SP.pure (fun _ hx=>?_);obtain rfl:=cat_eq hx) | refine SP.pure (fun _ _=>?_)
theorem versions_sp (hT:TK T):∀ k:Nat,(∀ (n d:Int) (c:UInt8) (s:By) (a:Int) (r:ParK) (l:List Tree) (h:All Proc l),SP T Ver (ps_version.j2 k (none,(⟨11,c::s,0,a,[]⟩:Tree),r) l (⟨T,n,d⟩:ParK))) ∧
 (∀ (n d:Int) (c:UInt8) (s:By) (a:Int) (r:ParK) (l:List Tree) (h:All Proc l),SP T Ver (ps_version.l1 k (none,(⟨11,c::s,0,a,[]⟩:Tree),r) (⟨T,n,d⟩:ParK) l)):=by
 intro k
 induction k with
 | zero =>
  refine ⟨?_,?_⟩ <;> intros <;> simp only [ps_version.j2,ps_version.l1] <;> first | exact SP.nil | exact SB.nil
 | succ k ih =>
  obtain ⟨q,C⟩:=ih;refine ⟨?_,?_⟩
  · intros
    simp only [ps_version.j2]
    repeat' first | exact SP.ret (by first | assumption | exact .mk (by assumption) (by assumption)) | refine SP.bind (procedure_sp hT _ _ _) (fun _ _ _ _=>?_) | exact procedure_sp hT _ _ _ | refine SP.bind (C _ _ _ _ _ _ _ (by first | assumption | exact All.snoc (by assumption) (by assumption) | exact All.nil)) (fun _ _ _ _=>?_) | exact C _ _ _ _ _ _ _ (by first | assumption | exact All.snoc (by assumption) (by assumption) | exact All.nil) | refine SP.chk ?_ | refine SP.ite ?_ ?_ | (refine SP.pure (fun _ hx=>?_);obtain rfl:=cat_eq hx) | refine SP.pure (fun _ _=>?_)
  · intros
    simp only [ps_version.l1]
    repeat' first | exact SP.ret (by first | assumption | exact .mk (by assumption) (by assumption)) | refine SP.bind (q _ _ _ _ _ _ _ (by first | assumption | exact All.snoc (by assumption) (by assumption) | exact All.nil)) (fun _ _ _ _=>?_) | exact q _ _ _ _ _ _ _ (by first | assumption | exact All.snoc (by assumption) (by assumption) | exact All.nil) | refine SP.may _ (fun _ _ _=>?_) | refine SP.bind (version_j1_sp hT _ _ _ _ _ _ _ _ (by first | assumption | exact All.snoc (by assumption) (by assumption) | exact All.nil)) (fun _ _ _ _=>?_) | exact version_j1_sp hT _ _ _ _ _ _ _ _ (by first | assumption | exact All.snoc (by assumption) (by assumption) | exact All.nil) | refine SP.chk ?_ | refine SP.ite ?_ ?_ | (refine SP.pure (fun _ hx=>?_);obtain rfl:=cat_eq hx) | refine SP.pure (fun _ _=>?_)
theorem version_l1_sp (hT:TK T) (k:Nat):∀ (n d:Int) (c:UInt8) (s:By) (a:Int) (r:ParK) (l:List Tree) (h:All Proc l),SP T Ver (ps_version.l1 k (none,(⟨11,c::s,0,a,[]⟩:Tree),r) (⟨T,n,d⟩:ParK) l):=(versions_sp hT k).2
theorem version_sp (hT:TK T) (k:Nat):∀ (n d:Int),SP T Ver (ps_version k (⟨T,n,d⟩:ParK)):=by
 intros
 unfold ps_version
 repeat' first | exact SP.ret (by first | assumption | exact .mk (by assumption) (by assumption)) | refine SP.bind (want_sp _ _ _ _) (fun _ _ _ _=>?_) | refine SP.name hT _ (fun _ _ _ _ _=>?_) | refine SP.bind (version_l1_sp hT _ _ _ _ _ _ _ _ (by first | assumption | exact All.snoc (by assumption) (by assumption) | exact All.nil)) (fun _ _ _ _=>?_) | exact version_l1_sp hT _ _ _ _ _ _ _ _ (by first | assumption | exact All.snoc (by assumption) (by assumption) | exact All.nil) | refine SP.chk ?_ | refine SP.ite ?_ ?_ | (refine SP.pure (fun _ hx=>?_);obtain rfl:=cat_eq hx) | refine SP.pure (fun _ _=>?_)
theorem program_j1_sp (hT:TK T) (k:Nat):∀ (n d:Int) (c:UInt8) (s:By) (a:Int) (r:ParK) (l:List Tree) (h:All Ver l),SP T Prg (ps_program.j1 k (none,(⟨10,c::s,0,a,[]⟩:Tree),r) (⟨T,n,d⟩:ParK) l):=by
 intros
 unfold ps_program.j1
 repeat' first | exact SP.ret (by first | assumption | exact .mk (by assumption) (by assumption)) | refine SP.bind (want_sp _ _ _ _) (fun _ _ _ _=>?_) | refine SP.bind (wordNumber_sp hT _ _ _) (fun _ _ _ _=>?_) | exact wordNumber_sp hT _ _ _ | refine SP.chk ?_ | refine SP.ite ?_ ?_ | (refine SP.pure (fun _ hx=>?_);obtain rfl:=cat_eq hx) | refine SP.pure (fun _ _=>?_)
theorem programs_sp (hT:TK T):∀ k:Nat,(∀ (n d:Int) (c:UInt8) (s:By) (a:Int) (r:ParK) (l:List Tree) (h:All Ver l),SP T Prg (ps_program.j2 k (none,(⟨10,c::s,0,a,[]⟩:Tree),r) l (⟨T,n,d⟩:ParK))) ∧
 (∀ (n d:Int) (c:UInt8) (s:By) (a:Int) (r:ParK) (l:List Tree) (h:All Ver l),SP T Prg (ps_program.l1 k (none,(⟨10,c::s,0,a,[]⟩:Tree),r) (⟨T,n,d⟩:ParK) l)):=by
 intro k
 induction k with
 | zero =>
  refine ⟨?_,?_⟩ <;> intros <;> simp only [ps_program.j2,ps_program.l1] <;> first | exact SP.nil | exact SB.nil
 | succ k ih =>
  obtain ⟨q,C⟩:=ih;refine ⟨?_,?_⟩
  · intros
    simp only [ps_program.j2]
    repeat' first | exact SP.ret (by first | assumption | exact .mk (by assumption) (by assumption)) | refine SP.bind (version_sp hT _ _ _) (fun _ _ _ _=>?_) | exact version_sp hT _ _ _ | refine SP.bind (C _ _ _ _ _ _ _ (by first | assumption | exact All.snoc (by assumption) (by assumption) | exact All.nil)) (fun _ _ _ _=>?_) | exact C _ _ _ _ _ _ _ (by first | assumption | exact All.snoc (by assumption) (by assumption) | exact All.nil) | refine SP.chk ?_ | refine SP.ite ?_ ?_ | (refine SP.pure (fun _ hx=>?_);obtain rfl:=cat_eq hx) | refine SP.pure (fun _ _=>?_)
  · intros
    simp only [ps_program.l1]
    repeat' first | exact SP.ret (by first | assumption | exact .mk (by assumption) (by assumption)) | refine SP.bind (q _ _ _ _ _ _ _ (by first | assumption | exact All.snoc (by assumption) (by assumption) | exact All.nil)) (fun _ _ _ _=>?_) | exact q _ _ _ _ _ _ _ (by first | assumption | exact All.snoc (by assumption) (by assumption) | exact All.nil) | refine SP.may _ (fun _ _ _=>?_) | refine SP.bind (program_j1_sp hT _ _ _ _ _ _ _ _ (by first | assumption | exact All.snoc (by assumption) (by assumption) | exact All.nil)) (fun _ _ _ _=>?_) | exact program_j1_sp hT _ _ _ _ _ _ _ _ (by first | assumption | exact All.snoc (by assumption) (by assumption) | exact All.nil) | refine SP.chk ?_ | refine SP.ite ?_ ?_ | (refine SP.pure (fun _ hx=>?_);obtain rfl:=cat_eq hx) | refine SP.pure (fun _ _=>?_)
theorem program_l1_sp (hT:TK T) (k:Nat):∀ (n d:Int) (c:UInt8) (s:By) (a:Int) (r:ParK) (l:List Tree) (h:All Ver l),SP T Prg (ps_program.l1 k (none,(⟨10,c::s,0,a,[]⟩:Tree),r) (⟨T,n,d⟩:ParK) l):=(programs_sp hT k).2
theorem program_sp (hT:TK T) (k:Nat):∀ (n d:Int),SP T Prg (ps_program k (⟨T,n,d⟩:ParK)):=by
 intros
 unfold ps_program
 repeat' first | exact SP.ret (by first | assumption | exact .mk (by assumption) (by assumption)) | refine SP.name hT _ (fun _ _ _ _ _=>?_) | refine SP.bind (want_sp _ _ _ _) (fun _ _ _ _=>?_) | refine SP.bind (program_l1_sp hT _ _ _ _ _ _ _ _ (by first | assumption | exact All.snoc (by assumption) (by assumption) | exact All.nil)) (fun _ _ _ _=>?_) | exact program_l1_sp hT _ _ _ _ _ _ _ _ (by first | assumption | exact All.snoc (by assumption) (by assumption) | exact All.nil) | refine SP.chk ?_ | refine SP.ite ?_ ?_ | (refine SP.pure (fun _ hx=>?_);obtain rfl:=cat_eq hx) | refine SP.pure (fun _ _=>?_)
theorem definition_j1_sp (hT:TK T) (k:Nat):∀ (n d:Int) (t:Token) (b:Bool),SP T Dfn (ps_definition.j1 k t (b,(⟨T,n,d⟩:ParK))):=by
 intros
 unfold ps_definition.j1
 repeat' first | exact SP.ret (by first | assumption | exact .const (by assumption) | exact .typedef (by assumption) | exact .body (by assumption) | exact .prog (by assumption)) | refine SP.bind (declaration_sp hT _ _ _) (fun _ _ _ _=>?_) | exact declaration_sp hT _ _ _ | refine SP.bind (want_sp _ _ _ _) (fun _ _ _ _=>?_) | refine SP.chk ?_ | refine SP.ite ?_ ?_ | (refine SP.pure (fun _ hx=>?_);obtain rfl:=cat_eq hx) | refine SP.pure (fun _ _=>?_)
theorem definition_sp (hT:TK T) (k:Nat):∀ (n d:Int),SP T Dfn (ps_definition k (⟨T,n,d⟩:ParK)):=by
 intros
 unfold ps_definition
 repeat' first | exact SP.ret (by first | assumption | exact .const (by assumption) | exact .typedef (by assumption) | exact .body (by assumption) | exact .prog (by assumption)) | refine SP.may _ (fun _ _ _=>?_) | refine SP.name hT _ (fun _ _ _ _ _=>?_) | refine SP.bind (want_sp _ _ _ _) (fun _ _ _ _=>?_) | refine SP.bind (number_sp hT _ _ _) (fun _ _ _ _=>?_) | refine SP.bind (definition_j1_sp hT _ _ _ _ _) (fun _ _ _ _=>?_) | exact definition_j1_sp hT _ _ _ _ _ | refine SP.bind (program_sp hT _ _ _) (fun _ _ _ _=>?_) | exact program_sp hT _ _ _ | refine SP.body (body_sp hT _ _ _ _) (fun _ _ _ _ _=>?_) | exact SP.give | refine SP.chk ?_ | refine SP.ite ?_ ?_ | (refine SP.pure (fun _ hx=>?_);obtain rfl:=cat_eq hx) | refine SP.pure (fun _ _=>?_)
theorem sources_sp (hT:TK T):∀ k:Nat,(∀ (n d:Int) (l:List Tree) (h:All Dfn l),SP T Src (ps_source.j1 k (⟨T,n,d⟩:ParK) l)) ∧
 (∀ (n d:Int) (l:List Tree) (h:All Dfn l),SP T Src (ps_source.l1 k (⟨T,n,d⟩:ParK) l)):=by
 intro k
 induction k with
 | zero =>
  refine ⟨?_,?_⟩ <;> intros <;> simp only [ps_source.j1,ps_source.l1] <;> first | exact SP.nil | exact SB.nil
 | succ k ih =>
  obtain ⟨q,C⟩:=ih;refine ⟨?_,?_⟩
  · intros
    simp only [ps_source.j1]
    repeat' first | exact SP.ret (by first | assumption | exact .mk (by assumption)) | refine SP.bind (definition_sp hT _ _ _) (fun _ _ _ _=>?_) | exact definition_sp hT _ _ _ | refine SP.bind (C _ _ _ (by first | assumption | exact All.snoc (by assumption) (by assumption) | exact All.nil)) (fun _ _ _ _=>?_) | exact C _ _ _ (by first | assumption | exact All.snoc (by assumption) (by assumption) | exact All.nil) | refine SP.chk ?_ | refine SP.ite ?_ ?_ | (refine SP.pure (fun _ hx=>?_);obtain rfl:=cat_eq hx) | refine SP.pure (fun _ _=>?_)
  · intros
    simp only [ps_source.l1]
    repeat' first | exact SP.ret (by first | assumption | exact .mk (by assumption)) | refine SP.bind (q _ _ _ (by first | assumption | exact All.snoc (by assumption) (by assumption) | exact All.nil)) (fun _ _ _ _=>?_) | exact q _ _ _ (by first | assumption | exact All.snoc (by assumption) (by assumption) | exact All.nil) | refine SP.chk ?_ | refine SP.ite ?_ ?_ | (refine SP.pure (fun _ hx=>?_);obtain rfl:=cat_eq hx) | refine SP.pure (fun _ _=>?_)
theorem source_l1_sp (hT:TK T) (k:Nat):∀ (n d:Int) (l:List Tree) (h:All Dfn l),SP T Src (ps_source.l1 k (⟨T,n,d⟩:ParK) l):=(sources_sp hT k).2
theorem source_sp (hT:TK T) (k:Nat):∀ (n d:Int),SP T Src (ps_source k (⟨T,n,d⟩:ParK)):=by
 intros
 unfold ps_source
 repeat' first | exact SP.ret (by first | assumption | exact .mk (by assumption)) | refine SP.bind (source_l1_sp hT _ _ _ _ (by first | assumption | exact All.snoc (by assumption) (by assumption) | exact All.nil)) (fun _ _ _ _=>?_) | exact source_l1_sp hT _ _ _ _ (by first | assumption | exact All.snoc (by assumption) (by assumption) | exact All.nil) | refine SP.chk ?_ | refine SP.ite ?_ ?_ | (refine SP.pure (fun _ hx=>?_);obtain rfl:=cat_eq hx) | refine SP.pure (fun _ _=>?_)
end Go.Proofs.YtnhifhlbelogcaaGreatDoor
