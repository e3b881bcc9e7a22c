/- Places erased: words, and the smallest functions. -/
import Derived.Test.YtnhifhlbelogcaaDoorYPC
set_option linter.unusedVariables false
set_option linter.unusedSimpArgs false
namespace Go.Proofs.YtnhifhlbelogcaaDoor
open Go Go.Eng
def erK (t:Token):Token:=⟨t.Kind,t.Text,t.Number,0⟩
mutual
def er:Tree→Tree
 | ⟨K,nm,x,a,l⟩=>⟨K,nm,x,0,erL l⟩
def erL:List Tree→List Tree
 | []=>[]
 | t::l=>er t::erL l
end
def erP (s:ParK):ParK:=⟨s.tokens.map erK,s.next,s.deep⟩
theorem er_mk (K:Int) (nm:List UInt8) (x a:Int) (l:List Tree):er ⟨K,nm,x,a,l⟩=⟨K,nm,x,0,erL l⟩:=by rw [er]
theorem erL_nil:erL []=[]:=by rw [erL]
theorem erL_cons (t:Tree) (l:List Tree):erL (t::l)=er t::erL l:=by rw [erL]
theorem erL_map:∀ l:List Tree,erL l=l.map er
 | []=>by rw [erL_nil];rfl
 | t::l=>by rw [erL_cons,erL_map l];rfl
theorem erL_len (l:List Tree):(erL l).length=l.length:=by rw [erL_map,List.length_map]
theorem erL_cat (l m:List Tree):erL (l++m)=erL l++erL m:=by rw [erL_map,erL_map,erL_map,List.map_append]
theorem er_K (t:Tree):(er t).Kind=t.Kind:=by cases t;rw [er_mk]
theorem er_N (t:Tree):(er t).Name=t.Name:=by cases t;rw [er_mk]
theorem er_X (t:Tree):(er t).Number=t.Number:=by cases t;rw [er_mk]
theorem er_A (t:Tree):(er t).At=0:=by cases t;rw [er_mk]
theorem er_Ks (t:Tree):(er t).Kids=erL t.Kids:=by cases t;rw [er_mk]
class HasE (ρ:Type) where
 E:ρ→ρ→Prop
abbrev QS (x y:Option Value):Prop:=y.isSome=true ↔ x.isSome=true
instance:HasE (Option Value×Tree×ParK):=⟨fun r q=>QS r.1 q.1∧q.2.1=er r.2.1∧q.2.2=erP r.2.2⟩
instance:HasE (Option Value×List Tree×ParK):=⟨fun r q=>QS r.1 q.1∧q.2.1=erL r.2.1∧q.2.2=erP r.2.2⟩
instance:HasE (Option Value×Int×ParK):=⟨fun r q=>QS r.1 q.1∧q.2.1=0∧q.2.2=erP r.2.2⟩
instance:HasE (Option Value×Token×ParK):=⟨fun r q=>QS r.1 q.1∧q.2.1=erK r.2.1∧q.2.2=erP r.2.2⟩
instance:HasE (Option Value×Int×List Tree×ParK):=⟨fun r q=>QS r.1 q.1∧q.2.1=r.2.1∧q.2.2.1=erL r.2.2.1∧q.2.2.2=erP r.2.2.2⟩
instance:HasE (Bool×ParK):=⟨fun r q=>q.1=r.1∧q.2=erP r.2⟩
instance:HasE (Option Value):=⟨QS⟩
instance:HasE Token:=⟨fun r q=>q=erK r⟩
instance:HasE Bool:=⟨fun r q=>q=r⟩
def EC {ρ:Type} [HasE ρ] (A B:Option ρ):Prop:=(A=none∧B=none)∨∃ r q,A=some r∧B=some q∧HasE.E r q
section
variable {ρ σ:Type} [HasE ρ] [HasE σ]
theorem EC.nil:EC (none:Option ρ) none:=.inl ⟨rfl,rfl⟩
theorem EC.ret {r q:ρ} (h:HasE.E r q):EC (some r) (some q):=.inr ⟨r,q,rfl,rfl,h⟩
theorem EC.bind {A B:Option ρ} {G H:ρ→Option σ} (h:EC A B) (g:∀ r q,HasE.E r q→EC (G r) (H q)):EC (Option.bind A G) (Option.bind B H):=by
 rcases h with ⟨rfl,rfl⟩|⟨r,q,rfl,rfl,e⟩
 · exact EC.nil
 · exact g r q e
theorem EC.ite {c c':Prop} [Decidable c] [Decidable c'] {A A' B B':Option ρ} (hc:c' ↔ c) (q:EC A A') (C:EC B B'):EC (if c then A else B) (if c' then A' else B'):=by
 by_cases h:c
 · rw [if_pos h,if_pos (hc.2 h)];exact q
 · rw [if_neg h,if_neg (fun x=>h (hc.1 x))];exact C
theorem EC.cast {A B C:Option ρ} (h:EC A B) (e:C=B):EC A C:=e ▸ h
theorem EC.bk {A B:Option Token} {G H:Token→Option ρ} (h:EC A B) (g:∀ t,EC (G t) (H (erK t))):EC (Option.bind A G) (Option.bind B H):=EC.bind h fun t q e=>by cases e;exact g t
theorem EC.bb {A B:Option Bool} {G H:Bool→Option ρ} (h:EC A B) (g:∀ t,EC (G t) (H t)):EC (Option.bind A G) (Option.bind B H):=EC.bind h fun t q e=>by cases e;exact g t
theorem EC.bf {A B:Option (Option Value)} {G H:Option Value→Option ρ} (h:EC A B) (g:∀ x y,QS x y→EC (G x) (H y)):EC (Option.bind A G) (Option.bind B H):=EC.bind h fun t q e=>g t q e
theorem EC.bm {A B:Option (Bool×ParK)} {G H:Bool×ParK→Option ρ} (h:EC A B) (g:∀ b p,EC (G (b,p)) (H (b,erP p))):EC (Option.bind A G) (Option.bind B H):=EC.bind h fun ⟨b,p⟩ ⟨c,q⟩ e=>by obtain ⟨(rfl:c=b),(rfl:q=erP p)⟩:=e;exact g _ p
theorem EC.bt {A B:Option (Option Value×Tree×ParK)} {G H:Option Value×Tree×ParK→Option ρ} (h:EC A B) (g:∀ x y v p,QS x y→EC (G (x,v,p)) (H (y,er v,erP p))):EC (Option.bind A G) (Option.bind B H):=EC.bind h fun ⟨x,v,p⟩ ⟨y,u,q⟩ e=>by obtain ⟨e,rfl,rfl⟩:=e;exact g x y v p e
theorem EC.bs {A B:Option (Option Value×List Tree×ParK)} {G H:Option Value×List Tree×ParK→Option ρ} (h:EC A B) (g:∀ x y v p,QS x y→EC (G (x,v,p)) (H (y,erL v,erP p))):EC (Option.bind A G) (Option.bind B H):=EC.bind h fun ⟨x,v,p⟩ ⟨y,u,q⟩ e=>by obtain ⟨e,rfl,rfl⟩:=e;exact g x y v p e
theorem EC.bi {A B:Option (Option Value×Int×ParK)} {G H:Option Value×Int×ParK→Option ρ} (h:EC A B) (g:∀ x y v p,QS x y→EC (G (x,v,p)) (H (y,0,erP p))):EC (Option.bind A G) (Option.bind B H):=EC.bind h fun ⟨x,v,p⟩ ⟨y,u,q⟩ e=>by obtain ⟨e,rfl,rfl⟩:=e;exact g x y v p e
theorem EC.bq {A B:Option (Option Value×Token×ParK)} {G H:Option Value×Token×ParK→Option ρ} (h:EC A B) (g:∀ x y v p,QS x y→EC (G (x,v,p)) (H (y,erK v,erP p))):EC (Option.bind A G) (Option.bind B H):=EC.bind h fun ⟨x,v,p⟩ ⟨y,u,q⟩ e=>by obtain ⟨e,rfl,rfl⟩:=e;exact g x y v p e
theorem EC.b4 {A B:Option (Option Value×Int×List Tree×ParK)} {G H:Option Value×Int×List Tree×ParK→Option ρ} (h:EC A B) (g:∀ x y i v p,QS x y→EC (G (x,i,v,p)) (H (y,i,erL v,erP p))):EC (Option.bind A G) (Option.bind B H):=EC.bind h fun ⟨x,i,v,p⟩ ⟨y,j,u,q⟩ e=>by obtain ⟨e,(rfl:j=i),(rfl:u=erL v),(rfl:q=erP p)⟩:=e;exact g x y _ v p e
theorem EC.bl {n:Nat} {l m l' m':List Tree} {G H:List Tree→Option ρ} (hl:l'=erL l) (hm:m'=erL m) (g:∀ v,EC (G v) (H (erL v))):EC (Option.bind (catN n l m) G) (Option.bind (catN n l' m') H):=by
 subst hl hm;unfold catN;rw [erL_len,erL_len];by_cases h:l.length+m.length≤n
 · rw [if_pos h,if_pos h,← erL_cat];exact g _
 · rw [if_neg h,if_neg h];exact EC.nil
end
theorem EC.rt {x y:Option Value} {v u:Tree} {p q:ParK} (h:QS x y) (hv:u=er v) (hp:q=erP p):EC (some (x,v,p)) (some (y,u,q)):=EC.ret ⟨h,hv,hp⟩
theorem EC.rs {x y:Option Value} {v u:List Tree} {p q:ParK} (h:QS x y) (hv:u=erL v) (hp:q=erP p):EC (some (x,v,p)) (some (y,u,q)):=EC.ret ⟨h,hv,hp⟩
theorem EC.r4 {x y:Option Value} {i j:Int} {v u:List Tree} {p q:ParK} (h:QS x y) (hi:j=i) (hv:u=erL v) (hp:q=erP p):EC (some (x,i,v,p)) (some (y,j,u,q)):=EC.ret ⟨h,hi,hv,hp⟩
theorem idx_er (l:List Token) (i:Int):EC (idx l i) (idx (l.map erK) i):=by
 unfold idx;by_cases h:0≤i
 · rw [if_pos h,if_pos h,List.getElem?_map]
   cases l[i.toNat]? with
   | none=>exact EC.nil
   | some t=>exact EC.ret rfl
 · rw [if_neg h,if_neg h];exact EC.nil
theorem token_ec (k:Nat) (s:ParK):EC (ps_token k s) (ps_token k (erP s)):=by
 unfold ps_token;exact EC.bk (idx_er _ _) fun t=>EC.ret rfl
theorem EC.same {ρ:Type} [HasE ρ] {A:Option ρ} (h:∀ r:ρ,HasE.E r r):EC A A:=by
 cases A with
 | none=>exact EC.nil
 | some r=>exact EC.ret (h r)
theorem is_ec (k:Nat) (s:ParK) (L:List (List UInt8)):EC (ps_is k s L) (ps_is k (erP s) L):=by
 unfold ps_is;refine EC.bk (token_ec k s) fun t=>EC.ite Iff.rfl ?_ (EC.ite Iff.rfl ?_ (EC.ret rfl))
 · exact EC.same fun _=>rfl
 · exact EC.same fun _=>rfl
theorem isBody_ec (k:Nat) (s:ParK):EC (ps_isBody k s) (ps_isBody k (erP s)):=by
 unfold ps_isBody;exact EC.bb (is_ec _ _ _) fun t=>EC.ret rfl
theorem isBare_ec (k:Nat) (s:ParK):EC (ps_isBare k s) (ps_isBare k (erP s)):=by
 unfold ps_isBare;exact EC.bk (token_ec k s) fun t=>EC.ite Iff.rfl (EC.ret rfl) (EC.bb (is_ec _ _ _) fun t=>EC.ret rfl)
theorem give_ec (k:Nat) (s:ParK) (e:Int):EC (ps_give k s e) (ps_give k (erP s) e):=by
 unfold ps_give;exact EC.bk (token_ec k s) fun t=>EC.ret (ρ:=Option Value) (by constructor <;> intro _ <;> rfl)
theorem more_ec (k:Nat) (s:ParK) (b:Bool) (x y:Int):EC (ps_more k s b x y) (ps_more k (erP s) b x y):=by
 unfold ps_more;have hn:EC (some (none:Option Value)) (some none):=EC.ret Iff.rfl;exact EC.ite Iff.rfl (EC.ite Iff.rfl (EC.bf (give_ec _ _ _) fun x y h=>EC.ite h (EC.ret h) hn) hn) hn
theorem shallow_ec (k:Nat) (s:ParK):EC (ps_shallow k s) (ps_shallow k (erP s)):=by
 unfold ps_shallow;have hn:EC (some (none:Option Value)) (some none):=EC.ret Iff.rfl;exact EC.bb (isBody_ec _ _) fun b=>EC.ite Iff.rfl (EC.ite Iff.rfl (EC.bf (give_ec _ _ _) fun x y h=>EC.ite h (EC.ret h) hn) hn) hn
theorem may_ec (k:Nat) (s:ParK) (x:List UInt8):EC (ps_may k s x) (ps_may k (erP s) x):=by
 unfold ps_may;exact EC.bb (is_ec _ _ _) fun b=>EC.ite Iff.rfl (EC.ret ⟨rfl,rfl⟩) (EC.ret ⟨rfl,rfl⟩)
theorem want_ec (k:Nat) (s:ParK) (x:List UInt8):EC (ps_want k s x) (ps_want k (erP s) x):=by
 have hj:EC (ps_want.j1 k s) (ps_want.j1 k (erP s)):=by
  unfold ps_want.j1;exact EC.bk (idx_er _ _) fun t=>EC.ret ⟨Iff.rfl,rfl,rfl⟩
 unfold ps_want;exact EC.bb (is_ec _ _ _) fun b=>EC.ite Iff.rfl hj (EC.bf (give_ec _ _ _) fun x y h=>EC.ite h (EC.ret ⟨h,rfl,rfl⟩) hj)
theorem kind_ec (k:Nat) (s:ParK) (x:Int):EC (ps_kind k s x) (ps_kind k (erP s) x):=by
 have hj:∀ t,EC (ps_kind.j1 k s t) (ps_kind.j1 k (erP s) (erK t)):=fun t=>by
  unfold ps_kind.j1;exact EC.ret ⟨Iff.rfl,rfl,rfl⟩
 unfold ps_kind;exact EC.bk (token_ec _ _) fun t=>EC.ite Iff.rfl (hj t) (EC.bf (give_ec _ _ _) fun x y h=>EC.ite h (EC.ret ⟨h,rfl,rfl⟩) (hj t))
end Go.Proofs.YtnhifhlbelogcaaDoor
