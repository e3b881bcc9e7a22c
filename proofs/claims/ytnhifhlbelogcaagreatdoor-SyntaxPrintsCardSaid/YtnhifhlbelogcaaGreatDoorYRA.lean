/- What the writer puts: a tree's tokens, one behind the other. -/
import Derived.Test.YtnhifhlbelogcaaGreatDoorYSA
import Derived.Test.YtnhifhlbelogcaaGreatDoorYQA
import Derived.Test.YtnhifhlbelogcaaGreatDoorYRB
set_option linter.unusedVariables false
set_option linter.unusedSimpArgs false
namespace Go.Proofs.YtnhifhlbelogcaaGreatDoor
open Go Go.Eng
abbrev Tk:=List By
def joins (o x:By):Bool:=match o.getLast?,x.head? with
 | some a,some b=>inRun a && inRun b
 | _,_=>false
def put1 (o x:By):By:=if joins o x then o++32::x else o++x
def putL (o:By) (L:Tk):By:=L.foldl put1 o
def tkl (x:By):Nat:=if x=[] then 0 else x.length+1
theorem tl_le (x:By):x.length≤tkl x∧tkl x≤x.length+1∧(x≠[]→tkl x=x.length+1):=by
 unfold tkl
 split
 · rename_i h;subst h;simp
 · simp
def tokLen:Tk→Nat
 | []=>0
 | x::L=>tkl x+tokLen L
theorem tokLen_append:∀ A B:Tk,tokLen (A++B)=tokLen A+tokLen B
 | [],B=>by rw [List.nil_append,tokLen,Nat.zero_add]
 | x::A,B=>by rw [List.cons_append,tokLen,tokLen,tokLen_append A B];omega
theorem putL_append (o:By) (A B:Tk):putL o (A++B)=putL (putL o A) B:=List.foldl_append
theorem joins_ne {o x:By} (h:joins o x=true):x≠[]:=by
 rintro rfl;have:joins o []=false:=by unfold joins;cases o.getLast? <;> rfl
 rw [this] at h;cases h
theorem put1_len (o x:By):(put1 o x).length≤o.length+tkl x:=by
 obtain ⟨C,D,q⟩:=tl_le x;unfold put1
 split
 · rename_i h
   have:=q (joins_ne h);simp only [List.length_append,List.length_cons];omega
 · simp only [List.length_append];omega
theorem putL_len:∀ (L:Tk) (o:By),(putL o L).length≤o.length+tokLen L
 | [],o=>Nat.le_refl _
 | x::L,o=>by
  have q:=putL_len L (put1 o x);have C:=put1_len o x
  show (putL (put1 o x) L).length≤_
  rw [tokLen];omega
def BB:Nat:=34359738368
def Wr (F:Nat→WriK→Option WriK) (L:Tk):Prop:=∀ o:By,o.length+tokLen L≤BB→Ev (fun k=>F k ⟨o⟩) (⟨putL o L⟩:WriK)
theorem Wr.ret:Wr (fun _ o=>some o) []:=fun o _=>et
theorem Wr.bind {F G:Nat→WriK→Option WriK} {A B:Tk} (h:Wr F A) (g:Wr G B):Wr (fun k o=>Option.bind (F k o) fun s=>G k s) (A++B):=fun o ho=>by
 rw [tokLen_append] at ho;rw [putL_append];refine eb (h o (by omega)) (g _ ?_);have:=putL_len A o
 omega
theorem Wr.last {F:Nat→WriK→Option WriK} {A:Tk} (h:Wr F A):Wr (fun k o=>Option.bind (F k o) fun s=>some s) A:=fun o ho=>eb (h o ho) et
theorem Wr.pure {α:Type} {A:Nat→Option α} {x:α} {G:Nat→WriK→α→Option WriK} {L:Tk} (hA:Ev A x) (g:Wr (fun k o=>G k o x) L):Wr (fun k o=>Option.bind (A k) fun s=>G k o s) L:=fun o ho=>eb hA (g o ho)
theorem Wr.unf {F:Nat→WriK→Option WriK} {L:Tk} (h:Wr (fun k=>F (k+1)) L):Wr F L:=fun o ho=>Ev.unf (f:=fun k=>F k ⟨o⟩) (h o ho)
theorem Wr.pos {c:Prop} [Decidable c] {F G:Nat→WriK→Option WriK} {L:Tk} (hc:c) (h:Wr F L):Wr (fun k o=>if c then F k o else G k o) L:=fun o ho=>ep hc (h o ho)
theorem Wr.neg {c:Prop} [Decidable c] {F G:Nat→WriK→Option WriK} {L:Tk} (hc:¬ c) (h:Wr G L):Wr (fun k o=>if c then F k o else G k o) L:=fun o ho=>eg hc (h o ho)
theorem Wr.cast {F:Nat→WriK→Option WriK} {L M:Tk} (h:Wr F L) (e:L=M):Wr F M:=e ▸ h
theorem ps_inRun_ (k:Nat) (c:UInt8):ps_inRun k (c.toNat:Int)=some (inRun c):=by
 unfold ps_inRun inRun isLetter isDigit;have e1:∀ n:Nat,((n:Int)≤(c.toNat:Int))=(n≤c.toNat):=fun n=>by simp
 by_cases q:97≤c.toNat <;> by_cases C:c.toNat≤122 <;> by_cases D:65≤c.toNat <;> by_cases E:c.toNat≤90 <;> by_cases J:48≤c.toNat <;> by_cases O:c.toNat≤57 <;> by_cases V:c.toNat=95 <;>
  simp only [show ((97:Int)≤(c.toNat:Int)) ↔ 97≤c.toNat by omega,show ((c.toNat:Int)≤122) ↔ c.toNat≤122 by omega,show ((65:Int)≤(c.toNat:Int)) ↔ 65≤c.toNat by omega,show ((c.toNat:Int)≤90) ↔ c.toNat≤90 by omega,show ((48:Int)≤(c.toNat:Int)) ↔ 48≤c.toNat by omega,show ((c.toNat:Int)≤57) ↔ c.toNat≤57 by omega,show ((c.toNat:Int)=95) ↔ c.toNat=95 by omega,q,C,D,E,J,O,V,if_true,if_false,decide_true,decide_false,Bool.and_true,Bool.and_false,Bool.or_true,Bool.or_false,Bool.true_or,Bool.false_or,Bool.true_and,Bool.false_and] <;> first | rfl | omega
theorem put_l (L:Tk):∀ (d i:Nat) (o:By),L.length - i=d→i≤L.length→L.length≤1000000→o.length+tokLen (L.drop i)≤BB→Ev (fun k=>ps_put.l1 k L (⟨o⟩:WriK) (i:Int)) (⟨putL o (L.drop i)⟩:WriK):=by
 intro d
 induction d with
 | zero =>
  intro i o J O hL ho;refine Ev.unf ?_;simp only [ps_put.l1];refine eg (by omega) (ecs et ?_);rw [List.drop_eq_nil_of_le (by omega)];rfl
 | succ d ih =>
  intro i o J O hL ho;have hi:i < L.length:=by omega
  rw [List.drop_eq_getElem_cons hi] at ho ⊢;rw [tokLen] at ho;have hx:idx L (i:Int)=some L[i]:=idx_at rfl hi;generalize hX:L[i]=x at *;have C:∀ o':By,o'.length+x.length≤o.length+tkl x→put1 o x=o'++x→Ev (fun k=>ps_put.j1 k L (i:Int) x (⟨o'⟩:WriK)) (⟨putL o (x::L.drop (i+1))⟩:WriK):=fun o' V D=>by
   refine Ev.unf ?_;simp only [ps_put.j1];refine ebc (cat_at (by simp only [BB] at ho;omega)) ?_;rw [w64_succ (by omega)]
   show Ev _ (⟨putL (put1 o x) (L.drop (i+1))⟩:WriK)
   rw [D];exact ih (i+1) _ (by omega) (by omega) hL (by simp only [List.length_append];omega)
  have q:∀ b:Bool,joins o x=b→Ev (fun k=>ps_put.j2 k L (⟨o⟩:WriK) (i:Int) x b) (⟨putL o (x::L.drop (i+1))⟩:WriK):=fun b hb=>by
   refine Ev.unf ?_;simp only [ps_put.j2];cases b with
   | true =>
    have htl:=(tl_le x).2.2 (joins_ne hb);refine ep rfl (ebc (cat_at (by simp only [BB,List.length_singleton] at ho ⊢;omega)) ?_);exact C _ (by simp;omega) (by unfold put1;rw [if_pos hb];simp)
   | false =>
    refine eg (by simp) ?_;exact C o (by have:=(tl_le x).1;omega) (by unfold put1;rw [if_neg (by simp [hb])])
  refine Ev.unf ?_;simp only [ps_put.l1];refine ep (by omega) (ebc hx ?_);by_cases E:0 < (o.length:Int)
  · refine ep E ?_
    by_cases he:x=[]
    · refine ep he (q false ?_)
      subst he;unfold joins;cases o.getLast? <;> rfl
    · refine eg he ?_
      have hol:o.length - 1 < o.length:=by omega
      rw [w64_of (n:=(o.length:Int) - 1) (by omega) (by simp only [BB] at ho;omega)];refine ebc (idx_at (j:=o.length - 1) (by omega) hol) (eb (ea fun k=>ps_inRun_ k _) ?_);have hla:o.getLast? = some o[o.length - 1]:=by rw [List.getLast?_eq_getElem?,List.getElem?_eq_getElem hol]
      cases x with
      | nil=>exact absurd rfl he
      | cons c x =>
       by_cases hr:inRun o[o.length - 1]=true
       · refine ep hr (ebc (idx_at (j:=0) rfl (by simp)) (eb (ea fun k=>ps_inRun_ k _) (q _ ?_)))
         unfold joins;rw [hla]
         simp [hr]
       · refine eg hr (q false ?_)
         unfold joins;rw [hla]
         simp [Bool.eq_false_iff.2 hr]
  · refine eg E (q false ?_)
    have:o=[]:=List.eq_nil_of_length_eq_zero (by omega);subst this
    rfl
theorem put_ (L:Tk) (hL:L.length≤1000000):Wr (fun k s=>ps_put k s L) L:=fun o ho=>by
 unfold ps_put;exact put_l L L.length 0 o rfl (Nat.zero_le _) hL ho
end Go.Proofs.YtnhifhlbelogcaaGreatDoor
set_option linter.unusedVariables false
set_option linter.unusedSimpArgs false
namespace Go.Proofs.YtnhifhlbelogcaaGreatDoor
open Go Go.Eng
def plainT (K:Int):Tk :=
 if K=13 then [[118,111,105,100]] else if K=18 then [[105,110,116]] else if K=19 then [[117,110,115,105,103,110,101,100],[105,110,116]] else if K=20 then [[104,121,112,101,114]]
 else if K=21 then [[117,110,115,105,103,110,101,100],[104,121,112,101,114]] else if K=22 then [[102,108,111,97,116]] else if K=23 then [[100,111,117,98,108,101]] else if K=24 then [[98,111,111,108]]
 else if K=25 then [[111,112,97,113,117,101]] else if K=26 then [[115,116,114,105,110,103]] else [[63]]
abbrev NK:=Tk×Tk
def kidT (ks:List NK) (i:Nat):Tk:=match ks[i]? with
 | some p=>p.1
 | none=>[[63]]
def eachT (ks:List NK) (sep:Tk):Tk:=(ks.map fun p=>p.1++sep).flatten
def betwT:List NK→Tk
 | []=>[]
 | p::ks=>p.1++(ks.map fun q=>[44]::q.1).flatten
def wS (K:Int) (nm:By) (x:Int) (ks:List NK):Tk :=
 if K=14 then kidT ks 0++[nm] else if K=15 then kidT ks 0++([nm,[91]]++(kidT ks 1++[[93]])) else if K=16 then kidT ks 0++([nm,[60]]++(eachT (ks.drop 1) []++[[62]]))
 else if K=17 then kidT ks 0++[[42],nm] else if K=27 then [nm] else if K=28 then [Lib.itoa x] else plainT K
def wN (K:Int) (nm:By) (x:Int) (ks:List NK):Tk :=
 if K=1 then (ks.map (·.2)).flatten
 else if K=4 then [[101,110,117,109],nm,[123]]++(betwT ks++[[125]])
 else if K=6 then [[115,116,114,117,99,116],nm,[123]]++(eachT ks [[59]]++[[125]])
 else if K=7 then [[117,110,105,111,110],nm,[115,119,105,116,99,104],[40]]++(kidT ks 0++([[41],[123]]++(eachT (ks.drop 1) [[59]]++[[125]])))
 else if K=5 then [nm,[61]]++kidT ks 0
 else if K=8 then ((ks.take (ks.length - 1)).map fun p=>[99,97,115,101]::(p.1++[[58]])).flatten++eachT (ks.drop (ks.length - 1)) []
 else if K=9 then [[100,101,102,97,117,108,116],[58]]++kidT ks 0
 else if K=10 then [[112,114,111,103,114,97,109],nm,[123]]++(eachT (ks.drop 1) []++([[125],[61]]++kidT ks 0))
 else if K=11 then [[118,101,114,115,105,111,110],nm,[123]]++(eachT (ks.drop 1) []++([[125],[61]]++(kidT ks 0++[[59]])))
 else if K=12 then kidT ks 1++([nm,[40]]++(betwT (ks.drop 2)++([[41],[61]]++(kidT ks 0++[[59]]))))
 else wS K nm x ks
def wD (K:Int) (nm:By) (x:Int) (ks:List NK):Tk :=
 if K=2 then [[99,111,110,115,116],nm,[61]]++(kidT ks 0++[[59]]) else if K=3 then [[116,121,112,101,100,101,102]]++(kidT ks 0++[[59]]) else wN K nm x ks++[[59]]
mutual
def nk:Tree→NK
 | ⟨K,nm,x,a,l⟩=>(wN K nm x (nkL l),wD K nm x (nkL l))
def nkL:List Tree→List NK
 | []=>[]
 | t::l=>nk t::nkL l
end
theorem nkL_map:∀ l:List Tree,nkL l=l.map nk
 | []=>rfl
 | t::l=>by rw [nkL,List.map_cons,nkL_map l]
theorem nk_eq (K:Int) (nm:By) (x a:Int) (l:List Tree):nk ⟨K,nm,x,a,l⟩=(wN K nm x (l.map nk),wD K nm x (l.map nk)):=by rw [nk,nkL_map]
abbrev noTr:Tree:=⟨0,[],0,0,[]⟩
theorem kidT_map (l:List Tree) (i:Nat):kidT (l.map nk) i=(nk (l[i]?.getD noTr)).1:=by
 unfold kidT;rw [List.getElem?_map];cases l[i]? with
 | none=>rw [Option.map_none,Option.getD_none,nk_eq];rfl
 | some t=>rfl
theorem ps_kid_ (t:Tree) (i:Nat) (k:Nat):ps_kid k t (i:Int)=some (t.Kids[i]?.getD noTr):=by
 unfold ps_kid;by_cases h:i < t.Kids.length
 · rw [if_pos (by omega),idx_at rfl h,List.getElem?_eq_getElem h];rfl
 · rw [if_neg (by omega),List.getElem?_eq_none (by omega)];rfl
theorem ps_from_ (t:Tree) (i:Nat) (k:Nat):ps_from k t (i:Int)=some (t.Kids.drop i):=by
 unfold ps_from;by_cases h:i≤t.Kids.length
 · rw [cut_from (a:=i) (by omega) h];rfl
 · rw [cut_from (a:=t.Kids.length) (by omega) (Nat.le_refl _),List.drop_eq_nil_of_le (by omega),List.drop_eq_nil_of_le (by omega)];rfl
theorem ps_last_ (t:Tree) (h:t.Kids.length≤4398046511104) (k:Nat):ps_last k t=some ((t.Kids.length - 1:Nat):Int):=by
 unfold ps_last;rw [w64_of (n:=(t.Kids.length:Int) - 1) (by omega) (by omega)]
 congr 1
 omega
theorem Wr.ite {c:Prop} [Decidable c] {F G:Nat→WriK→Option WriK} {A B:Tk} (q:c→Wr F A) (C:¬ c→Wr G B):Wr (fun k o=>if c then F k o else G k o) (if c then A else B):=by
 by_cases h:c
 · simp only [if_pos h];exact q h
 · simp only [if_neg h];exact C h
def PT (t:Tree):Prop:=Wr (fun k s=>ps_node k s t) (nk t).1∧Wr (fun k s=>ps_wdef k s t) (nk t).2
theorem each_ (l:List Tree) (sep:Tk) (hs:sep.length≤1000000) (hl:l.length≤4398046511104) (h:∀ t∈l,PT t):Wr (fun k s=>ps_each k s l sep) (eachT (l.map nk) sep):=by
 have loop:∀ (d i:Nat),l.length - i=d→i≤l.length→Wr (fun k s=>ps_each.l1 k l sep s (i:Int)) (eachT ((l.drop i).map nk) sep):=by
  intro d
  induction d with
  | zero =>
   intro i C D;refine Wr.unf ?_;simp only [ps_each.l1];rw [List.drop_eq_nil_of_le (by omega)];exact Wr.neg (by omega) Wr.ret
  | succ d ih =>
   intro i C D;have hi:i < l.length:=by omega
   refine Wr.unf ?_;simp only [ps_each.l1];rw [List.drop_eq_getElem_cons hi];refine Wr.pos (by omega) (Wr.pure (ea fun k=>idx_at rfl hi) ?_);refine Wr.cast (Wr.bind (h _ (List.getElem_mem hi)).1 (Wr.bind (put_ sep hs) (ih (i+1) (by omega) (by omega) |> fun q=>?_))) (L:=(nk l[i]).1++(sep++eachT ((l.drop (i+1)).map nk) sep)) (by rw [List.map_cons];unfold eachT;rw [List.map_cons,List.flatten_cons,List.append_assoc]);rw [w64_succ (by omega)];exact q
 refine Wr.unf ?_;simp only [ps_each];exact loop l.length 0 rfl (Nat.zero_le _)
theorem betw_ (l:List Tree) (hl:l.length≤4398046511104) (h:∀ t∈l,PT t):Wr (fun k s=>ps_between k s l) (betwT (l.map nk)):=by
 have loop:∀ (d i:Nat),l.length - i=d→i≤l.length→0 < i→Wr (fun k s=>ps_between.l1 k l s (i:Int)) (((l.drop i).map nk).map fun q=>[44]::q.1).flatten:=by
  intro d
  induction d with
  | zero =>
   intro i C D E;refine Wr.unf ?_;simp only [ps_between.l1];rw [List.drop_eq_nil_of_le (by omega)];exact Wr.neg (by omega) Wr.ret
  | succ d ih =>
   intro i C D E;have hi:i < l.length:=by omega
   refine Wr.unf ?_;simp only [ps_between.l1];rw [List.drop_eq_getElem_cons hi];refine Wr.pos (by omega) (Wr.pure (ea fun k=>idx_at rfl hi) (Wr.pos (by omega) ?_));refine Wr.cast (Wr.bind (put_ [[44]] (by decide)) (Wr.bind (h _ (List.getElem_mem hi)).1 (ih (i+1) (by omega) (by omega) (by omega) |> fun q=>?_))) (L:=[[44]]++((nk l[i]).1++(((l.drop (i+1)).map nk).map fun q=>[44]::q.1).flatten)) (by rw [List.map_cons,List.map_cons,List.flatten_cons];rfl);rw [w64_succ (by omega)];exact q
 refine Wr.unf ?_;simp only [ps_between];refine Wr.unf ?_;simp only [ps_between.l1];cases l with
 | nil=>exact Wr.neg (by simp) Wr.ret
 | cons t l =>
  refine Wr.pos (by simp) (Wr.pure (ea fun k=>idx_at (j:=0) rfl (by simp)) (Wr.neg (by omega) ?_));refine Wr.bind (h t List.mem_cons_self).1 ?_;have:=loop l.length 1 (by simp) (by simp) (by omega);exact this
theorem plain_ (K:Int) (k:Nat):ps_plain k K=some (plainT K):=by
 unfold ps_plain plainT
 repeat' split
 all_goals rfl
theorem plainT_len (K:Int):(plainT K).length≤2:=by
 unfold plainT
 repeat' split
 all_goals decide
abbrev NB (x:Int):Prop:=-9223372036854775808≤x∧x≤9223372036854775807
inductive OkT:Tree→Prop where
 | mk {K:Int} {nm:By} {x a:Int} {l:List Tree}:l.length≤4398046511104→nm.length≤1125899906842624→NB x→(∀ t∈l,OkT t)→OkT ⟨K,nm,x,a,l⟩
theorem node_ {t:Tree} (h:OkT t):PT t:=by
 have hno:Wr (fun k s=>ps_node k s noTr) (nk noTr).1:=by
  refine Wr.unf ?_;simp only [ps_node]
  repeat' refine Wr.neg (by decide) ?_
  refine Wr.last (Wr.unf ?_);simp only [ps_small]
  repeat' refine Wr.neg (by decide) ?_
  exact Wr.pure (ea fun k=>plain_ 0 k) (Wr.last (put_ _ (by decide)))
 induction h with
 | @mk K nm x a l hl hnm hnb hs ih =>
  obtain ⟨hx,hx'⟩:=hnb;have kid:∀ i:Nat,Wr (fun k s=>ps_node k s (l[i]?.getD noTr)) (kidT (l.map nk) i):=fun i=>by
   rw [kidT_map];by_cases h:i < l.length
   · rw [List.getElem?_eq_getElem h];exact (ih _ (List.getElem_mem h)).1
   · rw [List.getElem?_eq_none (by omega)];exact hno
  have hkid:∀ (i:Nat),Ev (fun k=>ps_kid k (⟨K,nm,x,a,l⟩:Tree) (i:Int)) (l[i]?.getD noTr):=fun i=>ea fun k=>ps_kid_ _ i k
  have hfrom:∀ (i:Nat),Ev (fun k=>ps_from k (⟨K,nm,x,a,l⟩:Tree) (i:Int)) (l.drop i):=fun i=>ea fun k=>ps_from_ _ i k
  have each:∀ (i:Nat) (sep:Tk),sep.length≤1000000→Wr (fun k s=>ps_each k s (l.drop i) sep) (eachT ((l.map nk).drop i) sep):=fun i sep h=>by
   rw [← List.map_drop];exact each_ _ sep h (by rw [List.length_drop];omega) fun t ht=>ih t (List.mem_of_mem_drop ht)
  have betw:∀ (i:Nat),Wr (fun k s=>ps_between k s (l.drop i)) (betwT ((l.map nk).drop i)):=fun i=>by
   rw [← List.map_drop];exact betw_ _ (by rw [List.length_drop];omega) fun t ht=>ih t (List.mem_of_mem_drop ht)
  have small:Wr (fun k s=>ps_small k s (⟨K,nm,x,a,l⟩:Tree)) (wS K nm x (l.map nk)):=by
   refine Wr.unf ?_;simp only [ps_small];unfold wS;refine Wr.ite (fun _=>?_) fun _=>?_
   · exact (Wr.pure (hkid 0) (Wr.bind (kid 0) (Wr.last (put_ _ (by simp)))))
   refine Wr.ite (fun _=>?_) fun _=>?_
   · exact (Wr.pure (hkid 0) (Wr.bind (kid 0) (Wr.bind (put_ _ (by simp)) (Wr.pure (hkid 1) (Wr.bind (kid 1) (Wr.last (put_ _ (by simp))))))))
   refine Wr.ite (fun _=>?_) fun _=>?_
   · exact (Wr.pure (hkid 0) (Wr.bind (kid 0) (Wr.bind (put_ _ (by simp)) (Wr.pure (hfrom 1) (Wr.bind (each 1 [] (by simp)) (Wr.last (put_ _ (by simp))))))))
   refine Wr.ite (fun _=>?_) fun _=>?_
   · exact (Wr.pure (hkid 0) (Wr.bind (kid 0) (Wr.last (put_ _ (by simp)))))
   refine Wr.ite (fun _=>?_) fun _=>?_
   · exact (Wr.last (put_ _ (by simp)))
   refine Wr.ite (fun _=>?_) fun _=>?_
   · exact (Wr.pure (ea fun k=>by unfold gv_Itoa;rw [if_pos ⟨hx,hx'⟩]) (Wr.last (put_ _ (by simp))))
   exact Wr.pure (ea fun k=>plain_ K k) (Wr.last (put_ _ (by have:=plainT_len K;omega)))
  have node:Wr (fun k s=>ps_node k s (⟨K,nm,x,a,l⟩:Tree)) (wN K nm x (l.map nk)):=by
   refine Wr.unf ?_;simp only [ps_node];unfold wN;refine Wr.ite (fun _=>?_) fun _=>?_
   · have loop:∀ (d i:Nat),l.length - i=d→i≤l.length→Wr (fun k s=>ps_node.l1 k (⟨K,nm,x,a,l⟩:Tree) s (i:Int)) (((l.map nk).drop i).map (·.2)).flatten:=by
      intro d
      induction d with
      | zero =>
       intro i q C;refine Wr.unf ?_;simp only [ps_node.l1];rw [List.drop_eq_nil_of_le (by rw [List.length_map];omega)];exact Wr.neg (by omega) Wr.ret
      | succ d ihd =>
       intro i q C;have hi:i < l.length:=by omega
       refine Wr.unf ?_;simp only [ps_node.l1];rw [List.drop_eq_getElem_cons (by rw [List.length_map];exact hi),List.getElem_map,List.map_cons,List.flatten_cons];refine Wr.pos (by omega) (Wr.pure (ea fun k=>idx_at rfl hi) (Wr.bind (ih _ (List.getElem_mem hi)).2 ?_));rw [w64_succ (by omega)];exact ihd (i+1) (by omega) (by omega)
     exact loop l.length 0 rfl (Nat.zero_le _)
   refine Wr.ite (fun _=>?_) fun _=>?_
   · exact (Wr.bind (put_ _ (by simp)) (Wr.bind (betw 0) (Wr.last (put_ _ (by simp)))))
   refine Wr.ite (fun _=>?_) fun _=>?_
   · exact (Wr.bind (put_ _ (by simp)) (Wr.bind (each 0 _ (by simp)) (Wr.last (put_ _ (by simp)))))
   refine Wr.ite (fun _=>?_) fun _=>?_
   · exact (Wr.bind (put_ _ (by simp)) (Wr.pure (hkid 0) (Wr.bind (kid 0) (Wr.bind (put_ _ (by simp)) (Wr.pure (hfrom 1) (Wr.bind (each 1 _ (by simp)) (Wr.last (put_ _ (by simp)))))))))
   refine Wr.ite (fun _=>?_) fun _=>?_
   · exact (Wr.bind (put_ _ (by simp)) (Wr.pure (hkid 0) (Wr.last (kid 0))))
   refine Wr.ite (fun _=>?_) fun _=>?_
   · refine (Wr.pure (ea fun k=>ps_last_ _ hl k) (Wr.pure (ea fun k=>cut_to rfl (by show l.length - 1≤l.length;omega)) ?_))
     generalize hm:l.length - 1=m;have hml:m≤l.length:=by omega
     have hlen:(l.take m).length=m:=by rw [List.length_take];omega
     have loop:∀ (d i:Nat),m - i=d→i≤m→Wr (fun k s=>ps_node.l2 k (⟨K,nm,x,a,l⟩:Tree) (l.take m) s (i:Int)) (((((l.map nk).take m).drop i).map fun p=>[99,97,115,101]::(p.1++[[58]])).flatten++eachT ((l.map nk).drop m) []):=by
      intro d
      induction d with
      | zero =>
       intro i q C;refine Wr.unf ?_;simp only [ps_node.l2];rw [List.drop_eq_nil_of_le (by rw [List.length_take,List.length_map];omega)];refine Wr.neg (by rw [hlen];omega) ?_;refine Wr.unf ?_;simp only [ps_node.j1];subst hm;exact Wr.pure (ea fun k=>ps_last_ _ hl k) (Wr.pure (hfrom _) (Wr.last (each _ [] (by simp))))
      | succ d ihd =>
       intro i q C;have hi:i < (l.take m).length:=by rw [hlen];omega
       have hi':i < ((l.map nk).take m).length:=by rw [List.length_take,List.length_map];omega
       refine Wr.unf ?_;simp only [ps_node.l2];rw [List.drop_eq_getElem_cons hi',List.map_cons,List.flatten_cons];have e1:((l.map nk).take m)[i]=nk (l.take m)[i]:=by simp
       rw [e1];refine Wr.pos (by omega) (Wr.pure (ea fun k=>idx_at rfl hi) ?_);refine Wr.cast (L:=[[99,97,115,101]]++((nk (l.take m)[i]).1++([[58]]++(((((l.map nk).take m).drop (i+1)).map fun p=>[99,97,115,101]::(p.1++[[58]])).flatten++eachT ((l.map nk).drop m) [])))) (Wr.bind (put_ _ (by simp)) (Wr.bind (ih _ (List.mem_of_mem_take (List.getElem_mem hi))).1 (Wr.bind (put_ _ (by simp)) ?_))) (by simp);rw [w64_succ (by omega)];exact ihd (i+1) (by omega) (by omega)
     have:=loop m 0 rfl (Nat.zero_le _);rw [List.length_map,hm];exact this
   refine Wr.ite (fun _=>?_) fun _=>?_
   · exact (Wr.bind (put_ _ (by simp)) (Wr.pure (hkid 0) (Wr.last (kid 0))))
   refine Wr.ite (fun _=>?_) fun _=>?_
   · exact (Wr.bind (put_ _ (by simp)) (Wr.pure (hfrom 1) (Wr.bind (each 1 _ (by simp)) (Wr.bind (put_ _ (by simp)) (Wr.pure (hkid 0) (Wr.last (kid 0)))))))
   refine Wr.ite (fun _=>?_) fun _=>?_
   · exact (Wr.bind (put_ _ (by simp)) (Wr.pure (hfrom 1) (Wr.bind (each 1 _ (by simp)) (Wr.bind (put_ _ (by simp)) (Wr.pure (hkid 0) (Wr.bind (kid 0) (Wr.last (put_ _ (by simp)))))))))
   refine Wr.ite (fun _=>?_) fun _=>?_
   · exact (Wr.pure (hkid 1) (Wr.bind (kid 1) (Wr.bind (put_ _ (by simp)) (Wr.pure (hfrom 2) (Wr.bind (betw 2) (Wr.bind (put_ _ (by simp)) (Wr.pure (hkid 0) (Wr.bind (kid 0) (Wr.last (put_ _ (by simp)))))))))))
   exact Wr.last small
  refine ⟨?_,?_⟩
  · rw [nk_eq];exact node
  · rw [nk_eq]
    refine Wr.unf ?_;simp only [ps_wdef]
    show Wr _ (wD K nm x (l.map nk))
    unfold wD;refine Wr.ite (fun _=>?_) fun _=>?_
    · exact (Wr.bind (put_ _ (by simp)) (Wr.pure (hkid 0) (Wr.bind (kid 0) (Wr.last (put_ _ (by simp))))))
    refine Wr.ite (fun _=>?_) fun _=>?_
    · exact (Wr.bind (put_ _ (by simp)) (Wr.pure (hkid 0) (Wr.bind (kid 0) (Wr.last (put_ _ (by simp))))))
    exact Wr.bind node (Wr.last (put_ _ (by simp)))
end Go.Proofs.YtnhifhlbelogcaaGreatDoor
set_option linter.unusedVariables false
set_option linter.unusedSimpArgs false
set_option linter.unusedSectionVars false
namespace Go.Proofs.YtnhifhlbelogcaaGreatDoor
open Go Go.Eng
theorem decDigits_ne (u:Nat):Lib.decDigits u≠[]:=by
 rw [Lib.decDigits]
 split <;> simp
theorem itoa_ne (x:Int):Lib.itoa x≠[]:=by
 unfold Lib.itoa
 split
 · simp
 · exact decDigits_ne _
def ne (L:Tk):Tk:=L.filter fun x=>!x.isEmpty
def n1 (t:Tree):Tk:=ne (nk t).1
def n2 (t:Tree):Tk:=ne (nk t).2
def eachN (l:List Tree) (s:Tk):Tk:=(l.map fun t=>n1 t++s).flatten
def betwN:List Tree→Tk
 | []=>[]
 | t::l=>n1 t++(l.map fun q=>[44]::n1 q).flatten
def caseN (l:List Tree):Tk:=(l.map fun t=>[99,97,115,101]::(n1 t++[[58]])).flatten
def defsN (l:List Tree):Tk:=(l.map n2).flatten
def zch (l:List Tree):Tk:=[[115,119,105,116,99,104],[40]]++(n1 (l[0]?.getD noTr)++([[41],[123]]++eachN (l.drop 1) [[59]]))
def kw (i:Int):By:=if i=4 then [101,110,117,109] else if i=6 then [115,116,114,117,99,116] else [117,110,105,111,110]
def bodyW (i:Int) (l:List Tree):Tk:=if i=4 then [[123]]++(betwN l++[[125]]) else if i=6 then [[123]]++(eachN l [[59]]++[[125]]) else zch l++[[125]]
abbrev Bd (i:Int):Prop:=i=4∨i=6∨i=7
theorem ne_nil:ne []=[]:=rfl
theorem ne_e (L:Tk):ne ([]::L)=ne L:=rfl
theorem ne_c (c:UInt8) (s:By) (L:Tk):ne ((c::s)::L)=(c::s)::ne L:=rfl
theorem ne_app (L M:Tk):ne (L++M)=ne L++ne M:=List.filter_append ..
theorem ne_flat (L:List Tk):ne L.flatten=(L.map ne).flatten:=by
 induction L with
 | nil=>rfl
 | cons a L ih=>rw [List.flatten_cons,ne_app,ih,List.map_cons,List.flatten_cons]
theorem ne_each (l:List Tree) (s:Tk):ne (eachT (l.map nk) s)=eachN l (ne s):=by
 unfold eachT eachN;rw [ne_flat,List.map_map,List.map_map]
 congr 1
 exact List.map_congr_left fun t _=>ne_app _ _
theorem ne_betw (l:List Tree):ne (betwT (l.map nk))=betwN l:=by
 cases l with
 | nil=>rfl
 | cons t l =>
  rw [List.map_cons,betwT,betwN,ne_app,ne_flat,List.map_map,List.map_map]
  rfl
theorem ne_kid (l:List Tree) (i:Nat):ne (kidT (l.map nk) i)=n1 (l[i]?.getD noTr):=by rw [kidT_map];rfl
theorem itoa_c (x:Int):∃ c s,Lib.itoa x=c::s:=by
 cases h:Lib.itoa x with
 | nil=>exact absurd h (itoa_ne x)
 | cons c s=>exact ⟨c,s,rfl⟩
section
variable (c:UInt8) (s:By) (x a:Int) (t v w:Tree) (l:List Tree)
theorem e13:n1 ⟨13,[],x,a,[]⟩=[[118,111,105,100]]:=by rw [n1,nk_eq];rfl
theorem e18:n1 ⟨18,[],x,a,[]⟩=[[105,110,116]]:=by rw [n1,nk_eq];rfl
theorem e19:n1 ⟨19,[],x,a,[]⟩=[[117,110,115,105,103,110,101,100],[105,110,116]]:=by rw [n1,nk_eq];rfl
theorem e20:n1 ⟨20,[],x,a,[]⟩=[[104,121,112,101,114]]:=by rw [n1,nk_eq];rfl
theorem e21:n1 ⟨21,[],x,a,[]⟩=[[117,110,115,105,103,110,101,100],[104,121,112,101,114]]:=by rw [n1,nk_eq];rfl
theorem e22:n1 ⟨22,[],x,a,[]⟩=[[102,108,111,97,116]]:=by rw [n1,nk_eq];rfl
theorem e23:n1 ⟨23,[],x,a,[]⟩=[[100,111,117,98,108,101]]:=by rw [n1,nk_eq];rfl
theorem e24:n1 ⟨24,[],x,a,[]⟩=[[98,111,111,108]]:=by rw [n1,nk_eq];rfl
theorem e25:n1 ⟨25,[],x,a,[]⟩=[[111,112,97,113,117,101]]:=by rw [n1,nk_eq];rfl
theorem e26:n1 ⟨26,[],x,a,[]⟩=[[115,116,114,105,110,103]]:=by rw [n1,nk_eq];rfl
theorem e27:n1 ⟨27,c::s,x,a,l⟩=[c::s]:=by rw [n1,nk_eq];rfl
theorem e28:n1 ⟨28,[],x,a,l⟩=[Lib.itoa x]:=by
 obtain ⟨c,s,h⟩:=itoa_c x;rw [n1,nk_eq]
 show ne [Lib.itoa x]=_
 rw [h];rfl
theorem e14:n1 ⟨14,c::s,x,a,[t]⟩=n1 t++[c::s]:=by
 rw [n1,nk_eq]
 show ne (kidT ([t].map nk) 0++[c::s])=_
 rw [ne_app,ne_kid];rfl
theorem e15:n1 ⟨15,c::s,x,a,[t,v]⟩=n1 t++((c::s)::[91]::(n1 v++[[93]])):=by
 rw [n1,nk_eq]
 show ne (kidT ([t,v].map nk) 0++([c::s,[91]]++(kidT ([t,v].map nk) 1++[[93]])))=_
 rw [ne_app,ne_app,ne_app,ne_kid,ne_kid];rfl
theorem e16:n1 ⟨16,c::s,x,a,[t]⟩=n1 t++[c::s,[60],[62]]:=by
 rw [n1,nk_eq]
 show ne (kidT ([t].map nk) 0++([c::s,[60]]++(eachT ((([]:List Tree)).map nk) []++[[62]])))=_
 rw [ne_app,ne_app,ne_app,ne_kid,ne_each];rfl
theorem e16':n1 ⟨16,c::s,x,a,[t,v]⟩=n1 t++((c::s)::[60]::(n1 v++[[62]])):=by
 rw [n1,nk_eq]
 show ne (kidT ([t,v].map nk) 0++([c::s,[60]]++(eachT (([v]).map nk) []++[[62]])))=_
 rw [ne_app,ne_app,ne_app,ne_kid,ne_each,eachN,List.map_cons,List.map_nil,List.flatten_cons,List.flatten_nil,ne_nil,List.append_nil,List.append_nil];rfl
theorem e17:n1 ⟨17,c::s,x,a,[t]⟩=n1 t++[[42],c::s]:=by
 rw [n1,nk_eq]
 show ne (kidT ([t].map nk) 0++[[42],c::s])=_
 rw [ne_app,ne_kid];rfl
theorem e5:n1 ⟨5,c::s,x,a,[v]⟩=(c::s)::[61]::n1 v:=by
 rw [n1,nk_eq]
 show ne ([c::s,[61]]++kidT ([v].map nk) 0)=_
 rw [ne_app,ne_kid];rfl
theorem e8:n1 ⟨8,s,x,a,l++[t]⟩=caseN l++n1 t:=by
 rw [n1,nk_eq]
 show ne (((((l++[t]).map nk).take (((l++[t]).map nk).length - 1)).map fun p=>[99,97,115,101]::(p.1++[[58]])).flatten++eachT (((l++[t]).map nk).drop (((l++[t]).map nk).length - 1)) [])=_
 have e:((l++[t]).map nk).length - 1=l.length:=by simp
 rw [e,← List.map_take,← List.map_drop,List.take_left' rfl,List.drop_left' rfl,ne_app,ne_each,ne_flat,List.map_map,List.map_map]
 congr 1
 · unfold caseN
   congr 1
   refine List.map_congr_left fun t _=>?_
   show ne ([99,97,115,101]::((nk t).1++[[58]]))=_
   rw [ne_c,ne_app];rfl
 · unfold eachN;simp [ne_nil]
theorem e9:n1 ⟨9,[],x,a,[t]⟩=[100,101,102,97,117,108,116]::[58]::n1 t:=by
 rw [n1,nk_eq]
 show ne ([[100,101,102,97,117,108,116],[58]]++kidT ([t].map nk) 0)=_
 rw [ne_app,ne_kid];rfl
theorem ebody {i:Int} (hi:Bd i) (nm:By):n1 ⟨i,nm,x,a,l⟩=ne [kw i,nm]++bodyW i l:=by
 rw [n1,nk_eq];rcases hi with rfl | rfl | rfl
 · show ne ([[101,110,117,109],nm,[123]]++(betwT (l.map nk)++[[125]]))=ne [[101,110,117,109],nm]++([[123]]++(betwN l++[[125]]))
   rw [ne_app,ne_app,ne_betw,show [[101,110,117,109],nm,[123]]=[[101,110,117,109],nm]++[[123]] from rfl,ne_app,List.append_assoc];rfl
 · show ne ([[115,116,114,117,99,116],nm,[123]]++(eachT (l.map nk) [[59]]++[[125]]))=ne [[115,116,114,117,99,116],nm]++([[123]]++(eachN l [[59]]++[[125]]))
   rw [ne_app,ne_app,ne_each,show [[115,116,114,117,99,116],nm,[123]]=[[115,116,114,117,99,116],nm]++[[123]] from rfl,ne_app,List.append_assoc];rfl
 · show ne ([[117,110,105,111,110],nm,[115,119,105,116,99,104],[40]]++(kidT (l.map nk) 0++([[41],[123]]++(eachT ((l.map nk).drop 1) [[59]]++[[125]]))))=ne [[117,110,105,111,110],nm]++(zch l++[[125]])
   rw [← List.map_drop,ne_app,ne_app,ne_app,ne_app,ne_each,ne_kid,show [[117,110,105,111,110],nm,[115,119,105,116,99,104],[40]]=[[117,110,105,111,110],nm]++[[115,119,105,116,99,104],[40]] from rfl,ne_app];unfold zch;simp only [List.append_assoc];rfl
theorem e12:n1 ⟨12,c::s,x,a,v::w::l⟩=n1 w++((c::s)::[40]::(betwN l++([41]::[61]::(n1 v++[[59]])))):=by
 rw [n1,nk_eq]
 show ne (kidT ((v::w::l).map nk) 1++([c::s,[40]]++(betwT (l.map nk)++([[41],[61]]++(kidT ((v::w::l).map nk) 0++[[59]])))))=_
 rw [ne_app,ne_app,ne_app,ne_app,ne_app,ne_kid,ne_kid,ne_betw];rfl
theorem e11:n1 ⟨11,c::s,x,a,v::l⟩=[118,101,114,115,105,111,110]::(c::s)::[123]::(eachN l []++([125]::[61]::(n1 v++[[59]]))):=by
 rw [n1,nk_eq]
 show ne ([[118,101,114,115,105,111,110],c::s,[123]]++(eachT (l.map nk) []++([[125],[61]]++(kidT ((v::l).map nk) 0++[[59]]))))=_
 rw [ne_app,ne_app,ne_app,ne_app,ne_kid,ne_each];rfl
theorem e10:n1 ⟨10,c::s,x,a,v::l⟩=[112,114,111,103,114,97,109]::(c::s)::[123]::(eachN l []++([125]::[61]::n1 v)):=by
 rw [n1,nk_eq]
 show ne ([[112,114,111,103,114,97,109],c::s,[123]]++(eachT (l.map nk) []++([[125],[61]]++kidT ((v::l).map nk) 0)))=_
 rw [ne_app,ne_app,ne_app,ne_kid,ne_each];rfl
theorem e1:n1 ⟨1,s,x,a,l⟩=defsN l:=by
 rw [n1,nk_eq]
 show ne ((l.map nk).map (·.2)).flatten=_
 rw [ne_flat,List.map_map,List.map_map];rfl
theorem d2:n2 ⟨2,c::s,x,a,[v]⟩=[99,111,110,115,116]::(c::s)::[61]::(n1 v++[[59]]):=by
 rw [n2,nk_eq]
 show ne ([[99,111,110,115,116],c::s,[61]]++(kidT ([v].map nk) 0++[[59]]))=_
 rw [ne_app,ne_app,ne_kid];rfl
theorem d3:n2 ⟨3,s,x,a,[v]⟩=[116,121,112,101,100,101,102]::(n1 v++[[59]]):=by
 rw [n2,nk_eq]
 show ne ([[116,121,112,101,100,101,102]]++(kidT ([v].map nk) 0++[[59]]))=_
 rw [ne_app,ne_app,ne_kid];rfl
theorem dn (q:t.Kind≠2) (C:t.Kind≠3):n2 t=n1 t++[[59]]:=by
 obtain ⟨K,nm,x,a,l⟩:=t;rw [n2,n1,nk_eq]
 show ne (wD K nm x (l.map nk))=_
 rw [wD,if_neg q,if_neg C,ne_app];rfl
end
theorem putL_ne:∀ (L:Tk) (o:By),putL o (ne L)=putL o L
 | [],o=>rfl
 | []::L,o=>by
  rw [ne_e,putL_ne L o]
  show putL o L=putL (put1 o []) L
  unfold put1;rw [if_neg (fun h=>joins_ne h rfl),List.append_nil]
 | (c::s)::L,o=>by rw [ne_c];exact putL_ne L _
end Go.Proofs.YtnhifhlbelogcaaGreatDoor
set_option linter.unusedVariables false
set_option linter.unusedSimpArgs false
namespace Go.Proofs.YtnhifhlbelogcaaGreatDoor
open Go Go.Eng
def lastI (o:By):Int:=match o.getLast? with
 | some c=>(c.toNat:Int)
 | none=>0
def gs (o:By):WriR:=⟨o,false,lastI o⟩
def Bad (r:WriR):Prop:=r.odd=true∨16000 < r.l.length
def TT (F:Nat→WriR→Option WriR):Prop:=∀ r:WriR,r.l.length≤32001→∃ r',Ev (fun k=>F k r) r'∧r'.l.length≤32001∧(Bad r→Bad r')
def RT (F:Nat→WriR→Option WriR) (L:Tk):Prop:=∀ r:WriR,r.l.length≤32001→∃ r',Ev (fun k=>F k r) r'∧r'.l.length≤32001∧(Bad r→Bad r')∧∀ o,r=gs o→r'=gs (putL o L)∨(Bad r'∧16000 < (putL o L).length)
theorem put1_ge (o x:By):o.length≤(put1 o x).length:=by unfold put1;split <;> simp
theorem putL_ge:∀ (L:Tk) (o:By),o.length≤(putL o L).length
 | [],o=>Nat.le_refl _
 | x::L,o=>Nat.le_trans (put1_ge o x) (putL_ge L (put1 o x))
section
variable {F G:Nat→WriR→Option WriR} {L M:Tk}
theorem TT.ret:TT (fun _ r=>some r):=fun r hr=>⟨r,et,hr,id⟩
theorem RT.ret:RT (fun _ r=>some r) []:=fun r hr=>⟨r,et,hr,id,fun o h=>.inl h⟩
theorem TT.bind (h:TT F) (g:TT G):TT (fun k r=>Option.bind (F k r) fun s=>G k s):=fun r hr=>by
 obtain ⟨r',q,C,D⟩:=h r hr;obtain ⟨E,J,O,V⟩:=g r' C;exact ⟨E,eb q J,O,fun h=>V (D h)⟩
theorem RT.bind (h:RT F L) (g:RT G M):RT (fun k r=>Option.bind (F k r) fun s=>G k s) (L++M):=fun r hr=>by
 obtain ⟨r',C,D,E,J⟩:=h r hr;obtain ⟨O,V,X,q,Y⟩:=g r' D;refine ⟨O,eb C V,X,fun h=>q (E h),fun o ho=>?_⟩;rw [putL_append];rcases J o ho with e | ⟨e,l⟩
 · exact Y _ e
 · exact .inr ⟨q e,Nat.lt_of_lt_of_le l (putL_ge M _)⟩
theorem TT.last (h:TT F):TT (fun k r=>Option.bind (F k r) fun s=>some s):=TT.bind h TT.ret
theorem RT.last (h:RT F L):RT (fun k r=>Option.bind (F k r) fun s=>some s) L:=by
 have:=RT.bind h RT.ret
 rwa [List.append_nil] at this
theorem TT.pure {α:Type} {A:Nat→Option α} {x:α} {G:Nat→WriR→α→Option WriR} (hA:Ev A x) (g:TT (fun k r=>G k r x)):TT (fun k r=>Option.bind (A k) fun s=>G k r s):=fun r hr=>by
 obtain ⟨r',q,C⟩:=g r hr;exact ⟨r',eb hA q,C⟩
theorem RT.pure {α:Type} {A:Nat→Option α} {x:α} {G:Nat→WriR→α→Option WriR} (hA:Ev A x) (g:RT (fun k r=>G k r x) L):RT (fun k r=>Option.bind (A k) fun s=>G k r s) L:=fun r hr=>by
 obtain ⟨r',q,C⟩:=g r hr;exact ⟨r',eb hA q,C⟩
theorem TT.unf (h:TT (fun k=>F (k+1))):TT F:=fun r hr=>by
 obtain ⟨r',q,C⟩:=h r hr;exact ⟨r',Ev.unf (f:=fun k=>F k r) q,C⟩
theorem RT.unf (h:RT (fun k=>F (k+1)) L):RT F L:=fun r hr=>by
 obtain ⟨r',q,C⟩:=h r hr;exact ⟨r',Ev.unf (f:=fun k=>F k r) q,C⟩
theorem TT.ite {c:Prop} [Decidable c] (q:c→TT F) (C:¬ c→TT G):TT (fun k r=>if c then F k r else G k r):=by
 by_cases h:c
 · simp only [if_pos h];exact q h
 · simp only [if_neg h];exact C h
theorem RT.pos {c:Prop} [Decidable c] (hc:c) (h:RT F L):RT (fun k r=>if c then F k r else G k r) L:=by simp only [if_pos hc];exact h
theorem RT.neg {c:Prop} [Decidable c] (hc:¬ c) (h:RT G L):RT (fun k r=>if c then F k r else G k r) L:=by simp only [if_neg hc];exact h
theorem RT.cast (h:RT F L) (e:L=M):RT F M:=e ▸ h
theorem TT.odd:TT (fun _ r=>some (⟨r.l,true,r.last⟩:WriR)):=fun r hr=>⟨_,et,hr,fun _=>.inl rfl⟩
theorem TT.ifodd (h:TT F):TT (fun k r=>if r.odd=true then some r else F k r):=fun r hr=>by
 by_cases ho:r.odd=true
 · exact ⟨r,ep ho et,hr,id⟩
 · obtain ⟨r',q,C⟩:=h r hr
   exact ⟨r',eg ho q,C⟩
theorem RT.ifodd (h:RT F L):RT (fun k r=>if r.odd=true then some r else F k r) L:=fun r hr=>by
 by_cases ho:r.odd=true
 · exact ⟨r,ep ho et,hr,id,fun o h=>by subst h;cases ho⟩
 · obtain ⟨r',q,C⟩:=h r hr
   exact ⟨r',eg ho q,C⟩
end
theorem rp_run_ (k:Nat) (c:UInt8):rp_run k (c.toNat:Int)=some (inRun c):=by
 have h:=ps_inRun_ k c;unfold ps_inRun at h;unfold rp_run;exact h
theorem rp_run_ex (x:Int):∃ b,∀ k,rp_run k x=some b:=by
 refine ⟨(rp_run 0 x).getD false,fun k=>?_⟩;unfold rp_run
 repeat' split
 all_goals rfl
theorem run_last (o:By) (k:Nat):rp_run k (lastI o)=some (match o.getLast? with | some a=>inRun a | none=>false):=by
 unfold lastI;cases o.getLast? with
 | none=>rfl
 | some c=>exact rp_run_ k c
theorem rput_l (L:Tk) (hL:L.length≤1000000):∀ (d i:Nat) (r:WriR),L.length - i=d→i≤L.length→r.l.length≤32001 →
 ∃ r',Ev (fun k=>rp_put.l1 k L r (i:Int)) r'∧r'.l.length≤32001∧(Bad r→Bad r')∧((∀ x∈L,x≠[])→∀ o,r=gs o→r'=gs (putL o (L.drop i))∨(Bad r'∧16000 < (putL o (L.drop i)).length)):=by
 intro d
 induction d with
 | zero =>
  intro i r J q hr;refine ⟨r,Ev.unf ?_,hr,id,fun _ o ho=>.inl ?_⟩
  · simp only [rp_put.l1]
    exact eg (by omega) et
  · rw [List.drop_eq_nil_of_le (by omega),ho];rfl
 | succ d ih =>
  intro i r J q hr;have hi:i < L.length:=by omega
  have hx:idx L (i:Int)=some L[i]:=idx_at rfl hi;rw [List.drop_eq_getElem_cons hi];have hne:(∀ x∈L,x≠[])→L[i]≠[]:=fun h=>h _ (List.getElem_mem hi)
  generalize hX:L[i]=x at *;have odd:∀ b,b=true→Ev (fun k=>rp_put.j1 k L r (i:Int) b) (⟨r.l,true,r.last⟩:WriR):=fun b hb=>by
   refine Ev.unf ?_;simp only [rp_put.j1];exact ep hb et
  by_cases he:x=[]
  · refine ⟨⟨r.l,true,r.last⟩,Ev.unf ?_,hr,fun _=>.inl rfl,fun h=>absurd he (hne h)⟩
    simp only [rp_put.l1];exact ep (by omega) (ebc hx (ep he (odd true rfl)))
  by_cases hl:(16000:Int) < (r.l.length:Int)
  · refine ⟨⟨r.l,true,r.last⟩,Ev.unf ?_,hr,fun _=>.inl rfl,fun _ o ho=>.inr ⟨.inl rfl,?_⟩⟩
    · simp only [rp_put.l1]
      exact ep (by omega) (ebc hx (eg he (ep hl (odd true rfl))))
    · have:=putL_ge (x::L.drop (i+1)) o
      rw [ho] at hl;have hl:(16000:Int) < (o.length:Int):=hl
      omega
  by_cases hxl:(16000:Int) < (x.length:Int)
  · refine ⟨⟨r.l,true,r.last⟩,Ev.unf ?_,hr,fun _=>.inl rfl,fun _ o ho=>.inr ⟨.inl rfl,?_⟩⟩
    · simp only [rp_put.l1]
      exact ep (by omega) (ebc hx (eg he (eg hl (ebc hx (odd _ (decide_eq_true hxl))))))
    · have J:=putL_ge (L.drop (i+1)) (put1 o x)
      have q:x.length≤(put1 o x).length:=by unfold put1;split <;> simp <;> omega
      show 16000 < (putL (put1 o x) (L.drop (i+1))).length
      omega
  · obtain ⟨c,y,hcy⟩:∃ c y,x=c::y:=by cases x with | nil=>exact absurd rfl he | cons c y=>exact ⟨c,y,rfl⟩
    have V:idx x 0=some c:=by rw [hcy];rfl
    have hlen:0 < x.length:=by rw [hcy];simp
    have hlx:idx x (w64 ((x.length:Int) - 1))=some x[x.length - 1]:=by
     rw [w64_of (n:=(x.length:Int) - 1) (by omega) (by omega)];exact idx_at (j:=x.length - 1) (by omega) (by omega)
    have hgl:∀ o:By,lastI (o++x)=(x[x.length - 1].toNat:Int):=fun o=>by
     unfold lastI;rw [List.getLast?_append,List.getLast?_eq_getElem?,List.getElem?_eq_getElem (by omega)];rfl
    obtain ⟨b,hb⟩:=rp_run_ex r.last;have j2:∀ l':By,l'.length≤r.l.length+1→∃ r',Ev (fun k=>rp_put.j2 k L (i:Int) (⟨l',r.odd,r.last⟩:WriR)) r'∧r'.l.length≤32001∧(Bad r→Bad r') ∧
     ((∀ x∈L,x≠[])→∀ o,r=gs o→put1 o x=l'++x→r'=gs (putL o (x::L.drop (i+1)))∨(Bad r'∧16000 < (putL o (x::L.drop (i+1))).length)):=fun l' hl'=>by
     obtain ⟨r',e1,C,D,E⟩:=ih (i+1) (⟨l'++x,r.odd,(x[x.length - 1].toNat:Int)⟩:WriR) (by omega) (by omega) (by show (l'++x).length≤32001;rw [List.length_append];omega);refine ⟨r',Ev.unf ?_,C,fun h=>D ?_,fun hne o ho hp=>?_⟩
     · simp only [rp_put.j2]
       refine ebc hx (ebc (cat_at (by omega)) (ebc hx (ebc hx (ebc hlx ?_))));rw [w64_succ (by omega)];exact e1
     · rcases h with h | h
       · exact .inl h
       · exact absurd h (by omega)
     · refine E hne (put1 o x) ?_
       rw [hp];unfold gs;rw [hgl,ho];rfl
    have go:∀ r':WriR,Ev (fun k=>rp_put.j3 k L r (i:Int) (if b=true then inRun c else false)) r'→Ev (fun k=>rp_put.l1 k L r (i:Int)) r':=fun r' h=>by
     refine Ev.unf ?_;simp only [rp_put.l1];refine ep (by omega) (ebc hx (eg he (eg hl (ebc hx (Ev.unf ?_)))));simp only [rp_put.j1];refine eg (by simpa using hxl) (eb (ea hb) (ebc hx (ebc V (eb (ea fun k=>rp_run_ k c) ?_))));cases b with
     | true=>exact ep rfl h
     | false=>exact eg (by simp) h
    have hjoin:∀ o,r=gs o→joins o x=(if b=true then inRun c else false):=fun o ho=>by
     have J:=run_last o 0;have q:=hb 0;rw [ho] at q;have O:rp_run 0 (lastI o)=some b:=q;rw [J] at O;have O:=Option.some.inj O;unfold joins;rw [← O,hcy];cases o.getLast? with
     | none=>rfl
     | some a =>
      show (inRun a && inRun c)=if inRun a=true then inRun c else false
      cases inRun a <;> rfl
    generalize hB:(if b=true then inRun c else false)=B at go hjoin;cases B with
    | true =>
     obtain ⟨r',e1,C,D,E⟩:=j2 (r.l++[32]) (by simp);refine ⟨r',go r' (Ev.unf ?_),C,D,fun hne o ho=>E hne o ho ?_⟩
     · simp only [rp_put.j3]
       exact ep trivial (ebc (cat_at (by rw [List.length_singleton];omega)) e1)
     · unfold put1
       rw [if_pos (hjoin o ho),ho]
       show o++32::x=o++[32]++x
       simp
    | false =>
     obtain ⟨r',e1,C,D,E⟩:=j2 r.l (by omega);refine ⟨r',go r' (Ev.unf ?_),C,D,fun hne o ho=>E hne o ho ?_⟩
     · simp only [rp_put.j3]
       exact eg (by simp) e1
     · unfold put1
       rw [if_neg (by rw [hjoin o ho];simp),ho];rfl
theorem putT (L:Tk) (hL:L.length≤1000000):TT (fun k r=>rp_put k r L):=fun r hr=>by
 obtain ⟨r',q,C,D,_⟩:=rput_l L hL L.length 0 r rfl (Nat.zero_le _) hr;exact ⟨r',q,C,D⟩
theorem putR (L:Tk) (hL:L.length≤1000000) (h:∀ x∈L,x≠[]):RT (fun k r=>rp_put k r L) L:=fun r hr=>by
 obtain ⟨r',q,C,D,E⟩:=rput_l L hL L.length 0 r rfl (Nat.zero_le _) hr;exact ⟨r',q,C,D,E h⟩
theorem cut10:∀ u:Fin 10,(List.take (u.val+1) ([48,49,50,51,52,53,54,55,56,57]:By)).drop u.val=[UInt8.ofNat (48+u.val)]:=by decide
theorem dec_len:∀ (k u:Nat),u < 10 ^ k→1≤k→(Lib.decDigits u).length≤k
 | 0,u,_,h=>by omega
 | k+1,u,h,_=>by
  rw [Lib.decDigits];by_cases q:u < 10
  · rw [dif_pos q];simp
  · rw [dif_neg q,List.length_append,List.length_singleton]
    have:1≤k:=by
     rcases Nat.eq_zero_or_pos k with rfl | h
     · simp at h;omega
     · exact h
    have:=dec_len k (u / 10) (by rw [Nat.pow_succ] at h;omega) this
    omega
theorem digits_nn (u:Nat):u≤1099511627776→Ev (fun k=>rp_digits k (u:Int)) (Lib.decDigits u):=by
 induction u using Nat.strongRecOn with
 | _ u ih =>
  intro hu;refine Ev.unf ?_;simp only [rp_digits];refine eg (by omega) (Ev.unf ?_);simp only [rp_digits.j1];refine eg (by simp) (eg (by omega) (Ev.unf ?_));simp only [rp_digits.j2];refine eg (by simp;omega) ?_;rw [Lib.decDigits];by_cases h:u < 10
  · rw [dif_pos h]
    refine ep (by omega) ?_;rw [w64_succ (by omega)];exact ebc (cut_at rfl rfl (Nat.le_succ u) (by simp;omega)) (ecs et (cut10 ⟨u,h⟩))
  · rw [dif_neg h]
    refine eg (by omega) ?_;have e1:w64 (Int.tdiv (u:Int) 10)=((u / 10:Nat):Int):=by
     have:Int.tdiv (u:Int) 10=((u / 10:Nat):Int):=by rw [Int.tdiv_eq_ediv_of_nonneg (by omega)];omega
     rw [this];exact w64_of (by omega) (by omega)
    have C:Int.tmod (u:Int) 10=((u % 10:Nat):Int):=by rw [Int.tmod_eq_emod_of_nonneg (by omega)];omega
    have q:=ih (u % 10) (by omega) (by omega);have D:Lib.decDigits (u % 10)=[UInt8.ofNat (48+u % 10)]:=by rw [Lib.decDigits,dif_pos (by omega)]
    rw [D] at q;rw [e1,C];refine eb (ih (u / 10) (by omega) (by omega)) (eb q (ebc (cat_at ?_) et));have:=dec_len 20 (u / 10) (by omega) (by omega);rw [List.length_singleton];omega
theorem digits_ {n:Int} (h:NB n):∃ d,Ev (fun k=>rp_digits k n) d∧(N40 n→d=Lib.itoa n):=by
 obtain ⟨C,D⟩:=h;have big:∀ r:By,(¬ n < 0∧1099511627776 < n→r=[])→(¬ n < 0∧¬ 1099511627776 < n→r=Lib.itoa n)→¬ n < 0→Ev (fun k=>rp_digits k n) r:=fun r ha hb hn=>by
  by_cases hg:1099511627776 < n
  · rw [ha ⟨hn,hg⟩]
    refine Ev.unf ?_;simp only [rp_digits];refine eg hn (Ev.unf ?_);simp only [rp_digits.j1];refine eg (by simp) (eg hn (Ev.unf ?_));simp only [rp_digits.j2];exact ep (by simpa using hg) et
  · rw [hb ⟨hn,hg⟩]
    obtain ⟨u,rfl⟩:∃ u:Nat,n=(u:Int):=⟨n.toNat,by omega⟩;have:=digits_nn u (by omega);have e:Lib.itoa (u:Int)=Lib.decDigits u:=by unfold Lib.itoa;rw [if_neg (by omega)];simp
    rw [e];exact this
 by_cases q:n < 0
 · by_cases hs:-1099511627776 < n
   · obtain ⟨u,rfl⟩:∃ u:Nat,n = -(u:Int):=⟨n.natAbs,by omega⟩
     refine ⟨45::Lib.decDigits u,Ev.unf ?_,fun _=>?_⟩
     · simp only [rp_digits]
       refine ep q (Ev.unf ?_);simp only [rp_digits.j1];refine ep (by simpa using hs) ?_;rw [show w64 (- -(u:Int))=(u:Int) by rw [Int.neg_neg];exact w64_of (by omega) (by omega)];refine eb (digits_nn u (by omega)) (ebc (cat_at ?_) et);have:=dec_len 20 u (by omega) (by omega);rw [List.length_singleton];omega
     · unfold Lib.itoa
       rw [if_pos q];simp
   · refine ⟨[],Ev.unf ?_,fun h=>absurd h.1 hs⟩
     simp only [rp_digits];refine ep q (Ev.unf ?_);simp only [rp_digits.j1];refine eg (by simpa using hs) (ep q (Ev.unf ?_));simp only [rp_digits.j2];exact ep trivial et
 · by_cases hg:1099511627776 < n
   · exact ⟨[],big [] (fun _=>rfl) (fun h=>absurd hg h.2) q,fun h=>absurd hg (by omega)⟩
   · exact ⟨Lib.itoa n,big _ (fun h=>absurd h.2 hg) (fun _=>rfl) q,fun _=>rfl⟩
theorem valueT {t:Tree} (h:NB t.Number):TT (fun k r=>rp_value k r t):=by
 obtain ⟨d,hd,_⟩:=digits_ h;unfold rp_value;exact TT.ite (fun _=>TT.last (putT _ (by simp))) fun _=>TT.pure hd (TT.last (putT _ (by simp)))
theorem valueR {t:Tree} (h:Val t):RT (fun k r=>rp_value k r t) (n1 t):=by
 cases h with
 | @ref c s a =>
  unfold rp_value;rw [e27];exact RT.pos rfl (RT.last (putR _ (by simp) (by simp)))
 | @num x a hx =>
  obtain ⟨d,hd,e⟩:=digits_ (n:=x) ⟨by omega,by omega⟩;have e:=e hx;subst e;unfold rp_value;rw [e28];exact RT.neg (show ¬ (28:Int)=27 by decide) (RT.pure hd (RT.last (putR _ (by simp) (by simpa using itoa_ne x))))
end Go.Proofs.YtnhifhlbelogcaaGreatDoor
set_option linter.unusedVariables false
set_option linter.unusedSimpArgs false
namespace Go.Proofs.YtnhifhlbelogcaaGreatDoor
open Go Go.Eng
theorem OkT.nb {t:Tree} (h:OkT t):NB t.Number:=by cases h with | mk _ _ h _=>exact h
theorem OkT.kid {t u:Tree} (h:OkT t) (hu:u∈t.Kids):OkT u:=by cases h with | mk _ _ _ h=>exact h u hu
theorem OkT.len {t:Tree} (h:OkT t):t.Kids.length≤4398046511104:=by cases h with | mk h _ _ _=>exact h
theorem okNo:OkT noTr:=.mk (by simp) (by simp) (by decide) (fun t h=>nomatch h)
theorem TT.kid {t:Tree} {i:Int} (hi:0≤i) {G:Nat→WriR→Tree→Option WriR} (h:∀ u∈t.Kids,TT (fun k r=>G k r u)) (E:TT (fun k r=>G k r noTr)):TT (fun k r=>Option.bind (rp_kid k r t i) fun p=>G k p.2 p.1):=fun r hr=>by
 by_cases hk:(t.Kids.length:Int)≤i
 · obtain ⟨r',q,C,D⟩:=E (⟨r.l,true,r.last⟩:WriR) hr
   refine ⟨r',eb (r:=(noTr,(⟨r.l,true,r.last⟩:WriR))) (ea fun k=>?_) q,C,fun _=>D (.inl rfl)⟩;unfold rp_kid;rw [if_pos hk]
 · have hj:i.toNat < t.Kids.length:=by omega
   have hx:=idx_at (L:=t.Kids) (i:=i) (j:=i.toNat) (by omega) hj;obtain ⟨r',q,C,D⟩:=h _ (List.getElem_mem hj) r hr;refine ⟨r',eb (r:=(t.Kids[i.toNat],r)) (ea fun k=>?_) q,C,D⟩;unfold rp_kid;rw [if_neg hk,hx];rfl
theorem TT.loop {l:List Tree} (hl:l.length≤4398046511104) {F:Nat→WriR→Int→Option WriR} {E:Nat→WriR→Option WriR} (a:Nat) (hE:TT E)
 (hs:∀ (i:Nat),a≤i→l.length≤i→TT (fun k r=>E k r)→TT (fun k r=>F k r (i:Int)))
 (hn:∀ (i:Nat) (hi:i < l.length),TT (fun k r=>F k r ((i+1:Nat):Int))→TT (fun k r=>F k r (i:Int))):TT (fun k r=>F k r (a:Int)):=by
 have:∀ (d i:Nat),l.length - i=d→a≤i→TT (fun k r=>F k r (i:Int)):=by
  intro d
  induction d with
  | zero=>intro i C q;exact hs i q (by omega) hE
  | succ d ih=>intro i C q;exact hn i (by omega) (ih (i+1) (by omega) (by omega))
 exact this _ a rfl (Nat.le_refl _)
abbrev Q4 (t:Tree):Prop:=TT (fun k r=>rp_typed k r t)∧TT (fun k r=>rp_body k r t)∧TT (fun k r=>rp_declaration k r t)∧TT (fun k r=>rp_arm k r t)
theorem pT (L:Tk) (hL:L.length≤1000000:=by simp):TT (fun k r=>rp_put k r L):=putT L hL
theorem body_T {t:Tree} (h:OkT t) (hd:∀ u∈t.Kids,TT (fun k r=>rp_declaration k r u)) (C:TT (fun k r=>rp_declaration k r noTr)) (ha:∀ u∈t.Kids,TT (fun k r=>rp_arm k r u)):TT (fun k r=>rp_body k r t):=by
 have hl:=h.len;refine TT.unf ?_;simp only [rp_body];refine TT.ifodd (TT.ite (fun _=>?_) fun _=>TT.ite (fun _=>?_) fun _=>?_)
 · refine TT.loop (l:=t.Kids) (F:=fun k r i=>rp_body.l1 k t r i) hl 0 (pT [[125]]) (fun i _ D hE=>TT.unf ?_) (fun i hi ih=>TT.unf ?_)
   · simp only [rp_body.l1]
     exact TT.ite (fun h=>by omega) fun _=>TT.last hE
   · simp only [rp_body.l1]
     refine TT.ite (fun _=>?_) (fun h=>by omega);have hm:∃ m,idx ([[123],[44]]:List By) (min (i:Int) 1)=some m:=by
      rcases Nat.eq_zero_or_pos i with rfl | h
      · exact ⟨_,rfl⟩
      · exact ⟨[44],by rw [show min (i:Int) 1=1 by omega];rfl⟩
     obtain ⟨m,hm⟩:=hm;refine TT.pure (ea fun k=>idx_at rfl hi) (TT.pure (ea fun k=>hm) (TT.bind (pT _) (TT.pure (ea fun k=>idx_at rfl hi) ?_)));rw [w64_succ (by omega)];exact TT.kid (G:=fun k r u=>Option.bind (rp_value k r u) fun s=>rp_body.l1 k t s ((i+1:Nat):Int)) (by omega) (fun u hu=>TT.bind (valueT ((h.kid (List.getElem_mem hi)).kid hu).nb) ih) (TT.bind (valueT okNo.nb) ih)
 · refine TT.bind (pT _) (TT.loop (l:=t.Kids) (F:=fun k r i=>rp_body.l2 k t r i) hl 0 (pT [[125]]) (fun i _ D hE=>TT.unf ?_) (fun i hi ih=>TT.unf ?_))
   · simp only [rp_body.l2]
     exact TT.ite (fun h=>by omega) fun _=>TT.last hE
   · simp only [rp_body.l2]
     refine TT.ite (fun _=>TT.pure (ea fun k=>idx_at rfl hi) (TT.bind (hd _ (List.getElem_mem hi)) (TT.bind (pT _) ?_))) (fun h=>by omega);rw [w64_succ (by omega)];exact ih
 · have lp:TT (fun k r=>rp_body.l3 k t r 1):=by
    refine TT.loop (l:=t.Kids) (F:=fun k r i=>rp_body.l3 k t r i) hl 1 (pT [[125]]) (fun i _ D hE=>TT.unf ?_) (fun i hi ih=>TT.unf ?_)
    · simp only [rp_body.l3]
      exact TT.ite (fun h=>by omega) fun _=>TT.last hE
    · simp only [rp_body.l3]
      refine TT.ite (fun _=>TT.pure (ea fun k=>idx_at rfl hi) (TT.bind (ha _ (List.getElem_mem hi)) ?_)) (fun h=>by omega);rw [w64_succ (by omega)];exact ih
   exact TT.bind (pT _) (TT.kid (G:=fun k r u=>Option.bind (rp_declaration k r u) fun s=>Option.bind (rp_put k s [[41],[123]]) fun q=>rp_body.l3 k t q 1) (by omega) (fun u hu=>TT.bind (hd u hu) (TT.bind (pT _) lp)) (TT.bind C (TT.bind (pT _) lp)))
theorem typed_T {t:Tree} (hb:TT (fun k r=>rp_body k r t)):TT (fun k r=>rp_typed k r t):=by
 refine TT.unf ?_;simp only [rp_typed]
 iterate 11 refine TT.ite (fun _=>TT.last (pT _)) fun _=>?_
 iterate 3 refine TT.ite (fun _=>TT.bind (pT _) (TT.last hb)) fun _=>?_
 exact TT.odd
theorem decl_T {t:Tree} (h:OkT t) (ht:∀ u∈t.Kids,TT (fun k r=>rp_typed k r u)) (ad:TT (fun k r=>rp_typed k r noTr)):TT (fun k r=>rp_declaration k r t):=by
 have hv:∀ i:Int,0≤i→TT (fun k r=>Option.bind (rp_kid k r t i) fun p=>Option.bind (rp_value k p.2 p.1) fun s=>Option.bind (rp_put k s [[93]]) fun q=>some q):=fun i hi =>
  TT.kid (G:=fun k r u=>Option.bind (rp_value k r u) fun s=>Option.bind (rp_put k s [[93]]) fun q=>some q) hi (fun u hu=>TT.bind (valueT (h.kid hu).nb) (TT.last (pT _))) (TT.bind (valueT okNo.nb) (TT.last (pT _)))
 have rest:TT (fun k r=>if t.Kind=14 then (Option.bind (rp_put k r [t.Name]) fun Z=>some Z) else if t.Kind=17 then (Option.bind (rp_put k r [[42],t.Name]) fun aa=>some aa) else if t.Kind=15 then (Option.bind (rp_put k r [t.Name,[91]]) fun ab=>Option.bind (rp_kid k ab t 1) fun D=>Option.bind (rp_value k D.2 D.1) fun E=>Option.bind (rp_put k E [[93]]) fun J=>some J) else if t.Kind=16 then (Option.bind (rp_put k r [t.Name,[60]]) fun C=>if 1 < (t.Kids.length:Int) then (Option.bind (idx t.Kids 1) fun O=>Option.bind (rp_value k C O) fun V=>Option.bind (rp_put k V [[62]]) fun X=>some X) else (Option.bind (rp_put k C [[62]]) fun Y=>some Y)) else some (⟨r.l,true,r.last⟩:WriR)):=by
  refine TT.ite (fun _=>TT.last (pT _)) fun _=>TT.ite (fun _=>TT.last (pT _)) fun _=>TT.ite (fun _=>TT.bind (pT _) (hv 1 (by omega))) fun _=>TT.ite (fun _=>TT.bind (pT _) (TT.ite (fun ae=>?_) fun _=>TT.last (pT _))) fun _=>TT.odd
  have hj:1 < t.Kids.length:=by omega
  exact TT.pure (ea fun k=>idx_at (j:=1) rfl hj) (TT.bind (valueT (h.kid (List.getElem_mem hj)).nb) (TT.last (pT _)))
 refine TT.unf ?_;simp only [rp_declaration];refine TT.ite (fun _=>TT.last (pT _)) fun _=>?_
 exact TT.kid (G:=fun k r u=>Option.bind (rp_typed k r u) fun r=>if t.Kind=14 then (Option.bind (rp_put k r [t.Name]) fun Z=>some Z) else if t.Kind=17 then (Option.bind (rp_put k r [[42],t.Name]) fun aa=>some aa) else if t.Kind=15 then (Option.bind (rp_put k r [t.Name,[91]]) fun ab=>Option.bind (rp_kid k ab t 1) fun D=>Option.bind (rp_value k D.2 D.1) fun E=>Option.bind (rp_put k E [[93]]) fun J=>some J) else if t.Kind=16 then (Option.bind (rp_put k r [t.Name,[60]]) fun C=>if 1 < (t.Kids.length:Int) then (Option.bind (idx t.Kids 1) fun O=>Option.bind (rp_value k C O) fun V=>Option.bind (rp_put k V [[62]]) fun X=>some X) else (Option.bind (rp_put k C [[62]]) fun Y=>some Y)) else some (⟨r.l,true,r.last⟩:WriR)) (by omega) (fun u hu=>TT.bind (ht u hu) rest) (TT.bind ad rest)
theorem arm_T {t:Tree} (h:OkT t) (hd:∀ u∈t.Kids,TT (fun k r=>rp_declaration k r u)) (C:TT (fun k r=>rp_declaration k r noTr)):TT (fun k r=>rp_arm k r t):=by
 have hl:=h.len;have j2:∀ x:Int,TT (fun k r=>rp_arm.j2 k t x r):=fun x=>by
  refine TT.unf ?_;simp only [rp_arm.j2];exact TT.kid (G:=fun k r u=>Option.bind (rp_declaration k r u) fun s=>Option.bind (rp_put k s [[59]]) fun q=>some q) (by omega) (fun u hu=>TT.bind (hd u hu) (TT.last (pT _))) (TT.bind C (TT.last (pT _)))
 have j1:∀ m:Nat,m≤t.Kids.length→TT (fun k r=>rp_arm.j1 k t r (m:Int)):=fun m hm=>by
  refine TT.unf ?_;simp only [rp_arm.j1];refine TT.loop (l:=t.Kids.take m) (F:=fun k r i=>rp_arm.l1 k t (m:Int) r i) (by rw [List.length_take];omega) 0 (j2 (m:Int)) (fun i _ D hE=>TT.unf ?_) (fun i hi ih=>TT.unf ?_)
  · rw [List.length_take] at D
    simp only [rp_arm.l1];exact TT.ite (fun h=>by omega) fun _=>hE
  · rw [List.length_take] at hi
    have hi':i < t.Kids.length:=by omega
    simp only [rp_arm.l1];refine TT.ite (fun _=>TT.bind (pT _) (TT.pure (ea fun k=>idx_at rfl hi') (TT.bind (valueT (h.kid (List.getElem_mem hi')).nb) (TT.bind (pT _) ?_)))) (fun h=>by omega);rw [w64_succ (by omega)];exact ih
 refine TT.unf ?_;simp only [rp_arm];refine TT.ite (fun _=>TT.bind (pT _) (j1 0 (Nat.zero_le _))) fun _=>?_
 rw [w64_of (n:=(t.Kids.length:Int) - 1) (by omega) (by omega)];by_cases E:t.Kids.length=0
 · have:(t.Kids.length:Int) - 1 = -1:=by omega
   rw [this];refine TT.unf ?_;simp only [rp_arm.j1];refine TT.unf ?_;simp only [rp_arm.l1];exact TT.ite (fun h=>by omega) fun _=>j2 _
 · have:(t.Kids.length:Int) - 1=((t.Kids.length - 1:Nat):Int):=by omega
   rw [this];exact j1 _ (by omega)
theorem no_T:Q4 noTr:=by
 have ht:TT (fun k r=>rp_typed k r noTr):=by
  refine TT.unf ?_;simp only [rp_typed]
  iterate 14 refine TT.ite (fun h=>absurd h (by decide)) fun _=>?_
  exact TT.odd
 have hd:=decl_T okNo (fun u h=>nomatch h) ht;exact ⟨ht,body_T okNo (fun u h=>nomatch h) hd (fun u h=>nomatch h),hd,arm_T okNo (fun u h=>nomatch h) hd⟩
theorem q4 {t:Tree} (h:OkT t):Q4 t:=by
 induction h with
 | @mk K nm x a l q C D E ih =>
  have h:OkT ⟨K,nm,x,a,l⟩:=.mk q C D E;have hd:=decl_T h (fun u hu=>(ih u hu).1) no_T.1;have hb:=body_T h (fun u hu=>(ih u hu).2.2.1) no_T.2.2.1 (fun u hu=>(ih u hu).2.2.2);exact ⟨typed_T hb,hb,hd,arm_T h (fun u hu=>(ih u hu).2.2.1) no_T.2.2.1⟩
theorem kid_T {t:Tree} (h:OkT t) (i:Int) (hi:0≤i) {G:Nat→WriR→Tree→Option WriR} (g:∀ u,OkT u→TT (fun k r=>G k r u)):TT (fun k r=>Option.bind (rp_kid k r t i) fun p=>G k p.2 p.1):=TT.kid hi (fun u hu=>g u (h.kid hu)) (g _ okNo)
theorem proc_T {t:Tree} (h:OkT t):TT (fun k r=>rp_procedure k r t):=by
 have j1:TT (fun k r=>rp_procedure.j1 k t r):=by
  unfold rp_procedure.j1;exact TT.bind (pT _) (kid_T (G:=fun k r u=>Option.bind (rp_value k r u) fun s=>Option.bind (rp_put k s [[59]]) fun q=>some q) h 0 (by omega) fun u hu=>TT.bind (valueT hu.nb) (TT.last (pT _)))
 have lp:TT (fun k r=>rp_procedure.l1 k t r 2):=by
  refine TT.loop (l:=t.Kids) (F:=fun k r i=>rp_procedure.l1 k t r i) h.len 2 j1 (fun i _ C hE=>TT.unf ?_) (fun i hi ih=>TT.unf ?_)
  · simp only [rp_procedure.l1]
    exact TT.ite (fun h=>by omega) fun _=>hE
  · have j2:TT (fun k r=>rp_procedure.j2 k t (i:Int) r):=by
     refine TT.unf ?_;simp only [rp_procedure.j2];refine TT.pure (ea fun k=>idx_at rfl hi) (TT.bind (q4 (h.kid (List.getElem_mem hi))).1 ?_);have:=h.len;rw [w64_succ (by omega)];exact ih
    simp only [rp_procedure.l1];exact TT.ite (fun _=>TT.ite (fun _=>TT.bind (pT _) j2) fun _=>j2) (fun h=>by omega)
 unfold rp_procedure;exact kid_T (G:=fun k r u=>Option.bind (rp_typed k r u) fun s=>Option.bind (rp_put k s [t.Name,[40]]) fun q=>rp_procedure.l1 k t q 2) h 1 (by omega) fun u hu=>TT.bind (q4 hu).1 (TT.bind (pT _) lp)
theorem prog_T {t:Tree} (h:OkT t):TT (fun k r=>rp_program k r t):=by
 have hl:=h.len;have j1:TT (fun k r=>rp_program.j1 k t r):=by
  unfold rp_program.j1;exact TT.bind (pT _) (kid_T (G:=fun k r u=>Option.bind (rp_value k r u) fun s=>some s) h 0 (by omega) fun u hu=>TT.last (valueT hu.nb))
 have lp:TT (fun k r=>rp_program.l1 k t r 1):=by
  refine TT.loop (l:=t.Kids) (F:=fun k r i=>rp_program.l1 k t r i) hl 1 j1 (fun i _ D hE=>TT.unf ?_) (fun i hi ih=>TT.unf ?_)
  · simp only [rp_program.l1]
    exact TT.ite (fun h=>by omega) fun _=>hE
  · have hv:OkT t.Kids[i]:=h.kid (List.getElem_mem hi)
    have j2:TT (fun k r=>rp_program.j2 k t (i:Int) t.Kids[i] r):=by
     refine TT.unf ?_;simp only [rp_program.j2];rw [w64_succ (by omega)];exact TT.bind (pT _) (kid_T (G:=fun k r u=>Option.bind (rp_value k r u) fun s=>Option.bind (rp_put k s [[59]]) fun q=>rp_program.l1 k t q ((i+1:Nat):Int)) hv 0 (by omega) fun u hu=>TT.bind (valueT hu.nb) (TT.bind (pT _) ih))
    have l2:TT (fun k r=>rp_program.l2 k t (i:Int) t.Kids[i] r 1):=by
     refine TT.loop (l:=t.Kids[i].Kids) (F:=fun k r j=>rp_program.l2 k t (i:Int) t.Kids[i] r j) hv.len 1 j2 (fun j _ D hE=>TT.unf ?_) (fun j hj C=>TT.unf ?_)
     · simp only [rp_program.l2]
       exact TT.ite (fun h=>by omega) fun _=>hE
     · have:=hv.len
       simp only [rp_program.l2];refine TT.ite (fun _=>TT.pure (ea fun k=>idx_at rfl hj) (TT.bind (proc_T (hv.kid (List.getElem_mem hj))) ?_)) (fun h=>by omega);rw [w64_succ (by omega)];exact C
    simp only [rp_program.l1];exact TT.ite (fun _=>TT.pure (ea fun k=>idx_at rfl hi) (TT.bind (pT _) l2)) (fun h=>by omega)
 unfold rp_program;exact TT.bind (pT _) lp
theorem def_T {t:Tree} (h:OkT t):TT (fun k r=>rp_definition k r t):=by
 have hb:=(q4 h).2.1;unfold rp_definition;refine TT.ite (fun _=>TT.bind (pT _) (kid_T (G:=fun k r u=>Option.bind (rp_value k r u) fun s=>Option.bind (rp_put k s [[59]]) fun q=>some q) h 0 (by omega) fun u hu=>TT.bind (valueT hu.nb) (TT.last (pT _)))) fun _=>?_
 refine TT.ite (fun _=>TT.bind (pT _) (kid_T (G:=fun k r u=>Option.bind (rp_declaration k r u) fun s=>Option.bind (rp_put k s [[59]]) fun q=>some q) h 0 (by omega) fun u hu=>TT.bind (q4 hu).2.2.1 (TT.last (pT _)))) fun _=>?_
 iterate 3 refine TT.ite (fun _=>TT.bind (pT _) (TT.bind hb (TT.last (pT _)))) fun _=>?_
 refine TT.ite (fun _=>TT.bind (prog_T h) (TT.last (pT _))) fun _=>?_
 intro r hr;obtain ⟨r',C,D,E⟩:=(TT.last (pT [[59]])) (⟨r.l,true,r.last⟩:WriR) hr;exact ⟨r',C,D,fun _=>E (.inl rfl)⟩
end Go.Proofs.YtnhifhlbelogcaaGreatDoor
set_option linter.unusedVariables false
set_option linter.unusedSimpArgs false
namespace Go.Proofs.YtnhifhlbelogcaaGreatDoor
open Go Go.Eng
theorem pR (L:Tk) (h:(L.length≤1000000∧∀ x∈L,x≠[]):=by simp):RT (fun k r=>rp_put k r L) L:=putR L h.1 h.2
theorem RT.kid {t u:Tree} {i:Int} (hi:idx t.Kids i=some u) (hn:i < (t.Kids.length:Int)) {G:Nat→WriR→Tree→Option WriR} {L:Tk} (h:RT (fun k r=>G k r u) L):RT (fun k r=>Option.bind (rp_kid k r t i) fun p=>G k p.2 p.1) L:=fun r hr=>by
 obtain ⟨r',q,C⟩:=h r hr;refine ⟨r',eb (r:=(u,r)) (ea fun k=>?_) q,C⟩;unfold rp_kid;rw [if_neg (by omega),hi];rfl
theorem RT.loop {l:List Tree} {F:Nat→WriR→Int→Option WriR} {tok:Tree→Tk} {E:Tk} (a:Nat) (hE:∀ i:Nat,a≤i→l.length≤i→RT (fun k r=>F k r (i:Int)) E)
 (hn:∀ (i:Nat) (hi:i < l.length),a≤i→∀ M,RT (fun k r=>F k r ((i+1:Nat):Int)) M→RT (fun k r=>F k r (i:Int)) (tok l[i]++M)):RT (fun k r=>F k r (a:Int)) (((l.drop a).map tok).flatten++E):=by
 have:∀ (d i:Nat),l.length - i=d→a≤i→RT (fun k r=>F k r (i:Int)) (((l.drop i).map tok).flatten++E):=by
  intro d
  induction d with
  | zero=>intro i C q;rw [List.drop_eq_nil_of_le (by omega)];exact hE i q (by omega)
  | succ d ih =>
   intro i C q;have hi:i < l.length:=by omega
   rw [List.drop_eq_getElem_cons hi,List.map_cons,List.flatten_cons,List.append_assoc];exact hn i hi q _ (ih (i+1) (by omega) (by omega))
 exact this _ a rfl (Nat.le_refl _)
theorem mem_n1 {t:Tree} (h:Mem t):∃ c s a v,t=⟨5,c::s,0,a,[v]⟩∧Val v:=by cases h with | mk h=>exact ⟨_,_,_,_,rfl,h⟩
theorem body_R {i:Int} {nm:By} {x a:Int} {l:List Tree} (hl:l.length≤4398046511104)
 (h:(i=4∧l≠[]∧All Mem l)∨(i=6∧∀ u∈l,RT (fun k r=>rp_declaration k r u) (n1 u))∨(i=7∧∃ d m,l=d::m∧RT (fun k r=>rp_declaration k r d) (n1 d)∧∀ u∈m,RT (fun k r=>rp_arm k r u) (n1 u++[[59]]))) :
 RT (fun k r=>rp_body k r (⟨i,nm,x,a,l⟩:Tree)) (bodyW i l):=by
 refine RT.unf ?_;simp only [rp_body];refine RT.ifodd ?_;rcases h with ⟨rfl,hne,hm⟩|⟨rfl,hd⟩|⟨rfl,d,m,rfl,hd,ha⟩
 · refine RT.pos rfl ?_
   have one:∀ (i:Nat) (hi:i < l.length) (z:By),z≠[]→idx ([[123],[44]]:List By) (min (i:Int) 1)=some z→∀ M,RT (fun k r=>rp_body.l1 k (⟨4,nm,x,a,l⟩:Tree) r ((i+1:Nat):Int)) M→RT (fun k r=>rp_body.l1 k (⟨4,nm,x,a,l⟩:Tree) r (i:Int)) ((z::n1 l[i])++M):=fun i hi z hz D M hM=>by
    have hx:idx l (i:Int)=some l[i]:=idx_at rfl hi;obtain ⟨c,s,a',v,e,hv⟩:=mem_n1 (hm _ (List.getElem_mem hi));refine RT.unf ?_;simp only [rp_body.l1];rw [w64_succ (by omega)];refine RT.pos (by omega) (RT.pure (ea fun k=>hx) (RT.pure (ea fun k=>D) ?_));rw [e] at hx ⊢;rw [e5];refine RT.cast (RT.bind (pR [z,c::s,[61]] (by simp [hz])) (RT.pure (ea fun k=>hx) (RT.kid (t:=⟨5,c::s,0,a',[v]⟩) (u:=v) (G:=fun k r u=>Option.bind (rp_value k r u) fun q=>rp_body.l1 k (⟨4,nm,x,a,l⟩:Tree) q ((i+1:Nat):Int)) rfl (by show (0:Int) < ((1:Nat):Int);omega) (RT.bind (valueR hv) hM)))) (by simp)
   have lp:RT (fun k r=>rp_body.l1 k (⟨4,nm,x,a,l⟩:Tree) r ((1:Nat):Int)) (((l.drop 1).map fun q=>[44]::n1 q).flatten++[[125]]):=by
    refine RT.loop (F:=fun k r i=>rp_body.l1 k (⟨4,nm,x,a,l⟩:Tree) r i) 1 (fun i _ C=>RT.unf ?_) (fun i hi C M hM=>one i hi [44] (by simp) (by rw [show min (i:Int) 1=1 by omega];rfl) M hM);simp only [rp_body.l1];exact RT.neg (by omega) (RT.last (pR [[125]]))
   cases l with
   | nil=>exact absurd rfl hne
   | cons t m =>
    refine RT.cast (one 0 (by simp) [123] (by simp) rfl _ lp) ?_
    show ([123]::n1 t)++((m.map fun q=>[44]::n1 q).flatten++[[125]])=[[123]]++(betwN (t::m)++[[125]])
    rw [betwN];simp
 · refine RT.neg (show ¬ (6:Int)=4 by decide) (RT.pos rfl (RT.bind (pR [[123]]) ?_))
   refine RT.loop (l:=l) (F:=fun k r i=>rp_body.l2 k (⟨6,nm,x,a,l⟩:Tree) r i) (tok:=fun t=>n1 t++[[59]]) (E:=[[125]]) 0 (fun i _ C=>RT.unf ?_) (fun i hi C M hM=>RT.unf ?_)
   · simp only [rp_body.l2]
     exact RT.neg (by omega) (RT.last (pR [[125]]))
   · simp only [rp_body.l2]
     rw [w64_succ (by omega)];exact RT.cast (RT.pos (by omega) (RT.pure (ea fun k=>idx_at rfl hi) (RT.bind (hd _ (List.getElem_mem hi)) (RT.bind (pR [[59]]) hM)))) (by simp)
 · refine RT.neg (show ¬ (7:Int)=4 by decide) (RT.neg (show ¬ (7:Int)=6 by decide) ?_)
   have lp:RT (fun k r=>rp_body.l3 k (⟨7,nm,x,a,d::m⟩:Tree) r ((1:Nat):Int)) ((((d::m).drop 1).map fun t=>n1 t++[[59]]).flatten++[[125]]):=by
    refine RT.loop (F:=fun k r i=>rp_body.l3 k (⟨7,nm,x,a,d::m⟩:Tree) r i) 1 (fun i _ C=>RT.unf ?_) (fun i hi C M hM=>RT.unf ?_)
    · simp only [rp_body.l3]
      exact RT.neg (by omega) (RT.last (pR [[125]]))
    · simp only [rp_body.l3]
      rw [w64_succ (by omega)];obtain ⟨j,rfl⟩:∃ j,i=j+1:=⟨i - 1,by omega⟩;have hu:RT (fun k r=>rp_arm k r (d::m)[j+1]) (n1 (d::m)[j+1]++[[59]]):=ha _ (List.getElem_mem (by simpa using hi));exact RT.pos (by omega) (RT.pure (ea fun k=>idx_at rfl hi) (RT.bind hu hM))
   refine RT.cast (RT.bind (pR [[115,119,105,116,99,104],[40]]) (RT.kid (u:=d) (G:=fun k r u=>Option.bind (rp_declaration k r u) fun s=>Option.bind (rp_put k s [[41],[123]]) fun q=>rp_body.l3 k (⟨7,nm,x,a,d::m⟩:Tree) q 1) rfl (by show (0:Int) < (((d::m).length:Nat):Int);rw [List.length_cons];omega) (RT.bind hd (RT.bind (pR [[41],[123]]) lp)))) ?_
   show _=zch (d::m)++[[125]]
   unfold zch eachN
   simp
theorem leaf_R {K a:Int} (h:K=13∨K=18∨K=19∨K=20∨K=21∨K=22∨K=23∨K=24∨K=25∨K=26):RT (fun k r=>rp_typed k r (⟨K,[],0,a,[]⟩:Tree)) (n1 ⟨K,[],0,a,[]⟩):=by
 refine RT.unf ?_;simp only [rp_typed];rcases h with rfl | rfl | rfl | rfl | rfl | rfl | rfl | rfl | rfl | rfl
 · iterate 9 refine RT.neg (by simp) ?_
   rw [e13];exact RT.pos rfl (RT.last (pR _))
 · rw [e18]
   exact RT.pos rfl (RT.last (pR _))
 · iterate 1 refine RT.neg (by simp) ?_
   rw [e19];exact RT.pos rfl (RT.last (pR _))
 · iterate 2 refine RT.neg (by simp) ?_
   rw [e20];exact RT.pos rfl (RT.last (pR _))
 · iterate 3 refine RT.neg (by simp) ?_
   rw [e21];exact RT.pos rfl (RT.last (pR _))
 · iterate 4 refine RT.neg (by simp) ?_
   rw [e22];exact RT.pos rfl (RT.last (pR _))
 · iterate 5 refine RT.neg (by simp) ?_
   rw [e23];exact RT.pos rfl (RT.last (pR _))
 · iterate 6 refine RT.neg (by simp) ?_
   rw [e24];exact RT.pos rfl (RT.last (pR _))
 · iterate 7 refine RT.neg (by simp) ?_
   rw [e25];exact RT.pos rfl (RT.last (pR _))
 · iterate 8 refine RT.neg (by simp) ?_
   rw [e26];exact RT.pos rfl (RT.last (pR _))
theorem tbody_R {i a:Int} {l:List Tree} (hi:Bd i) (h:RT (fun k r=>rp_body k r (⟨i,[],0,a,l⟩:Tree)) (bodyW i l)):RT (fun k r=>rp_typed k r (⟨i,[],0,a,l⟩:Tree)) (n1 ⟨i,[],0,a,l⟩):=by
 rw [ebody _ _ _ hi];refine RT.unf ?_;simp only [rp_typed];rcases hi with rfl | rfl | rfl
 · iterate 11 refine RT.neg (by simp) ?_
   exact RT.pos rfl (RT.bind (pR [[101,110,117,109]]) (RT.last h))
 · iterate 12 refine RT.neg (by simp) ?_
   exact RT.pos rfl (RT.bind (pR [[115,116,114,117,99,116]]) (RT.last h))
 · iterate 13 refine RT.neg (by simp) ?_
   exact RT.pos rfl (RT.bind (pR [[117,110,105,111,110]]) (RT.last h))
def drest (k:Nat) (t:Tree) (r:WriR):Option WriR:=if t.Kind=14 then (Option.bind (rp_put k r [t.Name]) fun Y=>some Y) else if t.Kind=17 then (Option.bind (rp_put k r [[42],t.Name]) fun Z=>some Z) else if t.Kind=15 then (Option.bind (rp_put k r [t.Name,[91]]) fun aa=>Option.bind (rp_kid k aa t 1) fun C=>Option.bind (rp_value k C.2 C.1) fun D=>Option.bind (rp_put k D [[93]]) fun E=>some E) else if t.Kind=16 then (Option.bind (rp_put k r [t.Name,[60]]) fun q=>if 1 < (t.Kids.length:Int) then (Option.bind (idx t.Kids 1) fun J=>Option.bind (rp_value k q J) fun O=>Option.bind (rp_put k O [[62]]) fun V=>some V) else (Option.bind (rp_put k q [[62]]) fun X=>some X)) else some (⟨r.l,true,r.last⟩:WriR)
theorem decl_R {t u:Tree} {A B:Tk} (hk:¬ t.Kind=13) (hx:idx t.Kids 0=some u) (hl:0 < t.Kids.length) (h:RT (fun k r=>rp_typed k r u) A) (hr:RT (fun k r=>drest k t r) B):RT (fun k r=>rp_declaration k r t) (A++B):=by
 refine RT.unf ?_;simp only [rp_declaration];exact RT.neg hk (RT.kid (G:=fun k r u=>Option.bind (rp_typed k r u) fun s=>drest k t s) hx (by omega) (RT.bind h hr))
def Says:Nat→Tree→Prop
 | 0,t=>RT (fun k r=>rp_typed k r t) (n1 t)
 | 1,t=>RT (fun k r=>rp_declaration k r t) (n1 t)
 | _,t=>RT (fun k r=>rp_arm k r t) (n1 t++[[59]])
theorem OkT.lenK {K:Int} {nm:By} {x a:Int} {l:List Tree} (h:OkT ⟨K,nm,x,a,l⟩):l.length≤4398046511104:=h.len
theorem sh_R {n:Nat} {t:Tree} (h:Sh n t):OkT t→Says n t:=by
 induction h with
 | @ref c s a =>
  intro _
  show RT _ (n1 ⟨27,c::s,0,a,[]⟩)
  rw [e27];refine RT.unf ?_;simp only [rp_typed]
  iterate 10 refine RT.neg (by simp) ?_
  exact RT.pos trivial (RT.last (pR _))
 | leaf h=>intro _;exact leaf_R h
 | enum C D=>intro ho;exact tbody_R (.inl rfl) (body_R ho.lenK (.inl ⟨rfl,C,D⟩))
 | struct h ih=>intro ho;exact tbody_R (.inr (.inl rfl)) (body_R ho.lenK (.inr (.inl ⟨rfl,fun u hu=>ih u hu (ho.kid hu)⟩)))
 | union C D J O=>intro ho;exact tbody_R (.inr (.inr rfl)) (body_R ho.lenK (.inr (.inr ⟨rfl,_,_,rfl,J (ho.kid List.mem_cons_self),fun u hu=>O u hu (ho.kid (List.mem_cons_of_mem _ hu))⟩)))
 | void =>
  intro _
  show RT _ (n1 _)
  rw [e13];refine RT.unf ?_;simp only [rp_declaration];exact RT.pos trivial (RT.last (pR _))
 | @plain c s a t h ih =>
  intro ho
  show RT _ (n1 _)
  rw [e14];refine decl_R (t:=⟨14,c::s,0,a,[t]⟩) (show ¬ (14:Int)=13 by decide) rfl (Nat.succ_pos _) (ih (ho.kid List.mem_cons_self)) ?_;unfold drest;exact RT.pos rfl (RT.last (pR _))
 | @fixed c s a t v h hv ih =>
  intro ho
  show RT _ (n1 _)
  rw [e15];refine decl_R (t:=⟨15,c::s,0,a,[t,v]⟩) (show ¬ (15:Int)=13 by decide) rfl (Nat.succ_pos _) (ih (ho.kid List.mem_cons_self)) ?_;unfold drest;refine RT.neg (show ¬ (15:Int)=14 by decide) (RT.neg (show ¬ (15:Int)=17 by decide) (RT.pos rfl ?_));exact RT.bind (pR [c::s,[91]]) (RT.kid (t:=⟨15,c::s,0,a,[t,v]⟩) (i:=1) (u:=v) (G:=fun k r u=>Option.bind (rp_value k r u) fun q=>Option.bind (rp_put k q [[93]]) fun z=>some z) rfl (by show (1:Int) < ((2:Nat):Int);omega) (RT.bind (valueR hv) (RT.last (pR [[93]]))))
 | @lsa c s a t h ih =>
  intro ho
  show RT _ (n1 _)
  rw [e16];refine decl_R (t:=⟨16,c::s,0,a,[t]⟩) (show ¬ (16:Int)=13 by decide) rfl (Nat.succ_pos _) (ih (ho.kid List.mem_cons_self)) ?_;unfold drest;refine RT.neg (show ¬ (16:Int)=14 by decide) (RT.neg (show ¬ (16:Int)=17 by decide) (RT.neg (show ¬ (16:Int)=15 by decide) (RT.pos rfl ?_)));exact RT.bind (pR [c::s,[60]]) (RT.neg (show ¬ (1:Int) < ((1:Nat):Int) by omega) (RT.last (pR [[62]])))
 | @lsb c s a t v h hv ih =>
  intro ho
  show RT _ (n1 _)
  rw [e16'];refine decl_R (t:=⟨16,c::s,0,a,[t,v]⟩) (show ¬ (16:Int)=13 by decide) rfl (Nat.succ_pos _) (ih (ho.kid List.mem_cons_self)) ?_;unfold drest;refine RT.neg (show ¬ (16:Int)=14 by decide) (RT.neg (show ¬ (16:Int)=17 by decide) (RT.neg (show ¬ (16:Int)=15 by decide) (RT.pos rfl ?_)));exact RT.bind (pR [c::s,[60]]) (RT.pos (show (1:Int) < ((2:Nat):Int) by omega) (RT.pure (x:=v) (ea fun k=>rfl) (RT.bind (valueR hv) (RT.last (pR [[62]])))))
 | @maybe c s a t h ih =>
  intro ho
  show RT _ (n1 _)
  rw [e17];refine decl_R (t:=⟨17,c::s,0,a,[t]⟩) (show ¬ (17:Int)=13 by decide) rfl (Nat.succ_pos _) (ih (ho.kid List.mem_cons_self)) ?_;unfold drest;exact RT.neg (show ¬ (17:Int)=14 by decide) (RT.pos rfl (RT.last (pR _)))
 | @case a l t hl h ih =>
  intro ho
  show RT _ (n1 _++_)
  rw [e8];have hlen:=ho.lenK;rw [List.length_append,List.length_singleton] at hlen;have hd:=ih (ho.kid (List.mem_append_right _ List.mem_cons_self));refine RT.unf ?_;simp only [rp_arm];refine RT.neg (by simp) (RT.unf ?_);simp only [rp_arm.j1];have en:w64 (((l++[t]).length:Int) - 1)=(l.length:Int):=by
   rw [List.length_append,List.length_singleton,w64_of (n:=((l.length+1:Nat):Int) - 1) (by omega) (by omega)];omega
  rw [en];have hx:idx (l++[t]) (l.length:Int)=some t:=by rw [idx_at (j:=l.length) rfl (by simp)];simp
  have j2:RT (fun k r=>rp_arm.j2 k (⟨8,[],0,a,l++[t]⟩:Tree) (l.length:Int) r) (n1 t++[[59]]):=by
   refine RT.unf ?_;simp only [rp_arm.j2];rw [show max (l.length:Int) 0=(l.length:Int) by omega];exact RT.kid (u:=t) (G:=fun k r u=>Option.bind (rp_declaration k r u) fun s=>Option.bind (rp_put k s [[59]]) fun q=>some q) hx (by simp;omega) (RT.bind hd (RT.last (pR [[59]])))
  refine RT.cast (RT.loop (l:=l) (F:=fun k r i=>rp_arm.l1 k (⟨8,[],0,a,l++[t]⟩:Tree) (l.length:Int) r i) (tok:=fun t=>[99,97,115,101]::(n1 t++[[58]])) (E:=n1 t++[[59]]) 0 (fun i _ C=>RT.unf ?_) (fun i hi C M hM=>RT.unf ?_)) (by unfold caseN;simp)
  · simp only [rp_arm.l1]
    exact RT.neg (by omega) j2
  · simp only [rp_arm.l1]
    rw [w64_succ (by omega)];have hx:idx (l++[t]) (i:Int)=some l[i]:=by rw [idx_at (j:=i) rfl (by simp;omega),List.getElem_append_left hi]
    exact RT.cast (RT.pos (by omega) (RT.bind (pR [[99,97,115,101]]) (RT.pure (ea fun k=>hx) (RT.bind (valueR (hl _ (List.getElem_mem hi))) (RT.bind (pR [[58]]) hM))))) (by simp)
 | @els a t h ih =>
  intro ho
  show RT _ (n1 _++_)
  rw [e9];refine RT.unf ?_;simp only [rp_arm];refine RT.pos trivial (RT.cast (L:=[[100,101,102,97,117,108,116],[58]]++(n1 t++[[59]])) (RT.bind (pR [[100,101,102,97,117,108,116],[58]]) (RT.unf ?_)) (by simp));simp only [rp_arm.j1];refine RT.unf ?_;simp only [rp_arm.l1];refine RT.neg (by simp) (RT.unf ?_);simp only [rp_arm.j2];exact RT.kid (u:=t) (G:=fun k r u=>Option.bind (rp_declaration k r u) fun s=>Option.bind (rp_put k s [[59]]) fun q=>some q) rfl (by simp) (RT.bind (ih (ho.kid List.mem_cons_self)) (RT.last (pR [[59]])))
end Go.Proofs.YtnhifhlbelogcaaGreatDoor
set_option linter.unusedVariables false
set_option linter.unusedSimpArgs false
namespace Go.Proofs.YtnhifhlbelogcaaGreatDoor
open Go Go.Eng
theorem All.mem {P:Tree→Prop} {l:List Tree} (h:All P l) {t:Tree} (ht:t∈l):P t:=h t ht
theorem proc_R {t:Tree} (h:Proc t) (ho:OkT t):RT (fun k r=>rp_procedure k r t) (n1 t):=by
 obtain @⟨c,s,a,v,u,l,hv,hu,hl⟩:=h;have hlen:=ho.lenK;rw [e12];have j1:RT (fun k r=>rp_procedure.j1 k (⟨12,c::s,0,a,v::u::l⟩:Tree) r) ([41]::[61]::(n1 v++[[59]])):=by
  unfold rp_procedure.j1;exact RT.bind (pR [[41],[61]]) (RT.kid (t:=⟨12,c::s,0,a,v::u::l⟩) (u:=v) (i:=0) (G:=fun k r u=>Option.bind (rp_value k r u) fun q=>Option.bind (rp_put k q [[59]]) fun z=>some z) rfl (by show (0:Int) < (((v::u::l).length:Nat):Int);rw [List.length_cons];omega) (RT.bind (valueR hv) (RT.last (pR [[59]]))))
 have j2:∀ (i:Nat) (hi:i < (v::u::l).length) (C:2≤i) (M:Tk),RT (fun k r=>rp_procedure.l1 k (⟨12,c::s,0,a,v::u::l⟩:Tree) r ((i+1:Nat):Int)) M→RT (fun k r=>rp_procedure.j2 k (⟨12,c::s,0,a,v::u::l⟩:Tree) (i:Int) r) (n1 (v::u::l)[i]++M):=fun i hi C M hM=>by
  obtain ⟨j,rfl⟩:∃ j,i=j+2:=⟨i - 2,by omega⟩;have hj:j < l.length:=by simpa using hi
  refine RT.unf ?_;simp only [rp_procedure.j2];rw [w64_succ (by omega)];exact RT.pure (ea fun k=>idx_at rfl hi) (RT.bind (sh_R (hl.mem (List.getElem_mem hj)) (ho.kid (List.mem_cons_of_mem _ (List.mem_cons_of_mem _ (List.getElem_mem hj))))) hM)
 have lp:RT (fun k r=>rp_procedure.l1 k (⟨12,c::s,0,a,v::u::l⟩:Tree) r ((3:Nat):Int)) ((((v::u::l).drop 3).map fun q=>[44]::n1 q).flatten++([41]::[61]::(n1 v++[[59]]))):=by
  refine RT.loop (F:=fun k r i=>rp_procedure.l1 k (⟨12,c::s,0,a,v::u::l⟩:Tree) r i) 3 (fun i _ D=>RT.unf ?_) (fun i hi D M hM=>RT.unf ?_)
  · simp only [rp_procedure.l1]
    exact RT.neg (by omega) j1
  · simp only [rp_procedure.l1]
    exact RT.cast (RT.pos (by omega) (RT.pos (by omega) (RT.bind (pR [[44]]) (j2 i hi (by omega) M hM)))) (by simp)
 have l2:RT (fun k r=>rp_procedure.l1 k (⟨12,c::s,0,a,v::u::l⟩:Tree) r 2) (betwN l++([41]::[61]::(n1 v++[[59]]))):=by
  refine RT.unf ?_;simp only [rp_procedure.l1];cases l with
  | nil=>exact RT.neg (by simp) j1
  | cons x m =>
   refine RT.pos (by simp;omega) (RT.neg (by omega) ?_);exact RT.cast (j2 2 (by simp) (Nat.le_refl _) _ lp) (by show n1 x++((m.map fun q=>[44]::n1 q).flatten++_)=_;rw [betwN,List.append_assoc])
 unfold rp_procedure;exact RT.kid (t:=⟨12,c::s,0,a,v::u::l⟩) (u:=u) (i:=1) (G:=fun k r w=>Option.bind (rp_typed k r w) fun q=>Option.bind (rp_put k q [c::s,[40]]) fun z=>rp_procedure.l1 k (⟨12,c::s,0,a,v::u::l⟩:Tree) z 2) rfl (by show (1:Int) < (((v::u::l).length:Nat):Int);simp;omega) (RT.bind (sh_R hu (ho.kid (List.mem_cons_of_mem _ List.mem_cons_self))) (RT.bind (pR [c::s,[40]]) l2))
theorem prg_R {t:Tree} (h:Prg t) (ho:OkT t):RT (fun k r=>rp_program k r t) (n1 t):=by
 obtain @⟨c,s,a,v,l,hv,hl⟩:=h;have hlen:=ho.lenK;rw [e10];have j1:RT (fun k r=>rp_program.j1 k (⟨10,c::s,0,a,v::l⟩:Tree) r) ([125]::[61]::n1 v):=by
  unfold rp_program.j1;exact RT.bind (pR [[125],[61]]) (RT.kid (t:=⟨10,c::s,0,a,v::l⟩) (u:=v) (i:=0) (G:=fun k r u=>Option.bind (rp_value k r u) fun z=>some z) rfl (by show (0:Int) < (((v::l).length:Nat):Int);rw [List.length_cons];omega) (RT.last (valueR hv)))
 have lp:RT (fun k r=>rp_program.l1 k (⟨10,c::s,0,a,v::l⟩:Tree) r ((1:Nat):Int)) ((((v::l).drop 1).map n1).flatten++([125]::[61]::n1 v)):=by
  refine RT.loop (F:=fun k r i=>rp_program.l1 k (⟨10,c::s,0,a,v::l⟩:Tree) r i) 1 (fun i _ C=>RT.unf ?_) (fun i hi C M hM=>RT.unf ?_)
  · simp only [rp_program.l1]
    exact RT.neg (by omega) j1
  · obtain ⟨j,rfl⟩:∃ j,i=j+1:=⟨i - 1,by omega⟩
    have hj:j < l.length:=by simpa using hi
    have hV:Ver (v::l)[j+1]:=hl.mem (List.getElem_mem hj);have hO:OkT (v::l)[j+1]:=ho.kid (List.mem_cons_of_mem _ (List.getElem_mem hj));have hx:idx (v::l) ((j+1:Nat):Int)=some (v::l)[j+1]:=idx_at rfl hi;simp only [rp_program.l1];refine RT.pos (by omega) (RT.pure (ea fun k=>hx) ?_);generalize (v::l)[j+1]=w at hV hO;obtain @⟨c',s',a',v',l',hv',hl'⟩:=hV;have hlen':=hO.lenK;rw [e11];have jj:RT (fun k r=>rp_program.j2 k (⟨10,c::s,0,a,v::l⟩:Tree) ((j+1:Nat):Int) (⟨11,c'::s',0,a',v'::l'⟩:Tree) r) (([125]::[61]::(n1 v'++[[59]]))++M):=by
     refine RT.unf ?_;simp only [rp_program.j2];rw [w64_succ (by omega)];exact RT.cast (RT.bind (pR [[125],[61]]) (RT.kid (t:=⟨11,c'::s',0,a',v'::l'⟩) (u:=v') (i:=0) (G:=fun k r u=>Option.bind (rp_value k r u) fun q=>Option.bind (rp_put k q [[59]]) fun z=>rp_program.l1 k (⟨10,c::s,0,a,v::l⟩:Tree) z ((j+1+1:Nat):Int)) rfl (by show (0:Int) < (((v'::l').length:Nat):Int);rw [List.length_cons];omega) (RT.bind (valueR hv') (RT.bind (pR [[59]]) hM)))) (by simp)
    have l2:RT (fun k r=>rp_program.l2 k (⟨10,c::s,0,a,v::l⟩:Tree) ((j+1:Nat):Int) (⟨11,c'::s',0,a',v'::l'⟩:Tree) r ((1:Nat):Int)) ((((v'::l').drop 1).map n1).flatten++(([125]::[61]::(n1 v'++[[59]]))++M)):=by
     refine RT.loop (F:=fun k r i=>rp_program.l2 k (⟨10,c::s,0,a,v::l⟩:Tree) ((j+1:Nat):Int) (⟨11,c'::s',0,a',v'::l'⟩:Tree) r i) 1 (fun i _ C=>RT.unf ?_) (fun i hi C E D=>RT.unf ?_)
     · simp only [rp_program.l2]
       exact RT.neg (by omega) jj
     · obtain ⟨q,rfl⟩:∃ q,i=q+1:=⟨i - 1,by omega⟩
       have hq:q < l'.length:=by simpa using hi
       simp only [rp_program.l2];rw [w64_succ (by omega)];exact RT.pos (by omega) (RT.pure (ea fun k=>idx_at rfl hi) (RT.bind (proc_R (hl'.mem (List.getElem_mem hq)) (hO.kid (List.mem_cons_of_mem _ (List.getElem_mem hq)))) D))
    exact RT.cast (RT.bind (pR [[118,101,114,115,105,111,110],c'::s',[123]]) l2) (by unfold eachN;simp)
 unfold rp_program;exact RT.cast (RT.bind (pR [[112,114,111,103,114,97,109],c::s,[123]]) lp) (by unfold eachN;simp)
theorem dfn_R {t:Tree} (h:Dfn t) (ho:OkT t):RT (fun k r=>rp_definition k r t) (n2 t):=by
 cases h with
 | @const c s a v hv =>
  rw [d2];unfold rp_definition;exact RT.pos rfl (RT.bind (pR [[99,111,110,115,116],c::s,[61]]) (RT.kid (t:=⟨2,c::s,0,a,[v]⟩) (u:=v) (i:=0) (G:=fun k r u=>Option.bind (rp_value k r u) fun q=>Option.bind (rp_put k q [[59]]) fun z=>some z) rfl (by show (0:Int) < ((1:Nat):Int);omega) (RT.bind (valueR hv) (RT.last (pR [[59]])))))
 | @typedef a u hu =>
  rw [d3];unfold rp_definition;refine RT.neg (show ¬ (3:Int)=2 by decide) (RT.pos rfl ?_);exact RT.bind (pR [[116,121,112,101,100,101,102]]) (RT.kid (t:=⟨3,[],0,a,[u]⟩) (u:=u) (i:=0) (G:=fun k r u=>Option.bind (rp_declaration k r u) fun q=>Option.bind (rp_put k q [[59]]) fun z=>some z) rfl (by show (0:Int) < ((1:Nat):Int);omega) (RT.bind (sh_R hu (ho.kid List.mem_cons_self)) (RT.last (pR [[59]]))))
 | @body i a c s l hb =>
  have hB:RT (fun k r=>rp_body k r (⟨i,c::s,0,a,l⟩:Tree)) (bodyW i l):=body_R ho.lenK (by
   rcases hb with ⟨h,C,D⟩|⟨h,C⟩|⟨h,d,m,e,C,D⟩
   · exact .inl ⟨h,C,D⟩
   · exact .inr (.inl ⟨h,fun u hu=>sh_R (C u hu) (ho.kid hu)⟩)
   · subst e
     exact .inr (.inr ⟨h,d,m,rfl,sh_R C (ho.kid List.mem_cons_self),fun u hu=>sh_R (D u hu) (ho.kid (List.mem_cons_of_mem _ hu))⟩))
  have hi:Bd i:=hb.elim (fun h=>.inl h.1) (fun h=>h.elim (fun h=>.inr (.inl h.1)) (fun h=>.inr (.inr h.1)));rw [dn _ (show i≠2 by omega) (show i≠3 by omega),ebody _ _ _ hi];unfold rp_definition;rcases hi with rfl | rfl | rfl
  · exact RT.neg (show ¬ (4:Int)=2 by decide) (RT.neg (show ¬ (4:Int)=3 by decide) (RT.pos rfl (RT.cast (RT.bind (pR [[101,110,117,109],c::s]) (RT.bind hB (RT.last (pR [[59]])))) (by rw [List.append_assoc];rfl))))
  · exact RT.neg (show ¬ (6:Int)=2 by decide) (RT.neg (show ¬ (6:Int)=3 by decide) (RT.neg (show ¬ (6:Int)=4 by decide) (RT.pos rfl (RT.cast (RT.bind (pR [[115,116,114,117,99,116],c::s]) (RT.bind hB (RT.last (pR [[59]])))) (by rw [List.append_assoc];rfl)))))
  · exact RT.neg (show ¬ (7:Int)=2 by decide) (RT.neg (show ¬ (7:Int)=3 by decide) (RT.neg (show ¬ (7:Int)=4 by decide) (RT.neg (show ¬ (7:Int)=6 by decide) (RT.pos rfl (RT.cast (RT.bind (pR [[117,110,105,111,110],c::s]) (RT.bind hB (RT.last (pR [[59]])))) (by rw [List.append_assoc];rfl))))))
 | prog h =>
  have hp:=prg_R h ho;have hk:t.Kind=10:=by cases h;rfl
  rw [dn _ (by omega) (by omega)];unfold rp_definition;exact RT.neg (by omega) (RT.neg (by omega) (RT.neg (by omega) (RT.neg (by omega) (RT.neg (by omega) (RT.pos hk (RT.bind hp (RT.last (pR [[59]]))))))))
theorem print_l {t:Tree} (ho:OkT t):∀ (d i:Nat) (r:WriR),t.Kids.length - i=d→i≤t.Kids.length→r.l.length≤32001→∃ r':WriR,r'.l.length≤32001∧(Bad r→Bad r') ∧
 (∀ res,Ev (fun k=>rp_Print.j1 k t r'.l r'.odd r'.last) res→Ev (fun k=>rp_Print.l1 k t (i:Int) r.l r.odd r.last) res) ∧
 (All Dfn t.Kids→∀ o,r=gs o→r'=gs (putL o (defsN (t.Kids.drop i)))∨(Bad r'∧16000 < (putL o (defsN (t.Kids.drop i))).length)):=by
 have hl:=ho.len;intro d
 induction d with
 | zero =>
  intro i r V X hr;refine ⟨r,hr,id,fun res h=>Ev.unf ?_,fun _ o h=>.inl ?_⟩
  · simp only [rp_Print.l1]
    refine eg (by omega) (Ev.unf ?_);simp only [rp_Print.j2];exact eg (by simp) h
  · rw [List.drop_eq_nil_of_le (by omega),h];rfl
 | succ d ih =>
  intro i r V X hr;have hi:i < t.Kids.length:=by omega
  have hu:=ho.kid (List.getElem_mem hi);by_cases hodd:r.odd=true
  · refine ⟨r,hr,id,fun res h=>Ev.unf ?_,fun _ o h=>by subst h;cases hodd⟩
    simp only [rp_Print.l1];refine ep (by omega) (Ev.unf ?_);simp only [rp_Print.j2];exact eg (by simp [hodd]) h
  · have go:∀ q:WriR,Ev (fun k=>rp_definition k r t.Kids[i]) q→∀ res,Ev (fun k=>rp_Print.l1 k t ((i+1:Nat):Int) q.l q.odd q.last) res→Ev (fun k=>rp_Print.l1 k t (i:Int) r.l r.odd r.last) res:=fun q h res h'=>by
     refine Ev.unf ?_;simp only [rp_Print.l1];refine ep (by omega) (Ev.unf ?_);simp only [rp_Print.j2];refine ep (by simpa using hodd) (ebc (idx_at rfl hi) (eb h ?_));rw [w64_succ (by omega)];exact h'
    rcases Classical.em (All Dfn t.Kids) with hA | hA
    · obtain ⟨q,C,D,E,Y⟩:=dfn_R (hA.mem (List.getElem_mem hi)) hu r hr
      obtain ⟨r',J,k2,O,Z⟩:=ih (i+1) q (by omega) (by omega) D;refine ⟨r',J,fun h=>k2 (E h),fun res h=>go q C res (O res h),fun _ o hro=>?_⟩;rw [List.drop_eq_getElem_cons hi]
      show r'=gs (putL o (n2 t.Kids[i]++defsN (t.Kids.drop (i+1))))∨_∧16000 < (putL o (n2 t.Kids[i]++defsN (t.Kids.drop (i+1)))).length
      rw [putL_append];rcases Y o hro with e | ⟨e,l⟩
      · exact Z hA _ e
      · exact .inr ⟨k2 e,Nat.lt_of_lt_of_le l (putL_ge _ _)⟩
    · obtain ⟨q,C,D,E⟩:=def_T hu r hr
      obtain ⟨r',J,k2,O,_⟩:=ih (i+1) q (by omega) (by omega) D;exact ⟨r',J,fun h=>k2 (E h),fun res h=>go q C res (O res h),fun h=>absurd h hA⟩
end Go.Proofs.YtnhifhlbelogcaaGreatDoor
set_option linter.unusedVariables false
set_option linter.unusedSimpArgs false
namespace Go.Proofs.YtnhifhlbelogcaaGreatDoor
open Go Go.Eng
mutual
def er:Tree→Tree
 | ⟨K,nm,x,a,l⟩=>⟨K,nm,x,0,erL l⟩
def erL:List Tree→List Tree
 | []=>[]
 | t::l=>er t::erL l
end
theorem er_mk (K:Int) (nm:By) (x a:Int) (l:List Tree):er ⟨K,nm,x,a,l⟩=⟨K,nm,x,0,erL l⟩:=by rw [er]
theorem erL_nil:erL []=[]:=by rw [erL]
theorem erL_cons (t:Tree) (l:List Tree):erL (t::l)=er t::erL l:=by rw [erL]
theorem erL_map:∀ l:List Tree,erL l=l.map er
 | []=>by rw [erL_nil];rfl
 | t::l=>by rw [erL_cons,erL_map l];rfl
theorem erL_len (l:List Tree):(erL l).length=l.length:=by rw [erL_map,List.length_map]
theorem er_inv {t:Tree} {K:Int} {nm:By} {x a:Int} {l:List Tree} (h:er t=er ⟨K,nm,x,a,l⟩):∃ a' m,t=⟨K,nm,x,a',m⟩∧erL m=erL l:=by
 obtain ⟨K',nm',x',a',m⟩:=t;rw [er_mk,er_mk] at h
 injection h with q C D _ E
 subst q C D;exact ⟨a',m,rfl,E⟩
theorem erL_inv {m:List Tree} {t:Tree} {l:List Tree} (h:erL m=erL (t::l)):∃ u k,m=u::k∧er u=er t∧erL k=erL l:=by
 cases m with
 | nil=>rw [erL_nil,erL_cons] at h;cases h
 | cons u k =>
  rw [erL_cons,erL_cons] at h
  injection h with q C
  exact ⟨u,k,rfl,q,C⟩
theorem erL_inv0 {m:List Tree} (h:erL m=erL []):m=[]:=by
 cases m with
 | nil=>rfl
 | cons u k=>rw [erL_nil,erL_cons] at h;cases h
theorem erL_mem {m l:List Tree} (h:erL m=erL l) {u:Tree} (hu:u∈m):∃ t∈l,er u=er t:=by
 rw [erL_map,erL_map] at h;have:er u∈l.map er:=h ▸ List.mem_map_of_mem hu;obtain ⟨t,ht,e⟩:=List.mem_map.1 this;exact ⟨t,ht,e.symm⟩
theorem erL_snoc {m l:List Tree} {t:Tree} (h:erL m=erL (l++[t])):∃ k u,m=k++[u]∧erL k=erL l∧er u=er t:=by
 rcases List.eq_nil_or_concat m with rfl | ⟨k,u,rfl⟩
 · have:=congrArg List.length h
   rw [erL_len,erL_len] at this
   simp at this
 · rw [List.concat_eq_append] at h ⊢
   rw [erL_map,erL_map,List.map_append,List.map_append] at h;obtain ⟨q,C⟩:=List.append_inj' h rfl;exact ⟨k,u,rfl,by rw [erL_map,erL_map,q],by simpa using C⟩
theorem All.inv {P:Tree→Prop} {l m:List Tree} (h:∀ t∈l,∀ u,er u=er t→P u) (e:erL m=erL l):All P m:=fun u hu=>by
 obtain ⟨t,ht,e⟩:=erL_mem e hu;exact h t ht u e
theorem Val.inv {t u:Tree} (h:Val t) (e:er u=er t):Val u:=by
 cases h with
 | ref=>obtain ⟨a',m,rfl,f⟩:=er_inv e;obtain rfl:=erL_inv0 f;exact .ref
 | num h=>obtain ⟨a',m,rfl,f⟩:=er_inv e;obtain rfl:=erL_inv0 f;exact .num h
theorem Mem.inv {t u:Tree} (h:Mem t) (e:er u=er t):Mem u:=by
 cases h with
 | mk h =>
  obtain ⟨a',m,rfl,f⟩:=er_inv e;obtain ⟨v,k,rfl,e1,q⟩:=erL_inv f;obtain rfl:=erL_inv0 q;exact .mk (h.inv e1)
theorem Sh.inv {n:Nat} {t:Tree} (h:Sh n t):∀ u,er u=er t→Sh n u:=by
 induction h with
 | ref=>intro u e;obtain ⟨a',m,rfl,f⟩:=er_inv e;obtain rfl:=erL_inv0 f;exact .ref
 | leaf h=>intro u e;obtain ⟨a',m,rfl,f⟩:=er_inv e;obtain rfl:=erL_inv0 f;exact .leaf h
 | enum E J =>
  intro u e;obtain ⟨a',m,rfl,f⟩:=er_inv e;refine .enum (fun hm=>E ?_) (All.inv (fun t ht u e=>(J t ht).inv e) f);subst hm;exact erL_inv0 f.symm
 | struct h ih=>intro u e;obtain ⟨a',m,rfl,f⟩:=er_inv e;exact .struct (All.inv ih f)
 | union E J O V =>
  intro u e;obtain ⟨a',m,rfl,f⟩:=er_inv e;obtain ⟨v,k,rfl,e1,q⟩:=erL_inv f;exact .union (O v e1) (All.inv V q)
 | void=>intro u e;obtain ⟨a',m,rfl,f⟩:=er_inv e;obtain rfl:=erL_inv0 f;exact .void
 | plain h ih =>
  intro u e;obtain ⟨a',m,rfl,f⟩:=er_inv e;obtain ⟨v,k,rfl,e1,q⟩:=erL_inv f;obtain rfl:=erL_inv0 q;exact .plain (ih v e1)
 | fixed h hv ih =>
  intro u e;obtain ⟨a',m,rfl,f⟩:=er_inv e;obtain ⟨v,k,rfl,e1,q⟩:=erL_inv f;obtain ⟨w,k',rfl,C,D⟩:=erL_inv q;obtain rfl:=erL_inv0 D;exact .fixed (ih v e1) (hv.inv C)
 | lsa h ih =>
  intro u e;obtain ⟨a',m,rfl,f⟩:=er_inv e;obtain ⟨v,k,rfl,e1,q⟩:=erL_inv f;obtain rfl:=erL_inv0 q;exact .lsa (ih v e1)
 | lsb h hv ih =>
  intro u e;obtain ⟨a',m,rfl,f⟩:=er_inv e;obtain ⟨v,k,rfl,e1,q⟩:=erL_inv f;obtain ⟨w,k',rfl,C,D⟩:=erL_inv q;obtain rfl:=erL_inv0 D;exact .lsb (ih v e1) (hv.inv C)
 | maybe h ih =>
  intro u e;obtain ⟨a',m,rfl,f⟩:=er_inv e;obtain ⟨v,k,rfl,e1,q⟩:=erL_inv f;obtain rfl:=erL_inv0 q;exact .maybe (ih v e1)
 | case hl h ih =>
  intro u e;obtain ⟨a',m,rfl,f⟩:=er_inv e;obtain ⟨k,v,rfl,e1,q⟩:=erL_snoc f;exact .case (All.inv (fun t ht u e=>(hl t ht).inv e) e1) (ih v q)
 | els h ih =>
  intro u e;obtain ⟨a',m,rfl,f⟩:=er_inv e;obtain ⟨v,k,rfl,e1,q⟩:=erL_inv f;obtain rfl:=erL_inv0 q;exact .els (ih v e1)
theorem Proc.inv {t u:Tree} (h:Proc t) (e:er u=er t):Proc u:=by
 cases h with
 | mk hv hr hl =>
  obtain ⟨a',m,rfl,f⟩:=er_inv e;obtain ⟨v,k,rfl,e1,q⟩:=erL_inv f;obtain ⟨w,k',rfl,C,D⟩:=erL_inv q;exact .mk (hv.inv e1) (hr.inv _ C) (All.inv (fun t ht u e=>(hl t ht).inv u e) D)
theorem Ver.inv {t u:Tree} (h:Ver t) (e:er u=er t):Ver u:=by
 cases h with
 | mk hv hl =>
  obtain ⟨a',m,rfl,f⟩:=er_inv e;obtain ⟨v,k,rfl,e1,q⟩:=erL_inv f;exact .mk (hv.inv e1) (All.inv (fun t ht u e=>(hl t ht).inv e) q)
theorem Prg.inv {t u:Tree} (h:Prg t) (e:er u=er t):Prg u:=by
 cases h with
 | mk hv hl =>
  obtain ⟨a',m,rfl,f⟩:=er_inv e;obtain ⟨v,k,rfl,e1,q⟩:=erL_inv f;exact .mk (hv.inv e1) (All.inv (fun t ht u e=>(hl t ht).inv e) q)
theorem Dfn.inv {t u:Tree} (h:Dfn t) (e:er u=er t):Dfn u:=by
 cases h with
 | const hv =>
  obtain ⟨a',m,rfl,f⟩:=er_inv e;obtain ⟨v,k,rfl,e1,C⟩:=erL_inv f;obtain rfl:=erL_inv0 C;exact .const (hv.inv e1)
 | typedef hv =>
  obtain ⟨a',m,rfl,f⟩:=er_inv e;obtain ⟨v,k,rfl,e1,C⟩:=erL_inv f;obtain rfl:=erL_inv0 C;exact .typedef (hv.inv _ e1)
 | body hb =>
  obtain ⟨a',m,rfl,f⟩:=er_inv e;refine .body ?_;rcases hb with ⟨h,D,E⟩|⟨h,D⟩|⟨h,d,q,e',D,E⟩
  · refine .inl ⟨h,fun hm=>D ?_,All.inv (fun t ht u e=>(E t ht).inv e) f⟩
    subst hm;exact erL_inv0 f.symm
  · exact .inr (.inl ⟨h,All.inv (fun t ht u e=>(D t ht).inv u e) f⟩)
  · subst e'
    obtain ⟨v,k,rfl,e1,C⟩:=erL_inv f;exact .inr (.inr ⟨h,v,k,rfl,D.inv _ e1,All.inv (fun t ht u e=>(E t ht).inv u e) C⟩)
 | prog h=>exact .prog (h.inv e)
structure Good (s:By) (v:Tree):Prop where
 len:s.length≤16000
 sm:Sm v
 src:Src v
 parse:Ev (fun k=>ps_Parse k s) (v,0,0)
 rparse:Ev (fun k=>pr_Parse k s) (v,0,0)
theorem parse_ (s:By):(∃ v,Good s v)∨∃ e a,e≠0∧Ev (fun k=>ps_Parse k s) (noT,e,a)∧Ev (fun k=>pr_Parse k s) (noT,e,a):=by
 by_cases q:(scanS s).2.1=0
 · obtain ⟨hl,A,hA,_⟩:=scanS_toks q
   have hn:0 < (scanS s).1.length:=by rw [hA];simp
   rcases source_l (toks_scan q) _ 0 [] hn (Nat.le_refl _) (by simp) smL_nil (fun _ _ _=>by simp) with ⟨v,p,sv,C,D⟩|⟨e,a,z,p,he,C,D⟩
   · obtain ⟨k,hk⟩:=Ev.get C
     refine .inl ⟨v,hl,sv,(source_sp (tk_scan q) k _ _ v p hk).1,?_,?_⟩
     · unfold ps_Parse
       exact eb (lx_Scan_ s) (ep q (eb C (eg (by simp) et)))
     · unfold pr_Parse
       exact eb (rf_Scan_ s) (ep q D)
   · refine .inr ⟨e,a,he,?_,?_⟩
     · unfold ps_Parse
       exact eb (lx_Scan_ s) (ep q (eb C (ep rfl (ebc (x:=(some (faultV e a))) rfl (ebc (faultOf_V e a) et)))))
     · unfold pr_Parse
       exact eb (rf_Scan_ s) (ep q D)
 · refine .inr ⟨(scanS s).2.1,(scanS s).2.2,q,?_,?_⟩
   · unfold ps_Parse
     exact eb (lx_Scan_ s) (eg q et)
   · unfold pr_Parse
     exact eb (rf_Scan_ s) (eg q et)
theorem same_ {t:Tree} (h:Sm t):∀ u:Tree,∃ b,Ev (fun k=>ps_Same k t u) b∧(b=true ↔ er t=er u):=by
 induction h with
 | @mk K nm x a l hl hs ih =>
  intro u;obtain ⟨K',nm',x',a',m⟩:=u;have hno:∀ {P:Prop},¬ P→(false=true ↔ P):=fun h=>⟨fun e=>(nomatch e),fun e=>absurd e h⟩
  simp only [er_mk,Tree.mk.injEq,true_and];have go:∀ {b:Bool},Ev (fun k=>ps_Same (k+1) (⟨K,nm,x,a,l⟩:Tree) (⟨K',nm',x',a',m⟩:Tree)) b→Ev (fun k=>ps_Same k (⟨K,nm,x,a,l⟩:Tree) (⟨K',nm',x',a',m⟩:Tree)) b:=fun h=>Ev.unf h
  by_cases q:K=K'
  · by_cases C:nm=nm'
    · by_cases D:x=x'
      · subst q C D
        by_cases E:(l.length:Int)=(m.length:Int)
        · have loop:∀ (d i:Nat),l.length - i=d→i≤l.length→∃ b,Ev (fun k=>ps_EqualFunc.l1 k l m (i:Int)) b∧(b=true ↔ erL (l.drop i)=erL (m.drop i)):=by
           intro d
           induction d with
           | zero =>
            intro i J O;refine ⟨true,Ev.unf ?_,?_⟩
            · simp only [ps_EqualFunc.l1]
              exact eg (by omega) et
            · rw [List.drop_eq_nil_of_le (by omega),List.drop_eq_nil_of_le (by omega)];simp
           | succ d ihd =>
            intro i J O;have hi:i < l.length:=by omega
            have hi':i < m.length:=by omega
            obtain ⟨b,hb,e1⟩:=ih l[i] (List.getElem_mem hi) m[i];obtain ⟨c,hc,V⟩:=ihd (i+1) (by omega) (by omega);rw [List.drop_eq_getElem_cons hi,List.drop_eq_getElem_cons hi',erL_cons,erL_cons,List.cons.injEq,← e1,← V];cases b with
            | true =>
             refine ⟨c,Ev.unf ?_,by simp⟩;simp only [ps_EqualFunc.l1];refine ep (by omega) (ebc (idx_at rfl hi) (ebc (idx_at rfl hi') (eb hb (ep rfl ?_))));rw [w64_succ (by omega)];exact hc
            | false =>
             refine ⟨false,Ev.unf ?_,by simp⟩;simp only [ps_EqualFunc.l1];exact ep (by omega) (ebc (idx_at rfl hi) (ebc (idx_at rfl hi') (eb hb (eg (by simp) et))))
          obtain ⟨b,hb,e⟩:=loop l.length 0 rfl (Nat.zero_le _);rw [List.drop_zero,List.drop_zero] at e;refine ⟨b,go ?_,by simpa using e⟩;simp only [ps_Same];refine ep trivial (ep trivial (ep trivial (eb (Ev.unf ?_) et)));simp only [ps_EqualFunc];exact ep E hb
        · refine ⟨false,go ?_,hno fun h=>E ?_⟩
          · simp only [ps_Same]
            refine ep trivial (ep trivial (ep trivial (eb (Ev.unf ?_) et)));simp only [ps_EqualFunc];exact eg E et
          · have:=congrArg List.length h.2.2.2
            rw [erL_len,erL_len] at this
            omega
      · refine ⟨false,go ?_,hno fun h=>D h.2.2.1⟩
        simp only [ps_Same];exact ep q (ep C (eg D et))
    · refine ⟨false,go ?_,hno fun h=>C h.2.1⟩
      simp only [ps_Same];exact ep q (eg C et)
  · refine ⟨false,go ?_,hno fun h=>q h.1⟩
    simp only [ps_Same];exact eg q et
theorem rsame_ {v:Tree} (h:Sm v):∀ u:Tree,∃ b,Ev (fun k=>rf_Same k v u) b∧(b=true ↔ er v=er u):=by
 induction h with
 | @mk K nm x a l hl hs ih =>
  intro u;obtain ⟨K',nm',x',a',m⟩:=u;simp only [er_mk,Tree.mk.injEq,true_and];have no:∀ b,b=true→Ev (fun k=>rf_Same.j1 k (⟨K,nm,x,a,l⟩:Tree) (⟨K',nm',x',a',m⟩:Tree) b) false:=fun b hb=>Ev.unf (by simp only [rf_Same.j1];exact ep hb et)
  by_cases q:K=K'
  · by_cases C:nm=nm'
    · by_cases D:x=x'
      · by_cases E:l.length=m.length
        · have loop:∀ (d i:Nat),l.length - i=d→i≤l.length→∃ b,Ev (fun k=>rf_Same.l1 k (⟨K,nm,x,a,l⟩:Tree) (⟨K',nm',x',a',m⟩:Tree) (i:Int)) b∧(b=true ↔ erL (l.drop i)=erL (m.drop i)):=by
           intro d
           induction d with
           | zero =>
            intro i J O;refine ⟨true,Ev.unf ?_,?_⟩
            · simp only [rf_Same.l1]
              exact eg (by omega) et
            · rw [List.drop_eq_nil_of_le (by omega),List.drop_eq_nil_of_le (by omega)];simp
           | succ d ihd =>
            intro i J O;have hi:i < l.length:=by omega
            have hi':i < m.length:=by omega
            obtain ⟨b,hb,e1⟩:=ih l[i] (List.getElem_mem hi) m[i];obtain ⟨c,hc,V⟩:=ihd (i+1) (by omega) (by omega);rw [List.drop_eq_getElem_cons hi,List.drop_eq_getElem_cons hi',erL_cons,erL_cons,List.cons.injEq,← e1,← V];cases b with
            | true =>
             refine ⟨c,Ev.unf ?_,by simp⟩;simp only [rf_Same.l1];refine ep (by omega) (ebc (idx_at rfl hi) (ebc (idx_at rfl hi') (eb hb (ep rfl ?_))));rw [w64_succ (by omega)];exact hc
            | false =>
             refine ⟨false,Ev.unf ?_,by simp⟩;simp only [rf_Same.l1];exact ep (by omega) (ebc (idx_at rfl hi) (ebc (idx_at rfl hi') (eb hb (eg (by simp) et))))
          obtain ⟨b,hb,e⟩:=loop l.length 0 rfl (Nat.zero_le _);rw [List.drop_zero,List.drop_zero] at e;refine ⟨b,Ev.unf ?_,by rw [e];exact ⟨fun h=>⟨q,C,D,h⟩,fun h=>h.2.2.2⟩⟩;simp only [rf_Same];refine ep q (ep C (ep D (Ev.unf ?_)));simp only [rf_Same.j1];exact eg (by simp [E]) hb
        · refine ⟨false,Ev.unf ?_,fun e=>(nomatch e),fun h=>absurd (by have:=congrArg List.length h.2.2.2;rwa [erL_len,erL_len] at this) E⟩
          simp only [rf_Same];exact ep q (ep C (ep D (no _ (by simp;omega))))
      · refine ⟨false,Ev.unf ?_,fun e=>(nomatch e),fun h=>absurd h.2.2.1 D⟩
        simp only [rf_Same];exact ep q (ep C (eg D (no _ rfl)))
    · refine ⟨false,Ev.unf ?_,fun e=>(nomatch e),fun h=>absurd h.2.1 C⟩
      simp only [rf_Same];exact ep q (eg C (no _ rfl))
  · refine ⟨false,Ev.unf ?_,fun e=>(nomatch e),fun h=>absurd h.1 q⟩
    simp only [rf_Same];exact eg q (no _ rfl)
abbrev outT (t:Tree):By:=putL [] (nk t).1
theorem print_ {t:Tree} (h:OkT t) (hl:tokLen (nk t).1≤BB):(∃ v,Good (outT t) v∧er v=er t∧Ev (fun k=>ps_Print k t) (outT t,0))∨((∀ v,Good (outT t) v→er v≠er t)∧Ev (fun k=>ps_Print k t) ([],43)):=by
 have hn:Ev (fun k=>ps_node k (⟨[]⟩:WriK) t) (⟨outT t⟩:WriK):=(node_ h).1 [] (by rw [List.length_nil];omega);unfold ps_Print;rcases parse_ (outT t) with ⟨v,g⟩|⟨e,a,he,hp,_⟩
 · obtain ⟨b,hb,e⟩:=same_ g.sm t
   cases b with
   | true=>exact .inl ⟨v,g,e.1 rfl,eb hn (eb g.parse (ep rfl (eb hb (ep rfl et))))⟩
   | false =>
    refine .inr ⟨fun v' g' e'=>?_,eb hn (eb g.parse (ep rfl (eb hb (eg (by simp) et))))⟩;have:=congrArg (fun r:Tree×Int×Int=>r.1) (Ev.det g.parse g'.parse);have:v=v':=this;subst this;exact absurd (e.2 e') (by simp)
 · refine .inr ⟨fun v' g' e'=>?_,eb hn (eb hp (eg he et))⟩
   have:=congrArg (fun r:Tree×Int×Int=>r.2.1) (Ev.det hp g'.parse);exact he this
theorem shape_of {v t:Tree} (h:Src v) (e:er v=er t):All Dfn t.Kids∧n1 t=defsN t.Kids:=by
 obtain @⟨l,hl⟩:=h;obtain ⟨a',m,rfl,e'⟩:=er_inv e.symm;exact ⟨All.inv (fun t ht u e=>(hl t ht).inv e) e',e1 _ _ _ _⟩
theorem prints_ {t:Tree} (h:OkT t) (hl:tokLen (nk t).1≤BB):∃ r,Ev (fun k=>ps_Print k t) r∧Ev (fun k=>rp_Print k t) r:=by
 obtain ⟨r',O,k2,q,C⟩:=print_l h t.Kids.length 0 ⟨[],false,0⟩ rfl (Nat.zero_le _) (by simp);have D:(⟨[],false,0⟩:WriR)=gs []:=rfl;have hput:∀ v,Src v→er v=er t→r'=gs (outT t)∨(Bad r'∧16000 < (outT t).length):=fun v hv e=>by
  obtain ⟨E,J⟩:=shape_of hv e;have:=C E [] D;rw [List.drop_zero,← J,n1,putL_ne] at this;exact this
 have fin:∀ res,Ev (fun k=>rp_Print.j1 k t r'.l r'.odd r'.last) res→Ev (fun k=>rp_Print k t) res:=fun res hr=>by
  unfold rp_Print;exact q res hr
 rcases print_ h hl with ⟨v,g,e,hp⟩|⟨hno,hp⟩
 · refine ⟨(outT t,0),hp,fin _ ?_⟩
   rcases hput v g.src e with hr | ⟨_,hr⟩
   · rw [hr]
     obtain ⟨b,hb,eB⟩:=rsame_ g.sm t;obtain rfl:=eB.2 e;unfold rp_Print.j1;exact eb g.rparse (eb hb (eg (by simp [gs]) (ep rfl (ep rfl et))))
   · have:=g.len;omega
 · refine ⟨([],43),hp,fin _ ?_⟩
   unfold rp_Print.j1;rcases parse_ r'.l with ⟨v,g⟩|⟨e,a,he,_,hq⟩
   · obtain ⟨b,hb,eB⟩:=rsame_ g.sm t
     refine eb g.rparse (eb hb ?_);by_cases ho:r'.odd=true
     · exact ep ho et
     · refine eg ho (ep rfl ?_)
       cases b with
       | false=>exact eg (by simp) et
       | true =>
        exfalso
        have e:=eB.1 rfl;rcases hput v g.src e with hr | ⟨hb,_⟩
        · have hrl:r'.l=outT t:=by rw [hr];rfl
          rw [hrl] at g;exact hno v g e
        · rcases hb with hb | hb
          · exact ho hb
          · have:=g.len;omega
   · obtain ⟨b,hb,_⟩:=rsame_ (v:=noT) .leaf t
     refine eb hq (eb hb ?_);by_cases ho:r'.odd=true
     · exact ep ho et
     · exact eg ho (eg he et)
end Go.Proofs.YtnhifhlbelogcaaGreatDoor
