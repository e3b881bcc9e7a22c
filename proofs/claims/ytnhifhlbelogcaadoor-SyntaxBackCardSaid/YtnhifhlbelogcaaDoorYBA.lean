/- What the writer puts: a tree's tokens, one behind the other. -/
import Derived.Test.YtnhifhlbelogcaaDoorYSM
import Derived.Test.YtnhifhlbelogcaaDoorYPX
set_option linter.unusedVariables false
set_option linter.unusedSimpArgs false
namespace Go.Proofs.YtnhifhlbelogcaaDoor
open Go Go.Eng
abbrev Tk:=List (List UInt8)
def joins (o x:List UInt8):Bool:=match o.getLast?,x.head? with
 | some a,some b=>inRun a && inRun b
 | _,_=>false
def put1 (o x:List UInt8):List UInt8:=if joins o x then o++32::x else o++x
def putL (o:List UInt8) (L:Tk):List UInt8:=L.foldl put1 o
def tkl (x:List UInt8):Nat:=if x=[] then 0 else x.length+1
theorem tl_le (x:List UInt8):x.length≤tkl x∧tkl x≤x.length+1∧(x≠[]→tkl x=x.length+1):=by
 unfold tkl
 split
 · rename_i h;subst h;simp
 · simp
def tokLen:Tk→Nat
 | []=>0
 | x::L=>tkl x+tokLen L
theorem tokLen_append:∀ A B:Tk,tokLen (A++B)=tokLen A+tokLen B
 | [],B=>by rw [List.nil_append,tokLen,Nat.zero_add]
 | x::A,B=>by rw [List.cons_append,tokLen,tokLen,tokLen_append A B];omega
theorem putL_append (o:List UInt8) (A B:Tk):putL o (A++B)=putL (putL o A) B:=List.foldl_append
theorem joins_ne {o x:List UInt8} (h:joins o x=true):x≠[]:=by
 rintro rfl;have:joins o []=false:=by unfold joins;cases o.getLast? <;> rfl
 rw [this] at h;cases h
theorem put1_len (o x:List UInt8):(put1 o x).length≤o.length+tkl x:=by
 obtain ⟨C,D,q⟩:=tl_le x;unfold put1
 split
 · rename_i h
   have:=q (joins_ne h);simp only [List.length_append,List.length_cons];omega
 · simp only [List.length_append];omega
theorem putL_len:∀ (L:Tk) (o:List UInt8),(putL o L).length≤o.length+tokLen L
 | [],o=>Nat.le_refl _
 | x::L,o=>by
  have q:=putL_len L (put1 o x);have C:=put1_len o x
  show (putL (put1 o x) L).length≤_
  rw [tokLen];omega
def BB:Nat:=34359738368
def Wr (F:Nat→WriK→Option WriK) (L:Tk):Prop:=∀ o:List UInt8,o.length+tokLen L≤BB→Ev (fun k=>F k ⟨o⟩) (⟨putL o L⟩:WriK)
theorem Wr.ret:Wr (fun _ o=>some o) []:=fun o _=>Ev.ret
theorem Wr.bind {F G:Nat→WriK→Option WriK} {A B:Tk} (h:Wr F A) (g:Wr G B):Wr (fun k o=>Option.bind (F k o) fun s=>G k s) (A++B):=fun o ho=>by
 rw [tokLen_append] at ho;rw [putL_append];refine Ev.bind (h o (by omega)) (g _ ?_);have:=putL_len A o
 omega
theorem Wr.last {F:Nat→WriK→Option WriK} {A:Tk} (h:Wr F A):Wr (fun k o=>Option.bind (F k o) fun s=>some s) A:=fun o ho=>Ev.bind (h o ho) Ev.ret
theorem Wr.pure {α:Type} {A:Nat→Option α} {x:α} {G:Nat→WriK→α→Option WriK} {L:Tk} (hA:Ev A x) (g:Wr (fun k o=>G k o x) L):Wr (fun k o=>Option.bind (A k) fun s=>G k o s) L:=fun o ho=>Ev.bind hA (g o ho)
theorem Wr.unf {F:Nat→WriK→Option WriK} {L:Tk} (h:Wr (fun k=>F (k+1)) L):Wr F L:=fun o ho=>Ev.unf (f:=fun k=>F k ⟨o⟩) (h o ho)
theorem Wr.pos {c:Prop} [Decidable c] {F G:Nat→WriK→Option WriK} {L:Tk} (hc:c) (h:Wr F L):Wr (fun k o=>if c then F k o else G k o) L:=fun o ho=>Ev.pos hc (h o ho)
theorem Wr.neg {c:Prop} [Decidable c] {F G:Nat→WriK→Option WriK} {L:Tk} (hc:¬ c) (h:Wr G L):Wr (fun k o=>if c then F k o else G k o) L:=fun o ho=>Ev.neg hc (h o ho)
theorem Wr.cast {F:Nat→WriK→Option WriK} {L M:Tk} (h:Wr F L) (e:L=M):Wr F M:=e ▸ h
theorem ps_inRun_ (k:Nat) (c:UInt8):ps_inRun k (c.toNat:Int)=some (inRun c):=by
 unfold ps_inRun inRun isLetter isDigit;have e1:∀ n:Nat,((n:Int)≤(c.toNat:Int))=(n≤c.toNat):=fun n=>by simp
 by_cases q:97≤c.toNat <;> by_cases C:c.toNat≤122 <;> by_cases D:65≤c.toNat <;> by_cases E:c.toNat≤90 <;> by_cases J:48≤c.toNat <;> by_cases O:c.toNat≤57 <;> by_cases V:c.toNat=95 <;>
  simp only [show ((97:Int)≤(c.toNat:Int)) ↔ 97≤c.toNat by omega,show ((c.toNat:Int)≤122) ↔ c.toNat≤122 by omega,show ((65:Int)≤(c.toNat:Int)) ↔ 65≤c.toNat by omega,show ((c.toNat:Int)≤90) ↔ c.toNat≤90 by omega,show ((48:Int)≤(c.toNat:Int)) ↔ 48≤c.toNat by omega,show ((c.toNat:Int)≤57) ↔ c.toNat≤57 by omega,show ((c.toNat:Int)=95) ↔ c.toNat=95 by omega,q,C,D,E,J,O,V,if_true,if_false,decide_true,decide_false,Bool.and_true,Bool.and_false,Bool.or_true,Bool.or_false,Bool.true_or,Bool.false_or,Bool.true_and,Bool.false_and] <;> first | rfl | omega
theorem put_l (L:Tk):∀ (d i:Nat) (o:List UInt8),L.length - i=d→i≤L.length→L.length≤1000000→o.length+tokLen (L.drop i)≤BB→Ev (fun k=>ps_put.l1 k L (⟨o⟩:WriK) (i:Int)) (⟨putL o (L.drop i)⟩:WriK):=by
 intro d
 induction d with
 | zero =>
  intro i o J O hL ho;refine Ev.unf ?_;simp only [ps_put.l1];refine Ev.neg (by omega) (Ev.cast Ev.ret ?_);rw [List.drop_eq_nil_of_le (by omega)];rfl
 | succ d ih =>
  intro i o J O hL ho;have hi:i < L.length:=by omega
  rw [List.drop_eq_getElem_cons hi] at ho ⊢;rw [tokLen] at ho;have hx:idx L (i:Int)=some L[i]:=idx_at rfl hi;generalize hX:L[i]=x at *;have C:∀ o':List UInt8,o'.length+x.length≤o.length+tkl x→put1 o x=o'++x→Ev (fun k=>ps_put.j1 k L (i:Int) x (⟨o'⟩:WriK)) (⟨putL o (x::L.drop (i+1))⟩:WriK):=fun o' V D=>by
   refine Ev.unf ?_;simp only [ps_put.j1];refine Ev.bindc (cat_at (by simp only [BB] at ho;omega)) ?_;rw [w64_succ (by omega)]
   show Ev _ (⟨putL (put1 o x) (L.drop (i+1))⟩:WriK)
   rw [D];exact ih (i+1) _ (by omega) (by omega) hL (by simp only [List.length_append];omega)
  have q:∀ b:Bool,joins o x=b→Ev (fun k=>ps_put.j2 k L (⟨o⟩:WriK) (i:Int) x b) (⟨putL o (x::L.drop (i+1))⟩:WriK):=fun b hb=>by
   refine Ev.unf ?_;simp only [ps_put.j2];cases b with
   | true =>
    have htl:=(tl_le x).2.2 (joins_ne hb);refine Ev.pos rfl (Ev.bindc (cat_at (by simp only [BB,List.length_singleton] at ho ⊢;omega)) ?_);exact C _ (by simp;omega) (by unfold put1;rw [if_pos hb];simp)
   | false =>
    refine Ev.neg (by simp) ?_;exact C o (by have:=(tl_le x).1;omega) (by unfold put1;rw [if_neg (by simp [hb])])
  refine Ev.unf ?_;simp only [ps_put.l1];refine Ev.pos (by omega) (Ev.bindc hx ?_);by_cases E:0 < (o.length:Int)
  · refine Ev.pos E ?_
    by_cases he:x=[]
    · refine Ev.pos he (q false ?_)
      subst he;unfold joins;cases o.getLast? <;> rfl
    · refine Ev.neg he ?_
      have hol:o.length - 1 < o.length:=by omega
      rw [w64_of (n:=(o.length:Int) - 1) (by omega) (by simp only [BB] at ho;omega)];refine Ev.bindc (idx_at (j:=o.length - 1) (by omega) hol) (Ev.bind (Ev.all fun k=>ps_inRun_ k _) ?_);have hla:o.getLast? = some o[o.length - 1]:=by rw [List.getLast?_eq_getElem?,List.getElem?_eq_getElem hol]
      cases x with
      | nil=>exact absurd rfl he
      | cons c x =>
       by_cases hr:inRun o[o.length - 1]=true
       · refine Ev.pos hr (Ev.bindc (idx_at (j:=0) rfl (by simp)) (Ev.bind (Ev.all fun k=>ps_inRun_ k _) (q _ ?_)))
         unfold joins;rw [hla]
         simp [hr]
       · refine Ev.neg hr (q false ?_)
         unfold joins;rw [hla]
         simp [Bool.eq_false_iff.2 hr]
  · refine Ev.neg E (q false ?_)
    have:o=[]:=List.eq_nil_of_length_eq_zero (by omega);subst this
    rfl
theorem put_ (L:Tk) (hL:L.length≤1000000):Wr (fun k s=>ps_put k s L) L:=fun o ho=>by
 unfold ps_put;exact put_l L L.length 0 o rfl (Nat.zero_le _) hL ho
end Go.Proofs.YtnhifhlbelogcaaDoor
set_option linter.unusedVariables false
set_option linter.unusedSimpArgs false
namespace Go.Proofs.YtnhifhlbelogcaaDoor
open Go Go.Eng
def plainT (K:Int):Tk :=
 if K=13 then [[118,111,105,100]] else if K=18 then [[105,110,116]] else if K=19 then [[117,110,115,105,103,110,101,100],[105,110,116]] else if K=20 then [[104,121,112,101,114]]
 else if K=21 then [[117,110,115,105,103,110,101,100],[104,121,112,101,114]] else if K=22 then [[102,108,111,97,116]] else if K=23 then [[100,111,117,98,108,101]] else if K=24 then [[98,111,111,108]]
 else if K=25 then [[111,112,97,113,117,101]] else if K=26 then [[115,116,114,105,110,103]] else [[63]]
abbrev NK:=Tk×Tk
def kidT (ks:List NK) (i:Nat):Tk:=match ks[i]? with
 | some p=>p.1
 | none=>[[63]]
def eachT (ks:List NK) (sep:Tk):Tk:=(ks.map fun p=>p.1++sep).flatten
def betwT:List NK→Tk
 | []=>[]
 | p::ks=>p.1++(ks.map fun q=>[44]::q.1).flatten
def wS (K:Int) (nm:List UInt8) (x:Int) (ks:List NK):Tk :=
 if K=14 then kidT ks 0++[nm] else if K=15 then kidT ks 0++([nm,[91]]++(kidT ks 1++[[93]])) else if K=16 then kidT ks 0++([nm,[60]]++(eachT (ks.drop 1) []++[[62]]))
 else if K=17 then kidT ks 0++[[42],nm] else if K=27 then [nm] else if K=28 then [Lib.itoa x] else plainT K
def wN (K:Int) (nm:List UInt8) (x:Int) (ks:List NK):Tk :=
 if K=1 then (ks.map (·.2)).flatten
 else if K=4 then [[101,110,117,109],nm,[123]]++(betwT ks++[[125]])
 else if K=6 then [[115,116,114,117,99,116],nm,[123]]++(eachT ks [[59]]++[[125]])
 else if K=7 then [[117,110,105,111,110],nm,[115,119,105,116,99,104],[40]]++(kidT ks 0++([[41],[123]]++(eachT (ks.drop 1) [[59]]++[[125]])))
 else if K=5 then [nm,[61]]++kidT ks 0
 else if K=8 then ((ks.take (ks.length - 1)).map fun p=>[99,97,115,101]::(p.1++[[58]])).flatten++eachT (ks.drop (ks.length - 1)) []
 else if K=9 then [[100,101,102,97,117,108,116],[58]]++kidT ks 0
 else if K=10 then [[112,114,111,103,114,97,109],nm,[123]]++(eachT (ks.drop 1) []++([[125],[61]]++kidT ks 0))
 else if K=11 then [[118,101,114,115,105,111,110],nm,[123]]++(eachT (ks.drop 1) []++([[125],[61]]++(kidT ks 0++[[59]])))
 else if K=12 then kidT ks 1++([nm,[40]]++(betwT (ks.drop 2)++([[41],[61]]++(kidT ks 0++[[59]]))))
 else wS K nm x ks
def wD (K:Int) (nm:List UInt8) (x:Int) (ks:List NK):Tk :=
 if K=2 then [[99,111,110,115,116],nm,[61]]++(kidT ks 0++[[59]]) else if K=3 then [[116,121,112,101,100,101,102]]++(kidT ks 0++[[59]]) else wN K nm x ks++[[59]]
mutual
def nk:Tree→NK
 | ⟨K,nm,x,a,l⟩=>(wN K nm x (nkL l),wD K nm x (nkL l))
def nkL:List Tree→List NK
 | []=>[]
 | t::l=>nk t::nkL l
end
theorem nkL_map:∀ l:List Tree,nkL l=l.map nk
 | []=>rfl
 | t::l=>by rw [nkL,List.map_cons,nkL_map l]
theorem nk_eq (K:Int) (nm:List UInt8) (x a:Int) (l:List Tree):nk ⟨K,nm,x,a,l⟩=(wN K nm x (l.map nk),wD K nm x (l.map nk)):=by rw [nk,nkL_map]
abbrev noTr:Tree:=⟨0,[],0,0,[]⟩
theorem kidT_map (l:List Tree) (i:Nat):kidT (l.map nk) i=(nk (l[i]?.getD noTr)).1:=by
 unfold kidT;rw [List.getElem?_map];cases l[i]? with
 | none=>rw [Option.map_none,Option.getD_none,nk_eq];rfl
 | some t=>rfl
theorem ps_kid_ (t:Tree) (i:Nat) (k:Nat):ps_kid k t (i:Int)=some (t.Kids[i]?.getD noTr):=by
 unfold ps_kid;by_cases h:i < t.Kids.length
 · rw [if_pos (by omega),idx_at rfl h,List.getElem?_eq_getElem h];rfl
 · rw [if_neg (by omega),List.getElem?_eq_none (by omega)];rfl
theorem ps_from_ (t:Tree) (i:Nat) (k:Nat):ps_from k t (i:Int)=some (t.Kids.drop i):=by
 unfold ps_from;by_cases h:i≤t.Kids.length
 · rw [cut_from (a:=i) (by omega) h];rfl
 · rw [cut_from (a:=t.Kids.length) (by omega) (Nat.le_refl _),List.drop_eq_nil_of_le (by omega),List.drop_eq_nil_of_le (by omega)];rfl
theorem ps_last_ (t:Tree) (h:t.Kids.length≤4398046511104) (k:Nat):ps_last k t=some ((t.Kids.length - 1:Nat):Int):=by
 unfold ps_last;rw [w64_of (n:=(t.Kids.length:Int) - 1) (by omega) (by omega)]
 congr 1
 omega
theorem Wr.ite {c:Prop} [Decidable c] {F G:Nat→WriK→Option WriK} {A B:Tk} (q:c→Wr F A) (C:¬ c→Wr G B):Wr (fun k o=>if c then F k o else G k o) (if c then A else B):=by
 by_cases h:c
 · simp only [if_pos h];exact q h
 · simp only [if_neg h];exact C h
def PT (t:Tree):Prop:=Wr (fun k s=>ps_node k s t) (nk t).1∧Wr (fun k s=>ps_wdef k s t) (nk t).2
theorem each_ (l:List Tree) (sep:Tk) (hs:sep.length≤1000000) (hl:l.length≤4398046511104) (h:∀ t∈l,PT t):Wr (fun k s=>ps_each k s l sep) (eachT (l.map nk) sep):=by
 have loop:∀ (d i:Nat),l.length - i=d→i≤l.length→Wr (fun k s=>ps_each.l1 k l sep s (i:Int)) (eachT ((l.drop i).map nk) sep):=by
  intro d
  induction d with
  | zero =>
   intro i C D;refine Wr.unf ?_;simp only [ps_each.l1];rw [List.drop_eq_nil_of_le (by omega)];exact Wr.neg (by omega) Wr.ret
  | succ d ih =>
   intro i C D;have hi:i < l.length:=by omega
   refine Wr.unf ?_;simp only [ps_each.l1];rw [List.drop_eq_getElem_cons hi];refine Wr.pos (by omega) (Wr.pure (Ev.all fun k=>idx_at rfl hi) ?_);refine Wr.cast (Wr.bind (h _ (List.getElem_mem hi)).1 (Wr.bind (put_ sep hs) (ih (i+1) (by omega) (by omega) |> fun q=>?_))) (L:=(nk l[i]).1++(sep++eachT ((l.drop (i+1)).map nk) sep)) (by rw [List.map_cons];unfold eachT;rw [List.map_cons,List.flatten_cons,List.append_assoc]);rw [w64_succ (by omega)];exact q
 refine Wr.unf ?_;simp only [ps_each];exact loop l.length 0 rfl (Nat.zero_le _)
theorem betw_ (l:List Tree) (hl:l.length≤4398046511104) (h:∀ t∈l,PT t):Wr (fun k s=>ps_between k s l) (betwT (l.map nk)):=by
 have loop:∀ (d i:Nat),l.length - i=d→i≤l.length→0 < i→Wr (fun k s=>ps_between.l1 k l s (i:Int)) (((l.drop i).map nk).map fun q=>[44]::q.1).flatten:=by
  intro d
  induction d with
  | zero =>
   intro i C D E;refine Wr.unf ?_;simp only [ps_between.l1];rw [List.drop_eq_nil_of_le (by omega)];exact Wr.neg (by omega) Wr.ret
  | succ d ih =>
   intro i C D E;have hi:i < l.length:=by omega
   refine Wr.unf ?_;simp only [ps_between.l1];rw [List.drop_eq_getElem_cons hi];refine Wr.pos (by omega) (Wr.pure (Ev.all fun k=>idx_at rfl hi) (Wr.pos (by omega) ?_));refine Wr.cast (Wr.bind (put_ [[44]] (by decide)) (Wr.bind (h _ (List.getElem_mem hi)).1 (ih (i+1) (by omega) (by omega) (by omega) |> fun q=>?_))) (L:=[[44]]++((nk l[i]).1++(((l.drop (i+1)).map nk).map fun q=>[44]::q.1).flatten)) (by rw [List.map_cons,List.map_cons,List.flatten_cons];rfl);rw [w64_succ (by omega)];exact q
 refine Wr.unf ?_;simp only [ps_between];refine Wr.unf ?_;simp only [ps_between.l1];cases l with
 | nil=>exact Wr.neg (by simp) Wr.ret
 | cons t l =>
  refine Wr.pos (by simp) (Wr.pure (Ev.all fun k=>idx_at (j:=0) rfl (by simp)) (Wr.neg (by omega) ?_));refine Wr.bind (h t List.mem_cons_self).1 ?_;have:=loop l.length 1 (by simp) (by simp) (by omega);exact this
theorem plain_ (K:Int) (k:Nat):ps_plain k K=some (plainT K):=by
 unfold ps_plain plainT
 repeat' split
 all_goals rfl
theorem plainT_len (K:Int):(plainT K).length≤2:=by
 unfold plainT
 repeat' split
 all_goals decide
theorem node_ {t:Tree} (h:Sm t):PT t:=by
 have hno:Wr (fun k s=>ps_node k s noTr) (nk noTr).1:=by
  refine Wr.unf ?_;simp only [ps_node]
  repeat' refine Wr.neg (by decide) ?_
  refine Wr.last (Wr.unf ?_);simp only [ps_small]
  repeat' refine Wr.neg (by decide) ?_
  exact Wr.pure (Ev.all fun k=>plain_ 0 k) (Wr.last (put_ _ (by decide)))
 induction h with
 | @mk K nm x a l hl hs hnb ih =>
  obtain ⟨hx,hx'⟩:=hnb;have kid:∀ i:Nat,Wr (fun k s=>ps_node k s (l[i]?.getD noTr)) (kidT (l.map nk) i):=fun i=>by
   rw [kidT_map];by_cases h:i < l.length
   · rw [List.getElem?_eq_getElem h];exact (ih _ (List.getElem_mem h)).1
   · rw [List.getElem?_eq_none (by omega)];exact hno
  have hkid:∀ (i:Nat),Ev (fun k=>ps_kid k (⟨K,nm,x,a,l⟩:Tree) (i:Int)) (l[i]?.getD noTr):=fun i=>Ev.all fun k=>ps_kid_ _ i k
  have hfrom:∀ (i:Nat),Ev (fun k=>ps_from k (⟨K,nm,x,a,l⟩:Tree) (i:Int)) (l.drop i):=fun i=>Ev.all fun k=>ps_from_ _ i k
  have each:∀ (i:Nat) (sep:Tk),sep.length≤1000000→Wr (fun k s=>ps_each k s (l.drop i) sep) (eachT ((l.map nk).drop i) sep):=fun i sep h=>by
   rw [← List.map_drop];exact each_ _ sep h (by rw [List.length_drop];omega) fun t ht=>ih t (List.mem_of_mem_drop ht)
  have betw:∀ (i:Nat),Wr (fun k s=>ps_between k s (l.drop i)) (betwT ((l.map nk).drop i)):=fun i=>by
   rw [← List.map_drop];exact betw_ _ (by rw [List.length_drop];omega) fun t ht=>ih t (List.mem_of_mem_drop ht)
  have small:Wr (fun k s=>ps_small k s (⟨K,nm,x,a,l⟩:Tree)) (wS K nm x (l.map nk)):=by
   refine Wr.unf ?_;simp only [ps_small];unfold wS;refine Wr.ite (fun _=>?_) fun _=>?_
   · exact (Wr.pure (hkid 0) (Wr.bind (kid 0) (Wr.last (put_ _ (by simp)))))
   refine Wr.ite (fun _=>?_) fun _=>?_
   · exact (Wr.pure (hkid 0) (Wr.bind (kid 0) (Wr.bind (put_ _ (by simp)) (Wr.pure (hkid 1) (Wr.bind (kid 1) (Wr.last (put_ _ (by simp))))))))
   refine Wr.ite (fun _=>?_) fun _=>?_
   · exact (Wr.pure (hkid 0) (Wr.bind (kid 0) (Wr.bind (put_ _ (by simp)) (Wr.pure (hfrom 1) (Wr.bind (each 1 [] (by simp)) (Wr.last (put_ _ (by simp))))))))
   refine Wr.ite (fun _=>?_) fun _=>?_
   · exact (Wr.pure (hkid 0) (Wr.bind (kid 0) (Wr.last (put_ _ (by simp)))))
   refine Wr.ite (fun _=>?_) fun _=>?_
   · exact (Wr.last (put_ _ (by simp)))
   refine Wr.ite (fun _=>?_) fun _=>?_
   · exact (Wr.pure (Ev.all fun k=>by unfold gv_Itoa;rw [if_pos ⟨hx,hx'⟩]) (Wr.last (put_ _ (by simp))))
   exact Wr.pure (Ev.all fun k=>plain_ K k) (Wr.last (put_ _ (by have:=plainT_len K;omega)))
  have node:Wr (fun k s=>ps_node k s (⟨K,nm,x,a,l⟩:Tree)) (wN K nm x (l.map nk)):=by
   refine Wr.unf ?_;simp only [ps_node];unfold wN;refine Wr.ite (fun _=>?_) fun _=>?_
   · have loop:∀ (d i:Nat),l.length - i=d→i≤l.length→Wr (fun k s=>ps_node.l1 k (⟨K,nm,x,a,l⟩:Tree) s (i:Int)) (((l.map nk).drop i).map (·.2)).flatten:=by
      intro d
      induction d with
      | zero =>
       intro i q C;refine Wr.unf ?_;simp only [ps_node.l1];rw [List.drop_eq_nil_of_le (by rw [List.length_map];omega)];exact Wr.neg (by omega) Wr.ret
      | succ d ihd =>
       intro i q C;have hi:i < l.length:=by omega
       refine Wr.unf ?_;simp only [ps_node.l1];rw [List.drop_eq_getElem_cons (by rw [List.length_map];exact hi),List.getElem_map,List.map_cons,List.flatten_cons];refine Wr.pos (by omega) (Wr.pure (Ev.all fun k=>idx_at rfl hi) (Wr.bind (ih _ (List.getElem_mem hi)).2 ?_));rw [w64_succ (by omega)];exact ihd (i+1) (by omega) (by omega)
     exact loop l.length 0 rfl (Nat.zero_le _)
   refine Wr.ite (fun _=>?_) fun _=>?_
   · exact (Wr.bind (put_ _ (by simp)) (Wr.bind (betw 0) (Wr.last (put_ _ (by simp)))))
   refine Wr.ite (fun _=>?_) fun _=>?_
   · exact (Wr.bind (put_ _ (by simp)) (Wr.bind (each 0 _ (by simp)) (Wr.last (put_ _ (by simp)))))
   refine Wr.ite (fun _=>?_) fun _=>?_
   · exact (Wr.bind (put_ _ (by simp)) (Wr.pure (hkid 0) (Wr.bind (kid 0) (Wr.bind (put_ _ (by simp)) (Wr.pure (hfrom 1) (Wr.bind (each 1 _ (by simp)) (Wr.last (put_ _ (by simp)))))))))
   refine Wr.ite (fun _=>?_) fun _=>?_
   · exact (Wr.bind (put_ _ (by simp)) (Wr.pure (hkid 0) (Wr.last (kid 0))))
   refine Wr.ite (fun _=>?_) fun _=>?_
   · refine (Wr.pure (Ev.all fun k=>ps_last_ _ hl k) (Wr.pure (Ev.all fun k=>cut_to rfl (by show l.length - 1≤l.length;omega)) ?_))
     generalize hm:l.length - 1=m;have hml:m≤l.length:=by omega
     have hlen:(l.take m).length=m:=by rw [List.length_take];omega
     have loop:∀ (d i:Nat),m - i=d→i≤m→Wr (fun k s=>ps_node.l2 k (⟨K,nm,x,a,l⟩:Tree) (l.take m) s (i:Int)) (((((l.map nk).take m).drop i).map fun p=>[99,97,115,101]::(p.1++[[58]])).flatten++eachT ((l.map nk).drop m) []):=by
      intro d
      induction d with
      | zero =>
       intro i q C;refine Wr.unf ?_;simp only [ps_node.l2];rw [List.drop_eq_nil_of_le (by rw [List.length_take,List.length_map];omega)];refine Wr.neg (by rw [hlen];omega) ?_;refine Wr.unf ?_;simp only [ps_node.j1];subst hm;exact Wr.pure (Ev.all fun k=>ps_last_ _ hl k) (Wr.pure (hfrom _) (Wr.last (each _ [] (by simp))))
      | succ d ihd =>
       intro i q C;have hi:i < (l.take m).length:=by rw [hlen];omega
       have hi':i < ((l.map nk).take m).length:=by rw [List.length_take,List.length_map];omega
       refine Wr.unf ?_;simp only [ps_node.l2];rw [List.drop_eq_getElem_cons hi',List.map_cons,List.flatten_cons];have e1:((l.map nk).take m)[i]=nk (l.take m)[i]:=by simp
       rw [e1];refine Wr.pos (by omega) (Wr.pure (Ev.all fun k=>idx_at rfl hi) ?_);refine Wr.cast (L:=[[99,97,115,101]]++((nk (l.take m)[i]).1++([[58]]++(((((l.map nk).take m).drop (i+1)).map fun p=>[99,97,115,101]::(p.1++[[58]])).flatten++eachT ((l.map nk).drop m) [])))) (Wr.bind (put_ _ (by simp)) (Wr.bind (ih _ (List.mem_of_mem_take (List.getElem_mem hi))).1 (Wr.bind (put_ _ (by simp)) ?_))) (by simp);rw [w64_succ (by omega)];exact ihd (i+1) (by omega) (by omega)
     have:=loop m 0 rfl (Nat.zero_le _);rw [List.length_map,hm];exact this
   refine Wr.ite (fun _=>?_) fun _=>?_
   · exact (Wr.bind (put_ _ (by simp)) (Wr.pure (hkid 0) (Wr.last (kid 0))))
   refine Wr.ite (fun _=>?_) fun _=>?_
   · exact (Wr.bind (put_ _ (by simp)) (Wr.pure (hfrom 1) (Wr.bind (each 1 _ (by simp)) (Wr.bind (put_ _ (by simp)) (Wr.pure (hkid 0) (Wr.last (kid 0)))))))
   refine Wr.ite (fun _=>?_) fun _=>?_
   · exact (Wr.bind (put_ _ (by simp)) (Wr.pure (hfrom 1) (Wr.bind (each 1 _ (by simp)) (Wr.bind (put_ _ (by simp)) (Wr.pure (hkid 0) (Wr.bind (kid 0) (Wr.last (put_ _ (by simp)))))))))
   refine Wr.ite (fun _=>?_) fun _=>?_
   · exact (Wr.pure (hkid 1) (Wr.bind (kid 1) (Wr.bind (put_ _ (by simp)) (Wr.pure (hfrom 2) (Wr.bind (betw 2) (Wr.bind (put_ _ (by simp)) (Wr.pure (hkid 0) (Wr.bind (kid 0) (Wr.last (put_ _ (by simp)))))))))))
   exact Wr.last small
  refine ⟨?_,?_⟩
  · rw [nk_eq];exact node
  · rw [nk_eq]
    refine Wr.unf ?_;simp only [ps_wdef]
    show Wr _ (wD K nm x (l.map nk))
    unfold wD;refine Wr.ite (fun _=>?_) fun _=>?_
    · exact (Wr.bind (put_ _ (by simp)) (Wr.pure (hkid 0) (Wr.bind (kid 0) (Wr.last (put_ _ (by simp))))))
    refine Wr.ite (fun _=>?_) fun _=>?_
    · exact (Wr.bind (put_ _ (by simp)) (Wr.pure (hkid 0) (Wr.bind (kid 0) (Wr.last (put_ _ (by simp))))))
    exact Wr.bind node (Wr.last (put_ _ (by simp)))
end Go.Proofs.YtnhifhlbelogcaaDoor
