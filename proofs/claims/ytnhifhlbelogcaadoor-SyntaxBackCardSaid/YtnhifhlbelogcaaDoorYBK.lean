/- What the writer puts is scanned as it was meant, and is no longer than the source. -/
import Derived.Test.YtnhifhlbelogcaaDoorYUE
import Derived.Test.YtnhifhlbelogcaaDoorYBG
import Derived.Test.YtnhifhlbelogcaaDoorYBC
set_option linter.unusedVariables false
set_option linter.unusedSimpArgs false
namespace Go.Proofs.YtnhifhlbelogcaaDoor
open Go Go.Eng
theorem take2_ne {c:UInt8} (h:c≠47) (l:List UInt8):¬ (c::l).take 2=[47,42]:=fun e=>h (List.cons.inj e).1
theorem letter_not {c:UInt8} (h:isLetter c=true):c≠47∧¬ isBlank c=true∧inRun c=true:=by
 refine ⟨by rintro rfl;revert h;decide,fun hb=>?_,by simp [inRun,h]⟩
 simp [isLetter,isBlank] at h hb
 omega
theorem digit_not {c:UInt8} (h:isDigit c=true):c≠47∧¬ isBlank c=true∧¬ isLetter c=true:=by
 refine ⟨by rintro rfl;revert h;decide,fun hb=>?_,fun hb=>?_⟩
 · simp [isDigit,isBlank] at h hb;omega
 · simp [isDigit,isLetter] at h hb;omega
theorem num_not {c:UInt8} {l:List UInt8} (h:(isDigit c || minusDigit c l)=true):c≠47∧¬ isBlank c=true∧¬ isLetter c=true:=by
 by_cases hd:isDigit c=true
 · exact digit_not hd
 · simp only [Bool.not_eq_true] at hd
   rw [hd,Bool.false_or] at h;obtain rfl:=(runLen_minus h).1
   decide
def wordN (w:List UInt8):Nx:=if isWord w then .tok ⟨2,w,0,0⟩ w.length else if 32 < w.length then .bad 32 else .tok ⟨1,w,0,0⟩ w.length
def numN (c:UInt8) (p:List UInt8):Nx:=if (numS (decide (c=45)) (if c=45 then p else c::p)).2 then .tok ⟨3,[],(numS (decide (c=45)) (if c=45 then p else c::p)).1,0⟩ (1+p.length) else .bad 31
theorem nextS_word {c:UInt8} (p q:List UInt8) (h:isLetter c=true) (hr:runLen (p++q)=p.length):nextS (c::(p++q))=wordN (c::p):=by
 obtain ⟨C,D,E⟩:=letter_not h;rw [nextS_cons,if_neg D,if_neg (take2_ne C _),if_pos h];have e1:runLen (c::(p++q))=(c::p).length:=by rw [runLen_cons,if_pos E,hr];rfl
 have J:List.take (c::p).length (c::(p++q))=c::p:=by rw [← List.cons_append];exact List.take_left
 rw [e1,J];rfl
theorem nextS_num {c:UInt8} (p q:List UInt8) (h:(isDigit c || minusDigit c (p++q))=true) (hr:runLen (p++q)=p.length):nextS (c::(p++q))=numN c p:=by
 obtain ⟨C,D,E⟩:=num_not h;rw [nextS_cons,if_neg D,if_neg (take2_ne C _),if_neg E,if_pos h,hr];have e1:List.take p.length (p++q)=p:=List.take_left;have J:List.take (1+p.length) (c::(p++q))=c::p:=by rw [Nat.add_comm,List.take_succ_cons,e1]
 rw [e1,J];rfl
theorem all_run:∀ (p q:List UInt8),p.all inRun=true→runLen q=0→runLen (p++q)=p.length
 | [],q,_,h=>h
 | c::p,q,h,C=>by
  rw [List.all_cons,Bool.and_eq_true] at h;rw [List.cons_append,runLen_cons,if_pos h.1,all_run p q h.2 C];rfl
theorem sign_taken {c:UInt8} (q:isSign c=true) (r:List UInt8):nextS (c::r) = .tok ⟨4,[c],0,0⟩ 1:=by
 have hc:c∈signs:=of_decide_eq_true q;have:∀ x∈signs,isBlank x=false∧isLetter x=false∧isDigit x=false∧x≠47∧x≠45:=by decide
 obtain ⟨C,D,E,J,O⟩:=this c hc;rw [nextS_cons,if_neg (by simp [C]),if_neg (take2_ne J _),if_neg (by simp [D]),if_neg (by simp [E,minusDigit,O]),if_pos q]
theorem sign_run {c:UInt8} (q:isSign c=true):inRun c=false:=by
 have:∀ x∈signs,inRun x=false:=by decide
 exact this c (of_decide_eq_true q)
theorem run_rest:∀ l:List UInt8,runLen (l.drop (runLen l))=0
 | []=>rfl
 | c::l=>by
  rw [runLen_cons];by_cases h:inRun c=true
  · rw [if_pos h,List.drop_succ_cons];exact run_rest l
  · rw [if_neg h,List.drop_zero,runLen_cons,if_neg h]
theorem run_all:∀ l:List UInt8,(l.take (runLen l)).all inRun=true
 | []=>rfl
 | c::l=>by
  rw [runLen_cons];by_cases h:inRun c=true
  · rw [if_pos h,List.take_succ_cons,List.all_cons,h,run_all l];rfl
  · rw [if_neg h];rfl
theorem run_tlen (l:List UInt8):(l.take (runLen l)).length=runLen l:=by rw [List.length_take];have:=runLen_le l;omega
theorem ch_facts:∀ d:Fin 10,dval 10 (UInt8.ofNat (48+d.val))=(d.val:Int)∧isDigit (UInt8.ofNat (48+d.val))=true∧(UInt8.ofNat (48+d.val)=48→d.val=0):=by decide
theorem digs_append (b:Int):∀ (l m:List UInt8) (n:Int),digs b n (l++m)=(digs b n l).bind fun x=>digs b x m
 | [],m,n=>rfl
 | c::l,m,n=>by
  rw [List.cons_append,digs,digs]
  split
  · rfl
  · split
    · rfl
    · exact digs_append b l m _
theorem dec_facts (u:Nat):u≤4294967295→digs 10 0 (Lib.decDigits u)=some (u:Int)∧(Lib.decDigits u).all isDigit=true∧((Lib.decDigits u).head? = some 48→u=0):=by
 induction u using Nat.strongRecOn with
 | _ u ih =>
  intro hu;rw [Lib.decDigits];by_cases h:u < 10
  · rw [dif_pos h]
    obtain ⟨q,C,D⟩:=ch_facts ⟨u,h⟩;refine ⟨?_,?_,fun e=>?_⟩
    · show (if (10:Int)≤dval 10 (UInt8.ofNat (48+u)) then none else if 4294967295 < (0:Int) * 10+dval 10 (UInt8.ofNat (48+u)) then none else digs 10 ((0:Int) * 10+dval 10 (UInt8.ofNat (48+u))) [])=_
      rw [q,if_neg (by show ¬ (10:Int)≤(u:Int);omega),if_neg (by show ¬ (4294967295:Int) < 0 * 10+(u:Int);omega)]
      show some ((0:Int) * 10+(u:Int))=_
      rw [Int.zero_mul,Int.zero_add]
    · rw [List.all_cons,C];rfl
    · exact D (Option.some.inj e)
  · rw [dif_neg h]
    obtain ⟨E,J,O⟩:=ih (u / 10) (by omega) (by omega);obtain ⟨q,C,D⟩:=ch_facts ⟨u % 10,by omega⟩;refine ⟨?_,?_,fun e=>?_⟩
    · rw [digs_append,E,Option.bind_some]
      show (if (10:Int)≤dval 10 (UInt8.ofNat (48+u % 10)) then none else if 4294967295 < ((u / 10:Nat):Int) * 10+dval 10 (UInt8.ofNat (48+u % 10)) then none else digs 10 (((u / 10:Nat):Int) * 10+dval 10 (UInt8.ofNat (48+u % 10))) [])=_
      have hm:((u / 10:Nat):Int) * 10+((u % 10:Nat):Int)=(u:Int):=by omega
      rw [q,if_neg (by show ¬ (10:Int)≤((u % 10:Nat):Int);omega),if_neg (by show ¬ (4294967295:Int) < ((u / 10:Nat):Int) * 10+((u % 10:Nat):Int);omega)]
      show some (((u / 10:Nat):Int) * 10+((u % 10:Nat):Int))=_
      rw [hm]
    · rw [List.all_append,J,List.all_cons,C];rfl
    · have hne:=decDigits_ne (u / 10)
      have:=O (by
       cases hx:Lib.decDigits (u / 10) with
       | nil=>exact absurd hx hne
       | cons c p=>rw [hx] at e;exact e)
      omega
theorem dec_len:∀ (k u:Nat),u < 10 ^ k→1≤k→(Lib.decDigits u).length≤k
 | 0,u,_,h=>by omega
 | k+1,u,h,_=>by
  rw [Lib.decDigits];by_cases q:u < 10
  · rw [dif_pos q];simp
  · rw [dif_neg q,List.length_append,List.length_singleton]
    have:1≤k:=by
     rcases Nat.eq_zero_or_pos k with rfl | h
     · simp at h;omega
     · exact h
    have:=dec_len k (u / 10) (by rw [Nat.pow_succ] at h;omega) this
    omega
theorem digit_run {c:UInt8} (h:isDigit c=true):inRun c=true:=by simp [inRun,h]
theorem all_digit_run:∀ l:List UInt8,l.all isDigit=true→l.all inRun=true
 | [],_=>rfl
 | c::l,h=>by
  rw [List.all_cons,Bool.and_eq_true] at h;rw [List.all_cons,digit_run h.1,all_digit_run l h.2];rfl
theorem digs_lt (b:Int) (hb:0 < b):∀ (l:List UInt8) (n m:Int),0≤n→digs b n l=some m→(∀ c,0≤dval b c)→n≤m∧m < (n+1) * b ^ l.length
 | [],n,m,q,h,_=>by
  simp only [digs,Option.some.injEq] at h;subst h;rw [List.length_nil,Int.pow_zero,Int.mul_one]
  omega
 | c::l,n,m,q,h,hd=>by
  rw [digs] at h
  split at h
  · cases h
  · rename_i g
    split at h
    · cases h
    · have hc:=hd c
      have hnb:n≤n * b:=by
       have:=Int.mul_le_mul_of_nonneg_left (show (1:Int)≤b by omega) q
       omega
      obtain ⟨D,C⟩:=digs_lt b hb l _ m (by omega) h hd;refine ⟨by omega,Int.lt_of_lt_of_le C ?_⟩;rw [List.length_cons,Int.pow_succ,Int.mul_comm (b ^ l.length) b,← Int.mul_assoc];refine Int.mul_le_mul_of_nonneg_right ?_ (Int.le_of_lt (Int.pow_pos hb));rw [Int.add_mul]
      omega
theorem digS_len {b:Int} (hb:Base b) {l:List UInt8} (h:(digS b l).2=true):∃ n:Nat,(digS b l).1=(n:Int)∧digs b 0 l=some (n:Int)∧l≠[]∧n≤4294967295∧(n:Int) < b ^ l.length:=by
 unfold digS at h ⊢;cases hd:digs b 0 l with
 | none=>rw [hd] at h;cases h
 | some m =>
  rw [hd] at h;have hl:l≠[]:=by simpa using h
  obtain ⟨D,E⟩:=digs_in hb l 0 m (by omega) (by omega) hd;have q:0 < b:=by rcases hb with rfl | rfl | rfl <;> decide
  obtain ⟨_,C⟩:=digs_lt b q l 0 m (by omega) hd (dval_ge b (by omega));rw [show (0:Int)+1=1 by rfl,Int.one_mul] at C;have e:m=((m.toNat:Nat):Int):=by omega
  refine ⟨m.toNat,e,by rw [← e],hl,by omega,by rw [← e];exact C⟩
theorem itoa_nat (u:Nat):Lib.itoa (u:Int)=Lib.decDigits u:=by unfold Lib.itoa;rw [if_neg (by omega)];simp
theorem itoa_neg (u:Nat) (h:1≤u):Lib.itoa (-(u:Int))=45::Lib.decDigits u:=by unfold Lib.itoa;rw [if_pos (by omega)];simp
def Tok (t:Token):Prop :=
 (t.Kind=4∧t.Number=0∧∃ c,t.Text=[c]∧isSign c=true)∨(t.Kind=3∧t.Text=[]∧-2147483648≤t.Number∧t.Number≤4294967295) ∨
 (t.Number=0∧∃ c p,t.Text=c::p∧isLetter c=true∧p.all inRun=true∧(t.Kind=2∧isWord t.Text=true∨t.Kind=1∧isWord t.Text=false∧t.Text.length≤32))
def endsRun (o:List UInt8):Bool:=match o.getLast? with
 | some a=>inRun a
 | none=>false
theorem joins_iff (o x:List UInt8):joins o x=true ↔ endsRun o=true∧runLen x≠0:=by
 unfold joins endsRun;cases o.getLast? with
 | none=>simp
 | some a =>
  cases x with
  | nil=>simp [runLen]
  | cons c x =>
   rw [runLen_cons];by_cases h:inRun c=true
   · simp [h]
   · simp [h]
theorem ends_app (o x:List UInt8) (h:x≠[]):endsRun (o++x)=endsRun x:=by
 unfold endsRun;rw [List.getLast?_append,List.getLast?_eq_some_getLast h];rfl
theorem ends_put (o x:List UInt8) (h:x≠[]):endsRun (put1 o x)=endsRun x:=by
 unfold put1
 split
 · rw [show o++32::x=(o++[32])++x by simp,ends_app _ _ h]
 · exact ends_app _ _ h
theorem ends_all {l:List UInt8} (h:l≠[]) (ha:l.all inRun=true):endsRun l=true:=by
 unfold endsRun;rw [List.getLast?_eq_some_getLast h];exact List.all_eq_true.1 ha _ (List.getLast_mem h)
theorem sp_tok {t:Token} (h:Tok t):sp t≠[]∧(t.Kind≠4→endsRun (sp t)=true)∧(t.Kind=4→endsRun (sp t)=false)∧∀ q,(t.Kind=4∨runLen q=0)→nextS (sp t++q) = .tok ⟨t.Kind,t.Text,t.Number,0⟩ (sp t).length:=by
 rcases h with ⟨O,V,c,E,J⟩|⟨O,V,E,J⟩|⟨V,c,p,E,J,ad,Y⟩
 · have e:sp t=[c]:=by unfold sp;rw [if_neg (by omega),E]
   rw [e];refine ⟨by simp,fun h=>absurd O h,fun _=>sign_run J,fun q _=>?_⟩;rw [List.singleton_append,sign_taken J,O,V,E];rfl
 · have e:sp t=Lib.itoa t.Number:=by unfold sp;rw [if_pos O]
   rw [e,O,V];have hk:(3:Int)≠4:=by decide
   by_cases hn:0≤t.Number
   · obtain ⟨u,hu⟩:∃ u:Nat,t.Number=(u:Int):=⟨t.Number.toNat,by omega⟩
     rw [hu,itoa_nat];obtain ⟨D,C,X⟩:=dec_facts u (by omega);have hne:=decDigits_ne u;refine ⟨hne,fun _=>ends_all hne (all_digit_run _ C),fun h=>absurd h hk,fun q hq=>?_⟩;have hq:=hq.resolve_left hk;cases hx:Lib.decDigits u with
     | nil=>exact absurd hx hne
     | cons c p =>
      rw [hx] at D C X;rw [List.all_cons,Bool.and_eq_true] at C;have aa:c≠45:=by rintro rfl;exact absurd C.1 (by decide)
      rw [List.cons_append,nextS_num p q (by rw [C.1];rfl) (all_run p q (all_digit_run _ C.2) hq)];have hv:numS (decide (c=45)) (if c=45 then p else c::p)=((u:Int),true):=by
       rw [if_neg aa,decide_eq_false aa];have hd:digS 10 (c::p)=((u:Int),true):=by unfold digS;rw [D];rfl
       have ae:c=48→u=0:=fun e=>X (by rw [e];rfl)
       have hz:c=48→p=[]:=fun e=>by
        have:=ae e;subst this;have:Lib.decDigits 0=[48]:=by rw [Lib.decDigits];rfl
        rw [this] at hx;exact (List.cons.inj hx).2.symm
       unfold numS;rw [if_neg (by simp)];by_cases hc:c=48
       · have:=hz hc
         subst this hc;rw [if_pos rfl,ae rfl];rfl
       · rw [if_neg (fun e=>hc (List.cons.inj e).1),if_neg (fun e=>hc (by have:=e.2;cases p <;> simp at this;exact this.1)),if_neg (show ¬ (c::p).head? = some 48 from fun e=>hc (Option.some.inj e)),hd]
      unfold numN;rw [hv,if_pos rfl,List.length_cons,Nat.add_comm]
   · obtain ⟨u,hu⟩:∃ u:Nat,t.Number = -(u:Int):=⟨t.Number.natAbs,by omega⟩
     have ag:1≤u:=by omega
     rw [hu,itoa_neg u ag];obtain ⟨D,C,X⟩:=dec_facts u (by omega);have hne:=decDigits_ne u;refine ⟨by simp,fun _=>?_,fun h=>absurd h hk,fun q hq=>?_⟩
     · rw [show 45::Lib.decDigits u=[45]++Lib.decDigits u from rfl,ends_app _ _ hne]
       exact ends_all hne (all_digit_run _ C)
     have hq:=hq.resolve_left hk;rw [List.cons_append,nextS_num _ q ?_ (all_run _ q (all_digit_run _ C) hq)]
     · have hv:numS (decide ((45:UInt8)=45)) (if (45:UInt8)=45 then Lib.decDigits u else 45::Lib.decDigits u)=(-(u:Int),true):=by
        rw [if_pos rfl,decide_eq_true rfl];have hd:digS 10 (Lib.decDigits u)=((u:Int),true):=by unfold digS;rw [D];show ((u:Int),!decide (Lib.decDigits u=[]))=_;rw [decide_eq_false hne];rfl
        unfold numS;rw [if_pos rfl,hd]
        show (-(u:Int),(true && !decide ((Lib.decDigits u).head? = some 48) && decide ((u:Int)≤2147483648)))=_
        rw [decide_eq_false (fun e=>by have:=X e;omega),decide_eq_true (show (u:Int)≤2147483648 by omega)];rfl
       unfold numN;rw [hv,if_pos rfl,List.length_cons,Nat.add_comm]
     · cases hx:Lib.decDigits u with
       | nil=>exact absurd hx hne
       | cons c p =>
        rw [hx,List.all_cons,Bool.and_eq_true] at C
        show (isDigit 45 || (decide ((45:UInt8)=45) && isDigit c))=true
        rw [C.1];rfl
 · have af:t.Kind≠3:=by rcases Y with h | h <;> omega
   have ab:t.Kind≠4:=by rcases Y with h | h <;> omega
   have e:sp t=c::p:=by unfold sp;rw [if_neg af,E]
   have hall:(c::p).all inRun=true:=by rw [List.all_cons,(letter_not J).2.2,ad];rfl
   rw [e];refine ⟨by simp,fun _=>ends_all (by simp) hall,fun h=>absurd h ab,fun q hq=>?_⟩;rw [List.cons_append,nextS_word p q J (all_run p q ad (hq.resolve_left ab)),V,E];unfold wordN;rw [E] at Y;rcases Y with ⟨D,C⟩|⟨D,C,X⟩
   · rw [if_pos C,D]
   · rw [if_neg (by simp [C]),if_neg (by omega),D]
theorem tok_of {c:UInt8} {l:List UInt8} {t:Token} {k:Nat} (h:nextS (c::l) = .tok t k):Tok t∧(sp t).length≤k∧(t.Kind≠4→runLen ((c::l).drop k)=0)∧(runLen (sp t)≠0→inRun c=true):=by
 rw [nextS_cons] at h;by_cases c1:isBlank c=true
 · rw [if_pos c1] at h;cases h
 rw [if_neg c1] at h;by_cases c2:(c::l).take 2=[47,42]
 · rw [if_pos c2] at h
   split at h <;> cases h
 rw [if_neg c2] at h;by_cases c3:isLetter c=true
 · rw [if_pos c3] at h
   have hin:=(letter_not c3).2.2;have e1:runLen (c::l)=runLen l+1:=by rw [runLen_cons,if_pos hin]
   rw [e1,List.take_succ_cons] at h;have hlen:(c::l.take (runLen l)).length=runLen l+1:=by rw [List.length_cons,run_tlen]
   by_cases w:isWord (c::l.take (runLen l))=true
   · rw [if_pos w] at h
     obtain ⟨rfl,rfl⟩:=Nx.tok.inj h;exact ⟨.inr (.inr ⟨rfl,c,_,rfl,c3,run_all l,.inl ⟨rfl,w⟩⟩),Nat.le_of_eq hlen,fun _=>run_rest l,fun _=>hin⟩
   · rw [if_neg w] at h
     by_cases ab:32 < runLen l+1
     · rw [if_pos ab] at h;cases h
     · rw [if_neg ab] at h
       obtain ⟨rfl,rfl⟩:=Nx.tok.inj h;exact ⟨.inr (.inr ⟨rfl,c,_,rfl,c3,run_all l,.inr ⟨rfl,by simpa using w,by rw [hlen];omega⟩⟩),Nat.le_of_eq hlen,fun _=>run_rest l,fun _=>hin⟩
 rw [if_neg c3] at h;by_cases c4:(isDigit c || minusDigit c l)=true
 · rw [if_pos c4] at h
   by_cases C:(numS (decide (c=45)) (if c=45 then l.take (runLen l) else (c::l).take (1+runLen l))).2=true
   · rw [if_pos C] at h
     obtain ⟨rfl,rfl⟩:=Nx.tok.inj h;have hrest:runLen ((c::l).drop (1+runLen l))=0:=by rw [Nat.add_comm,List.drop_succ_cons];exact run_rest l
     have hsp:∀ v:Int,sp (⟨3,[],v,0⟩:Token)=Lib.itoa v:=fun v=>rfl
     by_cases O:c=45
     · subst O
       rw [if_pos rfl,decide_eq_true rfl] at C ⊢;unfold numS at C ⊢;rw [if_pos rfl] at C ⊢;rw [Bool.and_eq_true,Bool.and_eq_true] at C;obtain ⟨⟨ag,V⟩,X⟩:=C;obtain ⟨n,e1,D,E,J,e5⟩:=digS_len (.inr (.inl rfl)) ag;have X:=of_decide_eq_true X
       show Tok ⟨3,[],-(digS 10 (l.take (runLen l))).1,0⟩∧(sp ⟨3,[],-(digS 10 (l.take (runLen l))).1,0⟩).length≤_∧_∧(runLen (sp ⟨3,[],-(digS 10 (l.take (runLen l))).1,0⟩)≠0→_)
       rw [hsp,e1];rw [e1] at X;have hlt:n < 10 ^ (runLen l):=by rw [run_tlen] at e5;exact_mod_cast e5
       have n1:1≤n:=by
        cases hx:l.take (runLen l) with
        | nil=>exact absurd hx E
        | cons d p =>
         rw [hx] at V D;have Y:d≠48:=by
          intro e;rw [e] at V;simp at V
         rw [digs] at D
         split at D
         · cases D
         · rename_i g
           split at D
           · cases D
           · obtain ⟨q,_⟩:=digs_lt 10 (by decide) p _ _ (by have:=dval_ge 10 (by decide) d;omega) D (dval_ge 10 (by decide))
             have:1≤dval 10 d:=by
              unfold dval at g ⊢;by_cases aa:isDigit d=true
              · rw [if_pos aa]
                have ai:=(isDigit_iff d).1 aa;have:d.toNat≠48:=fun e=>Y (UInt8.toNat_inj.1 e)
                omega
              · rw [if_neg aa] at g ⊢
                split
                · omega
                · split <;> omega
             omega
       have hpos:1≤runLen l:=by
        have:=List.length_pos_iff.2 E;rw [run_tlen] at this;exact this
       rw [itoa_neg n n1];refine ⟨.inr (.inl ⟨rfl,rfl,by show -2147483648≤-(n:Int);omega,by show -(n:Int)≤4294967295;omega⟩),?_,fun _=>hrest,fun h=>absurd (show runLen (45::Lib.decDigits n)=0 by rw [runLen_cons,if_neg (by decide)]) h⟩;have:=dec_len _ n hlt hpos;rw [List.length_cons];omega
     · have hdig:isDigit c=true:=by
        by_cases hd:isDigit c=true
        · exact hd
        · exfalso
          simp only [Bool.not_eq_true] at hd;rw [hd,Bool.false_or] at c4;exact O (runLen_minus c4).1
       rw [if_neg O,decide_eq_false O] at C ⊢;generalize hs:(c::l).take (1+runLen l)=s at C ⊢;have hsl:s.length=1+runLen l:=by rw [← hs,Nat.add_comm,List.take_succ_cons,List.length_cons,run_tlen]
       suffices hn:∃ n:Nat,(numS false s).1=(n:Int)∧n≤4294967295∧(Lib.decDigits n).length≤s.length by
        obtain ⟨n,e1,D,E⟩:=hn
        show Tok ⟨3,[],(numS false s).1,0⟩∧(sp ⟨3,[],(numS false s).1,0⟩).length≤_∧_∧_
        rw [hsp,e1,itoa_nat];exact ⟨.inr (.inl ⟨rfl,rfl,by show -2147483648≤(n:Int);omega,by show (n:Int)≤4294967295;omega⟩),by omega,fun _=>hrest,fun _=>digit_run hdig⟩
       unfold numS at C ⊢;rw [if_neg (by simp)] at C ⊢;have ad:∀ n:Nat,n≤4294967295→(Lib.decDigits n).length≤10:=fun n hn=>dec_len 10 n (by omega) (by omega)
       by_cases ae:s=[48]
       · rw [if_pos ae]
         exact ⟨0,rfl,by omega,by rw [hsl];have:=dec_len 1 0 (by omega) (by omega);omega⟩
       rw [if_neg ae] at C ⊢;by_cases b2:2 < s.length∧s.take 2=[48,120]
       · rw [if_pos b2] at C ⊢
         obtain ⟨n,e1,D,E,J,e5⟩:=digS_len (.inr (.inr rfl)) C;refine ⟨n,e1,J,?_⟩;rw [List.length_drop] at e5;obtain ⟨b2,_⟩:=b2;by_cases ah:10≤s.length
         · have:=ad n J;omega
         · have hj:∃ j:Nat,s.length=j+2∧j < 8:=⟨s.length - 2,by omega,by omega⟩
           obtain ⟨j,hj,af⟩:=hj;rw [hj] at e5 ⊢;rw [show j+2 - 2=j by omega] at e5;have e5:n < 16 ^ j:=by exact_mod_cast e5
           refine dec_len (j+2) n (Nat.lt_of_lt_of_le e5 ?_) (by omega);have:∀ j:Fin 8,16 ^ j.val≤10 ^ (j.val+2):=by decide
           exact this ⟨j,af⟩
       rw [if_neg b2] at C ⊢;by_cases b3:s.head? = some 48
       · rw [if_pos b3] at C ⊢
         obtain ⟨n,e1,D,E,J,e5⟩:=digS_len (.inl rfl) C;refine ⟨n,e1,J,?_⟩;have e5:n < 8 ^ (s.drop 1).length:=by exact_mod_cast e5
         have hp:1≤(s.drop 1).length:=List.length_pos_iff.2 E;have:=dec_len (s.drop 1).length n (Nat.lt_of_lt_of_le e5 (Nat.pow_le_pow_left (by omega) _)) hp;rw [List.length_drop] at this
         omega
       rw [if_neg b3] at C ⊢;obtain ⟨n,e1,D,E,J,e5⟩:=digS_len (.inr (.inl rfl)) C;refine ⟨n,e1,J,dec_len _ n (by exact_mod_cast e5) (List.length_pos_iff.2 E)⟩
   · rw [if_neg C] at h;cases h
 rw [if_neg c4] at h;by_cases C:isSign c=true
 · rw [if_pos C] at h
   obtain ⟨rfl,rfl⟩:=Nx.tok.inj h;refine ⟨.inl ⟨rfl,rfl,c,rfl,C⟩,Nat.le_refl _,fun h=>absurd rfl h,fun h=>?_⟩;have:sp (⟨4,[c],0,0⟩:Token)=[c]:=rfl;rw [this,runLen_cons] at h;by_cases hi:inRun c=true
   · exact hi
   · rw [if_neg hi] at h;exact absurd rfl h
 · rw [if_neg C] at h;cases h
variable {s:List UInt8}
theorem Run.toks {a b:Nat} {W:List Token} (h:Run s a b W):∀ t∈W,Tok t:=by
 induction h with
 | refl=>intro t h;exact nomatch h
 | skip ha hn _ ih=>exact ih
 | @tok a b c t W ha hn hr ih =>
  intro u hu;rcases List.mem_cons.1 hu with rfl | hu
  · rw [drop_cons ha] at hn
    exact (tok_of hn).1
  · exact ih u hu
theorem Run.len {a b:Nat} {W:List Token} (h:Run s a b W):∀ o,(putL o (W.map sp)).length≤o.length+(b - a)+(if endsRun o=true∧runLen (s.drop a)≠0 then 1 else 0):=by
 induction h with
 | refl=>intro o;show o.length≤_;omega
 | @skip a b c W ha hn hr ih =>
  intro o;obtain ⟨E,J⟩:=skip_ok ha hn;have hle:=hr.le;refine Nat.le_trans (ih o) ?_;have:∀ (p q:Prop) [Decidable p] [Decidable q],(if p then 1 else 0:Nat)≤1+(if q then 1 else 0):=fun p q _ _=>by split <;> omega
  have:=this (endsRun o=true∧runLen (s.drop (a+c))≠0) (endsRun o=true∧runLen (s.drop a)≠0)
  omega
 | @tok a b c t W ha hn hr ih =>
  intro o;obtain ⟨E,J⟩:=tok_ok ha hn;have hle:=hr.le;have hd:=drop_cons ha;rw [hd] at hn;obtain ⟨O,k2,C,V⟩:=tok_of hn;obtain ⟨X,aa,Y,ab⟩:=sp_tok O;rw [← hd,List.drop_drop] at C;have hi:=ih (put1 o (sp t));rw [if_neg (fun hh=>by
   by_cases D:t.Kind=4
   · rw [ends_put _ _ X,Y D] at hh;exact absurd hh.1 (by simp)
   · exact hh.2 (C D))] at hi
  show (putL (put1 o (sp t)) (W.map sp)).length≤_
  have hp:(put1 o (sp t)).length≤o.length+(sp t).length+(if endsRun o=true∧runLen (s.drop a)≠0 then 1 else 0):=by
   unfold put1;by_cases hj:joins o (sp t)=true
   · rw [if_pos hj]
     obtain ⟨j1,j2⟩:=(joins_iff _ _).1 hj;rw [if_pos ⟨j1,by rw [hd,runLen_cons,if_pos (V j2)];omega⟩,List.length_append,List.length_cons];omega
   · rw [if_neg hj,List.length_append];omega
  omega
theorem drop_lt {s c r:List UInt8} {a:Nat} (h:s.drop a=c++r) (hc:c≠[]):a < s.length:=by
 have:=congrArg List.length h;rw [List.length_drop,List.length_append] at this;have:=List.length_pos_iff.2 hc
 omega
theorem drop_more {s c r:List UInt8} {a:Nat} (h:s.drop a=c++r):s.drop (a+c.length)=r:=by rw [← List.drop_drop,h,List.drop_left]
theorem glue_run:∀ (L:List Token) (o:List UInt8),(∀ t∈L,Tok t)→∃ x,putL o (L.map sp)=o++x∧(endsRun o=true→∀ q,runLen q=0→runLen (x++q)=0) ∧
 ∀ (f q:List UInt8) (a:Nat),f.drop a=x++q→runLen q=0→∃ W,Run f a (a+x.length) W∧W.map erK=L.map erK
 | [],o,_=>⟨[],(List.append_nil o).symm,fun _ q h=>h,fun f q a _ _=>⟨[],.refl,rfl⟩⟩
 | t::L,o,h=>by
  obtain ⟨x,e1,J,O⟩:=glue_run L (put1 o (sp t)) fun u hu=>h u (List.mem_cons_of_mem _ hu)
  obtain ⟨C,V,Y,X⟩:=sp_tok (h t List.mem_cons_self);have step:∀ (f q:List UInt8) (a:Nat),f.drop a=sp t++(x++q)→runLen q=0→∃ W,Run f a (a+(sp t++x).length) W∧W.map erK=(t::L).map erK:=fun f q a hf hq=>by
   have hk:t.Kind=4∨runLen (x++q)=0:=by
    by_cases D:t.Kind=4
    · exact .inl D
    · exact .inr (J (by rw [ends_put _ _ C];exact V D) q hq)
   obtain ⟨W,hW,hw⟩:=O f q (a+(sp t).length) (drop_more hf) hq;refine ⟨_,.tok (drop_lt hf C) (by rw [hf];exact X _ hk) (by rw [List.length_append,← Nat.add_assoc];exact hW),?_⟩;rw [List.map_cons,List.map_cons,hw];rfl
  show ∃ y,putL (put1 o (sp t)) (L.map sp)=o++y∧_
  by_cases hj:joins o (sp t)=true
  · refine ⟨32::(sp t++x),?_,fun _ q _=>by rw [List.cons_append,runLen_cons,if_neg (by decide)],fun f q a hf hq=>?_⟩
    · rw [e1];unfold put1;rw [if_pos hj];simp
    · have hf':f.drop a=[32]++(sp t++(x++q)):=by rw [hf];simp
      obtain ⟨W,hW,hw⟩:=step f q (a+1) (drop_more hf') hq;refine ⟨W,.skip (drop_lt hf' (by simp)) (by rw [hf',List.singleton_append,nextS_cons,if_pos (by decide)]) ?_,hw⟩;rw [List.length_cons,Nat.add_comm (sp t++x).length 1,← Nat.add_assoc];exact hW
  · refine ⟨sp t++x,?_,fun ho q hq=>?_,fun f q a hf hq=>step f q a (by rw [hf,List.append_assoc]) hq⟩
    · rw [e1];unfold put1;rw [if_neg hj];simp
    · have E:runLen (sp t)=0:=by
       by_cases h:runLen (sp t)=0
       · exact h
       · exact absurd ((joins_iff _ _).2 ⟨ho,h⟩) hj
      cases hx:sp t with
      | nil=>exact absurd hx C
      | cons c r =>
       rw [hx,runLen_cons] at E;rw [List.cons_append,List.cons_append,runLen_cons];by_cases hc:inRun c=true
       · rw [if_pos hc] at E;omega
       · rw [if_neg hc]
theorem scan_all {f:List UInt8} (hf:f.length≤16000) {W:List Token} (h:Run f 0 f.length W):scanS f=(W++[⟨5,[],0,(f.length:Int)⟩],0,0):=by
 have:=scan_take hf h (Nat.le_refl _)
 rwa [List.take_length] at this
theorem glue_scan {s:List UInt8} {W:List Token} (h:Run s 0 s.length W):(putL [] (W.map sp)).length≤s.length∧∃ V,Run (putL [] (W.map sp)) 0 (putL [] (W.map sp)).length V∧V.map erK=W.map erK:=by
 refine ⟨by have:=h.len [];rw [if_neg (by simp [endsRun])] at this;simpa using this,?_⟩;obtain ⟨x,e1,_,q⟩:=glue_run W [] h.toks;rw [List.nil_append] at e1;obtain ⟨V,hV,hv⟩:=q x [] 0 (by simp) rfl;rw [Nat.zero_add] at hV;exact ⟨V,by rw [e1];exact hV,hv⟩
end Go.Proofs.YtnhifhlbelogcaaDoor
