/- The scanners' plain functions: one step, a whole scan: both come to the same. -/
import Derived.Test.YtnhifhlbelogcaaGreatDoorYLexQ
set_option linter.unusedVariables false
namespace Go.Proofs.YtnhifhlbelogcaaGreatDoor
open Go Go.Eng
def signs:List UInt8:=[123,125,40,41,91,93,60,62,61,59,58,44,42]
def isSign (c:UInt8):Bool:=decide (c∈signs)
theorem indexByte_iff (l:List UInt8) (c:UInt8):0≤Lib.indexByte l c ↔ c∈l:=by
 induction l with
 | nil=>simp [Lib.indexByte]
 | cons b l ih =>
  have hg:=Lib.indexByte_ge l c;unfold Lib.indexByte;by_cases h:b=c
  · subst h;simp
  · have hbc:(b == c)=false:=by simpa using h
    rw [hbc];simp only [Bool.false_eq_true,if_false];have hc:¬ c=b:=fun e=>h e.symm
    rw [List.mem_cons,or_iff_right hc,← ih];by_cases q:Lib.indexByte l c = -1
    · simp [q]
    · have h2:(Lib.indexByte l c == -1)=false:=by simpa using q
      rw [h2];simp only [Bool.false_eq_true,if_false];omega
theorem gv_sign (k:Nat) (c:UInt8):∃ r,gv_IndexByte k signs (c.toNat:Int)=some r∧(0≤r ↔ isSign c=true):=by
 refine ⟨_,rfl,?_⟩;have:(c.toNat:Int).toNat.toUInt8=c:=by simp
 rw [this,indexByte_iff]
 simp [isSign]
theorem rf_sign_ (c:UInt8):Ev (fun k=>rf_sign k (c.toNat:Int)) (isSign c):=by
 have key:∀ (d j:Nat),13 - j=d→j≤13→Ev (fun k=>rf_sign.l1 k (c.toNat:Int) (j:Int)) (decide (c∈signs.drop j)):=by
  intro d
  induction d with
  | zero =>
   intro j hd hj;obtain rfl:j=13:=by omega
   refine Ev.step (g:=fun k=>rf_sign.l1 (k+1) (c.toNat:Int) ((13:Nat):Int)) ?_ (fun _=>rfl);simp only [rf_sign.l1];exact Ev.neg (by omega) Ev.ret
  | succ d ih =>
   intro j hd hj;have hlt:j < signs.length:=by show j < 13;omega
   refine Ev.step (g:=fun k=>rf_sign.l1 (k+1) (c.toNat:Int) (j:Int)) ?_ (fun _=>rfl);simp only [rf_sign.l1];refine Ev.pos (by omega) ?_;refine Ev.bindc (idx_at rfl hlt) ?_;have hdr:signs.drop j=signs[j]::signs.drop (j+1):=List.drop_eq_getElem_cons hlt;by_cases e:c=signs[j]
   · refine Ev.pos (by rw [e]) ?_
     exact Ev.ret.cast (by rw [hdr,decide_eq_true (by rw [← e];exact List.mem_cons_self)])
   · refine Ev.neg (fun h=>e (UInt8.toNat_inj.1 (by omega))) ?_
     rw [w64_succ (by omega)];exact (ih (j+1) (by omega) (by omega)).cast (by rw [hdr,Bool.eq_iff_iff,decide_eq_true_eq,decide_eq_true_eq,List.mem_cons,or_iff_right e])
 unfold rf_sign;exact key 13 0 rfl (by omega)
def ends:List UInt8:=[42,47]
theorem index_ge (s sub:List UInt8):-1≤Lib.index s sub:=Lib.index_ge s sub
theorem index_cons (c:UInt8) (l:List UInt8):Lib.index (c::l) ends=if (c::l).take 2=ends then 0 else if Lib.index l ends < 0 then -1 else Lib.index l ends+1:=by
 have hg:=index_ge l ends;rw [Lib.index];have e:(ends.isPrefixOf (c::l))=decide ((c::l).take 2=ends):=by
  rw [Bool.eq_iff_iff,decide_eq_true_eq,List.isPrefixOf_iff_prefix,List.prefix_iff_eq_take];exact ⟨fun h=>h.symm,fun h=>h.symm⟩
 rw [e];by_cases h:(c::l).take 2=ends
 · simp [h]
 · simp only [h,decide_false,Bool.false_eq_true,if_false]
   by_cases q:Lib.index l ends = -1
   · simp [q]
   · have h2:(Lib.index l ends == -1)=false:=by simpa using q
     rw [h2,if_neg (show ¬ Lib.index l ends < 0 by omega)];simp
theorem take2 (s:List UInt8) (j:Nat) (h:j+1 < s.length):(s.drop j).take 2=[s[j],s[j+1]]:=by
 rw [List.drop_eq_getElem_cons (by omega),List.drop_eq_getElem_cons (i:=j+1) (by omega)]
 rfl
theorem toNatN (c:UInt8) (n:Nat) (hn:n < 256):((c.toNat:Int)=(n:Int)) ↔ c=UInt8.ofNat n:=by
 constructor
 · intro h
   apply UInt8.toNat_inj.1
   rw [UInt8.toNat_ofNat_of_lt' hn]
   omega
 · rintro rfl
   rw [UInt8.toNat_ofNat_of_lt' hn]
theorem rf_comment_ (s:List UInt8) (hs:s.length≤16000) {j:Nat} (hj:j+2≤s.length) :
 Ev (fun k=>rf_comment k s (j:Int)) (if Lib.index (s.drop (j+2)) ends < 0 then 0 else ((j+4:Nat):Int)+Lib.index (s.drop (j+2)) ends):=by
 have key:∀ (d i:Nat),s.length - i=d→i≤s.length→Ev (fun k=>rf_comment.l1 k s (i:Int)) (if Lib.index (s.drop i) ends < 0 then 0 else ((i+2:Nat):Int)+Lib.index (s.drop i) ends):=by
  intro d
  induction d with
  | zero =>
   intro i hd hi;obtain rfl:i=s.length:=by omega
   refine Ev.step (g:=fun k=>rf_comment.l1 (k+1) s (s.length:Int)) ?_ (fun _=>rfl);simp only [rf_comment.l1];rw [w64_succ (by omega)];refine Ev.neg (by omega) ?_;rw [List.drop_length];exact Ev.ret
  | succ d ih =>
   intro i hd hi;have hlt:i < s.length:=by omega
   have hih:=ih (i+1) (by omega) hlt;have hdr:s.drop i=s[i]::s.drop (i+1):=List.drop_eq_getElem_cons hlt;have hg:=index_ge (s.drop (i+1)) ends;refine Ev.step (g:=fun k=>rf_comment.l1 (k+1) s (i:Int)) ?_ (fun _=>rfl);simp only [rf_comment.l1];rw [w64_succ (by omega)];by_cases C:i+1 < s.length
   · refine Ev.pos (by omega) ?_
     refine Ev.bindc (idx_at rfl hlt) ?_;have ht:=take2 s i C;have step:¬ (s.drop i).take 2=ends→(if Lib.index (s.drop (i+1)) ends < 0 then 0 else ((i+1+2:Nat):Int)+Lib.index (s.drop (i+1)) ends)=(if Lib.index (s.drop i) ends < 0 then 0 else ((i+2:Nat):Int)+Lib.index (s.drop i) ends):=by
      intro h;rw [hdr] at h ⊢;rw [index_cons,if_neg h];by_cases q:Lib.index (s.drop (i+1)) ends < 0
      · rw [if_pos q,if_pos q,if_pos (by omega)]
      · rw [if_neg q,if_neg q,if_neg (by omega)];omega
     by_cases c1:s[i]=42
     · refine Ev.pos ((toNatN _ 42 (by decide)).2 c1) ?_
       refine Ev.bindc (idx_at rfl C) ?_;by_cases c2:s[i+1]=47
       · refine Ev.pos ((toNatN _ 47 (by decide)).2 c2) ?_
         rw [w64_of (by omega) (by omega)];refine Ev.ret.cast ?_;rw [c1,c2] at ht;have ht':List.take 2 (List.drop i s)=ends:=ht;rw [hdr,index_cons,← hdr,if_pos ht',if_neg (by omega)]
         omega
       · refine Ev.neg (fun h=>c2 ((toNatN _ 47 (by decide)).1 h)) ?_
         exact hih.cast (step (by rw [ht];intro h;exact c2 (by injection h with _ h;injection h)))
     · refine Ev.neg (fun h=>c1 ((toNatN _ 42 (by decide)).1 h)) ?_
       exact hih.cast (step (by rw [ht];intro h;exact c1 (by injection h)))
   · refine Ev.neg (by omega) ?_
     have D:s.drop (i+1)=[]:=List.drop_eq_nil_of_le (by omega);refine Ev.ret.cast ?_;have E:Lib.index [] ends = -1:=rfl;rw [hdr,D,index_cons,if_neg (show ¬ List.take 2 [s[i]]=ends by simp [ends]),E]
     rfl
 unfold rf_comment;rw [show w64 ((j:Int)+2)=((j+2:Nat):Int) from by rw [w64_of (by omega) (by omega)];rfl];exact (key _ (j+2) rfl hj).cast (by split <;> omega)
inductive Nx where
 | bad (e:Int)
 | skip (n:Nat)
 | tok (t:Token) (n:Nat)
def tzk:Token:=⟨0,[],0,0⟩
def minusDigit (c:UInt8) (l:List UInt8):Bool:=decide (c=45) && (match l with | []=>false | d::_=>isDigit d)
def nextS (m:List UInt8):Nx:=match m with
 | []=>.bad 0
 | c::l =>
  if isBlank c then .skip 1
  else if (c::l).take 2=[47,42] then (if Lib.index ((c::l).drop 2) ends < 0 then .bad 33 else .skip ((Lib.index ((c::l).drop 2) ends).toNat+4))
  else if isLetter c then (if isWord ((c::l).take (runLen (c::l))) then .tok ⟨2,(c::l).take (runLen (c::l)),0,0⟩ (runLen (c::l)) else if 32 < runLen (c::l) then .bad 32 else .tok ⟨1,(c::l).take (runLen (c::l)),0,0⟩ (runLen (c::l)))
  else if isDigit c || minusDigit c l then (if (numS (decide (c=45)) (if c=45 then l.take (runLen l) else (c::l).take (1+runLen l))).2 then .tok ⟨3,[],(numS (decide (c=45)) (if c=45 then l.take (runLen l) else (c::l).take (1+runLen l))).1,0⟩ (1+runLen l) else .bad 31)
  else if isSign c then .tok ⟨4,[c],0,0⟩ 1
  else .bad 30
def Nx.out:Nx→Token×Int×Int
 | .bad e=>(tzk,0,e)
 | .skip n=>(tzk,(n:Int),0)
 | .tok t n=>(t,(n:Int),0)
theorem begins_ (c:UInt8) (l:List UInt8) (hs:(c::l).length≤16000) :
 Ev (fun k=>lx_begins k (c::l)) (if isBlank c then 1 else if (c::l).take 2=[47,42] then 2 else if isLetter c then 3 else if isDigit c || minusDigit c l then 4 else if isSign c then 5 else 0):=by
 have hsign:Ev (fun k=>(gv_IndexByte k signs (c.toNat:Int)).bind fun t=>if 0≤t then some (5:Int) else some 0) (if isSign c then 5 else 0):=by
  obtain ⟨r,D,h2⟩:=gv_sign 0 c;refine Ev.bind (r:=r) (Ev.all fun k=>D) ?_;by_cases h:isSign c=true
  · rw [if_pos h];exact Ev.pos (h2.2 h) Ev.ret
  · rw [if_neg h];exact Ev.neg (fun e=>h (h2.1 e)) Ev.ret
 unfold lx_begins;refine Ev.bindc (idx_at (j:=0) rfl (by simp)) ?_;refine Ev.bind (Ev.all fun k=>lx_isBlank_ k c) ?_;by_cases c1:isBlank c=true
 · rw [if_pos c1];exact Ev.pos c1 Ev.ret
 rw [if_neg c1];refine Ev.neg c1 ?_;refine Ev.bind (Ev.all fun k=>HasPrefix_ k _ _) ?_;by_cases c2:(c::l).take 2=[47,42]
 · rw [if_pos c2];exact Ev.pos (decide_eq_true c2) Ev.ret
 rw [if_neg c2];refine Ev.neg (by simpa using c2) ?_;refine Ev.bind (Ev.all fun k=>lx_letter_ k c) ?_;by_cases c3:isLetter c=true
 · rw [if_pos c3];exact Ev.pos c3 Ev.ret
 rw [if_neg c3];refine Ev.neg c3 ?_;refine Ev.bind (Ev.all fun k=>lx_digit_ k c) ?_;by_cases c4:isDigit c=true
 · rw [if_pos (by simp [c4])];exact Ev.pos c4 Ev.ret
 refine Ev.neg c4 ?_;simp only [Bool.not_eq_true] at c4;rw [c4,Bool.false_or];by_cases C:c=45
 · refine Ev.pos ((toNatN _ 45 (by decide)).2 C) ?_
   cases l with
   | nil =>
    refine Ev.neg (by simp) ?_;exact hsign.cast (by simp [minusDigit])
   | cons d l =>
    refine Ev.pos (by simp;omega) ?_;refine Ev.bindc (idx_at (j:=1) rfl (by simp)) ?_;refine Ev.bind (Ev.all fun k=>lx_digit_ k d) ?_;by_cases q:isDigit d=true
    · rw [if_pos (by simp [minusDigit,C,q])];exact Ev.pos q Ev.ret
    · refine Ev.neg q ?_
      exact hsign.cast (by simp only [Bool.not_eq_true] at q;simp [minusDigit,q])
 · refine Ev.neg (fun h=>C ((toNatN _ 45 (by decide)).1 h)) ?_
   exact hsign.cast (by simp [minusDigit,C])
theorem numbered_ (c:UInt8) (l:List UInt8) (hs:(c::l).length≤16000) (h:c=45∧l≠[]∨isDigit c=true) :
 Ev (fun k=>lx_numbered k (c::l)) (numS (decide (c=45)) (if c=45 then l else c::l)):=by
 have q:isDigit 45=false:=by decide
 unfold lx_numbered;by_cases c1:c=45
 · subst c1
   have hl:l≠[]:=by
    rcases h with h | h
    · exact h.2
    · rw [q] at h;cases h
   obtain ⟨d,m,rfl⟩:∃ d m,l=d::m:=by cases l with | nil=>exact absurd rfl hl | cons d m=>exact ⟨d,m,rfl⟩
   refine Ev.bind (r:=(d::m,true)) (Ev.all fun k=>by rw [CutPrefix_,if_pos (show List.take ([45]:List UInt8).length (45::d::m)=[45] from rfl)];rfl) ?_;rw [if_pos rfl,decide_eq_true rfl];refine Ev.bind (Ev.all fun k=>CutPrefix_ k _ _) ?_;refine Ev.pos rfl ?_
   show Ev (fun k=>Option.bind (lx_digits k (d::m) 10) _) _
   refine Ev.bind (lx_digits_ _ (.inr (.inl rfl)) (by simp at hs ⊢;omega)) ?_;have hdd:=digS_in (base:=10) (.inr (.inl rfl)) (d::m);rw [w64_of (n:=-(digS 10 (d::m)).1) (by omega) (by omega)];unfold numS;rw [if_pos rfl];by_cases c2:(digS 10 (d::m)).2=true
   · refine Ev.pos c2 ?_
     refine Ev.bindc (idx_at (j:=0) rfl (by simp)) ?_;by_cases c3:d=48
     · refine Ev.pos ((toNat48 _).2 c3) ?_
       exact Ev.ret.cast (by simp [c3])
     · refine Ev.neg (fun h=>c3 ((toNat48 _).1 h)) ?_
       refine Ev.ret.cast ?_;rw [c2]
       simp [c3]
   · refine Ev.neg c2 ?_
     exact Ev.ret.cast (by simp at c2;simp [c2])
 · have hdc:isDigit c=true:=by
    rcases h with h | h
    · exact absurd h.1 c1
    · exact h
   rw [if_neg c1,decide_eq_false c1];refine Ev.bind (r:=(c::l,false)) (Ev.all fun k=>by rw [CutPrefix_,if_neg (by simpa using c1)]) ?_;unfold numS;rw [if_neg (show ¬ false=true by simp)];by_cases c2:(c::l).take 2=[48,120]
   · refine Ev.bind (r:=((c::l).drop 2,true)) (Ev.all fun k=>by rw [CutPrefix_];exact congrArg some (if_pos c2)) ?_
     refine Ev.neg (show ¬ false=true by simp) ?_;refine Ev.pos rfl ?_;refine Ev.bind (lx_digits_ _ (.inr (.inr rfl)) (by simp only [List.length_drop];omega)) ?_;refine Ev.ret.cast ?_;have h2:2≤(c::l).length:=by have:=congrArg List.length c2;rw [List.length_take] at this;simp only [List.length_cons,List.length_nil] at this ⊢;omega
     rw [if_neg (by intro e;rw [e] at h2;simp at h2)];by_cases c3:2 < (c::l).length
     · rw [if_pos ⟨c3,c2⟩]
     · have hc:(c::l)=[48,120]:=by rw [← c2,List.take_of_length_le (by omega)]
       rw [hc]
       decide
   · refine Ev.bind (r:=(c::l,false)) (Ev.all fun k=>by rw [CutPrefix_];exact congrArg some (if_neg c2)) ?_
     refine Ev.neg (show ¬ false=true by simp) ?_;refine Ev.neg (by simp) ?_;refine Ev.bindc (idx_at (j:=0) rfl (by simp)) ?_;rw [show (if 2 < (c::l).length∧List.take 2 (c::l)=[48,120] then digS 16 (List.drop 2 (c::l)) else if (c::l).head? = some 48 then digS 8 (List.drop 1 (c::l)) else digS 10 (c::l))=(if (c::l).head? = some 48 then digS 8 (List.drop 1 (c::l)) else digS 10 (c::l)) from if_neg (fun h=>c2 h.2)];have hj:∀ b:Bool,(b=true→c=48∧1 < (c::l).length)→(b=false→c≠48∨(c::l).length=1) →
      Ev (fun k=>lx_numbered.j1 k (c::l,false) b) (if c::l=[48] then (0,true) else if (c::l).head? = some 48 then digS 8 ((c::l).drop 1) else digS 10 (c::l)):=by
      intro b C D;unfold lx_numbered.j1;cases b with
      | true =>
       obtain ⟨e1,E⟩:=C rfl;refine Ev.pos rfl ?_;refine Ev.bindc (cut_from (a:=1) rfl (by simp)) ?_;refine Ev.bind (lx_digits_ _ (.inl rfl) (by simp only [List.length_drop];omega)) ?_;refine Ev.ret.cast ?_;rw [if_neg (by intro e;rw [e] at E;simp at E),if_pos (by simp [e1])]
      | false =>
       refine Ev.neg (by simp) ?_;refine Ev.bind (lx_digits_ _ (.inr (.inl rfl)) (show (c::l).length≤68719476736 by omega)) ?_;refine Ev.ret.cast ?_;by_cases e:c=48
       · have J:l=[]:=by
          rcases D rfl with h | h
          · exact absurd e h
          · simpa using h
         subst e;subst J
         decide
       · rw [if_neg (by intro h;exact e (by injection h)),if_neg (by simpa using e)]
     by_cases c3:c=48
     · refine Ev.pos ((toNat48 _).2 c3) ?_
       by_cases c4:(1:Int) < ((c::l).length:Int)
       · rw [decide_eq_true c4]
         exact hj true (fun _=>⟨c3,by exact_mod_cast c4⟩) (fun h=>by cases h)
       · rw [decide_eq_false c4]
         exact hj false (fun h=>by cases h) (fun _=>.inr (by have O:¬ 1 < (c::l).length:=fun h=>c4 (by exact_mod_cast h);rw [List.length_cons] at O ⊢;omega))
     · refine Ev.neg (fun h=>c3 ((toNat48 _).1 h)) ?_
       exact hj false (fun h=>by cases h) (fun _=>.inl c3)
end Go.Proofs.YtnhifhlbelogcaaGreatDoor
