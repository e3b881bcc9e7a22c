/- The scanners' plain functions: a step, and a whole scan. -/
import Derived.Test.YtnhifhlbelogcaaGreatDoorYLexR
set_option linter.unusedVariables false
namespace Go.Proofs.YtnhifhlbelogcaaGreatDoor
open Go Go.Eng
theorem runLen_minus {c:UInt8} {l:List UInt8} (h:minusDigit c l=true):c=45∧l.take (runLen l)≠[]:=by
 unfold minusDigit at h;rw [Bool.and_eq_true,decide_eq_true_eq] at h;refine ⟨h.1,?_⟩;cases l with
 | nil=>cases h.2
 | cons d l =>
  have hd:isDigit d=true:=h.2;have hr:inRun d=true:=by simp [inRun,hd]
  rw [runLen_cons,if_pos hr]
  simp
theorem nextS_cons (c:UInt8) (l:List UInt8):nextS (c::l) =
 if isBlank c then .skip 1
 else if (c::l).take 2=[47,42] then (if Lib.index ((c::l).drop 2) ends < 0 then .bad 33 else .skip ((Lib.index ((c::l).drop 2) ends).toNat+4))
 else if isLetter c then (if isWord ((c::l).take (runLen (c::l))) then .tok ⟨2,(c::l).take (runLen (c::l)),0,0⟩ (runLen (c::l)) else if 32 < runLen (c::l) then .bad 32 else .tok ⟨1,(c::l).take (runLen (c::l)),0,0⟩ (runLen (c::l)))
 else if isDigit c || minusDigit c l then (if (numS (decide (c=45)) (if c=45 then l.take (runLen l) else (c::l).take (1+runLen l))).2 then .tok ⟨3,[],(numS (decide (c=45)) (if c=45 then l.take (runLen l) else (c::l).take (1+runLen l))).1,0⟩ (1+runLen l) else .bad 31)
 else if isSign c then .tok ⟨4,[c],0,0⟩ 1
 else .bad 30:=rfl
theorem index_in (l:List UInt8):¬ Lib.index l ends < 0→Lib.index l ends+2≤(l.length:Int):=by
 induction l with
 | nil=>intro h;exact absurd (show Lib.index [] ends < 0 by decide) h
 | cons c l ih =>
  rw [index_cons];intro h;by_cases q:(c::l).take 2=ends
  · rw [if_pos q] at h ⊢
    have:=congrArg List.length q;rw [List.length_take] at this;have e:ends.length=2:=rfl
    omega
  · rw [if_neg q] at h ⊢
    by_cases h2:Lib.index l ends < 0
    · rw [if_pos h2] at h;omega
    · rw [if_neg h2] at h ⊢
      have:=ih h2;rw [List.length_cons];omega
theorem lx_next_ (m:List UInt8) (C:m≠[]) (hs:m.length≤16000):Ev (fun k=>lx_next k m) (nextS m).out:=by
 obtain ⟨c,l,rfl⟩:∃ c l,m=c::l:=by cases m with | nil=>exact absurd rfl C | cons c l=>exact ⟨c,l,rfl⟩
 have hb:=begins_ c l hs;have hl:l.length≤15999:=by rw [List.length_cons] at hs;omega
 have hrl:=runLen_le l;unfold lx_next;refine Ev.bind hb ?_;rw [nextS_cons];by_cases c1:isBlank c=true
 · rw [if_pos c1,if_pos c1]
   exact Ev.pos rfl Ev.ret
 rw [if_neg c1,if_neg c1];by_cases c2:(c::l).take 2=[47,42]
 · have h2:2≤(c::l).length:=by have:=congrArg List.length c2;rw [List.length_take] at this;simp only [List.length_cons,List.length_nil] at this ⊢;omega
   rw [if_pos c2,if_pos c2];refine Ev.neg (by omega) (Ev.pos rfl ?_);refine Ev.bindc (cut_from (a:=2) rfl h2) ?_;refine Ev.bind (r:=Lib.index ((c::l).drop 2) ends) (Ev.all fun k=>if_pos (by rw [List.length_drop];omega)) ?_;have hlt:=index_in ((c::l).drop 2);rw [List.length_drop] at hlt;have hge:=index_ge ((c::l).drop 2) ends;by_cases c3:Lib.index ((c::l).drop 2) ends < 0
   · refine Ev.pos c3 (Ev.ret.cast ?_)
     rw [if_pos c3];rfl
   · refine Ev.neg c3 ?_
     rw [w64_of (show -9223372036854775808≤Lib.index (List.drop 2 (c::l)) ends+4 by omega) (show Lib.index (List.drop 2 (c::l)) ends+4≤9223372036854775807 by have:=hlt c3;omega)];refine Ev.ret.cast ?_;rw [if_neg c3];unfold Nx.out;have:(Lib.index (List.drop 2 (c::l)) ends)+4=(((Lib.index (List.drop 2 (c::l)) ends).toNat+4:Nat):Int):=by omega
     exact congrArg (fun z=>(tzk,z,(0:Int))) this
 rw [if_neg c2,if_neg c2];by_cases c3:isLetter c=true
 · rw [if_pos c3,if_pos c3]
   refine Ev.neg (by omega) (Ev.neg (by omega) (Ev.pos rfl ?_));have hr:=runLen_le (c::l);refine Ev.bind (lx_run_ _ (big_max (by omega))) ?_;refine Ev.bindc (cut_to (b:=runLen (c::l)) rfl hr) ?_;have hlen:(List.take (runLen (c::l)) (c::l)).length=runLen (c::l):=by rw [List.length_take];omega
   refine Ev.bind (lx_IsWord_ _) ?_;by_cases c4:isWord (List.take (runLen (c::l)) (c::l))=true
   · rw [if_pos c4]
     refine Ev.pos c4 ?_;refine Ev.ret.cast ?_;unfold Nx.out;rw [hlen]
   · rw [if_neg c4]
     refine Ev.neg c4 ?_;rw [hlen];by_cases q:32 < runLen (c::l)
     · rw [if_pos q]
       exact Ev.pos (by omega) Ev.ret
     · rw [if_neg q]
       refine Ev.neg (by omega) ?_;refine Ev.ret.cast ?_;unfold Nx.out;rw [hlen]
 rw [if_neg c3,if_neg c3];by_cases c4:(isDigit c || minusDigit c l)=true
 · rw [if_pos c4,if_pos c4]
   refine Ev.neg (by omega) (Ev.neg (by omega) (Ev.neg (by omega) (Ev.pos rfl ?_)));refine Ev.bindc (cut_from (a:=1) rfl (by simp)) ?_;rw [show List.drop 1 (c::l)=l from rfl];refine Ev.bind (lx_run_ l (big_max (by omega))) ?_;have e1:w64 (1+(runLen l:Int))=((1+runLen l:Nat):Int):=by rw [w64_of (by omega) (by omega)];omega
   rw [e1];refine Ev.bindc (cut_to (b:=1+runLen l) rfl (by rw [List.length_cons];omega)) ?_;have D:List.take (1+runLen l) (c::l)=c::l.take (runLen l):=by rw [Nat.add_comm];rfl
   rw [D];have hcond:c=45∧l.take (runLen l)≠[]∨isDigit c=true:=by
    by_cases hd:isDigit c=true
    · exact .inr hd
    · simp only [Bool.not_eq_true] at hd
      rw [hd,Bool.false_or] at c4;exact .inl (runLen_minus c4)
   refine Ev.bind (numbered_ c (l.take (runLen l)) (by rw [List.length_cons,List.length_take];omega) hcond) ?_;by_cases q:(numS (decide (c=45)) (if c=45 then l.take (runLen l) else c::l.take (runLen l))).2=true
   · refine Ev.pos q (Ev.ret.cast ?_)
     rw [if_pos q];rfl
   · refine Ev.neg q (Ev.ret.cast ?_)
     rw [if_neg q];rfl
 rw [if_neg c4,if_neg c4];by_cases q:isSign c=true
 · rw [if_pos q,if_pos q]
   refine Ev.neg (by omega) (Ev.neg (by omega) (Ev.neg (by omega) (Ev.neg (by omega) (Ev.pos rfl ?_))));refine Ev.bindc (cut_to (b:=1) rfl (by simp)) ?_;exact Ev.ret
 · rw [if_neg q,if_neg q]
   exact Ev.neg (by omega) (Ev.neg (by omega) (Ev.neg (by omega) (Ev.neg (by omega) (Ev.neg (by omega) Ev.ret))))
def Nx.out2 (x:Nx) (a:Nat):Token×Int×Int:=match x with
 | .bad e=>(tzk,0,e)
 | .skip n=>(tzk,0,0)
 | .tok t n=>(⟨t.Kind,t.Text,t.Number,(a:Int)⟩,((a+n:Nat):Int),0)
theorem rf_one_j3 (s:List UInt8) (hs:s.length≤16000) {a:Nat} (c:UInt8) (l:List UInt8) (hd:s.drop a=c::l) (ha:a < s.length) {x:Int} {y:Nat} (hx:x=(y:Int)) (hy:y=if c=45 then a+1 else a) (b:Bool) (hb:b=(isDigit c || minusDigit c l)) :
 Ev (fun k=>rf_one.j3 k s (a:Int) c x b) (Nx.out2 (if isDigit c || minusDigit c l then (if (numS (decide (c=45)) (if c=45 then l.take (runLen l) else (c::l).take (1+runLen l))).2 then .tok ⟨3,[],(numS (decide (c=45)) (if c=45 then l.take (runLen l) else (c::l).take (1+runLen l))).1,0⟩ (1+runLen l) else .bad 31)
 else if isSign c then .tok ⟨4,[c],0,0⟩ 1
 else .bad 30) a):=by
 have hdl:s.drop (a+1)=l:=by rw [← List.drop_drop,hd];rfl
 have hll:l.length=s.length - (a+1):=by rw [← hdl,List.length_drop]
 have hrl:=runLen_le l;have hdec:decide ((c.toNat:Int)=45)=decide (c=45):=by
  by_cases h:c=45
  · subst h;rfl
  · rw [decide_eq_false h,decide_eq_false (show ¬ (c.toNat:Int)=45 from fun e=>h ((toNatN _ 45 (by decide)).1 e))]
 subst hx;unfold rf_one.j3;rw [← hb];cases b with
 | true =>
  rw [if_pos rfl];refine Ev.pos rfl ?_;have hyl:y≤s.length:=by rw [hy];split <;> omega
  refine Ev.bind (rf_run_ s (big_max (by omega)) hyl) ?_;have hr:runLen (s.drop y)≤s.length - y:=by have:=runLen_le (s.drop y);rw [List.length_drop] at this;exact this
  refine Ev.bindc (cut_at (a:=y) (b:=y+runLen (s.drop y)) rfl rfl (by omega) (by omega)) ?_;have C:y+runLen (s.drop y)=a+(1+runLen l)∧(List.take (y+runLen (s.drop y)) s).drop y=(if c=45 then l.take (runLen l) else (c::l).take (1+runLen l))∧(if c=45 then l.take (runLen l) else (c::l).take (1+runLen l))≠[]:=by
   have E:(List.take (y+runLen (s.drop y)) s).drop y=(s.drop y).take (runLen (s.drop y)):=by rw [List.drop_take,Nat.add_sub_cancel_left]
   rw [E];by_cases h:c=45
   · rw [if_pos h] at hy ⊢
     subst hy;rw [hdl];refine ⟨by omega,rfl,?_⟩;have D:isDigit c=false:=by rw [h];decide
     rw [D,Bool.false_or] at hb;exact (runLen_minus hb.symm).2
   · rw [if_neg h] at hy ⊢
     subst hy;rw [hd];have hdg:isDigit c=true:=by
      by_cases hd':isDigit c=true
      · exact hd'
      · simp only [Bool.not_eq_true] at hd'
        rw [hd',Bool.false_or] at hb;exact absurd (runLen_minus hb.symm).1 h
     have hr:inRun c=true:=by simp [inRun,hdg]
     rw [runLen_cons,if_pos hr];refine ⟨by omega,by rw [Nat.add_comm],by rw [Nat.add_comm];simp⟩
  rw [C.2.1,C.1,hdec];refine Ev.bind (rf_number_ _ _ C.2.2 ?_) ?_
  · refine big_max ?_
    rw [← C.2.1,List.length_drop,List.length_take];omega
  · by_cases q:(numS (decide (c=45)) (if c=45 then l.take (runLen l) else (c::l).take (1+runLen l))).2=true
    · refine Ev.pos q (Ev.ret.cast ?_)
      rw [if_pos q];rfl
    · refine Ev.neg q (Ev.ret.cast ?_)
      rw [if_neg q];rfl
 | false =>
  rw [if_neg (by simp)];refine Ev.neg (by simp) ?_;refine Ev.bind (rf_sign_ c) ?_;by_cases q:isSign c=true
  · refine Ev.pos q ?_
    rw [w64_succ (by omega)];refine Ev.bindc (cut_at (a:=a) (b:=a+1) rfl rfl (by omega) (by omega)) ?_;refine Ev.ret.cast ?_;rw [if_pos q];have:(List.take (a+1) s).drop a=[c]:=by rw [List.drop_take,hd];simp
    rw [this];rfl
  · refine Ev.neg q (Ev.ret.cast ?_)
    rw [if_neg q];rfl
theorem rf_one_ (s:List UInt8) (hs:s.length≤16000) {a:Nat} (ha:a < s.length) (c:UInt8) (l:List UInt8) (hd:s.drop a=c::l) (hb:¬ isBlank c=true) (h2:¬ (c::l).take 2=[47,42]) :
 Ev (fun k=>rf_one k s (a:Int)) ((nextS (s.drop a)).out2 a):=by
 have hsa:s[a]=c:=by have:=List.drop_eq_getElem_cons ha;rw [hd] at this;injection this with h _;exact h.symm
 have hdl:s.drop (a+1)=l:=by rw [← List.drop_drop,hd];rfl
 have hll:l.length=s.length - (a+1):=by rw [← hdl,List.length_drop]
 have hrl:=runLen_le (c::l);have hcl:(c::l).length=s.length - a:=by rw [← hd,List.length_drop]
 rw [hd];unfold rf_one;rw [nextS_cons];rw [if_neg hb,if_neg h2];refine Ev.bindc (idx_at rfl ha) ?_;rw [hsa];refine Ev.bind (Ev.all fun k=>rf_letter_ k c) ?_;by_cases c3:isLetter c=true
 · rw [if_pos c3]
   refine Ev.pos c3 ?_;refine Ev.bind (rf_run_ s (big_max (by omega)) (Nat.le_of_lt ha)) ?_;rw [hd];refine Ev.bindc (cut_at (a:=a) (b:=a+runLen (c::l)) rfl rfl (by omega) (by omega)) ?_;have E:(List.take (a+runLen (c::l)) s).drop a=(c::l).take (runLen (c::l)):=by rw [List.drop_take,Nat.add_sub_cancel_left,hd]
   rw [E];have hlen:(List.take (runLen (c::l)) (c::l)).length=runLen (c::l):=by rw [List.length_take];omega
   refine Ev.bind (rf_IsWord_ _ (by rw [hlen];omega)) ?_;unfold rf_one.j1;rw [hlen];by_cases c4:isWord (List.take (runLen (c::l)) (c::l))=true
   · have:=word_len c4
     rw [hlen] at this;refine Ev.pos c4 (Ev.neg (by omega) (Ev.ret.cast ?_));rw [if_pos c4];rfl
   · refine Ev.neg c4 ?_
     by_cases q:32 < runLen (c::l)
     · refine Ev.pos (by omega) (Ev.ret.cast ?_)
       rw [if_neg c4,if_pos q];rfl
     · refine Ev.neg (by omega) (Ev.ret.cast ?_)
       rw [if_neg c4,if_neg q];rfl
 rw [if_neg c3];refine Ev.neg c3 ?_;by_cases q:c=45
 · refine Ev.pos ((toNatN _ 45 (by decide)).2 q) ?_
   rw [w64_succ (by omega)];unfold rf_one.j2;have C:isDigit c=false:=by rw [q];decide
   cases l with
   | nil =>
    refine Ev.neg (by simp at hll;omega) ?_;exact rf_one_j3 s hs c [] hd ha rfl (by rw [if_pos q]) false (by rw [C];simp [minusDigit])
   | cons d l' =>
    have D:a+1 < s.length:=by simp at hll;omega
    refine Ev.pos (by omega) ?_;refine Ev.bindc (idx_at rfl D) ?_;have:s[a+1]=d:=by have:=List.drop_eq_getElem_cons D;rw [hdl] at this;injection this with h _;exact h.symm
    rw [this];refine Ev.bind (Ev.all fun k=>rf_digit_ k d) ?_;exact rf_one_j3 s hs c (d::l') hd ha rfl (by rw [if_pos q]) _ (by rw [C];simp [minusDigit,q])
 · refine Ev.neg (fun h=>q ((toNatN _ 45 (by decide)).1 h)) ?_
   unfold rf_one.j2;refine Ev.pos (by omega) ?_;refine Ev.bindc (idx_at rfl ha) ?_;rw [hsa];refine Ev.bind (Ev.all fun k=>rf_digit_ k c) ?_;exact rf_one_j3 s hs c l hd ha rfl (by rw [if_neg q]) _ (by simp [minusDigit,q])
end Go.Proofs.YtnhifhlbelogcaaGreatDoor
