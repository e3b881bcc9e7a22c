/- The scanners' plain functions: what each comes to. Letters, runs, digits, words. -/
import Derived.Test.YtnhifhlbelogcaaDoorYLB
set_option linter.unusedVariables false
namespace Go.Proofs.YtnhifhlbelogcaaDoor
open Go Go.Eng
def isLetter (c:UInt8):Bool:=(decide (97≤c.toNat) && decide (c.toNat≤122)) || (decide (65≤c.toNat) && decide (c.toNat≤90))
def isDigit (c:UInt8):Bool:=decide (48≤c.toNat) && decide (c.toNat≤57)
def inRun (c:UInt8):Bool:=isLetter c || isDigit c || decide (c.toNat=95)
def isBlank (c:UInt8):Bool:=decide (c.toNat=32) || decide (c.toNat=9) || decide (c.toNat=10) || decide (c.toNat=13)
theorem lx_letter_ (k:Nat) (c:UInt8):lx_letter k (c.toNat:Int)=some (isLetter c):=by
 unfold lx_letter isLetter
 (repeat' split) <;> (congr 1;rw [Bool.eq_iff_iff];simp;omega)
theorem lx_digit_ (k:Nat) (c:UInt8):lx_digit k (c.toNat:Int)=some (isDigit c):=by
 unfold lx_digit isDigit
 (repeat' split) <;> (congr 1;rw [Bool.eq_iff_iff];simp;omega)
theorem lx_isBlank_ (k:Nat) (c:UInt8):lx_isBlank k (c.toNat:Int)=some (isBlank c):=by
 unfold lx_isBlank isBlank
 (repeat' split) <;> (congr 1;rw [Bool.eq_iff_iff];simp;omega)
theorem nat95 (c:UInt8):decide ((c.toNat:Int)=95)=decide (c.toNat=95):=by
 rw [Bool.eq_iff_iff];simp;omega
theorem lx_inRun_ (k:Nat) (c:UInt8):lx_inRun k (c.toNat:Int)=some (inRun c):=by
 unfold lx_inRun inRun;simp only [lx_letter_,lx_digit_,Option.bind_some,nat95];cases isLetter c <;> cases isDigit c <;> rfl
def runLen (s:List UInt8):Nat:=(s.takeWhile inRun).length
theorem runLen_le (s:List UInt8):runLen s≤s.length:=(List.takeWhile_prefix (p:=inRun) (l:=s)).length_le
theorem runLen_cons (c:UInt8) (s:List UInt8):runLen (c::s)=if inRun c then runLen s+1 else 0:=by
 unfold runLen;rw [List.takeWhile_cons];split <;> simp
theorem drop_cons {s:List UInt8} {j:Nat} (h:j < s.length):s.drop j=s[j]::s.drop (j+1):=List.drop_eq_getElem_cons h
theorem lx_run_l (s:List UInt8) (hs:s.length≤maxLen):∀ (d j:Nat),s.length - j=d→j≤s.length→Ev (fun k=>lx_run.l1 k s (j:Int)) ((j+runLen (s.drop j):Nat):Int):=by
 intro d
 induction d with
 | zero =>
  intro j hd hj;obtain rfl:j=s.length:=by omega
  refine Ev.step (g:=fun k=>lx_run.l1 (k+1) s (s.length:Int)) ?_ (fun _=>rfl);simp only [lx_run.l1];refine Ev.neg (by omega) ?_;rw [List.drop_length];exact Ev.ret
 | succ d ih =>
  intro j hd hj;have hlt:j < s.length:=by omega
  refine Ev.step (g:=fun k=>lx_run.l1 (k+1) s (j:Int)) ?_ (fun _=>rfl);simp only [lx_run.l1];refine Ev.pos (by omega) ?_;refine Ev.bindc (idx_at rfl hlt) ?_;refine Ev.bind (Ev.all fun k=>lx_inRun_ k _) ?_;rw [drop_cons hlt,runLen_cons];cases h:inRun s[j]
  · refine Ev.neg (by simp) ?_
    exact Ev.ret
  · refine Ev.pos rfl ?_
    rw [w64_succ (by simp only [maxLen] at hs;omega)];exact (ih (j+1) (by omega) hlt).cast (by simp only [if_true];omega)
theorem lx_run_ (s:List UInt8) (hs:s.length≤maxLen):Ev (fun k=>lx_run k s) (runLen s:Int):=by
 unfold lx_run;exact (lx_run_l s hs s.length 0 rfl (Nat.zero_le _)).cast (by simp)
def dval (base:Int) (c:UInt8):Int:=if isDigit c then (c.toNat:Int) - 48 else if 97≤c.toNat∧c.toNat≤102 then (c.toNat:Int) - 87 else if 65≤c.toNat∧c.toNat≤70 then (c.toNat:Int) - 55 else base
def digs (base:Int):Int→List UInt8→Option Int
 | n,[]=>some n
 | n,c::l=>if base≤dval base c then none else if 4294967295 < n * base+dval base c then none else digs base (n * base+dval base c) l
def digS (base:Int) (s:List UInt8):Int×Bool:=match digs base 0 s with
 | some n=>(n,!decide (s=[]))
 | none=>(0,false)
theorem isDigit_iff (c:UInt8):isDigit c=true ↔ 48≤c.toNat∧c.toNat≤57:=by simp [isDigit]
theorem u8sub (c:UInt8) (m:Int) (q:m≤c.toNat) (C:0≤m):IntKind.u8.wrap ((c.toNat:Int) - m)=(c.toNat:Int) - m:=IntWalk.u8_in _ (by have:=u8_lt c;omega)
theorem dval_ge (base:Int) (hb:0≤base) (c:UInt8):0≤dval base c:=by
 unfold dval
 split
 · rename_i h;have:=(isDigit_iff c).1 h;omega
 · split
   · omega
   · split <;> omega
theorem dval_le (base:Int) (hb:base≤16) (c:UInt8):dval base c≤16:=by
 unfold dval
 split
 · rename_i h;have:=(isDigit_iff c).1 h;omega
 · split
   · omega
   · split <;> omega
def Base (b:Int):Prop:=b=8∨b=10∨b=16
theorem dig_in {base n:Int} (hb:Base base) (q:0≤n) (C:n≤4294967295) (c:UInt8):w64 (w64 (n * base)+dval base c)=n * base+dval base c∧0≤n * base+dval base c:=by
 have D:=dval_ge base (by rcases hb with rfl | rfl | rfl <;> omega) c;have E:=dval_le base (by rcases hb with rfl | rfl | rfl <;> omega) c;rcases hb with rfl | rfl | rfl
 all_goals
  rw [w64_of (n:=n * _) (by omega) (by omega)];exact ⟨w64_of (by omega) (by omega),by omega⟩
theorem lx_digits_j (s:List UInt8) {base:Int} (hb:Base base) (n:Int) (q:0≤n) (C:n≤4294967295) (j:Nat) (hj:j < s.length) (hs:s.length≤maxLen)
 (ih:∀ n',0≤n'→n'≤4294967295→Ev (fun k=>lx_digits.l1 k s base n' ((j+1:Nat):Int)) (match digs base n' (s.drop (j+1)) with | some n=>(n,!decide (s=[])) | none=>(0,false))) :
 Ev (fun k=>lx_digits.j1 k s base n (j:Int) (dval base s[j])) (match digs base n (s.drop j) with | some n=>(n,!decide (s=[])) | none=>(0,false)):=by
 refine Ev.step (g:=fun k=>lx_digits.j1 (k+1) s base n (j:Int) (dval base s[j])) ?_ (fun _=>rfl);simp only [lx_digits.j1];obtain ⟨e1,D⟩:=dig_in hb q C s[j];rw [drop_cons hj,digs,e1];by_cases c1:base≤dval base s[j]
 · rw [if_pos c1]
   exact Ev.pos c1 Ev.ret
 · rw [if_neg c1]
   refine Ev.neg c1 ?_;by_cases c2:4294967295 < n * base+dval base s[j]
   · rw [if_pos c2]
     exact Ev.pos c2 Ev.ret
   · rw [if_neg c2]
     refine Ev.neg c2 ?_;rw [w64_succ (by simp only [maxLen] at hs;omega)];exact ih _ D (by omega)
theorem lx_digits_l (s:List UInt8) {base:Int} (hb:Base base) (hs:s.length≤maxLen):∀ (d j:Nat) (n:Int),s.length - j=d→j≤s.length→0≤n→n≤4294967295 →
 Ev (fun k=>lx_digits.l1 k s base n (j:Int)) (match digs base n (s.drop j) with | some n=>(n,!decide (s=[])) | none=>(0,false)):=by
 intro d
 induction d with
 | zero =>
  intro j n hd hj _ _;obtain rfl:j=s.length:=by omega
  refine Ev.step (g:=fun k=>lx_digits.l1 (k+1) s base n (s.length:Int)) ?_ (fun _=>rfl);simp only [lx_digits.l1];refine Ev.neg (by omega) ?_;rw [List.drop_length,digs];exact Ev.ret
 | succ d ih =>
  intro j n hd hj C D;have hlt:j < s.length:=by omega
  have hJ:=lx_digits_j s hb n C D j hlt hs (fun n' a b=>ih (j+1) n' (by omega) hlt a b);refine Ev.step (g:=fun k=>lx_digits.l1 (k+1) s base n (j:Int)) ?_ (fun _=>rfl);simp only [lx_digits.l1];refine Ev.pos (by omega) ?_;refine Ev.bindc (idx_at rfl hlt) ?_;refine Ev.bind (Ev.all fun k=>lx_digit_ k _) ?_;have hu:=u8_lt s[j];by_cases c1:isDigit s[j]=true
  · refine Ev.pos c1 ?_
    have hc:=(isDigit_iff s[j]).1 c1;rw [show w64 (IntKind.u8.wrap ((s[j].toNat:Int) - 48))=dval base s[j] from by rw [u8sub _ _ (by omega) (by omega),w64_of (by omega) (by omega),dval,if_pos c1]];exact hJ
  · refine Ev.neg c1 ?_
    have q:∀ b:Bool,(b=true ↔ 97≤s[j].toNat∧s[j].toNat≤102)→Ev (fun k=>lx_digits.j2 k s base n (j:Int) s[j] b) (match digs base n (s.drop j) with | some n=>(n,!decide (s=[])) | none=>(0,false)):=by
     intro b hbb;refine Ev.step (g:=fun k=>lx_digits.j2 (k+1) s base n (j:Int) s[j] b) ?_ (fun _=>rfl);simp only [lx_digits.j2];by_cases c2:b=true
     · refine Ev.pos c2 ?_
       have hc:=hbb.1 c2;rw [show w64 (w64 (IntKind.u8.wrap ((s[j].toNat:Int) - 97))+10)=dval base s[j] from by
        rw [u8sub _ _ (by omega) (by omega),w64_of (n:=(s[j].toNat:Int) - 97) (by omega) (by omega),w64_of (by omega) (by omega),dval,if_neg c1,if_pos hc];omega]
       exact hJ
     · refine Ev.neg c2 ?_
       have hc:¬ (97≤s[j].toNat∧s[j].toNat≤102):=fun h=>c2 (hbb.2 h)
       by_cases c3:(65:Int)≤(s[j].toNat:Int)
       · refine Ev.pos c3 ?_
         by_cases c4:(s[j].toNat:Int)≤70
         · refine Ev.pos c4 ?_
           rw [show w64 (w64 (IntKind.u8.wrap ((s[j].toNat:Int) - 65))+10)=dval base s[j] from by
            rw [u8sub _ _ (by omega) (by omega),w64_of (n:=(s[j].toNat:Int) - 65) (by omega) (by omega),w64_of (by omega) (by omega),dval,if_neg c1,if_neg hc,if_pos ⟨by omega,by omega⟩];omega]
           exact hJ
         · refine Ev.neg c4 ?_
           have hd:dval base s[j]=base:=by rw [dval,if_neg c1,if_neg hc,if_neg (by omega)]
           have:=hJ;rw [hd] at this;exact this
       · refine Ev.neg c3 ?_
         have hd:dval base s[j]=base:=by rw [dval,if_neg c1,if_neg hc,if_neg (by omega)]
         have:=hJ;rw [hd] at this;exact this
    by_cases c2:(97:Int)≤(s[j].toNat:Int)
    · refine Ev.pos c2 ?_
      exact q _ (by simp;omega)
    · refine Ev.neg c2 ?_
      exact q false (by simp;omega)
theorem lx_digits_ (s:List UInt8) {base:Int} (hb:Base base) (hs:s.length≤68719476736):Ev (fun k=>lx_digits k s base) (digS base s):=by
 unfold lx_digits;refine Ev.pos hs ?_;exact (lx_digits_l s hb (by simp only [maxLen];omega) s.length 0 0 rfl (Nat.zero_le _) (by omega) (by omega)).cast (by simp [digS])
def numS (minus:Bool) (s:List UInt8):Int×Bool :=
 if minus then ((-(digS 10 s).1),(digS 10 s).2 && !decide (s.head? = some 48) && decide ((digS 10 s).1≤2147483648))
 else if s=[48] then (0,true)
 else if 2 < s.length∧s.take 2=[48,120] then digS 16 (s.drop 2)
 else if s.head? = some 48 then digS 8 (s.drop 1)
 else digS 10 s
theorem digs_in {base:Int} (hb:Base base):∀ (s:List UInt8) (n m:Int),0≤n→n≤4294967295→digs base n s=some m→0≤m∧m≤4294967295
 | [],n,m,q,C,h=>by simp only [digs,Option.some.injEq] at h;omega
 | c::s,n,m,q,C,h=>by
  rw [digs] at h
  split at h
  · cases h
  · split at h
    · cases h
    · exact digs_in hb s _ m (dig_in hb q C c).2 (by omega) h
theorem digS_in {base:Int} (hb:Base base) (s:List UInt8):0≤(digS base s).1∧(digS base s).1≤4294967295:=by
 unfold digS
 split
 · rename_i n h;exact digs_in hb s 0 n (by omega) (by omega) h
 · decide
theorem toNat48 (c:UInt8):((c.toNat:Int)=48) ↔ c=48:=by
 constructor
 · intro h;apply UInt8.toNat_inj.1;show c.toNat=48;omega
 · rintro rfl;rfl
theorem HasPrefix_ (k:Nat) (s p:List UInt8):HasPrefix k s p=some (decide (s.take p.length=p)):=by
 unfold HasPrefix st_HasPrefix;by_cases h:(p.length:Int)≤(s.length:Int)
 · rw [if_pos h,cut_to rfl (by omega)];rfl
 · rw [if_neg h]
   simp only [Option.bind_some]
   congr 1
   rw [Bool.eq_iff_iff];simp only [Bool.false_eq_true,decide_eq_true_eq,false_iff];intro e;have:=congrArg List.length e;rw [List.length_take] at this
   omega
theorem CutPrefix_ (k:Nat) (s p:List UInt8):CutPrefix k s p=some (if s.take p.length=p then (s.drop p.length,true) else (s,false)):=by
 unfold CutPrefix st_CutPrefix;have q:st_HasPrefix k s p=some (decide (s.take p.length=p)):=by
  have:=HasPrefix_ k s p;unfold HasPrefix at this;cases h:st_HasPrefix k s p with
  | none=>rw [h] at this;cases this
  | some b=>rw [h] at this;exact this
 rw [q];simp only [Option.bind_some,decide_eq_true_eq];by_cases h:s.take p.length=p
 · have hl:p.length≤s.length:=by have:=congrArg List.length h;rw [List.length_take] at this;omega
   rw [if_pos h,if_pos h,cut_from rfl hl];rfl
 · rw [if_neg h,if_neg h];rfl
end Go.Proofs.YtnhifhlbelogcaaDoor
set_option linter.unusedVariables false
namespace Go.Proofs.YtnhifhlbelogcaaDoor
open Go Go.Eng
def allWords:List UInt8:=[98,111,111,108,32,99,97,115,101,32,99,111,110,115,116,32,100,101,102,97,117,108,116,32,100,111,117,98,108,101,32,101,110,117,109,32,102,108,111,97,116,32,104,121,112,101,114,32,105,110,116,32,111,112,97,113,117,101,32,112,114,111,103,114,97,109,32,113,117,97,100,114,117,112,108,101,32,115,116,114,105,110,103,32,115,116,114,117,99,116,32,115,119,105,116,99,104,32,116,121,112,101,100,101,102,32,117,110,105,111,110,32,117,110,115,105,103,110,101,100,32,118,101,114,115,105,111,110,32,118,111,105,100]
def wordsL:List (List UInt8):=Lib.fields allWords
def isWord (s:List UInt8):Bool:=decide (s∈wordsL)
theorem gv_Fields_ (k:Nat):gv_Fields k allWords=some wordsL:=by
 unfold gv_Fields;rw [if_pos ⟨by decide +kernel,by decide +kernel⟩]
 rfl
theorem slContains_ (L:List (List UInt8)) (s:List UInt8) (hL:L.length≤1000000):Ev (fun k=>slContains k L s) (decide (s∈L)):=by
 have key:∀ (d j:Nat),L.length - j=d→j≤L.length→∃ r,Ev (fun k=>slIndex.l1 k L s (j:Int)) r∧(0≤r ↔ s∈L.drop j):=by
  intro d
  induction d with
  | zero =>
   intro j hd hj;obtain rfl:j=L.length:=by omega
   refine ⟨-1,Ev.step (g:=fun k=>slIndex.l1 (k+1) L s (L.length:Int)) ?_ (fun _=>rfl),by simp⟩;simp only [slIndex.l1];exact Ev.neg (by omega) Ev.ret
  | succ d ih =>
   intro j hd hj;have hlt:j < L.length:=by omega
   obtain ⟨r,hr,hi⟩:=ih (j+1) (by omega) hlt;have hdr:L.drop j=L[j]::L.drop (j+1):=List.drop_eq_getElem_cons hlt;by_cases e:s=L[j]
   · refine ⟨j,Ev.step (g:=fun k=>slIndex.l1 (k+1) L s (j:Int)) ?_ (fun _=>rfl),?_⟩
     · simp only [slIndex.l1]
       refine Ev.pos (by omega) ?_;refine Ev.bindc (idx_at rfl hlt) ?_;exact Ev.pos e Ev.ret
     · exact ⟨fun _=>by rw [hdr,e];exact List.mem_cons_self,fun _=>by omega⟩
   · refine ⟨r,Ev.step (g:=fun k=>slIndex.l1 (k+1) L s (j:Int)) ?_ (fun _=>rfl),?_⟩
     · simp only [slIndex.l1]
       refine Ev.pos (by omega) ?_;refine Ev.bindc (idx_at rfl hlt) ?_;refine Ev.neg e ?_;rw [w64_succ (by omega)];exact hr
     · rw [hdr,List.mem_cons,hi];exact ⟨.inr,fun h=>h.resolve_left e⟩
 obtain ⟨r,hr,hi⟩:=key L.length 0 rfl (Nat.zero_le _);unfold slContains slIndex;refine Ev.bind hr ?_;exact Ev.ret.cast (by rw [Bool.eq_iff_iff];simp [hi])
theorem lx_IsWord_ (s:List UInt8):Ev (fun k=>lx_IsWord k s) (isWord s):=by
 unfold lx_IsWord;refine Ev.bind (Ev.all fun k=>gv_Fields_ k) ?_;exact Ev.bind (slContains_ wordsL s (by decide +kernel)) Ev.ret
theorem big_max {n:Nat} (h:n≤140737488355328):n≤maxLen:=by simp only [maxLen];omega
end Go.Proofs.YtnhifhlbelogcaaDoor
set_option linter.unusedVariables false
namespace Go.Proofs.YtnhifhlbelogcaaDoor
open Go Go.Eng
def signs:List UInt8:=[123,125,40,41,91,93,60,62,61,59,58,44,42]
def isSign (c:UInt8):Bool:=decide (c∈signs)
theorem indexByte_iff (l:List UInt8) (c:UInt8):0≤Lib.indexByte l c ↔ c∈l:=by
 induction l with
 | nil=>simp [Lib.indexByte]
 | cons b l ih =>
  have hg:=Lib.indexByte_ge l c;unfold Lib.indexByte;by_cases h:b=c
  · subst h;simp
  · have hbc:(b == c)=false:=by simpa using h
    rw [hbc];simp only [Bool.false_eq_true,if_false];have hc:¬ c=b:=fun e=>h e.symm
    rw [List.mem_cons,or_iff_right hc,← ih];by_cases q:Lib.indexByte l c = -1
    · simp [q]
    · have C:(Lib.indexByte l c == -1)=false:=by simpa using q
      rw [C];simp only [Bool.false_eq_true,if_false];omega
theorem gv_sign (k:Nat) (c:UInt8):∃ r,gv_IndexByte k signs (c.toNat:Int)=some r∧(0≤r ↔ isSign c=true):=by
 refine ⟨_,rfl,?_⟩;have:(c.toNat:Int).toNat.toUInt8=c:=by simp
 rw [this,indexByte_iff]
 simp [isSign]
def ends:List UInt8:=[42,47]
theorem index_ge (s sub:List UInt8):-1≤Lib.index s sub:=Lib.index_ge s sub
theorem index_cons (c:UInt8) (l:List UInt8):Lib.index (c::l) ends=if (c::l).take 2=ends then 0 else if Lib.index l ends < 0 then -1 else Lib.index l ends+1:=by
 have hg:=index_ge l ends;rw [Lib.index];have e:(ends.isPrefixOf (c::l))=decide ((c::l).take 2=ends):=by
  rw [Bool.eq_iff_iff,decide_eq_true_eq,List.isPrefixOf_iff_prefix,List.prefix_iff_eq_take];exact ⟨fun h=>h.symm,fun h=>h.symm⟩
 rw [e];by_cases h:(c::l).take 2=ends
 · simp [h]
 · simp only [h,decide_false,Bool.false_eq_true,if_false]
   by_cases q:Lib.index l ends = -1
   · simp [q]
   · have C:(Lib.index l ends == -1)=false:=by simpa using q
     rw [C,if_neg (show ¬ Lib.index l ends < 0 by omega)];simp
theorem toNatN (c:UInt8) (n:Nat) (hn:n < 256):((c.toNat:Int)=(n:Int)) ↔ c=UInt8.ofNat n:=by
 constructor
 · intro h
   apply UInt8.toNat_inj.1
   rw [UInt8.toNat_ofNat_of_lt' hn]
   omega
 · rintro rfl
   rw [UInt8.toNat_ofNat_of_lt' hn]
inductive Nx where
 | bad (e:Int)
 | skip (n:Nat)
 | tok (t:Token) (n:Nat)
def tzt:Token:=⟨0,[],0,0⟩
def minusDigit (c:UInt8) (l:List UInt8):Bool:=decide (c=45) && (match l with | []=>false | d::_=>isDigit d)
def nextS (m:List UInt8):Nx:=match m with
 | []=>.bad 0
 | c::l =>
  if isBlank c then .skip 1
  else if (c::l).take 2=[47,42] then (if Lib.index ((c::l).drop 2) ends < 0 then .bad 33 else .skip ((Lib.index ((c::l).drop 2) ends).toNat+4))
  else if isLetter c then (if isWord ((c::l).take (runLen (c::l))) then .tok ⟨2,(c::l).take (runLen (c::l)),0,0⟩ (runLen (c::l)) else if 32 < runLen (c::l) then .bad 32 else .tok ⟨1,(c::l).take (runLen (c::l)),0,0⟩ (runLen (c::l)))
  else if isDigit c || minusDigit c l then (if (numS (decide (c=45)) (if c=45 then l.take (runLen l) else (c::l).take (1+runLen l))).2 then .tok ⟨3,[],(numS (decide (c=45)) (if c=45 then l.take (runLen l) else (c::l).take (1+runLen l))).1,0⟩ (1+runLen l) else .bad 31)
  else if isSign c then .tok ⟨4,[c],0,0⟩ 1
  else .bad 30
def Nx.out:Nx→Token×Int×Int
 | .bad e=>(tzt,0,e)
 | .skip n=>(tzt,(n:Int),0)
 | .tok t n=>(t,(n:Int),0)
theorem begins_ (c:UInt8) (l:List UInt8) (hs:(c::l).length≤16000) :
 Ev (fun k=>lx_begins k (c::l)) (if isBlank c then 1 else if (c::l).take 2=[47,42] then 2 else if isLetter c then 3 else if isDigit c || minusDigit c l then 4 else if isSign c then 5 else 0):=by
 have hsign:Ev (fun k=>(gv_IndexByte k signs (c.toNat:Int)).bind fun t=>if 0≤t then some (5:Int) else some 0) (if isSign c then 5 else 0):=by
  obtain ⟨r,E,D⟩:=gv_sign 0 c;refine Ev.bind (r:=r) (Ev.all fun k=>E) ?_;by_cases h:isSign c=true
  · rw [if_pos h];exact Ev.pos (D.2 h) Ev.ret
  · rw [if_neg h];exact Ev.neg (fun e=>h (D.1 e)) Ev.ret
 unfold lx_begins;refine Ev.bindc (idx_at (j:=0) rfl (by simp)) ?_;refine Ev.bind (Ev.all fun k=>lx_isBlank_ k c) ?_;by_cases c1:isBlank c=true
 · rw [if_pos c1];exact Ev.pos c1 Ev.ret
 rw [if_neg c1];refine Ev.neg c1 ?_;refine Ev.bind (Ev.all fun k=>HasPrefix_ k _ _) ?_;by_cases c2:(c::l).take 2=[47,42]
 · rw [if_pos c2];exact Ev.pos (decide_eq_true c2) Ev.ret
 rw [if_neg c2];refine Ev.neg (by simpa using c2) ?_;refine Ev.bind (Ev.all fun k=>lx_letter_ k c) ?_;by_cases c3:isLetter c=true
 · rw [if_pos c3];exact Ev.pos c3 Ev.ret
 rw [if_neg c3];refine Ev.neg c3 ?_;refine Ev.bind (Ev.all fun k=>lx_digit_ k c) ?_;by_cases c4:isDigit c=true
 · rw [if_pos (by simp [c4])];exact Ev.pos c4 Ev.ret
 refine Ev.neg c4 ?_;simp only [Bool.not_eq_true] at c4;rw [c4,Bool.false_or];by_cases C:c=45
 · refine Ev.pos ((toNatN _ 45 (by decide)).2 C) ?_
   cases l with
   | nil =>
    refine Ev.neg (by simp) ?_;exact hsign.cast (by simp [minusDigit])
   | cons d l =>
    refine Ev.pos (by simp;omega) ?_;refine Ev.bindc (idx_at (j:=1) rfl (by simp)) ?_;refine Ev.bind (Ev.all fun k=>lx_digit_ k d) ?_;by_cases q:isDigit d=true
    · rw [if_pos (by simp [minusDigit,C,q])];exact Ev.pos q Ev.ret
    · refine Ev.neg q ?_
      exact hsign.cast (by simp only [Bool.not_eq_true] at q;simp [minusDigit,q])
 · refine Ev.neg (fun h=>C ((toNatN _ 45 (by decide)).1 h)) ?_
   exact hsign.cast (by simp [minusDigit,C])
theorem numbered_ (c:UInt8) (l:List UInt8) (hs:(c::l).length≤16000) (h:c=45∧l≠[]∨isDigit c=true) :
 Ev (fun k=>lx_numbered k (c::l)) (numS (decide (c=45)) (if c=45 then l else c::l)):=by
 have q:isDigit 45=false:=by decide
 unfold lx_numbered;by_cases c1:c=45
 · subst c1
   have hl:l≠[]:=by
    rcases h with h | h
    · exact h.2
    · rw [q] at h;cases h
   obtain ⟨d,m,rfl⟩:∃ d m,l=d::m:=by cases l with | nil=>exact absurd rfl hl | cons d m=>exact ⟨d,m,rfl⟩
   refine Ev.bind (r:=(d::m,true)) (Ev.all fun k=>by rw [CutPrefix_,if_pos (show List.take ([45]:List UInt8).length (45::d::m)=[45] from rfl)];rfl) ?_;rw [if_pos rfl,decide_eq_true rfl];refine Ev.bind (Ev.all fun k=>CutPrefix_ k _ _) ?_;refine Ev.pos rfl ?_
   show Ev (fun k=>Option.bind (lx_digits k (d::m) 10) _) _
   refine Ev.bind (lx_digits_ _ (.inr (.inl rfl)) (by simp at hs ⊢;omega)) ?_;have hdd:=digS_in (base:=10) (.inr (.inl rfl)) (d::m);rw [w64_of (n:=-(digS 10 (d::m)).1) (by omega) (by omega)];unfold numS;rw [if_pos rfl];by_cases c2:(digS 10 (d::m)).2=true
   · refine Ev.pos c2 ?_
     refine Ev.bindc (idx_at (j:=0) rfl (by simp)) ?_;by_cases c3:d=48
     · refine Ev.pos ((toNat48 _).2 c3) ?_
       exact Ev.ret.cast (by simp [c3])
     · refine Ev.neg (fun h=>c3 ((toNat48 _).1 h)) ?_
       refine Ev.ret.cast ?_;rw [c2]
       simp [c3]
   · refine Ev.neg c2 ?_
     exact Ev.ret.cast (by simp at c2;simp [c2])
 · have hdc:isDigit c=true:=by
    rcases h with h | h
    · exact absurd h.1 c1
    · exact h
   rw [if_neg c1,decide_eq_false c1];refine Ev.bind (r:=(c::l,false)) (Ev.all fun k=>by rw [CutPrefix_,if_neg (by simpa using c1)]) ?_;unfold numS;rw [if_neg (show ¬ false=true by simp)];by_cases c2:(c::l).take 2=[48,120]
   · refine Ev.bind (r:=((c::l).drop 2,true)) (Ev.all fun k=>by rw [CutPrefix_];exact congrArg some (if_pos c2)) ?_
     refine Ev.neg (show ¬ false=true by simp) ?_;refine Ev.pos rfl ?_;refine Ev.bind (lx_digits_ _ (.inr (.inr rfl)) (by simp only [List.length_drop];omega)) ?_;refine Ev.ret.cast ?_;have C:2≤(c::l).length:=by have:=congrArg List.length c2;rw [List.length_take] at this;simp only [List.length_cons,List.length_nil] at this ⊢;omega
     rw [if_neg (by intro e;rw [e] at C;simp at C)];by_cases c3:2 < (c::l).length
     · rw [if_pos ⟨c3,c2⟩]
     · have hc:(c::l)=[48,120]:=by rw [← c2,List.take_of_length_le (by omega)]
       rw [hc]
       decide
   · refine Ev.bind (r:=(c::l,false)) (Ev.all fun k=>by rw [CutPrefix_];exact congrArg some (if_neg c2)) ?_
     refine Ev.neg (show ¬ false=true by simp) ?_;refine Ev.neg (by simp) ?_;refine Ev.bindc (idx_at (j:=0) rfl (by simp)) ?_;rw [show (if 2 < (c::l).length∧List.take 2 (c::l)=[48,120] then digS 16 (List.drop 2 (c::l)) else if (c::l).head? = some 48 then digS 8 (List.drop 1 (c::l)) else digS 10 (c::l))=(if (c::l).head? = some 48 then digS 8 (List.drop 1 (c::l)) else digS 10 (c::l)) from if_neg (fun h=>c2 h.2)];have hj:∀ b:Bool,(b=true→c=48∧1 < (c::l).length)→(b=false→c≠48∨(c::l).length=1) →
      Ev (fun k=>lx_numbered.j1 k (c::l,false) b) (if c::l=[48] then (0,true) else if (c::l).head? = some 48 then digS 8 ((c::l).drop 1) else digS 10 (c::l)):=by
      intro b D E;unfold lx_numbered.j1;cases b with
      | true =>
       obtain ⟨e1,J⟩:=D rfl;refine Ev.pos rfl ?_;refine Ev.bindc (cut_from (a:=1) rfl (by simp)) ?_;refine Ev.bind (lx_digits_ _ (.inl rfl) (by simp only [List.length_drop];omega)) ?_;refine Ev.ret.cast ?_;rw [if_neg (by intro e;rw [e] at J;simp at J),if_pos (by simp [e1])]
      | false =>
       refine Ev.neg (by simp) ?_;refine Ev.bind (lx_digits_ _ (.inr (.inl rfl)) (show (c::l).length≤68719476736 by omega)) ?_;refine Ev.ret.cast ?_;by_cases e:c=48
       · have O:l=[]:=by
          rcases E rfl with h | h
          · exact absurd e h
          · simpa using h
         subst e;subst O
         decide
       · rw [if_neg (by intro h;exact e (by injection h)),if_neg (by simpa using e)]
     by_cases c3:c=48
     · refine Ev.pos ((toNat48 _).2 c3) ?_
       by_cases c4:(1:Int) < ((c::l).length:Int)
       · rw [decide_eq_true c4]
         exact hj true (fun _=>⟨c3,by exact_mod_cast c4⟩) (fun h=>by cases h)
       · rw [decide_eq_false c4]
         exact hj false (fun h=>by cases h) (fun _=>.inr (by have V:¬ 1 < (c::l).length:=fun h=>c4 (by exact_mod_cast h);rw [List.length_cons] at V ⊢;omega))
     · refine Ev.neg (fun h=>c3 ((toNat48 _).1 h)) ?_
       exact hj false (fun h=>by cases h) (fun _=>.inl c3)
end Go.Proofs.YtnhifhlbelogcaaDoor
set_option linter.unusedVariables false
namespace Go.Proofs.YtnhifhlbelogcaaDoor
open Go Go.Eng
theorem runLen_minus {c:UInt8} {l:List UInt8} (h:minusDigit c l=true):c=45∧l.take (runLen l)≠[]:=by
 unfold minusDigit at h;rw [Bool.and_eq_true,decide_eq_true_eq] at h;refine ⟨h.1,?_⟩;cases l with
 | nil=>cases h.2
 | cons d l =>
  have hd:isDigit d=true:=h.2;have hr:inRun d=true:=by simp [inRun,hd]
  rw [runLen_cons,if_pos hr]
  simp
theorem nextS_cons (c:UInt8) (l:List UInt8):nextS (c::l) =
 if isBlank c then .skip 1
 else if (c::l).take 2=[47,42] then (if Lib.index ((c::l).drop 2) ends < 0 then .bad 33 else .skip ((Lib.index ((c::l).drop 2) ends).toNat+4))
 else if isLetter c then (if isWord ((c::l).take (runLen (c::l))) then .tok ⟨2,(c::l).take (runLen (c::l)),0,0⟩ (runLen (c::l)) else if 32 < runLen (c::l) then .bad 32 else .tok ⟨1,(c::l).take (runLen (c::l)),0,0⟩ (runLen (c::l)))
 else if isDigit c || minusDigit c l then (if (numS (decide (c=45)) (if c=45 then l.take (runLen l) else (c::l).take (1+runLen l))).2 then .tok ⟨3,[],(numS (decide (c=45)) (if c=45 then l.take (runLen l) else (c::l).take (1+runLen l))).1,0⟩ (1+runLen l) else .bad 31)
 else if isSign c then .tok ⟨4,[c],0,0⟩ 1
 else .bad 30:=rfl
theorem index_in (l:List UInt8):¬ Lib.index l ends < 0→Lib.index l ends+2≤(l.length:Int):=by
 induction l with
 | nil=>intro h;exact absurd (show Lib.index [] ends < 0 by decide) h
 | cons c l ih =>
  rw [index_cons];intro h;by_cases q:(c::l).take 2=ends
  · rw [if_pos q] at h ⊢
    have:=congrArg List.length q;rw [List.length_take] at this;have e:ends.length=2:=rfl
    omega
  · rw [if_neg q] at h ⊢
    by_cases C:Lib.index l ends < 0
    · rw [if_pos C] at h;omega
    · rw [if_neg C] at h ⊢
      have:=ih C;rw [List.length_cons];omega
theorem lx_next_ (m:List UInt8) (C:m≠[]) (hs:m.length≤16000):Ev (fun k=>lx_next k m) (nextS m).out:=by
 obtain ⟨c,l,rfl⟩:∃ c l,m=c::l:=by cases m with | nil=>exact absurd rfl C | cons c l=>exact ⟨c,l,rfl⟩
 have hb:=begins_ c l hs;have hl:l.length≤15999:=by rw [List.length_cons] at hs;omega
 have hrl:=runLen_le l;unfold lx_next;refine Ev.bind hb ?_;rw [nextS_cons];by_cases c1:isBlank c=true
 · rw [if_pos c1,if_pos c1]
   exact Ev.pos rfl Ev.ret
 rw [if_neg c1,if_neg c1];by_cases c2:(c::l).take 2=[47,42]
 · have D:2≤(c::l).length:=by have:=congrArg List.length c2;rw [List.length_take] at this;simp only [List.length_cons,List.length_nil] at this ⊢;omega
   rw [if_pos c2,if_pos c2];refine Ev.neg (by omega) (Ev.pos rfl ?_);refine Ev.bindc (cut_from (a:=2) rfl D) ?_;refine Ev.bind (r:=Lib.index ((c::l).drop 2) ends) (Ev.all fun k=>if_pos (by rw [List.length_drop];omega)) ?_;have hlt:=index_in ((c::l).drop 2);rw [List.length_drop] at hlt;have hge:=index_ge ((c::l).drop 2) ends;by_cases c3:Lib.index ((c::l).drop 2) ends < 0
   · refine Ev.pos c3 (Ev.ret.cast ?_)
     rw [if_pos c3];rfl
   · refine Ev.neg c3 ?_
     rw [w64_of (show -9223372036854775808≤Lib.index (List.drop 2 (c::l)) ends+4 by omega) (show Lib.index (List.drop 2 (c::l)) ends+4≤9223372036854775807 by have:=hlt c3;omega)];refine Ev.ret.cast ?_;rw [if_neg c3];unfold Nx.out;have:(Lib.index (List.drop 2 (c::l)) ends)+4=(((Lib.index (List.drop 2 (c::l)) ends).toNat+4:Nat):Int):=by omega
     exact congrArg (fun z=>(tzt,z,(0:Int))) this
 rw [if_neg c2,if_neg c2];by_cases c3:isLetter c=true
 · rw [if_pos c3,if_pos c3]
   refine Ev.neg (by omega) (Ev.neg (by omega) (Ev.pos rfl ?_));have hr:=runLen_le (c::l);refine Ev.bind (lx_run_ _ (big_max (by omega))) ?_;refine Ev.bindc (cut_to (b:=runLen (c::l)) rfl hr) ?_;have hlen:(List.take (runLen (c::l)) (c::l)).length=runLen (c::l):=by rw [List.length_take];omega
   refine Ev.bind (lx_IsWord_ _) ?_;by_cases c4:isWord (List.take (runLen (c::l)) (c::l))=true
   · rw [if_pos c4]
     refine Ev.pos c4 ?_;refine Ev.ret.cast ?_;unfold Nx.out;rw [hlen]
   · rw [if_neg c4]
     refine Ev.neg c4 ?_;rw [hlen];by_cases q:32 < runLen (c::l)
     · rw [if_pos q]
       exact Ev.pos (by omega) Ev.ret
     · rw [if_neg q]
       refine Ev.neg (by omega) ?_;refine Ev.ret.cast ?_;unfold Nx.out;rw [hlen]
 rw [if_neg c3,if_neg c3];by_cases c4:(isDigit c || minusDigit c l)=true
 · rw [if_pos c4,if_pos c4]
   refine Ev.neg (by omega) (Ev.neg (by omega) (Ev.neg (by omega) (Ev.pos rfl ?_)));refine Ev.bindc (cut_from (a:=1) rfl (by simp)) ?_;rw [show List.drop 1 (c::l)=l from rfl];refine Ev.bind (lx_run_ l (big_max (by omega))) ?_;have e1:w64 (1+(runLen l:Int))=((1+runLen l:Nat):Int):=by rw [w64_of (by omega) (by omega)];omega
   rw [e1];refine Ev.bindc (cut_to (b:=1+runLen l) rfl (by rw [List.length_cons];omega)) ?_;have E:List.take (1+runLen l) (c::l)=c::l.take (runLen l):=by rw [Nat.add_comm];rfl
   rw [E];have hcond:c=45∧l.take (runLen l)≠[]∨isDigit c=true:=by
    by_cases hd:isDigit c=true
    · exact .inr hd
    · simp only [Bool.not_eq_true] at hd
      rw [hd,Bool.false_or] at c4;exact .inl (runLen_minus c4)
   refine Ev.bind (numbered_ c (l.take (runLen l)) (by rw [List.length_cons,List.length_take];omega) hcond) ?_;by_cases q:(numS (decide (c=45)) (if c=45 then l.take (runLen l) else c::l.take (runLen l))).2=true
   · refine Ev.pos q (Ev.ret.cast ?_)
     rw [if_pos q];rfl
   · refine Ev.neg q (Ev.ret.cast ?_)
     rw [if_neg q];rfl
 rw [if_neg c4,if_neg c4];by_cases q:isSign c=true
 · rw [if_pos q,if_pos q]
   refine Ev.neg (by omega) (Ev.neg (by omega) (Ev.neg (by omega) (Ev.neg (by omega) (Ev.pos rfl ?_))));refine Ev.bindc (cut_to (b:=1) rfl (by simp)) ?_;exact Ev.ret
 · rw [if_neg q,if_neg q]
   exact Ev.neg (by omega) (Ev.neg (by omega) (Ev.neg (by omega) (Ev.neg (by omega) (Ev.neg (by omega) Ev.ret))))
end Go.Proofs.YtnhifhlbelogcaaDoor
set_option linter.unusedVariables false
namespace Go.Proofs.YtnhifhlbelogcaaDoor
open Go Go.Eng
def Nx.ok (m:List UInt8):Nx→Prop
 | .bad e=>e=30∨e=31∨e=32∨e=33
 | .skip n=>1≤n∧n≤m.length
 | .tok t n=>1≤n∧n≤m.length∧t.Kind≠0
theorem nextS_ok (m:List UInt8) (D:m≠[]):(nextS m).ok m:=by
 obtain ⟨c,l,rfl⟩:∃ c l,m=c::l:=by cases m with | nil=>exact absurd rfl D | cons c l=>exact ⟨c,l,rfl⟩
 have hr:=runLen_le (c::l);have hl:=runLen_le l;have hll:(c::l).length=l.length+1:=rfl;rw [nextS_cons];by_cases c1:isBlank c=true
 · rw [if_pos c1];exact ⟨Nat.le_refl _,by omega⟩
 rw [if_neg c1];by_cases c2:(c::l).take 2=[47,42]
 · have E:2≤(c::l).length:=by have:=congrArg List.length c2;rw [List.length_take] at this;simp only [List.length_cons,List.length_nil] at this ⊢;omega
   rw [if_pos c2];by_cases c3:Lib.index ((c::l).drop 2) ends < 0
   · rw [if_pos c3];exact .inr (.inr (.inr rfl))
   · rw [if_neg c3]
     have:=index_in _ c3;rw [List.length_drop] at this;exact ⟨by omega,by omega⟩
 rw [if_neg c2];by_cases c3:isLetter c=true
 · rw [if_pos c3]
   have hin:inRun c=true:=by simp [inRun,c3]
   have q:1≤runLen (c::l):=by rw [runLen_cons,if_pos hin];omega
   split
   · exact ⟨q,hr,show (2:Int)≠0 by decide⟩
   · split
     · exact .inr (.inr (.inl rfl))
     · exact ⟨q,hr,show (1:Int)≠0 by decide⟩
 rw [if_neg c3];by_cases c4:(isDigit c || minusDigit c l)=true
 · rw [if_pos c4]
   by_cases C:(numS (decide (c=45)) (if c=45 then l.take (runLen l) else (c::l).take (1+runLen l))).2=true
   · rw [if_pos C]
     exact ⟨by omega,by omega,show (3:Int)≠0 by decide⟩
   · rw [if_neg C]
     exact .inr (.inl rfl)
 rw [if_neg c4]
 split
 · exact ⟨by omega,by omega,show (4:Int)≠0 by decide⟩
 · exact .inl rfl
def Token.put (t:Token) (a:Nat):Token:=⟨t.Kind,t.Text,t.Number,(a:Int)⟩
def scanG:Nat→List UInt8→Nat→List Token→List Token×Int×Int
 | 0,_,_,_=>([],0,0)
 | d+1,s,a,acc=>if a < s.length then (match nextS (s.drop a) with
  | .bad e=>([],e,(a:Int))
  | .skip n=>scanG d s (a+n) acc
  | .tok t n=>scanG d s (a+n) (acc++[t.put a]))
  else (acc++[⟨5,[],0,(s.length:Int)⟩],0,0)
def scanS (s:List UInt8):List Token×Int×Int:=if 16000 < s.length then ([],34,16000) else scanG (s.length+1) s 0 []
theorem drop_ne {s:List UInt8} {a:Nat} (h:a < s.length):s.drop a≠[]:=by
 intro e;have:=congrArg List.length e;rw [List.length_drop,List.length_nil] at this;omega
theorem lx_Scan_l (s:List UInt8) (hs:s.length≤16000):∀ (d a:Nat) (acc:List Token),s.length < a+d→a≤s.length→acc.length≤a→Ev (fun k=>lx_Scan.l1 k s acc (a:Int)) (scanG d s a acc):=by
 intro d
 induction d with
 | zero=>intro a acc C D;omega
 | succ d ih =>
  intro a acc C D O;refine Ev.step (g:=fun k=>lx_Scan.l1 (k+1) s acc (a:Int)) ?_ (fun _=>rfl);simp only [lx_Scan.l1];rw [scanG];by_cases ha:a < s.length
  · rw [if_pos ha]
    refine Ev.pos (by omega) ?_;refine Ev.bindc (cut_from (a:=a) rfl (by omega)) ?_;refine Ev.bind (lx_next_ _ (drop_ne ha) (by rw [List.length_drop];omega)) ?_;have hok:=nextS_ok _ (drop_ne ha);generalize nextS (s.drop a)=x at hok ⊢;cases x with
    | bad e =>
     have he:e≠0:=by rcases hok with h | h | h | h <;> subst h <;> decide
     exact Ev.neg he Ev.ret
    | skip n =>
     obtain ⟨E,q⟩:=hok;rw [List.length_drop] at q;refine Ev.pos rfl (Ev.pos rfl ?_);have e:w64 ((a:Int)+(Nx.skip n).out.2.1)=((a+n:Nat):Int):=by show w64 ((a:Int)+(n:Int))=_;rw [w64_of (by omega) (by omega)];rfl
     rw [e];exact ih (a+n) acc (by omega) (by omega) (by omega)
    | tok t n =>
     obtain ⟨E,q,J⟩:=hok;rw [List.length_drop] at q;refine Ev.pos rfl (Ev.neg J ?_);refine Ev.bindc (cat_at (by simp;omega)) ?_;have e:w64 ((a:Int)+(Nx.tok t n).out.2.1)=((a+n:Nat):Int):=by show w64 ((a:Int)+(n:Int))=_;rw [w64_of (by omega) (by omega)];rfl
     rw [e];exact ih (a+n) (acc++[t.put a]) (by omega) (by omega) (by simp;omega)
  · rw [if_neg ha]
    refine Ev.neg (by omega) ?_;exact Ev.bindc (cat_at (by simp;omega)) Ev.ret
theorem lx_Scan_ (s:List UInt8):Ev (fun k=>lx_Scan k s) (scanS s):=by
 unfold lx_Scan scanS;by_cases h:16000 < s.length
 · rw [if_pos h];exact Ev.pos (by omega) Ev.ret
 · rw [if_neg h]
   refine Ev.neg (by omega) ?_;exact lx_Scan_l s (by omega) (s.length+1) 0 [] (by omega) (by omega) (Nat.le_refl _)
theorem scanG_len (s:List UInt8):∀ (d a:Nat) (acc:List Token),acc.length≤a→a≤s.length→(scanG d s a acc).1.length≤s.length+1:=by
 intro d
 induction d with
 | zero=>intro a acc _ _;exact Nat.zero_le _
 | succ d ih =>
  intro a acc D E;rw [scanG];by_cases ha:a < s.length
  · rw [if_pos ha]
    have hok:=nextS_ok _ (drop_ne ha);generalize nextS (s.drop a)=x at hok ⊢;cases x with
    | bad e=>exact Nat.zero_le _
    | skip n =>
     obtain ⟨C,q⟩:=hok;rw [List.length_drop] at q;exact ih _ _ (by omega) (by omega)
    | tok t n =>
     obtain ⟨C,q,_⟩:=hok;rw [List.length_drop] at q;exact ih _ _ (by rw [List.length_append,List.length_singleton];omega) (by omega)
  · rw [if_neg ha]
    show (acc++[_]).length≤_
    rw [List.length_append,List.length_singleton];omega
theorem scanS_len (s:List UInt8):(scanS s).1.length≤16001:=by
 unfold scanS;by_cases h:16000 < s.length
 · rw [if_pos h];exact Nat.zero_le _
 · rw [if_neg h]
   have:=scanG_len s (s.length+1) 0 [] (Nat.le_refl _) (Nat.zero_le _)
   omega
end Go.Proofs.YtnhifhlbelogcaaDoor
