/- The scanners' plain functions: what each comes to. Letters, runs, digits, words. -/
import Derived.Test.YtnhifhlbelogcaaGreatDoorYLB
set_option linter.unusedVariables false
namespace Go.Proofs.YtnhifhlbelogcaaGreatDoor
open Go Go.Eng
def isLetter (c:UInt8):Bool:=(decide (97≤c.toNat) && decide (c.toNat≤122)) || (decide (65≤c.toNat) && decide (c.toNat≤90))
def isDigit (c:UInt8):Bool:=decide (48≤c.toNat) && decide (c.toNat≤57)
def inRun (c:UInt8):Bool:=isLetter c || isDigit c || decide (c.toNat=95)
def isBlank (c:UInt8):Bool:=decide (c.toNat=32) || decide (c.toNat=9) || decide (c.toNat=10) || decide (c.toNat=13)
theorem lx_letter_ (k:Nat) (c:UInt8):lx_letter k (c.toNat:Int)=some (isLetter c):=by
 unfold lx_letter isLetter
 (repeat' split) <;> (congr 1;rw [Bool.eq_iff_iff];simp;omega)
theorem rf_letter_ (k:Nat) (c:UInt8):rf_letter k (c.toNat:Int)=some (isLetter c):=lx_letter_ k c
theorem lx_digit_ (k:Nat) (c:UInt8):lx_digit k (c.toNat:Int)=some (isDigit c):=by
 unfold lx_digit isDigit
 (repeat' split) <;> (congr 1;rw [Bool.eq_iff_iff];simp;omega)
theorem rf_digit_ (k:Nat) (c:UInt8):rf_digit k (c.toNat:Int)=some (isDigit c):=lx_digit_ k c
theorem lx_isBlank_ (k:Nat) (c:UInt8):lx_isBlank k (c.toNat:Int)=some (isBlank c):=by
 unfold lx_isBlank isBlank
 (repeat' split) <;> (congr 1;rw [Bool.eq_iff_iff];simp;omega)
theorem nat95 (c:UInt8):decide ((c.toNat:Int)=95)=decide (c.toNat=95):=by
 rw [Bool.eq_iff_iff];simp;omega
theorem lx_inRun_ (k:Nat) (c:UInt8):lx_inRun k (c.toNat:Int)=some (inRun c):=by
 unfold lx_inRun inRun;simp only [lx_letter_,lx_digit_,Option.bind_some,nat95];cases isLetter c <;> cases isDigit c <;> rfl
theorem rf_within_ (k:Nat) (c:UInt8):rf_within k (c.toNat:Int)=some (inRun c):=by
 unfold rf_within inRun;simp only [rf_letter_,rf_digit_,Option.bind_some,nat95];cases isLetter c <;> cases isDigit c <;> rfl
def runLen (s:List UInt8):Nat:=(s.takeWhile inRun).length
theorem runLen_le (s:List UInt8):runLen s≤s.length:=(List.takeWhile_prefix (p:=inRun) (l:=s)).length_le
theorem runLen_cons (c:UInt8) (s:List UInt8):runLen (c::s)=if inRun c then runLen s+1 else 0:=by
 unfold runLen;rw [List.takeWhile_cons];split <;> simp
theorem drop_cons {s:List UInt8} {j:Nat} (h:j < s.length):s.drop j=s[j]::s.drop (j+1):=List.drop_eq_getElem_cons h
theorem lx_run_l (s:List UInt8) (hs:s.length≤maxLen):∀ (d j:Nat),s.length - j=d→j≤s.length→Ev (fun k=>lx_run.l1 k s (j:Int)) ((j+runLen (s.drop j):Nat):Int):=by
 intro d
 induction d with
 | zero =>
  intro j hd hj;obtain rfl:j=s.length:=by omega
  refine Ev.step (g:=fun k=>lx_run.l1 (k+1) s (s.length:Int)) ?_ (fun _=>rfl);simp only [lx_run.l1];refine Ev.neg (by omega) ?_;rw [List.drop_length];exact Ev.ret
 | succ d ih =>
  intro j hd hj;have hlt:j < s.length:=by omega
  refine Ev.step (g:=fun k=>lx_run.l1 (k+1) s (j:Int)) ?_ (fun _=>rfl);simp only [lx_run.l1];refine Ev.pos (by omega) ?_;refine Ev.bindc (idx_at rfl hlt) ?_;refine Ev.bind (Ev.all fun k=>lx_inRun_ k _) ?_;rw [drop_cons hlt,runLen_cons];cases h:inRun s[j]
  · refine Ev.neg (by simp) ?_
    exact Ev.ret
  · refine Ev.pos rfl ?_
    rw [w64_succ (by simp only [maxLen] at hs;omega)];exact (ih (j+1) (by omega) hlt).cast (by simp only [if_true];omega)
theorem lx_run_ (s:List UInt8) (hs:s.length≤maxLen):Ev (fun k=>lx_run k s) (runLen s:Int):=by
 unfold lx_run;exact (lx_run_l s hs s.length 0 rfl (Nat.zero_le _)).cast (by simp)
theorem rf_run_ (s:List UInt8) (hs:s.length≤maxLen) {j:Nat} (hj:j≤s.length):Ev (fun k=>rf_run k s (j:Int)) ((j+runLen (s.drop j):Nat):Int):=by
 unfold rf_run;have key:∀ (d j:Nat),s.length - j=d→j≤s.length→Ev (fun k=>rf_run.l1 k s (j:Int)) ((j+runLen (s.drop j):Nat):Int):=by
  intro d
  induction d with
  | zero =>
   intro j hd hj;obtain rfl:j=s.length:=by omega
   refine Ev.step (g:=fun k=>rf_run.l1 (k+1) s (s.length:Int)) ?_ (fun _=>rfl);simp only [rf_run.l1];refine Ev.neg (by omega) ?_;rw [List.drop_length];exact Ev.ret
  | succ d ih =>
   intro j hd hj;have hlt:j < s.length:=by omega
   refine Ev.step (g:=fun k=>rf_run.l1 (k+1) s (j:Int)) ?_ (fun _=>rfl);simp only [rf_run.l1];refine Ev.pos (by omega) ?_;refine Ev.bindc (idx_at rfl hlt) ?_;refine Ev.bind (Ev.all fun k=>rf_within_ k _) ?_;rw [drop_cons hlt,runLen_cons];cases h:inRun s[j]
   · refine Ev.neg (by simp) ?_
     exact Ev.ret
   · refine Ev.pos rfl ?_
     rw [w64_succ (by simp only [maxLen] at hs;omega)];exact (ih (j+1) (by omega) hlt).cast (by simp only [if_true];omega)
 exact key _ j rfl hj
def dval (base:Int) (c:UInt8):Int:=if isDigit c then (c.toNat:Int) - 48 else if 97≤c.toNat∧c.toNat≤102 then (c.toNat:Int) - 87 else if 65≤c.toNat∧c.toNat≤70 then (c.toNat:Int) - 55 else base
def digs (base:Int):Int→List UInt8→Option Int
 | n,[]=>some n
 | n,c::l=>if base≤dval base c then none else if 4294967295 < n * base+dval base c then none else digs base (n * base+dval base c) l
def digS (base:Int) (s:List UInt8):Int×Bool:=match digs base 0 s with
 | some n=>(n,!decide (s=[]))
 | none=>(0,false)
theorem isDigit_iff (c:UInt8):isDigit c=true ↔ 48≤c.toNat∧c.toNat≤57:=by simp [isDigit]
theorem u8sub (c:UInt8) (m:Int) (q:m≤c.toNat) (C:0≤m):IntKind.u8.wrap ((c.toNat:Int) - m)=(c.toNat:Int) - m:=IntWalk.u8_in _ (by have:=u8_lt c;omega)
theorem dval_ge (base:Int) (hb:0≤base) (c:UInt8):0≤dval base c:=by
 unfold dval
 split
 · rename_i h;have:=(isDigit_iff c).1 h;omega
 · split
   · omega
   · split <;> omega
theorem dval_le (base:Int) (hb:base≤16) (c:UInt8):dval base c≤16:=by
 unfold dval
 split
 · rename_i h;have:=(isDigit_iff c).1 h;omega
 · split
   · omega
   · split <;> omega
def Base (b:Int):Prop:=b=8∨b=10∨b=16
theorem dig_in {base n:Int} (hb:Base base) (q:0≤n) (C:n≤4294967295) (c:UInt8):w64 (w64 (n * base)+dval base c)=n * base+dval base c∧0≤n * base+dval base c:=by
 have h2:=dval_ge base (by rcases hb with rfl | rfl | rfl <;> omega) c;have D:=dval_le base (by rcases hb with rfl | rfl | rfl <;> omega) c;rcases hb with rfl | rfl | rfl
 all_goals
  rw [w64_of (n:=n * _) (by omega) (by omega)];exact ⟨w64_of (by omega) (by omega),by omega⟩
theorem lx_digits_j (s:List UInt8) {base:Int} (hb:Base base) (n:Int) (q:0≤n) (C:n≤4294967295) (j:Nat) (hj:j < s.length) (hs:s.length≤maxLen)
 (ih:∀ n',0≤n'→n'≤4294967295→Ev (fun k=>lx_digits.l1 k s base n' ((j+1:Nat):Int)) (match digs base n' (s.drop (j+1)) with | some n=>(n,!decide (s=[])) | none=>(0,false))) :
 Ev (fun k=>lx_digits.j1 k s base n (j:Int) (dval base s[j])) (match digs base n (s.drop j) with | some n=>(n,!decide (s=[])) | none=>(0,false)):=by
 refine Ev.step (g:=fun k=>lx_digits.j1 (k+1) s base n (j:Int) (dval base s[j])) ?_ (fun _=>rfl);simp only [lx_digits.j1];obtain ⟨e1,D⟩:=dig_in hb q C s[j];rw [drop_cons hj,digs,e1];by_cases c1:base≤dval base s[j]
 · rw [if_pos c1]
   exact Ev.pos c1 Ev.ret
 · rw [if_neg c1]
   refine Ev.neg c1 ?_;by_cases c2:4294967295 < n * base+dval base s[j]
   · rw [if_pos c2]
     exact Ev.pos c2 Ev.ret
   · rw [if_neg c2]
     refine Ev.neg c2 ?_;rw [w64_succ (by simp only [maxLen] at hs;omega)];exact ih _ D (by omega)
theorem lx_digits_l (s:List UInt8) {base:Int} (hb:Base base) (hs:s.length≤maxLen):∀ (d j:Nat) (n:Int),s.length - j=d→j≤s.length→0≤n→n≤4294967295 →
 Ev (fun k=>lx_digits.l1 k s base n (j:Int)) (match digs base n (s.drop j) with | some n=>(n,!decide (s=[])) | none=>(0,false)):=by
 intro d
 induction d with
 | zero =>
  intro j n hd hj _ _;obtain rfl:j=s.length:=by omega
  refine Ev.step (g:=fun k=>lx_digits.l1 (k+1) s base n (s.length:Int)) ?_ (fun _=>rfl);simp only [lx_digits.l1];refine Ev.neg (by omega) ?_;rw [List.drop_length,digs];exact Ev.ret
 | succ d ih =>
  intro j n hd hj C D;have hlt:j < s.length:=by omega
  have hJ:=lx_digits_j s hb n C D j hlt hs (fun n' a b=>ih (j+1) n' (by omega) hlt a b);refine Ev.step (g:=fun k=>lx_digits.l1 (k+1) s base n (j:Int)) ?_ (fun _=>rfl);simp only [lx_digits.l1];refine Ev.pos (by omega) ?_;refine Ev.bindc (idx_at rfl hlt) ?_;refine Ev.bind (Ev.all fun k=>lx_digit_ k _) ?_;have hu:=u8_lt s[j];by_cases c1:isDigit s[j]=true
  · refine Ev.pos c1 ?_
    have hc:=(isDigit_iff s[j]).1 c1;rw [show w64 (IntKind.u8.wrap ((s[j].toNat:Int) - 48))=dval base s[j] from by rw [u8sub _ _ (by omega) (by omega),w64_of (by omega) (by omega),dval,if_pos c1]];exact hJ
  · refine Ev.neg c1 ?_
    have q:∀ b:Bool,(b=true ↔ 97≤s[j].toNat∧s[j].toNat≤102)→Ev (fun k=>lx_digits.j2 k s base n (j:Int) s[j] b) (match digs base n (s.drop j) with | some n=>(n,!decide (s=[])) | none=>(0,false)):=by
     intro b hbb;refine Ev.step (g:=fun k=>lx_digits.j2 (k+1) s base n (j:Int) s[j] b) ?_ (fun _=>rfl);simp only [lx_digits.j2];by_cases c2:b=true
     · refine Ev.pos c2 ?_
       have hc:=hbb.1 c2;rw [show w64 (w64 (IntKind.u8.wrap ((s[j].toNat:Int) - 97))+10)=dval base s[j] from by
        rw [u8sub _ _ (by omega) (by omega),w64_of (n:=(s[j].toNat:Int) - 97) (by omega) (by omega),w64_of (by omega) (by omega),dval,if_neg c1,if_pos hc];omega]
       exact hJ
     · refine Ev.neg c2 ?_
       have hc:¬ (97≤s[j].toNat∧s[j].toNat≤102):=fun h=>c2 (hbb.2 h)
       by_cases c3:(65:Int)≤(s[j].toNat:Int)
       · refine Ev.pos c3 ?_
         by_cases c4:(s[j].toNat:Int)≤70
         · refine Ev.pos c4 ?_
           rw [show w64 (w64 (IntKind.u8.wrap ((s[j].toNat:Int) - 65))+10)=dval base s[j] from by
            rw [u8sub _ _ (by omega) (by omega),w64_of (n:=(s[j].toNat:Int) - 65) (by omega) (by omega),w64_of (by omega) (by omega),dval,if_neg c1,if_neg hc,if_pos ⟨by omega,by omega⟩];omega]
           exact hJ
         · refine Ev.neg c4 ?_
           have hd:dval base s[j]=base:=by rw [dval,if_neg c1,if_neg hc,if_neg (by omega)]
           have:=hJ;rw [hd] at this;exact this
       · refine Ev.neg c3 ?_
         have hd:dval base s[j]=base:=by rw [dval,if_neg c1,if_neg hc,if_neg (by omega)]
         have:=hJ;rw [hd] at this;exact this
    by_cases c2:(97:Int)≤(s[j].toNat:Int)
    · refine Ev.pos c2 ?_
      exact q _ (by simp;omega)
    · refine Ev.neg c2 ?_
      exact q false (by simp;omega)
theorem lx_digits_ (s:List UInt8) {base:Int} (hb:Base base) (hs:s.length≤68719476736):Ev (fun k=>lx_digits k s base) (digS base s):=by
 unfold lx_digits;refine Ev.pos hs ?_;exact (lx_digits_l s hb (by simp only [maxLen];omega) s.length 0 0 rfl (Nat.zero_le _) (by omega) (by omega)).cast (by simp [digS])
theorem rf_value_ (k:Nat) {base:Int} (hb:Base base) (c:UInt8):rf_value k (c.toNat:Int) base=some (if base≤dval base c then -1 else dval base c):=by
 have hu:=u8_lt c;have w1:∀ m:Int,0≤m→m≤c.toNat→w64 (IntKind.u8.wrap ((c.toNat:Int) - m))=(c.toNat:Int) - m:=fun m q C=>by rw [u8sub _ _ C q];exact w64_of (by omega) (by omega)
 have D:8≤base:=by rcases hb with rfl | rfl | rfl <;> omega
 have E:base≤16:=by rcases hb with rfl | rfl | rfl <;> omega
 have hA:97≤c.toNat→w64 (w64 (IntKind.u8.wrap ((c.toNat:Int) - 97))+10)=(c.toNat:Int) - 87:=fun h=>by rw [w1 97 (by omega) (by omega),w64_of (by omega) (by omega)];omega
 have hB:65≤c.toNat→w64 (w64 (IntKind.u8.wrap ((c.toNat:Int) - 65))+10)=(c.toNat:Int) - 55:=fun h=>by rw [w1 65 (by omega) (by omega),w64_of (by omega) (by omega)];omega
 have hC:48≤c.toNat→w64 (IntKind.u8.wrap ((c.toNat:Int) - 48))=(c.toNat:Int) - 48:=fun h=>w1 48 (by omega) (by omega)
 clear w1;unfold rf_value rf_value.j1 rf_value.j2 dval;simp only [isDigit_iff,decide_eq_true_eq,Bool.false_eq_true,if_false];generalize w64 (w64 (IntKind.u8.wrap ((c.toNat:Int) - 97))+10)=x at *;generalize w64 (w64 (IntKind.u8.wrap ((c.toNat:Int) - 65))+10)=y at *;generalize w64 (IntKind.u8.wrap ((c.toNat:Int) - 48))=z at *;have key:∀ a b:Int,a=b→some a=some b:=fun _ _ h=>by rw [h]
 (repeat' split) <;> (apply key;omega)
theorem rf_digits_ (s:List UInt8) {base:Int} (hb:Base base) (hs:s.length≤maxLen):Ev (fun k=>rf_digits k s base) (digS base s):=by
 unfold rf_digits;have key:∀ (d j:Nat) (n:Int),s.length - j=d→j≤s.length→0≤n→n≤4294967295 →
  Ev (fun k=>rf_digits.l1 k s base n (j:Int)) (match digs base n (s.drop j) with | some n=>(n,!decide (s=[])) | none=>(0,false)):=by
  intro d
  induction d with
  | zero =>
   intro j n hd hj _ _;obtain rfl:j=s.length:=by omega
   refine Ev.step (g:=fun k=>rf_digits.l1 (k+1) s base n (s.length:Int)) ?_ (fun _=>rfl);simp only [rf_digits.l1];refine Ev.neg (by omega) ?_;rw [List.drop_length,digs];exact Ev.ret
  | succ d ih =>
   intro j n hd hj q C;have hlt:j < s.length:=by omega
   refine Ev.step (g:=fun k=>rf_digits.l1 (k+1) s base n (j:Int)) ?_ (fun _=>rfl);simp only [rf_digits.l1];refine Ev.pos (by omega) ?_;refine Ev.bindc (idx_at rfl hlt) ?_;refine Ev.bind (Ev.all fun k=>rf_value_ k hb _) ?_;obtain ⟨e1,D⟩:=dig_in hb q C s[j];have h2:=dval_ge base (by rcases hb with rfl | rfl | rfl <;> omega) s[j];rw [drop_cons hlt,digs];by_cases c1:base≤dval base s[j]
   · rw [if_pos c1,if_pos c1]
     exact Ev.pos (by omega) Ev.ret
   · rw [if_neg c1,if_neg c1,e1]
     refine Ev.neg (by omega) ?_;by_cases c2:4294967295 < n * base+dval base s[j]
     · rw [if_pos c2]
       exact Ev.pos c2 Ev.ret
     · rw [if_neg c2]
       refine Ev.neg c2 ?_;rw [w64_succ (by simp only [maxLen] at hs;omega)];exact ih (j+1) _ (by omega) hlt D (by omega)
 exact (key s.length 0 0 rfl (Nat.zero_le _) (by omega) (by omega)).cast (by simp [digS])
def numS (minus:Bool) (s:List UInt8):Int×Bool :=
 if minus then ((-(digS 10 s).1),(digS 10 s).2 && !decide (s.head? = some 48) && decide ((digS 10 s).1≤2147483648))
 else if s=[48] then (0,true)
 else if 2 < s.length∧s.take 2=[48,120] then digS 16 (s.drop 2)
 else if s.head? = some 48 then digS 8 (s.drop 1)
 else digS 10 s
theorem digs_in {base:Int} (hb:Base base):∀ (s:List UInt8) (n m:Int),0≤n→n≤4294967295→digs base n s=some m→0≤m∧m≤4294967295
 | [],n,m,q,C,h=>by simp only [digs,Option.some.injEq] at h;omega
 | c::s,n,m,q,C,h=>by
  rw [digs] at h
  split at h
  · cases h
  · split at h
    · cases h
    · exact digs_in hb s _ m (dig_in hb q C c).2 (by omega) h
theorem digS_in {base:Int} (hb:Base base) (s:List UInt8):0≤(digS base s).1∧(digS base s).1≤4294967295:=by
 unfold digS
 split
 · rename_i n h;exact digs_in hb s 0 n (by omega) (by omega) h
 · decide
theorem toNat48 (c:UInt8):((c.toNat:Int)=48) ↔ c=48:=by
 constructor
 · intro h;apply UInt8.toNat_inj.1;show c.toNat=48;omega
 · rintro rfl;rfl
theorem rf_number_ (minus:Bool) (s:List UInt8) (q:s≠[]) (hs:s.length≤maxLen):Ev (fun k=>rf_number k s minus) (numS minus s):=by
 obtain ⟨c,l,rfl⟩:∃ c l,s=c::l:=by cases s with | nil=>exact absurd rfl q | cons c l=>exact ⟨c,l,rfl⟩
 unfold rf_number numS;cases minus
 · refine Ev.neg (by simp) ?_
   rw [if_neg (by simp)];by_cases c1:c::l=[48]
   · rw [if_pos c1]
     exact Ev.pos c1 Ev.ret
   · rw [if_neg c1]
     refine Ev.neg c1 ?_;have hj:∀ b:Bool,(b=true ↔ 2 < (c::l).length∧(c::l).take 2=[48,120])→Ev (fun k=>rf_number.j1 k (c::l) b) (if 2 < (c::l).length∧(c::l).take 2=[48,120] then digS 16 ((c::l).drop 2) else if (c::l).head? = some 48 then digS 8 ((c::l).drop 1) else digS 10 (c::l)):=by
      intro b hb;unfold rf_number.j1;by_cases c2:b=true
      · have hc:=hb.1 c2
        rw [if_pos hc];refine Ev.pos c2 ?_;refine Ev.bindc (cut_from (a:=2) rfl (by omega)) ?_;exact Ev.bind (rf_digits_ _ (.inr (.inr rfl)) (by simp only [List.length_drop];omega)) Ev.ret
      · rw [if_neg (fun h=>c2 (hb.2 h))]
        refine Ev.neg c2 ?_;refine Ev.bindc (idx_at (j:=0) rfl (by simp)) ?_;by_cases c3:c=48
        · rw [if_pos (by simp [c3])]
          refine Ev.pos ((toNat48 _).2 c3) ?_;refine Ev.bindc (cut_from (a:=1) rfl (by simp)) ?_;exact Ev.bind (rf_digits_ _ (.inl rfl) (by simp at hs ⊢;omega)) Ev.ret
        · rw [if_neg (by simpa using c3)]
          refine Ev.neg (fun h=>c3 ((toNat48 _).1 h)) ?_;exact Ev.bind (rf_digits_ _ (.inr (.inl rfl)) hs) Ev.ret
     by_cases c2:(2:Int) < ((c::l).length:Int)
     · refine Ev.pos c2 ?_
       refine Ev.bindc (cut_to (b:=2) rfl (by omega)) ?_;exact hj _ ⟨fun h=>⟨by omega,of_decide_eq_true h⟩,fun h=>decide_eq_true h.2⟩
     · refine Ev.neg c2 ?_
       exact hj false ⟨fun h=>by (cases h),fun h=>absurd h.1 (by omega)⟩
 · refine Ev.pos rfl ?_
   rw [if_pos rfl];refine Ev.bind (rf_digits_ _ (.inr (.inl rfl)) hs) ?_;have hd:=digS_in (base:=10) (.inr (.inl rfl)) (c::l);rw [w64_of (n:=-(digS 10 (c::l)).1) (by omega) (by omega)];by_cases c1:(digS 10 (c::l)).2=true
   · refine Ev.pos c1 ?_
     refine Ev.bindc (idx_at (j:=0) rfl (by simp)) ?_;by_cases c3:c=48
     · refine Ev.pos ((toNat48 _).2 c3) ?_
       exact Ev.ret.cast (by simp [c3])
     · refine Ev.neg (fun h=>c3 ((toNat48 _).1 h)) ?_
       exact Ev.ret.cast (by simp [c3,c1])
   · refine Ev.neg c1 ?_
     exact Ev.ret.cast (by simp at c1;simp [c1])
theorem HasPrefix_ (k:Nat) (s p:List UInt8):HasPrefix k s p=some (decide (s.take p.length=p)):=by
 unfold HasPrefix st_HasPrefix;by_cases h:(p.length:Int)≤(s.length:Int)
 · rw [if_pos h,cut_to rfl (by omega)];rfl
 · rw [if_neg h]
   simp only [Option.bind_some]
   congr 1
   rw [Bool.eq_iff_iff];simp only [Bool.false_eq_true,decide_eq_true_eq,false_iff];intro e;have:=congrArg List.length e;rw [List.length_take] at this
   omega
theorem CutPrefix_ (k:Nat) (s p:List UInt8):CutPrefix k s p=some (if s.take p.length=p then (s.drop p.length,true) else (s,false)):=by
 unfold CutPrefix st_CutPrefix;have q:st_HasPrefix k s p=some (decide (s.take p.length=p)):=by
  have:=HasPrefix_ k s p;unfold HasPrefix at this;cases h:st_HasPrefix k s p with
  | none=>rw [h] at this;cases this
  | some b=>rw [h] at this;exact this
 rw [q];simp only [Option.bind_some,decide_eq_true_eq];by_cases h:s.take p.length=p
 · have hl:p.length≤s.length:=by have:=congrArg List.length h;rw [List.length_take] at this;omega
   rw [if_pos h,if_pos h,cut_from rfl hl];rfl
 · rw [if_neg h,if_neg h];rfl
end Go.Proofs.YtnhifhlbelogcaaGreatDoor
