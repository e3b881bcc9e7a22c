/- The scanners' plain functions: what each comes to. Letters, runs, digits, words. -/
import Derived.Test.YtnhifhlbelogcaaGreatDoorYLA
set_option linter.unusedVariables false
namespace Go.Proofs.YtnhifhlbelogcaaGreatDoor
open Go Go.Eng
def isLetter (c:UInt8):Bool:=(decide (97≤c.toNat) && decide (c.toNat≤122)) || (decide (65≤c.toNat) && decide (c.toNat≤90))
def isDigit (c:UInt8):Bool:=decide (48≤c.toNat) && decide (c.toNat≤57)
def inRun (c:UInt8):Bool:=isLetter c || isDigit c || decide (c.toNat=95)
def isBlank (c:UInt8):Bool:=decide (c.toNat=32) || decide (c.toNat=9) || decide (c.toNat=10) || decide (c.toNat=13)
theorem lx_letter_ (k:Nat) (c:UInt8):lx_letter k (c.toNat:Int)=some (isLetter c):=by
 unfold lx_letter isLetter
 (repeat' split) <;> (congr 1;rw [Bool.eq_iff_iff];simp;omega)
theorem rf_letter_ (k:Nat) (c:UInt8):rf_letter k (c.toNat:Int)=some (isLetter c):=lx_letter_ k c
theorem lx_digit_ (k:Nat) (c:UInt8):lx_digit k (c.toNat:Int)=some (isDigit c):=by
 unfold lx_digit isDigit
 (repeat' split) <;> (congr 1;rw [Bool.eq_iff_iff];simp;omega)
theorem rf_digit_ (k:Nat) (c:UInt8):rf_digit k (c.toNat:Int)=some (isDigit c):=lx_digit_ k c
theorem lx_isBlank_ (k:Nat) (c:UInt8):lx_isBlank k (c.toNat:Int)=some (isBlank c):=by
 unfold lx_isBlank isBlank
 (repeat' split) <;> (congr 1;rw [Bool.eq_iff_iff];simp;omega)
theorem nat95 (c:UInt8):decide ((c.toNat:Int)=95)=decide (c.toNat=95):=by
 rw [Bool.eq_iff_iff];simp;omega
theorem lx_inRun_ (k:Nat) (c:UInt8):lx_inRun k (c.toNat:Int)=some (inRun c):=by
 unfold lx_inRun inRun;simp only [lx_letter_,lx_digit_,Option.bind_some,nat95];cases isLetter c <;> cases isDigit c <;> rfl
theorem rf_within_ (k:Nat) (c:UInt8):rf_within k (c.toNat:Int)=some (inRun c):=by
 unfold rf_within inRun;simp only [rf_letter_,rf_digit_,Option.bind_some,nat95];cases isLetter c <;> cases isDigit c <;> rfl
def runLen (s:By):Nat:=(s.takeWhile inRun).length
theorem runLen_le (s:By):runLen s≤s.length:=(List.takeWhile_prefix (p:=inRun) (l:=s)).length_le
theorem runLen_cons (c:UInt8) (s:By):runLen (c::s)=if inRun c then runLen s+1 else 0:=by
 unfold runLen;rw [List.takeWhile_cons];split <;> simp
theorem drop_cons {s:By} {j:Nat} (h:j < s.length):s.drop j=s[j]::s.drop (j+1):=List.drop_eq_getElem_cons h
theorem lx_run_l (s:By) (hs:s.length≤maxLen):∀ (d j:Nat),s.length - j=d→j≤s.length→Ev (fun k=>lx_run.l1 k s (j:Int)) ((j+runLen (s.drop j):Nat):Int):=by
 intro d
 induction d with
 | zero =>
  intro j hd hj;obtain rfl:j=s.length:=by omega
  refine Ev.step (g:=fun k=>lx_run.l1 (k+1) s (s.length:Int)) ?_ (fun _=>rfl);simp only [lx_run.l1];refine eg (by omega) ?_;rw [List.drop_length];exact et
 | succ d ih =>
  intro j hd hj;have hlt:j < s.length:=by omega
  refine Ev.step (g:=fun k=>lx_run.l1 (k+1) s (j:Int)) ?_ (fun _=>rfl);simp only [lx_run.l1];refine ep (by omega) ?_;refine ebc (idx_at rfl hlt) ?_;refine eb (ea fun k=>lx_inRun_ k _) ?_;rw [drop_cons hlt,runLen_cons];cases h:inRun s[j]
  · refine eg (by simp) ?_
    exact et
  · refine ep rfl ?_
    rw [w64_succ (by simp only [maxLen] at hs;omega)];exact (ih (j+1) (by omega) hlt).cast (by simp only [if_true];omega)
theorem lx_run_ (s:By) (hs:s.length≤maxLen):Ev (fun k=>lx_run k s) (runLen s:Int):=by
 unfold lx_run;exact (lx_run_l s hs s.length 0 rfl (Nat.zero_le _)).cast (by simp)
theorem rf_run_ (s:By) (hs:s.length≤maxLen) {j:Nat} (hj:j≤s.length):Ev (fun k=>rf_run k s (j:Int)) ((j+runLen (s.drop j):Nat):Int):=by
 unfold rf_run;have key:∀ (d j:Nat),s.length - j=d→j≤s.length→Ev (fun k=>rf_run.l1 k s (j:Int)) ((j+runLen (s.drop j):Nat):Int):=by
  intro d
  induction d with
  | zero =>
   intro j hd hj;obtain rfl:j=s.length:=by omega
   refine Ev.step (g:=fun k=>rf_run.l1 (k+1) s (s.length:Int)) ?_ (fun _=>rfl);simp only [rf_run.l1];refine eg (by omega) ?_;rw [List.drop_length];exact et
  | succ d ih =>
   intro j hd hj;have hlt:j < s.length:=by omega
   refine Ev.step (g:=fun k=>rf_run.l1 (k+1) s (j:Int)) ?_ (fun _=>rfl);simp only [rf_run.l1];refine ep (by omega) ?_;refine ebc (idx_at rfl hlt) ?_;refine eb (ea fun k=>rf_within_ k _) ?_;rw [drop_cons hlt,runLen_cons];cases h:inRun s[j]
   · refine eg (by simp) ?_
     exact et
   · refine ep rfl ?_
     rw [w64_succ (by simp only [maxLen] at hs;omega)];exact (ih (j+1) (by omega) hlt).cast (by simp only [if_true];omega)
 exact key _ j rfl hj
def dval (base:Int) (c:UInt8):Int:=if isDigit c then (c.toNat:Int) - 48 else if 97≤c.toNat∧c.toNat≤102 then (c.toNat:Int) - 87 else if 65≤c.toNat∧c.toNat≤70 then (c.toNat:Int) - 55 else base
def digs (base:Int):Int→By→Option Int
 | n,[]=>some n
 | n,c::l=>if base≤dval base c then none else if 4294967295 < n * base+dval base c then none else digs base (n * base+dval base c) l
def digS (base:Int) (s:By):Int×Bool:=match digs base 0 s with
 | some n=>(n,!decide (s=[]))
 | none=>(0,false)
theorem isDigit_iff (c:UInt8):isDigit c=true ↔ 48≤c.toNat∧c.toNat≤57:=by simp [isDigit]
theorem u8sub (c:UInt8) (m:Int) (q:m≤c.toNat) (C:0≤m):IntKind.u8.wrap ((c.toNat:Int) - m)=(c.toNat:Int) - m:=IntWalk.u8_in _ (by have:=u8_lt c;omega)
theorem dval_ge (base:Int) (hb:0≤base) (c:UInt8):0≤dval base c:=by
 unfold dval
 split
 · rename_i h;have:=(isDigit_iff c).1 h;omega
 · split
   · omega
   · split <;> omega
theorem dval_le (base:Int) (hb:base≤16) (c:UInt8):dval base c≤16:=by
 unfold dval
 split
 · rename_i h;have:=(isDigit_iff c).1 h;omega
 · split
   · omega
   · split <;> omega
def Base (b:Int):Prop:=b=8∨b=10∨b=16
theorem dig_in {base n:Int} (hb:Base base) (q:0≤n) (C:n≤4294967295) (c:UInt8):w64 (w64 (n * base)+dval base c)=n * base+dval base c∧0≤n * base+dval base c:=by
 have D:=dval_ge base (by rcases hb with rfl | rfl | rfl <;> omega) c;have E:=dval_le base (by rcases hb with rfl | rfl | rfl <;> omega) c;rcases hb with rfl | rfl | rfl
 all_goals
  rw [w64_of (n:=n * _) (by omega) (by omega)];exact ⟨w64_of (by omega) (by omega),by omega⟩
theorem lx_digits_j (s:By) {base:Int} (hb:Base base) (n:Int) (q:0≤n) (C:n≤4294967295) (j:Nat) (hj:j < s.length) (hs:s.length≤maxLen)
 (ih:∀ n',0≤n'→n'≤4294967295→Ev (fun k=>lx_digits.l1 k s base n' ((j+1:Nat):Int)) (match digs base n' (s.drop (j+1)) with | some n=>(n,!decide (s=[])) | none=>(0,false))) :
 Ev (fun k=>lx_digits.j1 k s base n (j:Int) (dval base s[j])) (match digs base n (s.drop j) with | some n=>(n,!decide (s=[])) | none=>(0,false)):=by
 refine Ev.step (g:=fun k=>lx_digits.j1 (k+1) s base n (j:Int) (dval base s[j])) ?_ (fun _=>rfl);simp only [lx_digits.j1];obtain ⟨e1,D⟩:=dig_in hb q C s[j];rw [drop_cons hj,digs,e1];by_cases c1:base≤dval base s[j]
 · rw [if_pos c1]
   exact ep c1 et
 · rw [if_neg c1]
   refine eg c1 ?_;by_cases c2:4294967295 < n * base+dval base s[j]
   · rw [if_pos c2]
     exact ep c2 et
   · rw [if_neg c2]
     refine eg c2 ?_;rw [w64_succ (by simp only [maxLen] at hs;omega)];exact ih _ D (by omega)
theorem lx_digits_l (s:By) {base:Int} (hb:Base base) (hs:s.length≤maxLen):∀ (d j:Nat) (n:Int),s.length - j=d→j≤s.length→0≤n→n≤4294967295 →
 Ev (fun k=>lx_digits.l1 k s base n (j:Int)) (match digs base n (s.drop j) with | some n=>(n,!decide (s=[])) | none=>(0,false)):=by
 intro d
 induction d with
 | zero =>
  intro j n hd hj _ _;obtain rfl:j=s.length:=by omega
  refine Ev.step (g:=fun k=>lx_digits.l1 (k+1) s base n (s.length:Int)) ?_ (fun _=>rfl);simp only [lx_digits.l1];refine eg (by omega) ?_;rw [List.drop_length,digs];exact et
 | succ d ih =>
  intro j n hd hj C D;have hlt:j < s.length:=by omega
  have hJ:=lx_digits_j s hb n C D j hlt hs (fun n' a b=>ih (j+1) n' (by omega) hlt a b);refine Ev.step (g:=fun k=>lx_digits.l1 (k+1) s base n (j:Int)) ?_ (fun _=>rfl);simp only [lx_digits.l1];refine ep (by omega) ?_;refine ebc (idx_at rfl hlt) ?_;refine eb (ea fun k=>lx_digit_ k _) ?_;have hu:=u8_lt s[j];by_cases c1:isDigit s[j]=true
  · refine ep c1 ?_
    have hc:=(isDigit_iff s[j]).1 c1;rw [show w64 (IntKind.u8.wrap ((s[j].toNat:Int) - 48))=dval base s[j] from by rw [u8sub _ _ (by omega) (by omega),w64_of (by omega) (by omega),dval,if_pos c1]];exact hJ
  · refine eg c1 ?_
    have q:∀ b:Bool,(b=true ↔ 97≤s[j].toNat∧s[j].toNat≤102)→Ev (fun k=>lx_digits.j2 k s base n (j:Int) s[j] b) (match digs base n (s.drop j) with | some n=>(n,!decide (s=[])) | none=>(0,false)):=by
     intro b hbb;refine Ev.step (g:=fun k=>lx_digits.j2 (k+1) s base n (j:Int) s[j] b) ?_ (fun _=>rfl);simp only [lx_digits.j2];by_cases c2:b=true
     · refine ep c2 ?_
       have hc:=hbb.1 c2;rw [show w64 (w64 (IntKind.u8.wrap ((s[j].toNat:Int) - 97))+10)=dval base s[j] from by
        rw [u8sub _ _ (by omega) (by omega),w64_of (n:=(s[j].toNat:Int) - 97) (by omega) (by omega),w64_of (by omega) (by omega),dval,if_neg c1,if_pos hc];omega]
       exact hJ
     · refine eg c2 ?_
       have hc:¬ (97≤s[j].toNat∧s[j].toNat≤102):=fun h=>c2 (hbb.2 h)
       by_cases c3:(65:Int)≤(s[j].toNat:Int)
       · refine ep c3 ?_
         by_cases c4:(s[j].toNat:Int)≤70
         · refine ep c4 ?_
           rw [show w64 (w64 (IntKind.u8.wrap ((s[j].toNat:Int) - 65))+10)=dval base s[j] from by
            rw [u8sub _ _ (by omega) (by omega),w64_of (n:=(s[j].toNat:Int) - 65) (by omega) (by omega),w64_of (by omega) (by omega),dval,if_neg c1,if_neg hc,if_pos ⟨by omega,by omega⟩];omega]
           exact hJ
         · refine eg c4 ?_
           have hd:dval base s[j]=base:=by rw [dval,if_neg c1,if_neg hc,if_neg (by omega)]
           have:=hJ;rw [hd] at this;exact this
       · refine eg c3 ?_
         have hd:dval base s[j]=base:=by rw [dval,if_neg c1,if_neg hc,if_neg (by omega)]
         have:=hJ;rw [hd] at this;exact this
    by_cases c2:(97:Int)≤(s[j].toNat:Int)
    · refine ep c2 ?_
      exact q _ (by simp;omega)
    · refine eg c2 ?_
      exact q false (by simp;omega)
theorem lx_digits_ (s:By) {base:Int} (hb:Base base) (hs:s.length≤68719476736):Ev (fun k=>lx_digits k s base) (digS base s):=by
 unfold lx_digits;refine ep hs ?_;exact (lx_digits_l s hb (by simp only [maxLen];omega) s.length 0 0 rfl (Nat.zero_le _) (by omega) (by omega)).cast (by simp [digS])
theorem rf_value_ (k:Nat) {base:Int} (hb:Base base) (c:UInt8):rf_value k (c.toNat:Int) base=some (if base≤dval base c then -1 else dval base c):=by
 have hu:=u8_lt c;have w1:∀ m:Int,0≤m→m≤c.toNat→w64 (IntKind.u8.wrap ((c.toNat:Int) - m))=(c.toNat:Int) - m:=fun m q C=>by rw [u8sub _ _ C q];exact w64_of (by omega) (by omega)
 have D:8≤base:=by rcases hb with rfl | rfl | rfl <;> omega
 have E:base≤16:=by rcases hb with rfl | rfl | rfl <;> omega
 have hA:97≤c.toNat→w64 (w64 (IntKind.u8.wrap ((c.toNat:Int) - 97))+10)=(c.toNat:Int) - 87:=fun h=>by rw [w1 97 (by omega) (by omega),w64_of (by omega) (by omega)];omega
 have hB:65≤c.toNat→w64 (w64 (IntKind.u8.wrap ((c.toNat:Int) - 65))+10)=(c.toNat:Int) - 55:=fun h=>by rw [w1 65 (by omega) (by omega),w64_of (by omega) (by omega)];omega
 have hC:48≤c.toNat→w64 (IntKind.u8.wrap ((c.toNat:Int) - 48))=(c.toNat:Int) - 48:=fun h=>w1 48 (by omega) (by omega)
 clear w1;unfold rf_value rf_value.j1 rf_value.j2 dval;simp only [isDigit_iff,decide_eq_true_eq,Bool.false_eq_true,if_false];generalize w64 (w64 (IntKind.u8.wrap ((c.toNat:Int) - 97))+10)=x at *;generalize w64 (w64 (IntKind.u8.wrap ((c.toNat:Int) - 65))+10)=y at *;generalize w64 (IntKind.u8.wrap ((c.toNat:Int) - 48))=z at *;have key:∀ a b:Int,a=b→some a=some b:=fun _ _ h=>by rw [h]
 (repeat' split) <;> (apply key;omega)
theorem rf_digits_ (s:By) {base:Int} (hb:Base base) (hs:s.length≤maxLen):Ev (fun k=>rf_digits k s base) (digS base s):=by
 unfold rf_digits;have key:∀ (d j:Nat) (n:Int),s.length - j=d→j≤s.length→0≤n→n≤4294967295 →
  Ev (fun k=>rf_digits.l1 k s base n (j:Int)) (match digs base n (s.drop j) with | some n=>(n,!decide (s=[])) | none=>(0,false)):=by
  intro d
  induction d with
  | zero =>
   intro j n hd hj _ _;obtain rfl:j=s.length:=by omega
   refine Ev.step (g:=fun k=>rf_digits.l1 (k+1) s base n (s.length:Int)) ?_ (fun _=>rfl);simp only [rf_digits.l1];refine eg (by omega) ?_;rw [List.drop_length,digs];exact et
  | succ d ih =>
   intro j n hd hj q C;have hlt:j < s.length:=by omega
   refine Ev.step (g:=fun k=>rf_digits.l1 (k+1) s base n (j:Int)) ?_ (fun _=>rfl);simp only [rf_digits.l1];refine ep (by omega) ?_;refine ebc (idx_at rfl hlt) ?_;refine eb (ea fun k=>rf_value_ k hb _) ?_;obtain ⟨e1,D⟩:=dig_in hb q C s[j];have E:=dval_ge base (by rcases hb with rfl | rfl | rfl <;> omega) s[j];rw [drop_cons hlt,digs];by_cases c1:base≤dval base s[j]
   · rw [if_pos c1,if_pos c1]
     exact ep (by omega) et
   · rw [if_neg c1,if_neg c1,e1]
     refine eg (by omega) ?_;by_cases c2:4294967295 < n * base+dval base s[j]
     · rw [if_pos c2]
       exact ep c2 et
     · rw [if_neg c2]
       refine eg c2 ?_;rw [w64_succ (by simp only [maxLen] at hs;omega)];exact ih (j+1) _ (by omega) hlt D (by omega)
 exact (key s.length 0 0 rfl (Nat.zero_le _) (by omega) (by omega)).cast (by simp [digS])
def numS (minus:Bool) (s:By):Int×Bool :=
 if minus then ((-(digS 10 s).1),(digS 10 s).2 && !decide (s.head? = some 48) && decide ((digS 10 s).1≤2147483648))
 else if s=[48] then (0,true)
 else if 2 < s.length∧s.take 2=[48,120] then digS 16 (s.drop 2)
 else if s.head? = some 48 then digS 8 (s.drop 1)
 else digS 10 s
theorem digs_in {base:Int} (hb:Base base):∀ (s:By) (n m:Int),0≤n→n≤4294967295→digs base n s=some m→0≤m∧m≤4294967295
 | [],n,m,q,C,h=>by simp only [digs,Option.some.injEq] at h;omega
 | c::s,n,m,q,C,h=>by
  rw [digs] at h
  split at h
  · cases h
  · split at h
    · cases h
    · exact digs_in hb s _ m (dig_in hb q C c).2 (by omega) h
theorem digS_in {base:Int} (hb:Base base) (s:By):0≤(digS base s).1∧(digS base s).1≤4294967295:=by
 unfold digS
 split
 · rename_i n h;exact digs_in hb s 0 n (by omega) (by omega) h
 · decide
theorem toNat48 (c:UInt8):((c.toNat:Int)=48) ↔ c=48:=by
 constructor
 · intro h;apply UInt8.toNat_inj.1;show c.toNat=48;omega
 · rintro rfl;rfl
theorem rf_number_ (minus:Bool) (s:By) (q:s≠[]) (hs:s.length≤maxLen):Ev (fun k=>rf_number k s minus) (numS minus s):=by
 obtain ⟨c,l,rfl⟩:∃ c l,s=c::l:=by cases s with | nil=>exact absurd rfl q | cons c l=>exact ⟨c,l,rfl⟩
 unfold rf_number numS;cases minus
 · refine eg (by simp) ?_
   rw [if_neg (by simp)];by_cases c1:c::l=[48]
   · rw [if_pos c1]
     exact ep c1 et
   · rw [if_neg c1]
     refine eg c1 ?_;have hj:∀ b:Bool,(b=true ↔ 2 < (c::l).length∧(c::l).take 2=[48,120])→Ev (fun k=>rf_number.j1 k (c::l) b) (if 2 < (c::l).length∧(c::l).take 2=[48,120] then digS 16 ((c::l).drop 2) else if (c::l).head? = some 48 then digS 8 ((c::l).drop 1) else digS 10 (c::l)):=by
      intro b hb;unfold rf_number.j1;by_cases c2:b=true
      · have hc:=hb.1 c2
        rw [if_pos hc];refine ep c2 ?_;refine ebc (cut_from (a:=2) rfl (by omega)) ?_;exact eb (rf_digits_ _ (.inr (.inr rfl)) (by simp only [List.length_drop];omega)) et
      · rw [if_neg (fun h=>c2 (hb.2 h))]
        refine eg c2 ?_;refine ebc (idx_at (j:=0) rfl (by simp)) ?_;by_cases c3:c=48
        · rw [if_pos (by simp [c3])]
          refine ep ((toNat48 _).2 c3) ?_;refine ebc (cut_from (a:=1) rfl (by simp)) ?_;exact eb (rf_digits_ _ (.inl rfl) (by simp at hs ⊢;omega)) et
        · rw [if_neg (by simpa using c3)]
          refine eg (fun h=>c3 ((toNat48 _).1 h)) ?_;exact eb (rf_digits_ _ (.inr (.inl rfl)) hs) et
     by_cases c2:(2:Int) < ((c::l).length:Int)
     · refine ep c2 ?_
       refine ebc (cut_to (b:=2) rfl (by omega)) ?_;exact hj _ ⟨fun h=>⟨by omega,of_decide_eq_true h⟩,fun h=>decide_eq_true h.2⟩
     · refine eg c2 ?_
       exact hj false ⟨fun h=>by (cases h),fun h=>absurd h.1 (by omega)⟩
 · refine ep rfl ?_
   rw [if_pos rfl];refine eb (rf_digits_ _ (.inr (.inl rfl)) hs) ?_;have hd:=digS_in (base:=10) (.inr (.inl rfl)) (c::l);rw [w64_of (n:=-(digS 10 (c::l)).1) (by omega) (by omega)];by_cases c1:(digS 10 (c::l)).2=true
   · refine ep c1 ?_
     refine ebc (idx_at (j:=0) rfl (by simp)) ?_;by_cases c3:c=48
     · refine ep ((toNat48 _).2 c3) ?_
       exact Ev.ret.cast (by simp [c3])
     · refine eg (fun h=>c3 ((toNat48 _).1 h)) ?_
       exact Ev.ret.cast (by simp [c3,c1])
   · refine eg c1 ?_
     exact Ev.ret.cast (by simp at c1;simp [c1])
theorem HasPrefix_ (k:Nat) (s p:By):HasPrefix k s p=some (decide (s.take p.length=p)):=by
 unfold HasPrefix st_HasPrefix;by_cases h:(p.length:Int)≤(s.length:Int)
 · rw [if_pos h,cut_to rfl (by omega)];rfl
 · rw [if_neg h]
   simp only [Option.bind_some]
   congr 1
   rw [Bool.eq_iff_iff];simp only [Bool.false_eq_true,decide_eq_true_eq,false_iff];intro e;have:=congrArg List.length e;rw [List.length_take] at this
   omega
theorem CutPrefix_ (k:Nat) (s p:By):CutPrefix k s p=some (if s.take p.length=p then (s.drop p.length,true) else (s,false)):=by
 unfold CutPrefix st_CutPrefix;have q:st_HasPrefix k s p=some (decide (s.take p.length=p)):=by
  have:=HasPrefix_ k s p;unfold HasPrefix at this;cases h:st_HasPrefix k s p with
  | none=>rw [h] at this;cases this
  | some b=>rw [h] at this;exact this
 rw [q];simp only [Option.bind_some,decide_eq_true_eq];by_cases h:s.take p.length=p
 · have hl:p.length≤s.length:=by have:=congrArg List.length h;rw [List.length_take] at this;omega
   rw [if_pos h,if_pos h,cut_from rfl hl];rfl
 · rw [if_neg h,if_neg h];rfl
end Go.Proofs.YtnhifhlbelogcaaGreatDoor
set_option linter.unusedVariables false
namespace Go.Proofs.YtnhifhlbelogcaaGreatDoor
open Go Go.Eng
def allWords:By:=[98,111,111,108,32,99,97,115,101,32,99,111,110,115,116,32,100,101,102,97,117,108,116,32,100,111,117,98,108,101,32,101,110,117,109,32,102,108,111,97,116,32,104,121,112,101,114,32,105,110,116,32,111,112,97,113,117,101,32,112,114,111,103,114,97,109,32,113,117,97,100,114,117,112,108,101,32,115,116,114,105,110,103,32,115,116,114,117,99,116,32,115,119,105,116,99,104,32,116,121,112,101,100,101,102,32,117,110,105,111,110,32,117,110,115,105,103,110,101,100,32,118,101,114,115,105,111,110,32,118,111,105,100]
def wordsB:By:=32::allWords++[32]
def wordsL:List By:=Lib.fields allWords
def isWord (s:By):Bool:=decide (s∈wordsL)
theorem gv_Fields_ (k:Nat):gv_Fields k allWords=some wordsL:=by
 unfold gv_Fields;rw [if_pos ⟨by decide +kernel,by decide +kernel⟩]
 rfl
theorem slContains_ (L:List By) (s:By) (hL:L.length≤1000000):Ev (fun k=>slContains k L s) (decide (s∈L)):=by
 have key:∀ (d j:Nat),L.length - j=d→j≤L.length→∃ r,Ev (fun k=>slIndex.l1 k L s (j:Int)) r∧(0≤r ↔ s∈L.drop j):=by
  intro d
  induction d with
  | zero =>
   intro j hd hj;obtain rfl:j=L.length:=by omega
   refine ⟨-1,Ev.step (g:=fun k=>slIndex.l1 (k+1) L s (L.length:Int)) ?_ (fun _=>rfl),by simp⟩;simp only [slIndex.l1];exact eg (by omega) et
  | succ d ih =>
   intro j hd hj;have hlt:j < L.length:=by omega
   obtain ⟨r,hr,hi⟩:=ih (j+1) (by omega) hlt;have hdr:L.drop j=L[j]::L.drop (j+1):=List.drop_eq_getElem_cons hlt;by_cases e:s=L[j]
   · refine ⟨j,Ev.step (g:=fun k=>slIndex.l1 (k+1) L s (j:Int)) ?_ (fun _=>rfl),?_⟩
     · simp only [slIndex.l1]
       refine ep (by omega) ?_;refine ebc (idx_at rfl hlt) ?_;exact ep e et
     · exact ⟨fun _=>by rw [hdr,e];exact List.mem_cons_self,fun _=>by omega⟩
   · refine ⟨r,Ev.step (g:=fun k=>slIndex.l1 (k+1) L s (j:Int)) ?_ (fun _=>rfl),?_⟩
     · simp only [slIndex.l1]
       refine ep (by omega) ?_;refine ebc (idx_at rfl hlt) ?_;refine eg e ?_;rw [w64_succ (by omega)];exact hr
     · rw [hdr,List.mem_cons,hi];exact ⟨.inr,fun h=>h.resolve_left e⟩
 obtain ⟨r,hr,hi⟩:=key L.length 0 rfl (Nat.zero_le _);unfold slContains slIndex;refine eb hr ?_;exact Ev.ret.cast (by rw [Bool.eq_iff_iff];simp [hi])
theorem lx_IsWord_ (s:By):Ev (fun k=>lx_IsWord k s) (isWord s):=by
 unfold lx_IsWord;refine eb (ea fun k=>gv_Fields_ k) ?_;exact eb (slContains_ wordsL s (by decide +kernel)) et
def occ (s:By) (i:Nat):Bool:=decide ((wordsB.take (i+(s.length+2))).drop i=32::s++[32])
def anyO (s:By):Nat→Nat→Bool
 | j,0=>false
 | j,d+1=>occ s j || anyO s (j+1) d
theorem anyO_ex (s:By):∀ (d j:Nat),anyO s j d=true→∃ i,j≤i∧i < j+d∧occ s i=true
 | 0,j,h=>by cases h
 | d+1,j,h=>by
  rw [anyO,Bool.or_eq_true] at h;rcases h with h | h
  · exact ⟨j,Nat.le_refl _,by omega,h⟩
  · obtain ⟨i,C,D,q⟩:=anyO_ex s d (j+1) h
    exact ⟨i,by omega,by omega,q⟩
def okWord (i n:Nat):Bool:=!(decide (0 < n) && decide (wordsB[i]? = some 32) && decide (wordsB[i+1+n]? = some 32) && ((wordsB.drop (i+1)).take n).all inRun) || decide ((wordsB.drop (i+1)).take n∈wordsL)
theorem okWords:((List.range 136).all fun i=>(List.range 136).all fun n=>okWord i n)=true:=by decide +kernel
theorem words_are:(wordsL.all fun w=>decide (w≠[]) && decide (runLen w=w.length) && anyO w 0 (136 - (w.length+2)) && decide (w.length≤12))=true:=by decide +kernel
theorem isWord_iff (s:By):isWord s=true ↔ s≠[]∧runLen s=s.length∧anyO s 0 (136 - (s.length+2))=true:=by
 unfold isWord;rw [decide_eq_true_eq]
 constructor
 · intro h
   have:=List.all_eq_true.1 words_are s h;simp only [Bool.and_eq_true,decide_eq_true_eq] at this;exact ⟨this.1.1.1,this.1.1.2,this.1.2⟩
 · rintro ⟨E,D,J⟩
   obtain ⟨i,_,hi,ho⟩:=anyO_ex s _ _ J;have hlen:s.length+2≤136:=by omega
   have C:=List.all_eq_true.1 (List.all_eq_true.1 okWords i (List.mem_range.2 (by omega))) s.length (List.mem_range.2 (by omega));unfold occ at ho;rw [decide_eq_true_eq] at ho;have hW:wordsB.length=135:=by decide +kernel
   have g:∀ q,q < s.length+2→wordsB[i+q]? = (32::s++[32])[q]?:=by
    intro q hq;rw [← ho,List.getElem?_drop,List.getElem?_take,if_pos (by omega)]
   have e1:(wordsB.drop (i+1)).take s.length=s:=by
    apply List.ext_getElem?
    intro q;by_cases hq:q < s.length
    · rw [List.getElem?_take,if_pos hq,List.getElem?_drop,show i+1+q=i+(q+1) by omega,g (q+1) (by omega)]
      rw [List.cons_append,List.getElem?_cons_succ,List.getElem?_append_left hq]
    · rw [List.getElem?_take,if_neg hq,List.getElem?_eq_none (by omega)]
   have O:wordsB[i]? = some 32:=by rw [show i=i+0 by omega,g 0 (by omega)];rfl
   have V:wordsB[i+1+s.length]? = some 32:=by
    rw [show i+1+s.length=i+(s.length+1) by omega,g (s.length+1) (by omega)];rw [List.cons_append,List.getElem?_cons_succ,List.getElem?_append_right (Nat.le_refl _)]
    simp
   have X:s.all inRun=true:=by
    rw [List.all_eq_true];unfold runLen at D;have Y:s.takeWhile inRun=s:=(List.takeWhile_prefix (p:=inRun) (l:=s)).eq_of_length D;intro c hc;rw [← Y] at hc;exact List.all_eq_true.1 (List.all_takeWhile (p:=inRun) (l:=s)) c hc
   unfold okWord at C;rw [e1,O,V,X,decide_eq_true (by have:=List.length_pos_iff.2 E;omega)] at C
   simpa using C
theorem big_max {n:Nat} (h:n≤140737488355328):n≤maxLen:=by simp only [maxLen];omega
theorem rf_IsWord_ (s:By) (hmax:s.length≤140737488355328):Ev (fun k=>rf_IsWord k s) (isWord s):=by
 unfold rf_IsWord;have hs:=big_max hmax;have C:wordsB.length=135:=by decide +kernel
 refine eb ((rf_run_ s hs (j:=0) (Nat.zero_le _)).cast (r':=(runLen s:Int)) (by simp)) ?_;have hW:∀ j:Nat,j+(s.length+2)≤135→cut wordsB (j:Int) ((j+(s.length+2):Nat):Int)=some ((wordsB.take (j+(s.length+2))).drop j):=fun j hj=>cut_at rfl rfl (by omega) (by omega)
 have hn:w64 ((s.length:Int)+2)=((s.length+2:Nat):Int):=by rw [w64_of (by omega) (by omega)];rfl
 have key:∀ (d j:Nat),136 - (j+(s.length+2))=d→j≤136→Ev (fun k=>rf_IsWord.l1 k s (runLen s:Int) (j:Int)) (decide (s≠[]) && decide (runLen s=s.length) && anyO s j d):=by
  intro d
  induction d with
  | zero =>
   intro j hd hj;refine Ev.step (g:=fun k=>rf_IsWord.l1 (k+1) s (runLen s:Int) (j:Int)) ?_ (fun _=>rfl);simp only [rf_IsWord.l1];rw [hn,w64_of (by omega) (by omega)];refine eg (by omega) ?_;refine Ev.step (g:=fun k=>rf_IsWord.j1 (k+1) s (runLen s:Int) (j:Int) false) ?_ (fun _=>rfl);simp only [rf_IsWord.j1];exact (eg (by simp) et).cast (by simp [anyO])
  | succ d ih =>
   intro j hd hj;have q:=ih (j+1) (by omega) (by omega);refine Ev.step (g:=fun k=>rf_IsWord.l1 (k+1) s (runLen s:Int) (j:Int)) ?_ (fun _=>rfl);simp only [rf_IsWord.l1];rw [hn,w64_of (by omega) (by omega)];refine ep (by omega) ?_;have hf:Ev (fun k=>rf_IsWord.j1 k s (runLen s:Int) (j:Int) false) false:=by
    refine Ev.step (g:=fun k=>rf_IsWord.j1 (k+1) s (runLen s:Int) (j:Int) false) ?_ (fun _=>rfl);simp only [rf_IsWord.j1];exact eg (by simp) et
   by_cases c1:s=[]
   · refine ep c1 ?_
     exact hf.cast (by simp [c1])
   · refine eg c1 ?_
     by_cases c2:runLen s=s.length
     · rw [decide_eq_true (show ((runLen s:Nat):Int)=(s.length:Int) from by omega)]
       refine Ev.step (g:=fun k=>rf_IsWord.j1 (k+1) s (runLen s:Int) (j:Int) true) ?_ (fun _=>rfl);simp only [rf_IsWord.j1];refine ep trivial ?_;rw [hn,show w64 ((j:Int)+((s.length+2:Nat):Int))=((j+(s.length+2):Nat):Int) from by rw [w64_of (by omega) (by omega)];omega];refine ebc (hW j (by omega)) ?_;refine ebc (cat_at (by simp;omega)) ?_;refine ebc (cat_at (by simp;omega)) ?_;have ho:occ s j=decide ((wordsB.take (j+(s.length+2))).drop j=[32]++s++[32]):=rfl;by_cases c3:(wordsB.take (j+(s.length+2))).drop j=[32]++s++[32]
       · refine ep c3 ?_
         exact Ev.ret.cast (by rw [anyO,ho,decide_eq_true c3];simp [c1,c2])
       · refine eg c3 ?_
         rw [w64_succ (by omega)];exact q.cast (by rw [anyO,ho,decide_eq_false c3];simp)
     · rw [decide_eq_false (show ¬ ((runLen s:Nat):Int)=(s.length:Int) from by omega)]
       exact hf.cast (by simp [c2])
 refine (key _ 0 rfl (by omega)).cast ?_;rw [Bool.eq_iff_iff,isWord_iff]
 simp [and_assoc]
theorem word_len {s:By} (h:isWord s=true):s.length≤12:=by
 unfold isWord at h;have:=List.all_eq_true.1 words_are s (by simpa using h);simp only [Bool.and_eq_true,decide_eq_true_eq] at this;exact this.2
end Go.Proofs.YtnhifhlbelogcaaGreatDoor
set_option linter.unusedVariables false
namespace Go.Proofs.YtnhifhlbelogcaaGreatDoor
open Go Go.Eng
def signs:By:=[123,125,40,41,91,93,60,62,61,59,58,44,42]
def isSign (c:UInt8):Bool:=decide (c∈signs)
theorem indexByte_iff (l:By) (c:UInt8):0≤Lib.indexByte l c ↔ c∈l:=by
 induction l with
 | nil=>simp [Lib.indexByte]
 | cons b l ih =>
  have hg:=Lib.indexByte_ge l c;unfold Lib.indexByte;by_cases h:b=c
  · subst h;simp
  · have hbc:(b == c)=false:=by simpa using h
    rw [hbc];simp only [Bool.false_eq_true,if_false];have hc:¬ c=b:=fun e=>h e.symm
    rw [List.mem_cons,or_iff_right hc,← ih];by_cases q:Lib.indexByte l c = -1
    · simp [q]
    · have C:(Lib.indexByte l c == -1)=false:=by simpa using q
      rw [C];simp only [Bool.false_eq_true,if_false];omega
theorem gv_sign (k:Nat) (c:UInt8):∃ r,gv_IndexByte k signs (c.toNat:Int)=some r∧(0≤r ↔ isSign c=true):=by
 refine ⟨_,rfl,?_⟩;have:(c.toNat:Int).toNat.toUInt8=c:=by simp
 rw [this,indexByte_iff]
 simp [isSign]
theorem rf_sign_ (c:UInt8):Ev (fun k=>rf_sign k (c.toNat:Int)) (isSign c):=by
 have key:∀ (d j:Nat),13 - j=d→j≤13→Ev (fun k=>rf_sign.l1 k (c.toNat:Int) (j:Int)) (decide (c∈signs.drop j)):=by
  intro d
  induction d with
  | zero =>
   intro j hd hj;obtain rfl:j=13:=by omega
   refine Ev.step (g:=fun k=>rf_sign.l1 (k+1) (c.toNat:Int) ((13:Nat):Int)) ?_ (fun _=>rfl);simp only [rf_sign.l1];exact eg (by omega) et
  | succ d ih =>
   intro j hd hj;have hlt:j < signs.length:=by show j < 13;omega
   refine Ev.step (g:=fun k=>rf_sign.l1 (k+1) (c.toNat:Int) (j:Int)) ?_ (fun _=>rfl);simp only [rf_sign.l1];refine ep (by omega) ?_;refine ebc (idx_at rfl hlt) ?_;have hdr:signs.drop j=signs[j]::signs.drop (j+1):=List.drop_eq_getElem_cons hlt;by_cases e:c=signs[j]
   · refine ep (by rw [e]) ?_
     exact Ev.ret.cast (by rw [hdr,decide_eq_true (by rw [← e];exact List.mem_cons_self)])
   · refine eg (fun h=>e (UInt8.toNat_inj.1 (by omega))) ?_
     rw [w64_succ (by omega)];exact (ih (j+1) (by omega) (by omega)).cast (by rw [hdr,Bool.eq_iff_iff,decide_eq_true_eq,decide_eq_true_eq,List.mem_cons,or_iff_right e])
 unfold rf_sign;exact key 13 0 rfl (by omega)
def ends:By:=[42,47]
theorem index_ge (s sub:By):-1≤Lib.index s sub:=Lib.index_ge s sub
theorem index_cons (c:UInt8) (l:By):Lib.index (c::l) ends=if (c::l).take 2=ends then 0 else if Lib.index l ends < 0 then -1 else Lib.index l ends+1:=by
 have hg:=index_ge l ends;rw [Lib.index];have e:(ends.isPrefixOf (c::l))=decide ((c::l).take 2=ends):=by
  rw [Bool.eq_iff_iff,decide_eq_true_eq,List.isPrefixOf_iff_prefix,List.prefix_iff_eq_take];exact ⟨fun h=>h.symm,fun h=>h.symm⟩
 rw [e];by_cases h:(c::l).take 2=ends
 · simp [h]
 · simp only [h,decide_false,Bool.false_eq_true,if_false]
   by_cases q:Lib.index l ends = -1
   · simp [q]
   · have C:(Lib.index l ends == -1)=false:=by simpa using q
     rw [C,if_neg (show ¬ Lib.index l ends < 0 by omega)];simp
theorem take2 (s:By) (j:Nat) (h:j+1 < s.length):(s.drop j).take 2=[s[j],s[j+1]]:=by
 rw [List.drop_eq_getElem_cons (by omega),List.drop_eq_getElem_cons (i:=j+1) (by omega)]
 rfl
theorem toNatN (c:UInt8) (n:Nat) (hn:n < 256):((c.toNat:Int)=(n:Int)) ↔ c=UInt8.ofNat n:=by
 constructor
 · intro h
   apply UInt8.toNat_inj.1
   rw [UInt8.toNat_ofNat_of_lt' hn]
   omega
 · rintro rfl
   rw [UInt8.toNat_ofNat_of_lt' hn]
theorem rf_comment_ (s:By) (hs:s.length≤16000) {j:Nat} (hj:j+2≤s.length) :
 Ev (fun k=>rf_comment k s (j:Int)) (if Lib.index (s.drop (j+2)) ends < 0 then 0 else ((j+4:Nat):Int)+Lib.index (s.drop (j+2)) ends):=by
 have key:∀ (d i:Nat),s.length - i=d→i≤s.length→Ev (fun k=>rf_comment.l1 k s (i:Int)) (if Lib.index (s.drop i) ends < 0 then 0 else ((i+2:Nat):Int)+Lib.index (s.drop i) ends):=by
  intro d
  induction d with
  | zero =>
   intro i hd hi;obtain rfl:i=s.length:=by omega
   refine Ev.step (g:=fun k=>rf_comment.l1 (k+1) s (s.length:Int)) ?_ (fun _=>rfl);simp only [rf_comment.l1];rw [w64_succ (by omega)];refine eg (by omega) ?_;rw [List.drop_length];exact et
  | succ d ih =>
   intro i hd hi;have hlt:i < s.length:=by omega
   have hih:=ih (i+1) (by omega) hlt;have hdr:s.drop i=s[i]::s.drop (i+1):=List.drop_eq_getElem_cons hlt;have hg:=index_ge (s.drop (i+1)) ends;refine Ev.step (g:=fun k=>rf_comment.l1 (k+1) s (i:Int)) ?_ (fun _=>rfl);simp only [rf_comment.l1];rw [w64_succ (by omega)];by_cases C:i+1 < s.length
   · refine ep (by omega) ?_
     refine ebc (idx_at rfl hlt) ?_;have ht:=take2 s i C;have step:¬ (s.drop i).take 2=ends→(if Lib.index (s.drop (i+1)) ends < 0 then 0 else ((i+1+2:Nat):Int)+Lib.index (s.drop (i+1)) ends)=(if Lib.index (s.drop i) ends < 0 then 0 else ((i+2:Nat):Int)+Lib.index (s.drop i) ends):=by
      intro h;rw [hdr] at h ⊢;rw [index_cons,if_neg h];by_cases q:Lib.index (s.drop (i+1)) ends < 0
      · rw [if_pos q,if_pos q,if_pos (by omega)]
      · rw [if_neg q,if_neg q,if_neg (by omega)];omega
     by_cases c1:s[i]=42
     · refine ep ((toNatN _ 42 (by decide)).2 c1) ?_
       refine ebc (idx_at rfl C) ?_;by_cases c2:s[i+1]=47
       · refine ep ((toNatN _ 47 (by decide)).2 c2) ?_
         rw [w64_of (by omega) (by omega)];refine Ev.ret.cast ?_;rw [c1,c2] at ht;have ht':List.take 2 (List.drop i s)=ends:=ht;rw [hdr,index_cons,← hdr,if_pos ht',if_neg (by omega)]
         omega
       · refine eg (fun h=>c2 ((toNatN _ 47 (by decide)).1 h)) ?_
         exact hih.cast (step (by rw [ht];intro h;exact c2 (by injection h with _ h;injection h)))
     · refine eg (fun h=>c1 ((toNatN _ 42 (by decide)).1 h)) ?_
       exact hih.cast (step (by rw [ht];intro h;exact c1 (by injection h)))
   · refine eg (by omega) ?_
     have D:s.drop (i+1)=[]:=List.drop_eq_nil_of_le (by omega);refine Ev.ret.cast ?_;have E:Lib.index [] ends = -1:=rfl;rw [hdr,D,index_cons,if_neg (show ¬ List.take 2 [s[i]]=ends by simp [ends]),E]
     rfl
 unfold rf_comment;rw [show w64 ((j:Int)+2)=((j+2:Nat):Int) from by rw [w64_of (by omega) (by omega)];rfl];exact (key _ (j+2) rfl hj).cast (by split <;> omega)
inductive Nx where
 | bad (e:Int)
 | skip (n:Nat)
 | tok (t:Token) (n:Nat)
def tzt:Token:=⟨0,[],0,0⟩
def minusDigit (c:UInt8) (l:By):Bool:=decide (c=45) && (match l with | []=>false | d::_=>isDigit d)
def nextS (m:By):Nx:=match m with
 | []=>.bad 0
 | c::l =>
  if isBlank c then .skip 1
  else if (c::l).take 2=[47,42] then (if Lib.index ((c::l).drop 2) ends < 0 then .bad 33 else .skip ((Lib.index ((c::l).drop 2) ends).toNat+4))
  else if isLetter c then (if isWord ((c::l).take (runLen (c::l))) then .tok ⟨2,(c::l).take (runLen (c::l)),0,0⟩ (runLen (c::l)) else if 32 < runLen (c::l) then .bad 32 else .tok ⟨1,(c::l).take (runLen (c::l)),0,0⟩ (runLen (c::l)))
  else if isDigit c || minusDigit c l then (if (numS (decide (c=45)) (if c=45 then l.take (runLen l) else (c::l).take (1+runLen l))).2 then .tok ⟨3,[],(numS (decide (c=45)) (if c=45 then l.take (runLen l) else (c::l).take (1+runLen l))).1,0⟩ (1+runLen l) else .bad 31)
  else if isSign c then .tok ⟨4,[c],0,0⟩ 1
  else .bad 30
def Nx.out:Nx→Token×Int×Int
 | .bad e=>(tzt,0,e)
 | .skip n=>(tzt,(n:Int),0)
 | .tok t n=>(t,(n:Int),0)
theorem begins_ (c:UInt8) (l:By) (hs:(c::l).length≤16000) :
 Ev (fun k=>lx_begins k (c::l)) (if isBlank c then 1 else if (c::l).take 2=[47,42] then 2 else if isLetter c then 3 else if isDigit c || minusDigit c l then 4 else if isSign c then 5 else 0):=by
 have hsign:Ev (fun k=>(gv_IndexByte k signs (c.toNat:Int)).bind fun t=>if 0≤t then some (5:Int) else some 0) (if isSign c then 5 else 0):=by
  obtain ⟨r,D,C⟩:=gv_sign 0 c;refine eb (r:=r) (ea fun k=>D) ?_;by_cases h:isSign c=true
  · rw [if_pos h];exact ep (C.2 h) et
  · rw [if_neg h];exact eg (fun e=>h (C.1 e)) et
 unfold lx_begins;refine ebc (idx_at (j:=0) rfl (by simp)) ?_;refine eb (ea fun k=>lx_isBlank_ k c) ?_;by_cases c1:isBlank c=true
 · rw [if_pos c1];exact ep c1 et
 rw [if_neg c1];refine eg c1 ?_;refine eb (ea fun k=>HasPrefix_ k _ _) ?_;by_cases c2:(c::l).take 2=[47,42]
 · rw [if_pos c2];exact ep (decide_eq_true c2) et
 rw [if_neg c2];refine eg (by simpa using c2) ?_;refine eb (ea fun k=>lx_letter_ k c) ?_;by_cases c3:isLetter c=true
 · rw [if_pos c3];exact ep c3 et
 rw [if_neg c3];refine eg c3 ?_;refine eb (ea fun k=>lx_digit_ k c) ?_;by_cases c4:isDigit c=true
 · rw [if_pos (by simp [c4])];exact ep c4 et
 refine eg c4 ?_;simp only [Bool.not_eq_true] at c4;rw [c4,Bool.false_or];by_cases q:c=45
 · refine ep ((toNatN _ 45 (by decide)).2 q) ?_
   cases l with
   | nil =>
    refine eg (by simp) ?_;exact hsign.cast (by simp [minusDigit])
   | cons d l =>
    refine ep (by simp;omega) ?_;refine ebc (idx_at (j:=1) rfl (by simp)) ?_;refine eb (ea fun k=>lx_digit_ k d) ?_;by_cases c6:isDigit d=true
    · rw [if_pos (by simp [minusDigit,q,c6])];exact ep c6 et
    · refine eg c6 ?_
      exact hsign.cast (by simp only [Bool.not_eq_true] at c6;simp [minusDigit,c6])
 · refine eg (fun h=>q ((toNatN _ 45 (by decide)).1 h)) ?_
   exact hsign.cast (by simp [minusDigit,q])
theorem numbered_ (c:UInt8) (l:By) (hs:(c::l).length≤16000) (h:c=45∧l≠[]∨isDigit c=true) :
 Ev (fun k=>lx_numbered k (c::l)) (numS (decide (c=45)) (if c=45 then l else c::l)):=by
 have q:isDigit 45=false:=by decide
 unfold lx_numbered;by_cases c1:c=45
 · subst c1
   have hl:l≠[]:=by
    rcases h with h | h
    · exact h.2
    · rw [q] at h;cases h
   obtain ⟨d,m,rfl⟩:∃ d m,l=d::m:=by cases l with | nil=>exact absurd rfl hl | cons d m=>exact ⟨d,m,rfl⟩
   refine eb (r:=(d::m,true)) (ea fun k=>by rw [CutPrefix_,if_pos (show List.take ([45]:By).length (45::d::m)=[45] from rfl)];rfl) ?_;rw [if_pos rfl,decide_eq_true rfl];refine eb (ea fun k=>CutPrefix_ k _ _) ?_;refine ep rfl ?_
   show Ev (fun k=>Option.bind (lx_digits k (d::m) 10) _) _
   refine eb (lx_digits_ _ (.inr (.inl rfl)) (by simp at hs ⊢;omega)) ?_;have hdd:=digS_in (base:=10) (.inr (.inl rfl)) (d::m);rw [w64_of (n:=-(digS 10 (d::m)).1) (by omega) (by omega)];unfold numS;rw [if_pos rfl];by_cases c2:(digS 10 (d::m)).2=true
   · refine ep c2 ?_
     refine ebc (idx_at (j:=0) rfl (by simp)) ?_;by_cases c3:d=48
     · refine ep ((toNat48 _).2 c3) ?_
       exact Ev.ret.cast (by simp [c3])
     · refine eg (fun h=>c3 ((toNat48 _).1 h)) ?_
       refine Ev.ret.cast ?_;rw [c2]
       simp [c3]
   · refine eg c2 ?_
     exact Ev.ret.cast (by simp at c2;simp [c2])
 · have hdc:isDigit c=true:=by
    rcases h with h | h
    · exact absurd h.1 c1
    · exact h
   rw [if_neg c1,decide_eq_false c1];refine eb (r:=(c::l,false)) (ea fun k=>by rw [CutPrefix_,if_neg (by simpa using c1)]) ?_;unfold numS;rw [if_neg (show ¬ false=true by simp)];by_cases c2:(c::l).take 2=[48,120]
   · refine eb (r:=((c::l).drop 2,true)) (ea fun k=>by rw [CutPrefix_];exact congrArg some (if_pos c2)) ?_
     refine eg (show ¬ false=true by simp) ?_;refine ep rfl ?_;refine eb (lx_digits_ _ (.inr (.inr rfl)) (by simp only [List.length_drop];omega)) ?_;refine Ev.ret.cast ?_;have C:2≤(c::l).length:=by have:=congrArg List.length c2;rw [List.length_take] at this;simp only [List.length_cons,List.length_nil] at this ⊢;omega
     rw [if_neg (by intro e;rw [e] at C;simp at C)];by_cases c3:2 < (c::l).length
     · rw [if_pos ⟨c3,c2⟩]
     · have hc:(c::l)=[48,120]:=by rw [← c2,List.take_of_length_le (by omega)]
       rw [hc]
       decide
   · refine eb (r:=(c::l,false)) (ea fun k=>by rw [CutPrefix_];exact congrArg some (if_neg c2)) ?_
     refine eg (show ¬ false=true by simp) ?_;refine eg (by simp) ?_;refine ebc (idx_at (j:=0) rfl (by simp)) ?_;rw [show (if 2 < (c::l).length∧List.take 2 (c::l)=[48,120] then digS 16 (List.drop 2 (c::l)) else if (c::l).head? = some 48 then digS 8 (List.drop 1 (c::l)) else digS 10 (c::l))=(if (c::l).head? = some 48 then digS 8 (List.drop 1 (c::l)) else digS 10 (c::l)) from if_neg (fun h=>c2 h.2)];have hj:∀ b:Bool,(b=true→c=48∧1 < (c::l).length)→(b=false→c≠48∨(c::l).length=1) →
      Ev (fun k=>lx_numbered.j1 k (c::l,false) b) (if c::l=[48] then (0,true) else if (c::l).head? = some 48 then digS 8 ((c::l).drop 1) else digS 10 (c::l)):=by
      intro b D E;unfold lx_numbered.j1;cases b with
      | true =>
       obtain ⟨e1,J⟩:=D rfl;refine ep rfl ?_;refine ebc (cut_from (a:=1) rfl (by simp)) ?_;refine eb (lx_digits_ _ (.inl rfl) (by simp only [List.length_drop];omega)) ?_;refine Ev.ret.cast ?_;rw [if_neg (by intro e;rw [e] at J;simp at J),if_pos (by simp [e1])]
      | false =>
       refine eg (by simp) ?_;refine eb (lx_digits_ _ (.inr (.inl rfl)) (show (c::l).length≤68719476736 by omega)) ?_;refine Ev.ret.cast ?_;by_cases e:c=48
       · have O:l=[]:=by
          rcases E rfl with h | h
          · exact absurd e h
          · simpa using h
         subst e;subst O
         decide
       · rw [if_neg (by intro h;exact e (by injection h)),if_neg (by simpa using e)]
     by_cases c3:c=48
     · refine ep ((toNat48 _).2 c3) ?_
       by_cases c4:(1:Int) < ((c::l).length:Int)
       · rw [decide_eq_true c4]
         exact hj true (fun _=>⟨c3,by exact_mod_cast c4⟩) (fun h=>by cases h)
       · rw [decide_eq_false c4]
         exact hj false (fun h=>by cases h) (fun _=>.inr (by have V:¬ 1 < (c::l).length:=fun h=>c4 (by exact_mod_cast h);rw [List.length_cons] at V ⊢;omega))
     · refine eg (fun h=>c3 ((toNat48 _).1 h)) ?_
       exact hj false (fun h=>by cases h) (fun _=>.inl c3)
end Go.Proofs.YtnhifhlbelogcaaGreatDoor
set_option linter.unusedVariables false
namespace Go.Proofs.YtnhifhlbelogcaaGreatDoor
open Go Go.Eng
theorem runLen_minus {c:UInt8} {l:By} (h:minusDigit c l=true):c=45∧l.take (runLen l)≠[]:=by
 unfold minusDigit at h;rw [Bool.and_eq_true,decide_eq_true_eq] at h;refine ⟨h.1,?_⟩;cases l with
 | nil=>cases h.2
 | cons d l =>
  have hd:isDigit d=true:=h.2;have hr:inRun d=true:=by simp [inRun,hd]
  rw [runLen_cons,if_pos hr]
  simp
theorem nextS_cons (c:UInt8) (l:By):nextS (c::l) =
 if isBlank c then .skip 1
 else if (c::l).take 2=[47,42] then (if Lib.index ((c::l).drop 2) ends < 0 then .bad 33 else .skip ((Lib.index ((c::l).drop 2) ends).toNat+4))
 else if isLetter c then (if isWord ((c::l).take (runLen (c::l))) then .tok ⟨2,(c::l).take (runLen (c::l)),0,0⟩ (runLen (c::l)) else if 32 < runLen (c::l) then .bad 32 else .tok ⟨1,(c::l).take (runLen (c::l)),0,0⟩ (runLen (c::l)))
 else if isDigit c || minusDigit c l then (if (numS (decide (c=45)) (if c=45 then l.take (runLen l) else (c::l).take (1+runLen l))).2 then .tok ⟨3,[],(numS (decide (c=45)) (if c=45 then l.take (runLen l) else (c::l).take (1+runLen l))).1,0⟩ (1+runLen l) else .bad 31)
 else if isSign c then .tok ⟨4,[c],0,0⟩ 1
 else .bad 30:=rfl
theorem index_in (l:By):¬ Lib.index l ends < 0→Lib.index l ends+2≤(l.length:Int):=by
 induction l with
 | nil=>intro h;exact absurd (show Lib.index [] ends < 0 by decide) h
 | cons c l ih =>
  rw [index_cons];intro h;by_cases q:(c::l).take 2=ends
  · rw [if_pos q] at h ⊢
    have:=congrArg List.length q;rw [List.length_take] at this;have e:ends.length=2:=rfl
    omega
  · rw [if_neg q] at h ⊢
    by_cases C:Lib.index l ends < 0
    · rw [if_pos C] at h;omega
    · rw [if_neg C] at h ⊢
      have:=ih C;rw [List.length_cons];omega
theorem lx_next_ (m:By) (C:m≠[]) (hs:m.length≤16000):Ev (fun k=>lx_next k m) (nextS m).out:=by
 obtain ⟨c,l,rfl⟩:∃ c l,m=c::l:=by cases m with | nil=>exact absurd rfl C | cons c l=>exact ⟨c,l,rfl⟩
 have hb:=begins_ c l hs;have hl:l.length≤15999:=by rw [List.length_cons] at hs;omega
 have hrl:=runLen_le l;unfold lx_next;refine eb hb ?_;rw [nextS_cons];by_cases c1:isBlank c=true
 · rw [if_pos c1,if_pos c1]
   exact ep rfl et
 rw [if_neg c1,if_neg c1];by_cases c2:(c::l).take 2=[47,42]
 · have D:2≤(c::l).length:=by have:=congrArg List.length c2;rw [List.length_take] at this;simp only [List.length_cons,List.length_nil] at this ⊢;omega
   rw [if_pos c2,if_pos c2];refine eg (by omega) (ep rfl ?_);refine ebc (cut_from (a:=2) rfl D) ?_;refine eb (r:=Lib.index ((c::l).drop 2) ends) (ea fun k=>if_pos (by rw [List.length_drop];omega)) ?_;have hlt:=index_in ((c::l).drop 2);rw [List.length_drop] at hlt;have hge:=index_ge ((c::l).drop 2) ends;by_cases c3:Lib.index ((c::l).drop 2) ends < 0
   · refine ep c3 (Ev.ret.cast ?_)
     rw [if_pos c3];rfl
   · refine eg c3 ?_
     rw [w64_of (show -9223372036854775808≤Lib.index (List.drop 2 (c::l)) ends+4 by omega) (show Lib.index (List.drop 2 (c::l)) ends+4≤9223372036854775807 by have:=hlt c3;omega)];refine Ev.ret.cast ?_;rw [if_neg c3];unfold Nx.out;have:(Lib.index (List.drop 2 (c::l)) ends)+4=(((Lib.index (List.drop 2 (c::l)) ends).toNat+4:Nat):Int):=by omega
     exact congrArg (fun z=>(tzt,z,(0:Int))) this
 rw [if_neg c2,if_neg c2];by_cases c3:isLetter c=true
 · rw [if_pos c3,if_pos c3]
   refine eg (by omega) (eg (by omega) (ep rfl ?_));have hr:=runLen_le (c::l);refine eb (lx_run_ _ (big_max (by omega))) ?_;refine ebc (cut_to (b:=runLen (c::l)) rfl hr) ?_;have hlen:(List.take (runLen (c::l)) (c::l)).length=runLen (c::l):=by rw [List.length_take];omega
   refine eb (lx_IsWord_ _) ?_;by_cases c4:isWord (List.take (runLen (c::l)) (c::l))=true
   · rw [if_pos c4]
     refine ep c4 ?_;refine Ev.ret.cast ?_;unfold Nx.out;rw [hlen]
   · rw [if_neg c4]
     refine eg c4 ?_;rw [hlen];by_cases q:32 < runLen (c::l)
     · rw [if_pos q]
       exact ep (by omega) et
     · rw [if_neg q]
       refine eg (by omega) ?_;refine Ev.ret.cast ?_;unfold Nx.out;rw [hlen]
 rw [if_neg c3,if_neg c3];by_cases c4:(isDigit c || minusDigit c l)=true
 · rw [if_pos c4,if_pos c4]
   refine eg (by omega) (eg (by omega) (eg (by omega) (ep rfl ?_)));refine ebc (cut_from (a:=1) rfl (by simp)) ?_;rw [show List.drop 1 (c::l)=l from rfl];refine eb (lx_run_ l (big_max (by omega))) ?_;have e1:w64 (1+(runLen l:Int))=((1+runLen l:Nat):Int):=by rw [w64_of (by omega) (by omega)];omega
   rw [e1];refine ebc (cut_to (b:=1+runLen l) rfl (by rw [List.length_cons];omega)) ?_;have E:List.take (1+runLen l) (c::l)=c::l.take (runLen l):=by rw [Nat.add_comm];rfl
   rw [E];have hcond:c=45∧l.take (runLen l)≠[]∨isDigit c=true:=by
    by_cases hd:isDigit c=true
    · exact .inr hd
    · simp only [Bool.not_eq_true] at hd
      rw [hd,Bool.false_or] at c4;exact .inl (runLen_minus c4)
   refine eb (numbered_ c (l.take (runLen l)) (by rw [List.length_cons,List.length_take];omega) hcond) ?_;by_cases q:(numS (decide (c=45)) (if c=45 then l.take (runLen l) else c::l.take (runLen l))).2=true
   · refine ep q (Ev.ret.cast ?_)
     rw [if_pos q];rfl
   · refine eg q (Ev.ret.cast ?_)
     rw [if_neg q];rfl
 rw [if_neg c4,if_neg c4];by_cases q:isSign c=true
 · rw [if_pos q,if_pos q]
   refine eg (by omega) (eg (by omega) (eg (by omega) (eg (by omega) (ep rfl ?_))));refine ebc (cut_to (b:=1) rfl (by simp)) ?_;exact et
 · rw [if_neg q,if_neg q]
   exact eg (by omega) (eg (by omega) (eg (by omega) (eg (by omega) (eg (by omega) et))))
def Nx.out2 (x:Nx) (a:Nat):Token×Int×Int:=match x with
 | .bad e=>(tzt,0,e)
 | .skip n=>(tzt,0,0)
 | .tok t n=>(⟨t.Kind,t.Text,t.Number,(a:Int)⟩,((a+n:Nat):Int),0)
theorem rf_one_j3 (s:By) (hs:s.length≤16000) {a:Nat} (c:UInt8) (l:By) (hd:s.drop a=c::l) (ha:a < s.length) {x:Int} {y:Nat} (hx:x=(y:Int)) (hy:y=if c=45 then a+1 else a) (b:Bool) (hb:b=(isDigit c || minusDigit c l)) :
 Ev (fun k=>rf_one.j3 k s (a:Int) c x b) (Nx.out2 (if isDigit c || minusDigit c l then (if (numS (decide (c=45)) (if c=45 then l.take (runLen l) else (c::l).take (1+runLen l))).2 then .tok ⟨3,[],(numS (decide (c=45)) (if c=45 then l.take (runLen l) else (c::l).take (1+runLen l))).1,0⟩ (1+runLen l) else .bad 31)
 else if isSign c then .tok ⟨4,[c],0,0⟩ 1
 else .bad 30) a):=by
 have hdl:s.drop (a+1)=l:=by rw [← List.drop_drop,hd];rfl
 have hll:l.length=s.length - (a+1):=by rw [← hdl,List.length_drop]
 have hrl:=runLen_le l;have hdec:decide ((c.toNat:Int)=45)=decide (c=45):=by
  by_cases h:c=45
  · subst h;rfl
  · rw [decide_eq_false h,decide_eq_false (show ¬ (c.toNat:Int)=45 from fun e=>h ((toNatN _ 45 (by decide)).1 e))]
 subst hx;unfold rf_one.j3;rw [← hb];cases b with
 | true =>
  rw [if_pos rfl];refine ep rfl ?_;have hyl:y≤s.length:=by rw [hy];split <;> omega
  refine eb (rf_run_ s (big_max (by omega)) hyl) ?_;have hr:runLen (s.drop y)≤s.length - y:=by have:=runLen_le (s.drop y);rw [List.length_drop] at this;exact this
  refine ebc (cut_at (a:=y) (b:=y+runLen (s.drop y)) rfl rfl (by omega) (by omega)) ?_;have C:y+runLen (s.drop y)=a+(1+runLen l)∧(List.take (y+runLen (s.drop y)) s).drop y=(if c=45 then l.take (runLen l) else (c::l).take (1+runLen l))∧(if c=45 then l.take (runLen l) else (c::l).take (1+runLen l))≠[]:=by
   have E:(List.take (y+runLen (s.drop y)) s).drop y=(s.drop y).take (runLen (s.drop y)):=by rw [List.drop_take,Nat.add_sub_cancel_left]
   rw [E];by_cases h:c=45
   · rw [if_pos h] at hy ⊢
     subst hy;rw [hdl];refine ⟨by omega,rfl,?_⟩;have D:isDigit c=false:=by rw [h];decide
     rw [D,Bool.false_or] at hb;exact (runLen_minus hb.symm).2
   · rw [if_neg h] at hy ⊢
     subst hy;rw [hd];have hdg:isDigit c=true:=by
      by_cases hd':isDigit c=true
      · exact hd'
      · simp only [Bool.not_eq_true] at hd'
        rw [hd',Bool.false_or] at hb;exact absurd (runLen_minus hb.symm).1 h
     have hr:inRun c=true:=by simp [inRun,hdg]
     rw [runLen_cons,if_pos hr];refine ⟨by omega,by rw [Nat.add_comm],by rw [Nat.add_comm];simp⟩
  rw [C.2.1,C.1,hdec];refine eb (rf_number_ _ _ C.2.2 ?_) ?_
  · refine big_max ?_
    rw [← C.2.1,List.length_drop,List.length_take];omega
  · by_cases q:(numS (decide (c=45)) (if c=45 then l.take (runLen l) else (c::l).take (1+runLen l))).2=true
    · refine ep q (Ev.ret.cast ?_)
      rw [if_pos q];rfl
    · refine eg q (Ev.ret.cast ?_)
      rw [if_neg q];rfl
 | false =>
  rw [if_neg (by simp)];refine eg (by simp) ?_;refine eb (rf_sign_ c) ?_;by_cases q:isSign c=true
  · refine ep q ?_
    rw [w64_succ (by omega)];refine ebc (cut_at (a:=a) (b:=a+1) rfl rfl (by omega) (by omega)) ?_;refine Ev.ret.cast ?_;rw [if_pos q];have:(List.take (a+1) s).drop a=[c]:=by rw [List.drop_take,hd];simp
    rw [this];rfl
  · refine eg q (Ev.ret.cast ?_)
    rw [if_neg q];rfl
theorem rf_one_ (s:By) (hs:s.length≤16000) {a:Nat} (ha:a < s.length) (c:UInt8) (l:By) (hd:s.drop a=c::l) (hb:¬ isBlank c=true) (E:¬ (c::l).take 2=[47,42]) :
 Ev (fun k=>rf_one k s (a:Int)) ((nextS (s.drop a)).out2 a):=by
 have hsa:s[a]=c:=by have:=List.drop_eq_getElem_cons ha;rw [hd] at this;injection this with h _;exact h.symm
 have hdl:s.drop (a+1)=l:=by rw [← List.drop_drop,hd];rfl
 have hll:l.length=s.length - (a+1):=by rw [← hdl,List.length_drop]
 have hrl:=runLen_le (c::l);have hcl:(c::l).length=s.length - a:=by rw [← hd,List.length_drop]
 rw [hd];unfold rf_one;rw [nextS_cons];rw [if_neg hb,if_neg E];refine ebc (idx_at rfl ha) ?_;rw [hsa];refine eb (ea fun k=>rf_letter_ k c) ?_;by_cases c3:isLetter c=true
 · rw [if_pos c3]
   refine ep c3 ?_;refine eb (rf_run_ s (big_max (by omega)) (Nat.le_of_lt ha)) ?_;rw [hd];refine ebc (cut_at (a:=a) (b:=a+runLen (c::l)) rfl rfl (by omega) (by omega)) ?_;have J:(List.take (a+runLen (c::l)) s).drop a=(c::l).take (runLen (c::l)):=by rw [List.drop_take,Nat.add_sub_cancel_left,hd]
   rw [J];have hlen:(List.take (runLen (c::l)) (c::l)).length=runLen (c::l):=by rw [List.length_take];omega
   refine eb (rf_IsWord_ _ (by rw [hlen];omega)) ?_;unfold rf_one.j1;rw [hlen];by_cases c4:isWord (List.take (runLen (c::l)) (c::l))=true
   · have:=word_len c4
     rw [hlen] at this;refine ep c4 (eg (by omega) (Ev.ret.cast ?_));rw [if_pos c4];rfl
   · refine eg c4 ?_
     by_cases q:32 < runLen (c::l)
     · refine ep (by omega) (Ev.ret.cast ?_)
       rw [if_neg c4,if_pos q];rfl
     · refine eg (by omega) (Ev.ret.cast ?_)
       rw [if_neg c4,if_neg q];rfl
 rw [if_neg c3];refine eg c3 ?_;by_cases q:c=45
 · refine ep ((toNatN _ 45 (by decide)).2 q) ?_
   rw [w64_succ (by omega)];unfold rf_one.j2;have C:isDigit c=false:=by rw [q];decide
   cases l with
   | nil =>
    refine eg (by simp at hll;omega) ?_;exact rf_one_j3 s hs c [] hd ha rfl (by rw [if_pos q]) false (by rw [C];simp [minusDigit])
   | cons d l' =>
    have D:a+1 < s.length:=by simp at hll;omega
    refine ep (by omega) ?_;refine ebc (idx_at rfl D) ?_;have:s[a+1]=d:=by have:=List.drop_eq_getElem_cons D;rw [hdl] at this;injection this with h _;exact h.symm
    rw [this];refine eb (ea fun k=>rf_digit_ k d) ?_;exact rf_one_j3 s hs c (d::l') hd ha rfl (by rw [if_pos q]) _ (by rw [C];simp [minusDigit,q])
 · refine eg (fun h=>q ((toNatN _ 45 (by decide)).1 h)) ?_
   unfold rf_one.j2;refine ep (by omega) ?_;refine ebc (idx_at rfl ha) ?_;rw [hsa];refine eb (ea fun k=>rf_digit_ k c) ?_;exact rf_one_j3 s hs c l hd ha rfl (by rw [if_neg q]) _ (by simp [minusDigit,q])
end Go.Proofs.YtnhifhlbelogcaaGreatDoor
set_option linter.unusedVariables false
namespace Go.Proofs.YtnhifhlbelogcaaGreatDoor
open Go Go.Eng
def Nx.ok (m:By):Nx→Prop
 | .bad e=>e=30∨e=31∨e=32∨e=33
 | .skip n=>1≤n∧n≤m.length
 | .tok t n=>1≤n∧n≤m.length∧t.Kind≠0
theorem nextS_ok (m:By) (D:m≠[]):(nextS m).ok m:=by
 obtain ⟨c,l,rfl⟩:∃ c l,m=c::l:=by cases m with | nil=>exact absurd rfl D | cons c l=>exact ⟨c,l,rfl⟩
 have hr:=runLen_le (c::l);have hl:=runLen_le l;have hll:(c::l).length=l.length+1:=rfl;rw [nextS_cons];by_cases c1:isBlank c=true
 · rw [if_pos c1];exact ⟨Nat.le_refl _,by omega⟩
 rw [if_neg c1];by_cases c2:(c::l).take 2=[47,42]
 · have E:2≤(c::l).length:=by have:=congrArg List.length c2;rw [List.length_take] at this;simp only [List.length_cons,List.length_nil] at this ⊢;omega
   rw [if_pos c2];by_cases c3:Lib.index ((c::l).drop 2) ends < 0
   · rw [if_pos c3];exact .inr (.inr (.inr rfl))
   · rw [if_neg c3]
     have:=index_in _ c3;rw [List.length_drop] at this;exact ⟨by omega,by omega⟩
 rw [if_neg c2];by_cases c3:isLetter c=true
 · rw [if_pos c3]
   have hin:inRun c=true:=by simp [inRun,c3]
   have q:1≤runLen (c::l):=by rw [runLen_cons,if_pos hin];omega
   split
   · exact ⟨q,hr,show (2:Int)≠0 by decide⟩
   · split
     · exact .inr (.inr (.inl rfl))
     · exact ⟨q,hr,show (1:Int)≠0 by decide⟩
 rw [if_neg c3];by_cases c4:(isDigit c || minusDigit c l)=true
 · rw [if_pos c4]
   by_cases C:(numS (decide (c=45)) (if c=45 then l.take (runLen l) else (c::l).take (1+runLen l))).2=true
   · rw [if_pos C]
     exact ⟨by omega,by omega,show (3:Int)≠0 by decide⟩
   · rw [if_neg C]
     exact .inr (.inl rfl)
 rw [if_neg c4]
 split
 · exact ⟨by omega,by omega,show (4:Int)≠0 by decide⟩
 · exact .inl rfl
def Token.put (t:Token) (a:Nat):Token:=⟨t.Kind,t.Text,t.Number,(a:Int)⟩
def scanG:Nat→By→Nat→List Token→List Token×Int×Int
 | 0,_,_,_=>([],0,0)
 | d+1,s,a,acc=>if a < s.length then (match nextS (s.drop a) with
  | .bad e=>([],e,(a:Int))
  | .skip n=>scanG d s (a+n) acc
  | .tok t n=>scanG d s (a+n) (acc++[t.put a]))
  else (acc++[⟨5,[],0,(s.length:Int)⟩],0,0)
def scanS (s:By):List Token×Int×Int:=if 16000 < s.length then ([],34,16000) else scanG (s.length+1) s 0 []
theorem drop_ne {s:By} {a:Nat} (h:a < s.length):s.drop a≠[]:=by
 intro e;have:=congrArg List.length e;rw [List.length_drop,List.length_nil] at this;omega
theorem lx_Scan_l (s:By) (hs:s.length≤16000):∀ (d a:Nat) (acc:List Token),s.length < a+d→a≤s.length→acc.length≤a→Ev (fun k=>lx_Scan.l1 k s acc (a:Int)) (scanG d s a acc):=by
 intro d
 induction d with
 | zero=>intro a acc C D;omega
 | succ d ih =>
  intro a acc C D O;refine Ev.step (g:=fun k=>lx_Scan.l1 (k+1) s acc (a:Int)) ?_ (fun _=>rfl);simp only [lx_Scan.l1];rw [scanG];by_cases ha:a < s.length
  · rw [if_pos ha]
    refine ep (by omega) ?_;refine ebc (cut_from (a:=a) rfl (by omega)) ?_;refine eb (lx_next_ _ (drop_ne ha) (by rw [List.length_drop];omega)) ?_;have hok:=nextS_ok _ (drop_ne ha);generalize nextS (s.drop a)=x at hok ⊢;cases x with
    | bad e =>
     have he:e≠0:=by rcases hok with h | h | h | h <;> subst h <;> decide
     exact eg he et
    | skip n =>
     obtain ⟨E,q⟩:=hok;rw [List.length_drop] at q;refine ep rfl (ep rfl ?_);have e:w64 ((a:Int)+(Nx.skip n).out.2.1)=((a+n:Nat):Int):=by show w64 ((a:Int)+(n:Int))=_;rw [w64_of (by omega) (by omega)];rfl
     rw [e];exact ih (a+n) acc (by omega) (by omega) (by omega)
    | tok t n =>
     obtain ⟨E,q,J⟩:=hok;rw [List.length_drop] at q;refine ep rfl (eg J ?_);refine ebc (cat_at (by simp;omega)) ?_;have e:w64 ((a:Int)+(Nx.tok t n).out.2.1)=((a+n:Nat):Int):=by show w64 ((a:Int)+(n:Int))=_;rw [w64_of (by omega) (by omega)];rfl
     rw [e];exact ih (a+n) (acc++[t.put a]) (by omega) (by omega) (by simp;omega)
  · rw [if_neg ha]
    refine eg (by omega) ?_;exact ebc (cat_at (by simp;omega)) et
theorem lx_Scan_ (s:By):Ev (fun k=>lx_Scan k s) (scanS s):=by
 unfold lx_Scan scanS;by_cases h:16000 < s.length
 · rw [if_pos h];exact ep (by omega) et
 · rw [if_neg h]
   refine eg (by omega) ?_;exact lx_Scan_l s (by omega) (s.length+1) 0 [] (by omega) (by omega) (Nat.le_refl _)
theorem noskip {c:UInt8} {l:By} (c1:¬ isBlank c=true) (c2:¬ (c::l).take 2=[47,42]) (n:Nat):nextS (c::l)≠.skip n:=by
 intro h;rw [nextS_cons,if_neg c1,if_neg c2] at h
 split at h
 · split at h
   · cases h
   · split at h <;> cases h
 · by_cases c4:(isDigit c || minusDigit c l)=true
   · rw [if_pos c4] at h
     by_cases q:(numS (decide (c=45)) (if c=45 then l.take (runLen l) else (c::l).take (1+runLen l))).2=true
     · rw [if_pos q] at h;cases h
     · rw [if_neg q] at h;cases h
   · rw [if_neg c4] at h
     split at h <;> cases h
theorem rf_Scan_l (s:By) (hs:s.length≤16000):∀ (d a:Nat) (acc:List Token),s.length < a+d→a≤s.length→acc.length≤a→Ev (fun k=>rf_Scan.l1 k s acc (a:Int)) (scanG d s a acc):=by
 intro d
 induction d with
 | zero=>intro a acc E J;omega
 | succ d ih =>
  intro a acc E J Y;refine Ev.step (g:=fun k=>rf_Scan.l1 (k+1) s acc (a:Int)) ?_ (fun _=>rfl);simp only [rf_Scan.l1];rw [scanG];by_cases ha:a < s.length
  · rw [if_pos ha]
    refine ep (by omega) ?_;refine ebc (idx_at rfl ha) ?_;have hdr:s.drop a=s[a]::s.drop (a+1):=List.drop_eq_getElem_cons ha;have blank:isBlank s[a]=true→Ev (fun k=>rf_Scan.j1 k s acc (a:Int) s[a] true) (match nextS (s.drop a) with
     | .bad e=>([],e,(a:Int))
     | .skip n=>scanG d s (a+n) acc
     | .tok t n=>scanG d s (a+n) (acc++[t.put a])):=by
     intro hb;rw [hdr,nextS_cons,if_pos hb];refine Ev.step (g:=fun k=>rf_Scan.j1 (k+1) s acc (a:Int) s[a] true) ?_ (fun _=>rfl);simp only [rf_Scan.j1];refine ep trivial ?_;rw [w64_succ (by omega)];exact ih (a+1) acc (by omega) (by omega) (by omega)
    have other:¬ isBlank s[a]=true→Ev (fun k=>rf_Scan.j1 k s acc (a:Int) s[a] false) (match nextS (s.drop a) with
     | .bad e=>([],e,(a:Int))
     | .skip n=>scanG d s (a+n) acc
     | .tok t n=>scanG d s (a+n) (acc++[t.put a])):=by
     intro hb;have plain:¬ (s.drop a).take 2=[47,42]→Ev (fun k=>rf_Scan.j2 k s acc (a:Int)) (match nextS (s.drop a) with
      | .bad e=>([],e,(a:Int))
      | .skip n=>scanG d s (a+n) acc
      | .tok t n=>scanG d s (a+n) (acc++[t.put a])):=by
      intro ht;rw [hdr] at ht;refine Ev.step (g:=fun k=>rf_Scan.j2 (k+1) s acc (a:Int)) ?_ (fun _=>rfl);simp only [rf_Scan.j2];refine eb (rf_one_ s hs ha _ _ hdr hb ht) ?_;have hok:=nextS_ok _ (drop_ne ha);have hns:∀ n,nextS (s.drop a)≠.skip n:=by rw [hdr];exact noskip hb ht
      generalize nextS (s.drop a)=x at hok hns ⊢;cases x with
      | bad e =>
       have he:e≠0:=by rcases hok with h | h | h | h <;> subst h <;> decide
       exact eg he et
      | skip n=>exact absurd rfl (hns n)
      | tok t n =>
       obtain ⟨Z,O,aa⟩:=hok;rw [List.length_drop] at O;refine ep rfl ?_;refine ebc (cat_at (by rw [List.length_singleton];omega)) ?_;exact ih (a+n) (acc++[t.put a]) (by omega) (by omega) (by rw [List.length_append,List.length_singleton];omega)
     refine Ev.step (g:=fun k=>rf_Scan.j1 (k+1) s acc (a:Int) s[a] false) ?_ (fun _=>rfl);simp only [rf_Scan.j1];refine eg (by simp) ?_;by_cases c1:s[a]=47
     · refine ep ((toNatN _ 47 (by decide)).2 c1) ?_
       by_cases D:a+1 < s.length
       · rw [w64_succ (by omega)]
         refine ep (by omega) ?_;refine ebc (idx_at rfl D) ?_;have C:=take2 s a D;by_cases c2:s[a+1]=42
         · refine ep ((toNatN _ 42 (by decide)).2 c2) ?_
           refine eb (rf_comment_ s hs (j:=a) (by omega)) ?_;have ht:(s.drop a).take 2=[47,42]:=by rw [C,c1,c2]
           have hdd:(s.drop a).drop 2=s.drop (a+2):=List.drop_drop;have hin:=index_in (s.drop (a+2));have hge:=index_ge (s.drop (a+2)) ends;rw [List.length_drop] at hin;have e1:nextS (s.drop a)=if Lib.index (s.drop (a+2)) ends < 0 then .bad 33 else .skip ((Lib.index (s.drop (a+2)) ends).toNat+4):=by
            rw [← hdd,hdr,nextS_cons,if_neg hb,if_pos (by rw [← hdr];exact ht)]
           rw [e1];by_cases q:Lib.index (s.drop (a+2)) ends < 0
           · rw [if_pos q,if_pos q]
             exact ep rfl et
           · rw [if_neg q,if_neg q]
             have X:=hin q;refine eg (by omega) ?_;have V:((a+4:Nat):Int)+Lib.index (s.drop (a+2)) ends=((a+((Lib.index (s.drop (a+2)) ends).toNat+4):Nat):Int):=by omega
             rw [V];exact ih _ acc (by omega) (by omega) (by omega)
         · refine eg (fun h=>c2 ((toNatN _ 42 (by decide)).1 h)) ?_
           exact plain (by rw [C];intro h;injection h with _ h;injection h with h _;exact c2 h)
       · rw [w64_succ (by omega)]
         refine eg (by omega) ?_;refine plain ?_;have:s.drop (a+1)=[]:=List.drop_eq_nil_of_le (by omega);rw [hdr,this];simp
     · refine eg (fun h=>c1 ((toNatN _ 47 (by decide)).1 h)) ?_
       refine plain ?_;rw [hdr];intro h;cases hl:s.drop (a+1) <;> rw [hl] at h <;> simp at h;exact c1 h.1
    have hbl:isBlank s[a]=true ↔ s[a]=32∨s[a]=9∨s[a]=10∨s[a]=13:=by
     have e:∀ n:Nat,n < 256→(s[a].toNat=n ↔ s[a]=UInt8.ofNat n):=fun n hn=>by
      rw [← toNatN _ n hn];omega
     simp only [isBlank,Bool.or_eq_true,decide_eq_true_eq];rw [e 32 (by decide),e 9 (by decide),e 10 (by decide),e 13 (by decide)]
     constructor
     · rintro (((h | h) | h) | h)
       · exact .inl h
       · exact .inr (.inl h)
       · exact .inr (.inr (.inl h))
       · exact .inr (.inr (.inr h))
     · rintro (h | h | h | h)
       · exact .inl (.inl (.inl h))
       · exact .inl (.inl (.inr h))
       · exact .inl (.inr h)
       · exact .inr h
    by_cases c1:s[a]=32
    · exact ep ((toNatN _ 32 (by decide)).2 c1) (blank (hbl.2 (.inl c1)))
    refine eg (fun h=>c1 ((toNatN _ 32 (by decide)).1 h)) ?_;by_cases c2:s[a]=9
    · exact ep ((toNatN _ 9 (by decide)).2 c2) (blank (hbl.2 (.inr (.inl c2))))
    refine eg (fun h=>c2 ((toNatN _ 9 (by decide)).1 h)) ?_;by_cases c3:s[a]=10
    · exact ep ((toNatN _ 10 (by decide)).2 c3) (blank (hbl.2 (.inr (.inr (.inl c3)))))
    refine eg (fun h=>c3 ((toNatN _ 10 (by decide)).1 h)) ?_;by_cases c4:s[a]=13
    · rw [decide_eq_true (show (s[a].toNat:Int)=13 from (toNatN _ 13 (by decide)).2 c4)]
      exact blank (hbl.2 (.inr (.inr (.inr c4))))
    · rw [decide_eq_false (show ¬ (s[a].toNat:Int)=13 from fun h=>c4 ((toNatN _ 13 (by decide)).1 h))]
      refine other (fun h=>?_);rcases hbl.1 h with h | h | h | h
      · exact c1 h
      · exact c2 h
      · exact c3 h
      · exact c4 h
  · rw [if_neg ha]
    refine eg (by omega) ?_;exact ebc (cat_at (by rw [List.length_singleton];omega)) et
theorem rf_Scan_ (s:By):Ev (fun k=>rf_Scan k s) (scanS s):=by
 unfold rf_Scan scanS;by_cases h:16000 < s.length
 · rw [if_pos h];exact ep (by omega) et
 · rw [if_neg h]
   refine eg (by omega) ?_;exact rf_Scan_l s (by omega) (s.length+1) 0 [] (by omega) (by omega) (Nat.le_refl _)
theorem scanG_len (s:By):∀ (d a:Nat) (acc:List Token),acc.length≤a→a≤s.length→(scanG d s a acc).1.length≤s.length+1:=by
 intro d
 induction d with
 | zero=>intro a acc _ _;exact Nat.zero_le _
 | succ d ih =>
  intro a acc D E;rw [scanG];by_cases ha:a < s.length
  · rw [if_pos ha]
    have hok:=nextS_ok _ (drop_ne ha);generalize nextS (s.drop a)=x at hok ⊢;cases x with
    | bad e=>exact Nat.zero_le _
    | skip n =>
     obtain ⟨C,q⟩:=hok;rw [List.length_drop] at q;exact ih _ _ (by omega) (by omega)
    | tok t n =>
     obtain ⟨C,q,_⟩:=hok;rw [List.length_drop] at q;exact ih _ _ (by rw [List.length_append,List.length_singleton];omega) (by omega)
  · rw [if_neg ha]
    show (acc++[_]).length≤_
    rw [List.length_append,List.length_singleton];omega
theorem scanS_len (s:By):(scanS s).1.length≤16001:=by
 unfold scanS;by_cases h:16000 < s.length
 · rw [if_pos h];exact Nat.zero_le _
 · rw [if_neg h]
   have:=scanG_len s (s.length+1) 0 [] (Nat.le_refl _) (Nat.zero_le _)
   omega
end Go.Proofs.YtnhifhlbelogcaaGreatDoor
