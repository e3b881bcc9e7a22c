/- Both parsers: their states, and the first steps. -/
import Derived.Test.YtnhifhlbelogcaaGreatDoorYPG
import Derived.Test.YtnhifhlbelogcaaGreatDoorYLexP
import Derived.Test.YtnhifhlbelogcaaGreatDoorYRB
set_option linter.unusedVariables false
set_option linter.unusedSimpArgs false
namespace Go.Proofs.YtnhifhlbelogcaaGreatDoor
open Go Go.Eng
theorem Ev.unf {α:Type} {f:Nat→Option α} {r:α} (h:Ev (fun k=>f (k+1)) r):Ev f r:=Ev.step h (fun _=>rfl)
abbrev kS (T:List Token) (n d:Nat):ParK:=⟨T,(n:Int),(d:Int)⟩
abbrev rS (T:List Token) (n d:Nat):ParR:=⟨T,(n:Int),(d:Int),0,0⟩
abbrev rF (T:List Token) (n d:Nat) (e a:Int):ParR:=⟨T,(n:Int),(d:Int),e,a⟩
def Toks (T:List Token):Prop:=T.length≤16001∧(∀ (n:Nat) t,T[n]? = some t→(t.Kind=5 ↔ n+1=T.length))∧∀ t∈T,t.Kind=4→t.Text.length=1
variable {T:List Token} {n d:Nat} {t:Token}
theorem Toks.next (h:Toks T) (hn:T[n]? = some t) (hk:t.Kind≠5):n+1 < T.length:=by
 have C:=(List.getElem?_eq_some_iff.1 hn).1;have q:=h.2.1 n t hn;have:¬ n+1=T.length:=fun e=>hk (q.2 e)
 omega
theorem idx_some {α:Type} {l:List α} {i:Nat} {x:α} (h:l[i]? = some x):idx l (i:Int)=some x:=by
 obtain ⟨q,C⟩:=List.getElem?_eq_some_iff.1 h;rw [idx_at rfl q,C]
def isK (t:Token):Bool:=t.Kind == 2 || t.Kind == 4
theorem ps_token_ (hn:T[n]? = some t) (k:Nat):ps_token k (kS T n d)=some t:=by
 unfold ps_token;rw [idx_some hn]
 rfl
theorem pr_is_ (hn:T[n]? = some t) (s:By) (k:Nat):pr_is k (rS T n d) s=some (isK t && (t.Text == s)):=by
 unfold pr_is isK;rw [idx_some hn,Option.bind_some,if_pos rfl];by_cases q:t.Text=s
 · rw [if_pos q]
   by_cases C:t.Kind=4
   · rw [if_pos C];simp [q,C]
   · rw [if_neg C];congr 1;rw [Bool.eq_iff_iff];simp [q,C]
 · rw [if_neg q];simp [q]
theorem pr_fail_ (hn:T[n]? = some t) (e:Int) (k:Nat):pr_fail k (rS T n d) e=some (rF T n d e t.At):=by
 unfold pr_fail;rw [if_pos rfl,idx_some hn]
 rfl
theorem pr_fail_F {e a:Int} (he:e≠0) (e':Int) (k:Nat):pr_fail k (rF T n d e a) e'=some (rF T n d e a):=by
 unfold pr_fail;rw [if_neg he]
theorem pr_may_ (hn:T[n]? = some t) (hT:T.length≤16001) (s:By) (k:Nat):pr_may k (rS T n d) s=some (isK t && (t.Text == s),if isK t && (t.Text == s) then rS T (n+1) d else rS T n d):=by
 have q:=(List.getElem?_eq_some_iff.1 hn).1;unfold pr_may;rw [pr_is_ hn,Option.bind_some,show (rS T n d).at_=(n:Int) from rfl,w64_succ (by omega)];by_cases h:(isK t && (t.Text == s))=true
 · rw [if_pos h,if_pos h]
 · rw [if_neg h,if_neg h]
theorem pr_want_ (hn:T[n]? = some t) (hT:T.length≤16001) (s:By) (k:Nat):pr_want k (rS T n d) s=some (if isK t && (t.Text == s) then rS T (n+1) d else rF T n d 40 t.At):=by
 unfold pr_want;rw [pr_may_ hn hT,Option.bind_some];by_cases h:(isK t && (t.Text == s))=true
 · rw [if_pos h,if_pos h,if_pos h]
 · rw [if_neg h,if_neg h,if_neg h,pr_fail_ hn]
   rfl
theorem ps_give_ (hn:T[n]? = some t) (e:Int) (k:Nat):ps_give k (kS T n d) e=some (some (faultV e t.At)):=by
 unfold ps_give;rw [ps_token_ hn]
 rfl
theorem ps_is_ (hn:T[n]? = some t) {L:List By} (hL:L.length≤1000000):Ev (fun k=>ps_is k (kS T n d) L) (isK t && decide (t.Text∈L)):=by
 unfold ps_is isK;refine eb (ea (ps_token_ hn)) ?_;by_cases q:t.Kind=2
 · exact ep q (eb (slContains_ L t.Text hL) (ecs et (by simp [q])))
 · by_cases C:t.Kind=4
   · exact eg q (ep C (eb (slContains_ L t.Text hL) (ecs et (by simp [C]))))
   · exact eg q (eg C (ecs et (by simp [q,C])))
theorem ps_is1 (hn:T[n]? = some t) (s:By):Ev (fun k=>ps_is k (kS T n d) [s]) (isK t && (t.Text == s)):=by
 refine (ps_is_ hn (L:=[s]) (by simp)).cast ?_;rw [Bool.eq_iff_iff]
 simp
theorem ps_may_ (hn:T[n]? = some t) (hT:T.length≤16001) (s:By):Ev (fun k=>ps_may k (kS T n d) s) (isK t && (t.Text == s),if isK t && (t.Text == s) then kS T (n+1) d else kS T n d):=by
 have q:=(List.getElem?_eq_some_iff.1 hn).1;unfold ps_may;refine eb (ps_is1 hn s) ?_;rw [show (kS T n d).next=(n:Int) from rfl,w64_succ (by omega)];by_cases h:(isK t && (t.Text == s))=true
 · exact ep h (ecs et (by rw [if_pos h]))
 · exact eg h (ecs et (by rw [if_neg h]))
theorem ps_want_t (hn:T[n]? = some t) (hT:T.length≤16001) {s:By} (h:(isK t && (t.Text == s))=true):Ev (fun k=>ps_want k (kS T n d) s) (none,t.At,kS T (n+1) d):=by
 have q:=(List.getElem?_eq_some_iff.1 hn).1;unfold ps_want;refine eb (ps_is1 hn s) (ep h ?_);unfold ps_want.j1;rw [show (kS T n d).next=(n:Int) from rfl,w64_succ (by omega),w64_of (by omega) (by omega),show (((n+1:Nat):Int) - 1)=(n:Int) by omega];exact ebc (idx_some hn) et
theorem ps_want_f (hn:T[n]? = some t) {s:By} (h:¬ (isK t && (t.Text == s))=true):Ev (fun k=>ps_want k (kS T n d) s) (some (faultV 40 t.At),0,kS T n d):=by
 unfold ps_want;exact eb (ps_is1 hn s) (eg h (eb (ea (ps_give_ hn 40)) (ep rfl et)))
theorem ps_kind_t (hn:T[n]? = some t) (hT:T.length≤16001) {q:Int} (h:t.Kind=q) (k:Nat):ps_kind k (kS T n d) q=some (none,t,kS T (n+1) d):=by
 have C:=(List.getElem?_eq_some_iff.1 hn).1;unfold ps_kind;rw [ps_token_ hn,Option.bind_some,if_pos h];unfold ps_kind.j1;rw [show (kS T n d).next=(n:Int) from rfl,w64_succ (by omega)]
theorem ps_kind_f (hn:T[n]? = some t) {q:Int} (h:¬ t.Kind=q) (k:Nat):ps_kind k (kS T n d) q=some (some (faultV 40 t.At),⟨0,[],0,0⟩,kS T n d):=by
 unfold ps_kind;rw [ps_token_ hn,Option.bind_some,if_neg h,ps_give_ hn]
 rfl
theorem ps_name_t (hn:T[n]? = some t) (hT:T.length≤16001) (h:t.Kind=1) (q:Int) (k:Nat):ps_name k (kS T n d) q=some (none,⟨q,t.Text,0,t.At,[]⟩,kS T (n+1) d):=by
 unfold ps_name;rw [ps_kind_t hn hT h]
 rfl
theorem ps_name_f (hn:T[n]? = some t) (h:¬ t.Kind=1) (q:Int) (k:Nat):ps_name k (kS T n d) q=some (some (faultV 40 t.At),⟨0,[],0,0,[]⟩,kS T n d):=by
 unfold ps_name;rw [ps_kind_f hn h]
 rfl
theorem pr_name_t (hn:T[n]? = some t) (hT:T.length≤16001) (h:t.Kind=1) (k:Nat):pr_name k (rS T n d)=some (t.Text,t.At,rS T (n+1) d):=by
 have q:=(List.getElem?_eq_some_iff.1 hn).1;unfold pr_name;rw [idx_some hn,Option.bind_some,if_pos rfl];unfold pr_name.j1;rw [if_neg (by simp [h]),show (rS T n d).at_=(n:Int) from rfl,w64_succ (by omega)]
theorem pr_name_f (hn:T[n]? = some t) (h:¬ t.Kind=1) (k:Nat):pr_name k (rS T n d)=some ([],0,rF T n d 40 t.At):=by
 unfold pr_name;rw [idx_some hn,Option.bind_some,if_pos rfl];unfold pr_name.j1;rw [if_pos (by simp [h]),pr_fail_ hn]
 rfl
theorem pr_name_F (hn:T[n]? = some t) {e a:Int} (he:e≠0) (k:Nat):pr_name k (rF T n d e a)=some ([],0,rF T n d e a):=by
 unfold pr_name;rw [idx_some hn,Option.bind_some,if_neg he];unfold pr_name.j1;rw [if_pos rfl,pr_fail_F he]
 rfl
end Go.Proofs.YtnhifhlbelogcaaGreatDoor
set_option linter.unusedVariables false
set_option linter.unusedSimpArgs false
namespace Go.Proofs.YtnhifhlbelogcaaGreatDoor
open Go Go.Eng
variable {T:List Token} {n d:Nat} {t:Token}
def Agree (T:List Token) (n d:Nat) (fs:Nat→Option (OV×Tree×ParK)) (fr:Nat→Option (Tree×ParR)):Prop :=
 (∃ v n',n < n'∧n' < T.length∧Ev fs (none,v,kS T n' d)∧Ev fr (v,rS T n' d)∧v.Kids=[]) ∨
  ∃ e a z p w n',e≠0∧n' < T.length∧Ev fs (some (faultV e a),z,p)∧Ev fr (w,rF T n' d e a)
theorem ps_number_t (hn:T[n]? = some t) (hT:T.length≤16001) (h:t.Kind=3) (k:Nat):ps_number k (kS T n d)=some (none,⟨28,[],t.Number,t.At,[]⟩,kS T (n+1) d):=by
 unfold ps_number;rw [ps_kind_t hn hT h]
 rfl
theorem ps_number_f (hn:T[n]? = some t) (h:¬ t.Kind=3) (k:Nat):ps_number k (kS T n d)=some (some (faultV 40 t.At),⟨0,[],0,0,[]⟩,kS T n d):=by
 unfold ps_number;rw [ps_kind_f hn h]
 rfl
theorem pr_number_t (hn:T[n]? = some t) (hT:T.length≤16001) {b:Bool} (h:t.Kind=3) (hb:¬ (b=true∧t.Number < 0)) (k:Nat):pr_number k (rS T n d) b=some (⟨28,[],t.Number,t.At,[]⟩,rS T (n+1) d):=by
 have D:=(List.getElem?_eq_some_iff.1 hn).1;have hj:pr_number.j1 k (rS T n d) t=some (⟨28,[],t.Number,t.At,[]⟩,rS T (n+1) d):=by
  unfold pr_number.j1;rw [show (rS T n d).at_=(n:Int) from rfl,w64_succ (by omega)]
 unfold pr_number;rw [idx_some hn,Option.bind_some,if_pos rfl,if_pos h];by_cases q:b=true
 · rw [if_pos q,if_neg (fun C=>hb ⟨q,C⟩)];exact hj
 · rw [if_neg q];exact hj
theorem pr_number_f (hn:T[n]? = some t) {b:Bool} (h:¬ (t.Kind=3∧¬ (b=true∧t.Number < 0))) (k:Nat):pr_number k (rS T n d) b=some (⟨0,[],0,0,[]⟩,rF T n d 40 t.At):=by
 unfold pr_number;rw [idx_some hn,Option.bind_some,if_pos rfl];by_cases q:t.Kind=3
 · have hb:b=true∧t.Number < 0:=Classical.byContradiction fun C=>h ⟨q,C⟩
   rw [if_pos q,if_pos hb.1,if_pos hb.2,pr_fail_ hn]
   rfl
 · rw [if_neg q,pr_fail_ hn]
   rfl
theorem pr_number_F (hn:T[n]? = some t) {b:Bool} {e a:Int} (he:e≠0) (k:Nat):pr_number k (rF T n d e a) b=some (⟨0,[],0,0,[]⟩,rF T n d e a):=by
 unfold pr_number;rw [idx_some hn,Option.bind_some,if_neg he,pr_fail_F he]
 rfl
theorem pr_value_F (hn:T[n]? = some t) {e a:Int} (he:e≠0):∃ v,∀ k,pr_value k (rF T n d e a)=some (v,rF T n d e a):=by
 by_cases h:t.Kind=1
 · exact ⟨_,fun k=>by unfold pr_value;rw [idx_some hn,Option.bind_some,if_pos h,pr_name_F hn he];rfl⟩
 · exact ⟨_,fun k=>by unfold pr_value;rw [idx_some hn,Option.bind_some,if_neg h,pr_number_F hn he];rfl⟩
theorem value_agree (hT:Toks T) (hn:T[n]? = some t):Agree T n d (fun k=>ps_value k (kS T n d)) (fun k=>pr_value k (rS T n d)):=by
 have hl:=hT.1;have C:=(List.getElem?_eq_some_iff.1 hn).1;by_cases h:t.Kind=1
 · refine .inl ⟨⟨27,t.Text,0,t.At,[]⟩,n+1,Nat.lt_succ_self _,hT.next hn (by omega),ea fun k=>?_,ea fun k=>?_,rfl⟩
   · unfold ps_value;rw [ps_token_ hn,Option.bind_some,if_pos h,ps_name_t hn hl h];rfl
   · unfold pr_value;rw [idx_some hn,Option.bind_some,if_pos h,pr_name_t hn hl h];rfl
 · by_cases q:t.Kind=3
   · refine .inl ⟨⟨28,[],t.Number,t.At,[]⟩,n+1,Nat.lt_succ_self _,hT.next hn (by omega),ea fun k=>?_,ea fun k=>?_,rfl⟩
     · unfold ps_value;rw [ps_token_ hn,Option.bind_some,if_neg h,ps_number_t hn hl q];rfl
     · unfold pr_value;rw [idx_some hn,Option.bind_some,if_neg h,pr_number_t hn hl q (by simp)];rfl
   · refine .inr ⟨40,t.At,⟨0,[],0,0,[]⟩,kS T n d,⟨0,[],0,0,[]⟩,n,by decide,C,ea fun k=>?_,ea fun k=>?_⟩
     · unfold ps_value;rw [ps_token_ hn,Option.bind_some,if_neg h,ps_number_f hn q];rfl
     · unfold pr_value;rw [idx_some hn,Option.bind_some,if_neg h,pr_number_f hn (by simp [q])];rfl
end Go.Proofs.YtnhifhlbelogcaaGreatDoor
set_option linter.unusedVariables false
set_option linter.unusedSimpArgs false
namespace Go.Proofs.YtnhifhlbelogcaaGreatDoor
open Go Go.Eng
variable {T:List Token} {n d:Nat} {t:Token}
theorem Toks.word (hT:Toks T) (hn:T[n]? = some t) {L:List By} (hL:∀ s∈L,s.length≠1):(isK t && decide (t.Text∈L))=(decide (t.Kind=2) && decide (t.Text∈L)):=by
 by_cases hm:t.Text∈L
 · have q:t.Kind≠4:=fun h=>hL _ hm (hT.2.2 t (List.mem_of_getElem? hn) h)
   rw [Bool.eq_iff_iff]
   simp [isK,hm,q]
 · simp [hm]
def bodyK (s:By):Int:=if s=[101,110,117,109] then 4 else if s=[115,116,114,117,99,116] then 6 else if s=[117,110,105,111,110] then 7 else 0
def bodied (t:Token):Int:=if t.Kind=2 then bodyK t.Text else 0
theorem pr_bodied_ {e a:Int} (hn:T[n]? = some t) (k:Nat):pr_bodied k (rF T n d e a)=some (bodied t):=by
 unfold pr_bodied bodied bodyK;rw [idx_some hn,Option.bind_some];by_cases q:t.Kind=2 <;> by_cases C:t.Text=[101,110,117,109] <;> by_cases D:t.Text=[115,116,114,117,99,116] <;> by_cases E:t.Text=[117,110,105,111,110] <;> simp [q,C,D,E]
theorem ps_isBody_ (hT:Toks T) (hn:T[n]? = some t):Ev (fun k=>ps_isBody k (kS T n d)) (decide (bodied t≠0)):=by
 unfold ps_isBody;refine eb (ps_is_ hn (by decide)) (ecs et ?_);rw [hT.word hn (by decide),Bool.eq_iff_iff];unfold bodied bodyK;by_cases q:t.Kind=2
 · simp only [q,if_true,decide_true,Bool.true_and,decide_eq_true_eq,List.mem_cons,List.not_mem_nil,or_false]
   by_cases C:t.Text=[101,110,117,109]
   · simp [C]
   · by_cases D:t.Text=[115,116,114,117,99,116]
     · simp [D]
     · by_cases E:t.Text=[117,110,105,111,110]
       · simp [E]
       · simp [C,D,E]
 · simp [q]
theorem wordNumber_agree (hT:Toks T) (hn:T[n]? = some t):Agree T n d (fun k=>ps_wordNumber k (kS T n d)) (fun k=>pr_number k (rS T n d) true):=by
 have hl:=hT.1;have D:=(List.getElem?_eq_some_iff.1 hn).1;by_cases q:t.Number < 0
 · refine .inr ⟨40,t.At,⟨0,[],0,0,[]⟩,kS T n d,⟨0,[],0,0,[]⟩,n,by decide,D,ea fun k=>?_,ea fun k=>pr_number_f hn (fun h=>h.2 ⟨rfl,q⟩) k⟩
   unfold ps_wordNumber;rw [ps_token_ hn,Option.bind_some,if_pos q,ps_give_ hn];rfl
 · by_cases C:t.Kind=3
   · refine .inl ⟨⟨28,[],t.Number,t.At,[]⟩,n+1,Nat.lt_succ_self _,hT.next hn (by omega),ea fun k=>?_,ea fun k=>pr_number_t hn hl C (fun h=>q h.2) k,rfl⟩
     unfold ps_wordNumber;rw [ps_token_ hn,Option.bind_some,if_neg q,ps_number_t hn hl C];rfl
   · refine .inr ⟨40,t.At,⟨0,[],0,0,[]⟩,kS T n d,⟨0,[],0,0,[]⟩,n,by decide,D,ea fun k=>?_,ea fun k=>pr_number_f hn (fun h=>C h.1) k⟩
     unfold ps_wordNumber;rw [ps_token_ hn,Option.bind_some,if_neg q,ps_number_f hn C];rfl
end Go.Proofs.YtnhifhlbelogcaaGreatDoor
set_option linter.unusedVariables false
set_option linter.unusedSimpArgs false
namespace Go.Proofs.YtnhifhlbelogcaaGreatDoor
open Go Go.Eng
variable {T:List Token} {n d:Nat} {t:Token}
def bareK (s:By):Int:=if s=[105,110,116] then 18 else if s=[104,121,112,101,114] then 20 else if s=[102,108,111,97,116] then 22 else if s=[100,111,117,98,108,101] then 23 else if s=[98,111,111,108] then 24 else 0
theorem pr_base_ (s:By) (k:Nat):pr_base k s=some (bareK s):=by
 unfold pr_base bareK;by_cases q:s=[105,110,116]
 · simp [q]
 by_cases C:s=[104,121,112,101,114]
 · simp [C]
 by_cases D:s=[102,108,111,97,116]
 · simp [D]
 by_cases E:s=[100,111,117,98,108,101]
 · simp [E]
 by_cases J:s=[98,111,111,108]
 · simp [J]
 · simp [q,C,D,E,J]
def begins (t:Token):Bool:=if t.Kind=1 then true else if t.Kind=2 then (if t.Text=[117,110,115,105,103,110,101,100] then true else !(decide (bareK t.Text=0))) else false
theorem pr_begins_ {e a:Int} (hn:T[n]? = some t) (k:Nat):pr_begins k (rF T n d e a)=some (begins t):=by
 unfold pr_begins begins;rw [idx_some hn,Option.bind_some];by_cases q:t.Kind=1
 · rw [if_pos q,if_pos q]
 · rw [if_neg q,if_neg q]
   by_cases C:t.Kind=2
   · rw [if_pos C,if_pos C]
     by_cases D:t.Text=[117,110,115,105,103,110,101,100]
     · rw [if_pos D,if_pos D]
     · rw [if_neg D,if_neg D,pr_base_]
       rfl
   · rw [if_neg C,if_neg C]
theorem ps_isBare_ (hT:Toks T) (hn:T[n]? = some t):Ev (fun k=>ps_isBare k (kS T n d)) (begins t):=by
 unfold ps_isBare begins;refine eb (ea (ps_token_ hn)) ?_;by_cases C:t.Kind=1
 · rw [if_pos C]
   exact ep C et
 · rw [if_neg C]
   refine eg C (eb (ps_is_ hn (by decide)) (ecs et ?_));rw [hT.word hn (by decide)];by_cases q:t.Kind=2
   · rw [if_pos q]
     unfold bareK;by_cases D:t.Text=[117,110,115,105,103,110,101,100]
     · simp [q,D]
     by_cases E:t.Text=[105,110,116]
     · simp [q,E]
     by_cases J:t.Text=[104,121,112,101,114]
     · simp [q,J]
     by_cases O:t.Text=[102,108,111,97,116]
     · simp [q,O]
     by_cases V:t.Text=[100,111,117,98,108,101]
     · simp [q,V]
     by_cases X:t.Text=[98,111,111,108]
     · simp [q,X]
     · simp [q,D,E,J,O,V,X]
   · rw [if_neg q]
     simp [q]
end Go.Proofs.YtnhifhlbelogcaaGreatDoor
set_option linter.unusedVariables false
set_option linter.unusedSimpArgs false
namespace Go.Proofs.YtnhifhlbelogcaaGreatDoor
open Go Go.Eng
variable {T:List Token} {n d:Nat} {t:Token}
def isW (t:Token) (s:By):Bool:=decide (t.Kind=2) && (t.Text == s)
theorem Toks.w1 (hT:Toks T) (hn:T[n]? = some t) {s:By} (hs:s.length≠1):(isK t && (t.Text == s))=isW t s:=by
 have:=hT.word hn (L:=[s]) (by simpa using hs);unfold isW;rw [Bool.eq_iff_iff] at this ⊢
 simpa using this
theorem may_no (hT:Toks T) (hn:T[n]? = some t) {s:By} (hs:s.length≠1) (h:isW t s=false):Ev (fun k=>ps_may k (kS T n d) s) (false,kS T n d):=by
 have:=ps_may_ (d:=d) hn hT.1 s;rw [hT.w1 hn hs,h] at this;exact this
theorem may_yes (hT:Toks T) (hn:T[n]? = some t) {s:By} (hs:s.length≠1) (h:isW t s=true):Ev (fun k=>ps_may k (kS T n d) s) (true,kS T (n+1) d):=by
 have:=ps_may_ (d:=d) hn hT.1 s;rw [hT.w1 hn hs,h] at this;exact this
theorem isW_eq (q:t.Kind=2) (s:By):isW t s=(t.Text == s):=by unfold isW;simp [q]
theorem isW_no (q:¬ t.Kind=2) (s:By):isW t s=false:=by unfold isW;simp [q]
theorem ps_bare_no (hT:Toks T) (hn:T[n]? = some t) (q:¬ t.Kind=1) (h:∀ s∈([[117,110,115,105,103,110,101,100],[105,110,116],[104,121,112,101,114],[102,108,111,97,116],[100,111,117,98,108,101],[98,111,111,108]]:List By),isW t s=false):Ev (fun k=>ps_bare k (kS T n d)) (some (faultV 40 t.At),⟨0,[],0,0,[]⟩,kS T n d):=by
 unfold ps_bare;refine eb (ea (ps_token_ hn)) (eg q ?_);refine eb (may_no hT hn (by decide) (h _ (by simp))) (eg Bool.false_ne_true ?_);refine eb (may_no hT hn (by decide) (h _ (by simp))) (eg Bool.false_ne_true ?_);refine eb (may_no hT hn (by decide) (h _ (by simp))) (eg Bool.false_ne_true ?_);refine eb (may_no hT hn (by decide) (h _ (by simp))) (eg Bool.false_ne_true ?_);refine eb (may_no hT hn (by decide) (h _ (by simp))) (eg Bool.false_ne_true ?_);refine eb (may_no hT hn (by decide) (h _ (by simp))) (eg Bool.false_ne_true ?_);exact eb (ea (ps_give_ hn 40)) (ep rfl et)
theorem pr_bare_no (hn:T[n]? = some t) (hb:begins t=false) (k:Nat):pr_bare k (rS T n d)=some (⟨0,[],0,t.At,[]⟩,rF T n d 40 t.At):=by
 unfold pr_bare;rw [idx_some hn,Option.bind_some,pr_begins_ (e:=0) (a:=0) hn,Option.bind_some,if_pos rfl,hb];unfold pr_bare.j1;rw [if_pos (show (!false)=true from rfl),pr_fail_ hn]
 rfl
theorem pr_bare_F {e a:Int} (he:e≠0) (hn:T[n]? = some t) (k:Nat):pr_bare k (rF T n d e a)=some (⟨0,[],0,t.At,[]⟩,rF T n d e a):=by
 unfold pr_bare;rw [idx_some hn,Option.bind_some,pr_begins_ hn,Option.bind_some,if_neg he];unfold pr_bare.j1;rw [if_pos rfl,pr_fail_F he]
 rfl
end Go.Proofs.YtnhifhlbelogcaaGreatDoor
set_option linter.unusedVariables false
set_option linter.unusedSimpArgs false
namespace Go.Proofs.YtnhifhlbelogcaaGreatDoor
open Go Go.Eng
variable {T:List Token} {n d:Nat} {t:Token}
theorem pr_bare_w (hn:T[n]? = some t) (hT:T.length≤16001) (q:t.Kind=2) (hu:¬ t.Text=[117,110,115,105,103,110,101,100]) (hb:bareK t.Text≠0) (k:Nat):pr_bare k (rS T n d)=some (⟨bareK t.Text,[],0,t.At,[]⟩,rS T (n+1) d):=by
 have C:=(List.getElem?_eq_some_iff.1 hn).1;have hbg:begins t=true:=by unfold begins;rw [if_neg (by omega),if_pos q,if_neg hu];simp [hb]
 unfold pr_bare;rw [idx_some hn,Option.bind_some,pr_begins_ (e:=0) (a:=0) hn,Option.bind_some,if_pos rfl,hbg];unfold pr_bare.j1;rw [if_neg (show ¬ (!true)=true by decide),if_neg (by omega),pr_base_,Option.bind_some,if_neg hu,show (rS T n d).at_=(n:Int) from rfl,w64_succ (by omega)]
theorem bare_word (hT:Toks T) (hn:T[n]? = some t) (O:t.Kind=2) (hu:¬ t.Text=[117,110,115,105,103,110,101,100]) (hb:bareK t.Text≠0):Ev (fun k=>ps_bare k (kS T n d)) (none,⟨bareK t.Text,[],0,t.At,[]⟩,kS T (n+1) d):=by
 have hw:=isW_eq O;unfold ps_bare;refine eb (ea (ps_token_ hn)) (eg (by omega) ?_);refine eb (may_no hT hn (by decide) (by rw [hw];simpa using hu)) (eg Bool.false_ne_true ?_);by_cases q:t.Text=[105,110,116]
 · exact eb (may_yes hT hn (by decide) (by rw [hw,q];rfl)) (ep rfl (ecs et (by rw [q];rfl)))
 refine eb (may_no hT hn (by decide) (by rw [hw];simpa using q)) (eg Bool.false_ne_true ?_);by_cases C:t.Text=[104,121,112,101,114]
 · exact eb (may_yes hT hn (by decide) (by rw [hw,C];rfl)) (ep rfl (ecs et (by rw [C];rfl)))
 refine eb (may_no hT hn (by decide) (by rw [hw];simpa using C)) (eg Bool.false_ne_true ?_);by_cases D:t.Text=[102,108,111,97,116]
 · exact eb (may_yes hT hn (by decide) (by rw [hw,D];rfl)) (ep rfl (ecs et (by rw [D];rfl)))
 refine eb (may_no hT hn (by decide) (by rw [hw];simpa using D)) (eg Bool.false_ne_true ?_);by_cases E:t.Text=[100,111,117,98,108,101]
 · exact eb (may_yes hT hn (by decide) (by rw [hw,E];rfl)) (ep rfl (ecs et (by rw [E];rfl)))
 refine eb (may_no hT hn (by decide) (by rw [hw];simpa using E)) (eg Bool.false_ne_true ?_);by_cases J:t.Text=[98,111,111,108]
 · exact eb (may_yes hT hn (by decide) (by rw [hw,J];rfl)) (ep rfl (ecs et (by rw [J];rfl)))
 · exact absurd (by unfold bareK;simp [q,C,D,E,J]) hb
theorem bare_agree (hT:Toks T) (hn:T[n]? = some t):Agree T n d (fun k=>ps_bare k (kS T n d)) (fun k=>pr_bare k (rS T n d)):=by
 have hl:=hT.1;have J:=(List.getElem?_eq_some_iff.1 hn).1;by_cases hk:t.Kind=1
 · refine .inl ⟨⟨27,t.Text,0,t.At,[]⟩,n+1,Nat.lt_succ_self _,hT.next hn (by omega),ea fun k=>?_,ea fun k=>?_,rfl⟩
   · unfold ps_bare;rw [ps_token_ hn,Option.bind_some,if_pos hk,ps_name_t hn hl hk];rfl
   · have hbg:begins t=true:=by unfold begins;rw [if_pos hk]
     unfold pr_bare;rw [idx_some hn,Option.bind_some,pr_begins_ (e:=0) (a:=0) hn,Option.bind_some,if_pos rfl,hbg];unfold pr_bare.j1;rw [if_neg (show ¬ (!true)=true by decide),if_pos hk,show (rS T n d).at_=(n:Int) from rfl,w64_succ (by omega)]
 by_cases C:t.Kind=2
 · have hw:=isW_eq C
   by_cases hu:t.Text=[117,110,115,105,103,110,101,100]
   · have hx:=hT.next hn (by omega)
     have q:T[n+1]? = some T[n+1]:=List.getElem?_eq_getElem hx;have hbg:begins t=true:=by unfold begins;rw [if_neg hk,if_pos C,if_pos hu]
     have hr:∀ k,pr_bare k (rS T n d)=Option.bind (pr_may k (rS T (n+1) d) [105,110,116]) fun D=>if D.1=true then some (⟨19,[],0,t.At,[]⟩,D.2) else Option.bind (pr_want k D.2 [104,121,112,101,114]) fun E=>some (⟨21,[],0,t.At,[]⟩,E):=fun k=>by
      unfold pr_bare;rw [idx_some hn,Option.bind_some,pr_begins_ (e:=0) (a:=0) hn,Option.bind_some,if_pos rfl,hbg];unfold pr_bare.j1;rw [if_neg (show ¬ (!true)=true by decide),if_neg hk,pr_base_,Option.bind_some,if_pos hu,show (rS T n d).at_=(n:Int) from rfl,w64_succ (by omega)]
     have wi:=hT.w1 q (s:=[105,110,116]) (by decide);have wh:=hT.w1 q (s:=[104,121,112,101,114]) (by decide);by_cases hh:isW T[n+1] [104,121,112,101,114]=true
     · have hni:isW T[n+1] [105,110,116]=false:=by
        unfold isW at hh ⊢;simp only [Bool.and_eq_true,decide_eq_true_eq,beq_iff_eq] at hh
        simp [hh.2]
       refine .inl ⟨⟨21,[],0,t.At,[]⟩,n+2,by omega,hT.next q (by unfold isW at hh;simp at hh;omega),?_,ea fun k=>?_,rfl⟩
       · unfold ps_bare
         exact eb (ea (ps_token_ hn)) (eg hk (eb (may_yes hT hn (by decide) (by rw [hw,hu];rfl)) (ep rfl (eb (may_yes hT q (by decide) hh) (ep rfl et)))))
       · rw [hr,pr_may_ q hl,wi,hni,Option.bind_some,if_neg Bool.false_ne_true]
         show Option.bind (pr_want k (rS T (n+1) d) _) _=_
         rw [pr_want_ q hl,wh,if_pos hh]
         rfl
     · have hh':isW T[n+1] [104,121,112,101,114]=false:=by simpa using hh
       by_cases hi:isW T[n+1] [105,110,116]=true
       · refine .inl ⟨⟨19,[],0,t.At,[]⟩,n+2,by omega,hT.next q (by unfold isW at hi;simp at hi;omega),?_,ea fun k=>?_,rfl⟩
         · unfold ps_bare
           exact eb (ea (ps_token_ hn)) (eg hk (eb (may_yes hT hn (by decide) (by rw [hw,hu];rfl)) (ep rfl (eb (may_no hT q (by decide) hh') (eg Bool.false_ne_true (eb (ps_want_t q hl (by rw [wi];exact hi)) (eg (by simp) et)))))))
         · rw [hr,pr_may_ q hl,wi,hi,Option.bind_some,if_pos rfl]
           rfl
       · have hi':isW T[n+1] [105,110,116]=false:=by simpa using hi
         refine .inr ⟨40,T[n+1].At,⟨0,[],0,0,[]⟩,kS T (n+1) d,⟨21,[],0,t.At,[]⟩,n+1,by decide,hx,?_,ea fun k=>?_⟩
         · unfold ps_bare
           exact eb (ea (ps_token_ hn)) (eg hk (eb (may_yes hT hn (by decide) (by rw [hw,hu];rfl)) (ep rfl (eb (may_no hT q (by decide) hh') (eg Bool.false_ne_true (eb (ps_want_f q (by rw [wi,hi'];decide)) (ep rfl et)))))))
         · rw [hr,pr_may_ q hl,wi,hi',Option.bind_some,if_neg Bool.false_ne_true]
           show Option.bind (pr_want k (rS T (n+1) d) _) _=_
           rw [pr_want_ q hl,wh,if_neg hh]
           rfl
   · by_cases hb:bareK t.Text=0
     · have hbg:begins t=false:=by unfold begins;rw [if_neg hk,if_pos C,if_neg hu];simp [hb]
       refine .inr ⟨40,t.At,_,_,_,n,by decide,J,ps_bare_no hT hn hk ?_,ea (pr_bare_no hn hbg)⟩;intro s hs;rw [hw];by_cases e:t.Text=s
       · exfalso
         subst e;simp only [List.mem_cons,List.not_mem_nil,or_false] at hs;rcases hs with h | h | h | h | h | h
         · exact hu h
         all_goals (rw [h] at hb;exact absurd hb (by decide))
       · simpa using e
     · exact .inl ⟨_,n+1,Nat.lt_succ_self _,hT.next hn (by omega),bare_word hT hn C hu hb,ea (pr_bare_w hn hl C hu hb),rfl⟩
 · have hbg:begins t=false:=by unfold begins;rw [if_neg hk,if_neg C]
   exact .inr ⟨40,t.At,_,_,_,n,by decide,J,ps_bare_no hT hn hk (fun s _=>isW_no C s),ea (pr_bare_no hn hbg)⟩
end Go.Proofs.YtnhifhlbelogcaaGreatDoor
set_option linter.unusedVariables false
set_option linter.unusedSimpArgs false
set_option linter.unusedSectionVars false
namespace Go.Proofs.YtnhifhlbelogcaaGreatDoor
open Go Go.Eng
variable {T:List Token} {n0 n d:Nat} {e a:Int} {α β ρ σ:Type} {t:Token}
theorem at_some (h:n < T.length):∃ t,T[n]? = some t:=⟨_,List.getElem?_eq_getElem h⟩
inductive Sm:Tree→Prop where
 | mk {K:Int} {nm:By} {x a:Int} {l:List Tree}:l.length≤68719476736→(∀ t∈l,Sm t)→Sm ⟨K,nm,x,a,l⟩
class Sml (α:Type) where
 sm:α→Prop
instance:Sml Tree:=⟨Sm⟩
instance:Sml (List Tree):=⟨fun l=>l.length≤1000∧∀ t∈l,Sm t⟩
theorem Sm.leaf {K:Int} {nm:By} {x a:Int}:Sm ⟨K,nm,x,a,[]⟩:=.mk (by decide) (fun t h=>absurd h (by simp))
theorem sm_leaf {v:Tree} (h:v.Kids=[]):Sm v:=by
 cases v
 cases h
 exact Sm.leaf
theorem smL_nil:∀ t∈([]:List Tree),Sm t:=fun t h=>absurd h (by simp)
theorem smL_cons {v:Tree} {l:List Tree} (hv:Sm v) (hl:∀ t∈l,Sm t):∀ t∈v::l,Sm t:=fun t h=>by
 rcases List.mem_cons.1 h with rfl | h
 · exact hv
 · exact hl t h
theorem smL_one {v:Tree} (hv:Sm v):∀ t∈[v],Sm t:=smL_cons hv smL_nil
theorem Sm.two {K:Int} {nm:By} {x a:Int} {v u:Tree} (hv:Sm v) (hu:Sm u):Sm ⟨K,nm,x,a,[v,u]⟩:=.mk (by simp) (smL_cons hv (smL_one hu))
theorem Sm.one {K:Int} {nm:By} {x a:Int} {v:Tree} (hv:Sm v):Sm ⟨K,nm,x,a,[v]⟩:=.mk (by simp) (smL_one hv)
theorem smL_app {l m:List Tree} (hl:∀ t∈l,Sm t) (hm:∀ t∈m,Sm t):∀ t∈l++m,Sm t:=fun t h=>(List.mem_append.1 h).elim (hl t) (hm t)
structure Reach (α ρ:Type) where
 rt:(Nat→Option ρ)→α→ParR→Prop
 mono:∀ {f g:Nat→Option ρ},(∀ r,Ev g r→Ev f r)→∀ {v s},rt g v s→rt f v s
def Q0:Reach α (α×ParR) where
 rt f v s:=Ev f (v,s)
 mono h _ _ hv:=h _ hv
def QC (P:α→Prop) (C:Nat→α→ParR→Option ρ):Reach α ρ where
 rt f v s:=P v∧∀ r,Ev (fun k=>C k v s) r→Ev f r
 mono h _ _ hv:=⟨hv.1,fun r hr=>h r (hv.2 r hr)⟩
def Sim [Sml α] (Q:Reach α ρ) (T:List Token) (n0 n d:Nat) (e a:Int) (fs:Nat→Option (OV×α×ParK)) (fr:Nat→Option ρ):Prop :=
 n < T.length →
  (e=0→a=0→(∃ v n',n0 < n'∧n' < T.length∧Sml.sm v∧Ev fs (none,v,kS T n' d)∧Q.rt fr v (rS T n' d)) ∨
   ∃ e a z p w n',e≠0∧n' < T.length∧Ev fs (some (faultV e a),z,p)∧Q.rt fr w (rF T n' d e a)) ∧
  (e≠0→∃ w,Q.rt fr w (rF T n d e a))
section
variable [Sml α] {Q:Reach α ρ} {fs gs:Nat→Option (OV×α×ParK)} {fr gr:Nat→Option ρ}
theorem Sim.pre (hs:e=0→a=0→∀ r,Ev gs r→Ev fs r) (hr:∀ r,Ev gr r→Ev fr r) (h:Sim Q T n0 n d e a gs gr):Sim Q T n0 n d e a fs fr:=by
 intro hn;obtain ⟨q,C⟩:=h hn;refine ⟨fun he ha=>?_,fun he=>?_⟩
 · rcases q he ha with ⟨v,n',l1,l2,sv,s,r⟩|⟨e',a',z,p,w,n',he',l,s,r⟩
   · exact .inl ⟨v,n',l1,l2,sv,hs he ha _ s,Q.mono hr r⟩
   · exact .inr ⟨e',a',z,p,w,n',he',l,hs he ha _ s,Q.mono hr r⟩
 · obtain ⟨w,hw⟩:=C he
   exact ⟨w,Q.mono hr hw⟩
theorem Sim.preS (hs:e=0→a=0→∀ r,Ev gs r→Ev fs r) (h:Sim Q T n0 n d e a gs fr):Sim Q T n0 n d e a fs fr:=h.pre hs (fun _ h=>h)
theorem Sim.preR (hr:∀ r,Ev gr r→Ev fr r) (h:Sim Q T n0 n d e a fs gr):Sim Q T n0 n d e a fs fr:=h.pre (fun _ _ _ h=>h) hr
theorem Sim.unf (h:Sim Q T n0 n d e a (fun k=>fs (k+1)) (fun k=>fr (k+1))):Sim Q T n0 n d e a fs fr:=h.pre (fun _ _ _ h=>Ev.unf h) (fun _ h=>Ev.unf h)
theorem Sim.unfS (h:Sim Q T n0 n d e a (fun k=>fs (k+1)) fr):Sim Q T n0 n d e a fs fr:=h.preS (fun _ _ _ h=>Ev.unf h)
theorem Sim.unfR (h:Sim Q T n0 n d e a fs (fun k=>fr (k+1))):Sim Q T n0 n d e a fs fr:=h.preR (fun _ h=>Ev.unf h)
theorem Sim.split {fr:Int→Int→Nat→Option ρ} (q:∀ t,T[n]? = some t→e=0→Sim Q T n0 n d 0 0 fs (fr 0 0)) (C:e≠0→∀ t,T[n]? = some t→∃ w,Q.rt (fr e a) w (rF T n d e a)):Sim Q T n0 n d e a fs (fr e a):=by
 intro hn;obtain ⟨t,ht⟩:=at_some hn;refine ⟨fun he ha=>?_,fun he=>C he t ht⟩;subst he ha;exact (q t ht rfl hn).1 rfl rfl
theorem Sim.cases (q:e=0→a=0→∀ t,T[n]? = some t→n < T.length→Sim Q T n0 n d e a fs fr) (C:e≠0→∀ t,T[n]? = some t→n < T.length→∃ w,Q.rt fr w (rF T n d e a)):Sim Q T n0 n d e a fs fr:=by
 intro hn;obtain ⟨t,ht⟩:=at_some hn;exact ⟨fun he ha=>(q he ha t ht hn hn).1 he ha,fun he=>C he t ht hn⟩
theorem Sim.fault {e' a':Int} {z p w} {n':Nat} (he:e'≠0) (hl:n' < T.length) (hs:Ev fs (some (faultV e' a'),z,p)) (hr:Q.rt fr w (rF T n' d e' a')):Sim Q T n0 n d 0 0 fs fr :=
 fun _=>⟨fun _ _=>.inr ⟨e',a',z,p,w,n',he,hl,hs,hr⟩,fun h=>absurd rfl h⟩
theorem Sim.bad (h:Sim Q T n0 n d e a fs fr) (he:e≠0) (hn:n < T.length):∃ w,Q.rt fr w (rF T n d e a):=(h hn).2 he
theorem Sim.lt (h:n < T.length→Sim Q T n0 n d e a fs fr):Sim Q T n0 n d e a fs fr:=fun hn=>h hn hn
end
theorem Sim.ret [Sml α] {v:α} (h:e=0→n0 < n) (hs:e=0→Sml.sm v):Sim Q0 T n0 n d e a (fun _=>some (none,v,kS T n d)) (fun _=>some (v,rF T n d e a)):=by
 intro hn;exact ⟨fun he ha=>by subst he ha;exact .inl ⟨v,n,h rfl,hn,hs rfl,et,et⟩,fun _=>⟨v,et⟩⟩
theorem Sim.cont [Sml α] {P:α→Prop} {C:Nat→α→ParR→Option ρ} {v:α} (hP:P v) (h:e=0→n0 < n) (hs:e=0→Sml.sm v):Sim (QC P C) T n0 n d e a (fun _=>some (none,v,kS T n d)) (fun k=>C k v (rF T n d e a)):=by
 intro hn;exact ⟨fun he ha=>by subst he ha;exact .inl ⟨v,n,h rfl,hn,hs rfl,et,hP,fun r hr=>hr⟩,fun _=>⟨v,hP,fun r hr=>hr⟩⟩
theorem Sim.of_agree {fs:Nat→Option (OV×Tree×ParK)} {fr:Int→Int→Nat→Option (Tree×ParR)} (q:∀ t,T[n]? = some t→Agree T n d fs (fr 0 0)) (C:e≠0→∀ t,T[n]? = some t→∃ w,Ev (fr e a) (w,rF T n d e a)):Sim Q0 T n n d e a fs (fr e a):=by
 refine Sim.split (fr:=fr) (fun t ht _=>fun _=>⟨fun _ _=>?_,fun h=>absurd rfl h⟩) C;rcases q t ht with ⟨v,n',l1,l2,s,r,hk⟩ | h
 · exact .inl ⟨v,n',l1,l2,sm_leaf hk,s,r⟩
 · exact .inr h
section
variable [Sml α] [Sml β] {Q:Reach β σ}
theorem Sim.seqC {P:α→Prop} {C:Nat→α→ParR→Option σ} {F:Nat→Option (OV×α×ParK)} {fr:Nat→Option σ} {gs:Nat→(OV×α×ParK)→Option (OV×β×ParK)} {z:(OV×α×ParK)→β} {p:(OV×α×ParK)→ParK}
 (h:Sim (QC P C) T n n d e a F fr) (hg:∀ v n' e' a',P v→(e'=0→n < n'∧e=0)→(e'=0→Sml.sm v)→Sim Q T n0 n' d e' a' (fun k=>gs k (none,v,kS T n' d)) (fun k=>C k v (rF T n' d e' a'))) :
 Sim Q T n0 n d e a (fun k=>Option.bind (F k) fun t=>if t.1.isSome=true then some (t.1,z t,p t) else gs k t) fr:=by
 intro hn;obtain ⟨J,O⟩:=h hn;refine ⟨fun he ha=>?_,fun he=>?_⟩
 · rcases J he ha with ⟨v,n',l1,l2,sv,s,r⟩|⟨e',a',z',p',w,n',he',l,s,r⟩
   · rcases (hg v n' 0 0 r.1 (fun _=>⟨l1,he⟩) (fun _=>sv) l2).1 rfl rfl with ⟨v',n2,V,X,sv',s',r'⟩|⟨Y,Z,aa,ab,q,n2,D,m,s',r'⟩
     · exact .inl ⟨v',n2,V,X,sv',eb s (eg (by simp) s'),Q.mono (fun x hx=>r.2 x hx) r'⟩
     · exact .inr ⟨Y,Z,aa,ab,q,n2,D,m,eb s (eg (by simp) s'),Q.mono (fun x hx=>r.2 x hx) r'⟩
   · obtain ⟨q,hw⟩:=(hg w n' e' a' r.1 (fun h=>absurd h he') (fun h=>absurd h he') l).2 he'
     exact .inr ⟨e',a',_,_,q,n',he',l,eb s (ep rfl et),Q.mono (fun x hx=>r.2 x hx) hw⟩
 · obtain ⟨w,hw⟩:=O he
   obtain ⟨q,E⟩:=(hg w n e a hw.1 (fun h=>absurd h he) (fun h=>absurd h he) hn).2 he;exact ⟨q,Q.mono (fun x hx=>hw.2 x hx) E⟩
theorem Sim.toC {C:Nat→α×ParR→Option σ} {F:Nat→Option (OV×α×ParK)} {fr:Nat→Option (α×ParR)} (h:Sim Q0 T n0 n d e a F fr):Sim (QC (fun _=>True) fun k v s=>C k (v,s)) T n0 n d e a F (fun k=>Option.bind (fr k) (C k)):=by
 intro hn;obtain ⟨q,D⟩:=h hn;refine ⟨fun he ha=>?_,fun he=>?_⟩
 · rcases q he ha with ⟨v,n',l1,l2,sv,s,r⟩|⟨e',a',z',p',w,n',he',l,s,r⟩
   · exact .inl ⟨v,n',l1,l2,sv,s,trivial,fun x hx=>eb r hx⟩
   · exact .inr ⟨e',a',z',p',w,n',he',l,s,trivial,fun x hx=>eb r hx⟩
 · obtain ⟨w,hw⟩:=D he
   exact ⟨w,trivial,fun x hx=>eb hw hx⟩
theorem Sim.seq {F:Nat→Option (OV×α×ParK)} {fr:Nat→Option (α×ParR)} {gs:Nat→(OV×α×ParK)→Option (OV×β×ParK)} {z:(OV×α×ParK)→β} {p:(OV×α×ParK)→ParK} {C:Nat→α×ParR→Option σ}
 (h:Sim Q0 T n n d e a F fr) (hg:∀ v n' e' a',(e'=0→n < n'∧e=0)→(e'=0→Sml.sm v)→Sim Q T n0 n' d e' a' (fun k=>gs k (none,v,kS T n' d)) (fun k=>C k (v,rF T n' d e' a'))) :
 Sim Q T n0 n d e a (fun k=>Option.bind (F k) fun t=>if t.1.isSome=true then some (t.1,z t,p t) else gs k t) (fun k=>Option.bind (fr k) (C k)) :=
 Sim.seqC h.toC fun v n' e' a' _ h hs=>hg v n' e' a' h hs
theorem Sim.eta [Sml α] {fs:Nat→Option (OV×α×ParK)} {fr:Nat→Option (α×ParR)} (h:Sim Q0 T n0 n d e a fs fr):Sim Q0 T n0 n d e a fs (fun k=>Option.bind (fr k) fun t=>some (t.1,t.2)) :=
 h.preR fun r hr=>eb hr et
theorem isK_ne5 {s:By} (h:(isK t && (t.Text == s))=true):t.Kind≠5:=by
 unfold isK at h;intro q
 simp [q] at h
theorem pr_is_F (hn:T[n]? = some t) (he:e≠0) (s:By) (k:Nat):pr_is k (rF T n d e a) s=some false:=by
 unfold pr_is;rw [idx_some hn,Option.bind_some,if_neg he]
theorem pr_may_F (hn:T[n]? = some t) (he:e≠0) (s:By) (k:Nat):pr_may k (rF T n d e a) s=some (false,rF T n d e a):=by
 unfold pr_may;rw [pr_is_F hn he,Option.bind_some,if_neg Bool.false_ne_true]
theorem pr_want_F (hn:T[n]? = some t) (he:e≠0) (s:By) (k:Nat):pr_want k (rF T n d e a) s=some (rF T n d e a):=by
 unfold pr_want;rw [pr_may_F hn he,Option.bind_some,if_neg Bool.false_ne_true,pr_fail_F he]
 rfl
theorem Sim.wantK (hT:Toks T) (s:By) {gs:Nat→(OV×Int×ParK)→Option (OV×β×ParK)} {z:(OV×Int×ParK)→β} {p:(OV×Int×ParK)→ParK} {gr:Nat→ParR→Option σ}
 (hg:∀ n' e' a' x,(e'=0→n < n'∧e=0)→(e'=0→∀ t,T[n]? = some t→(isK t && (t.Text == s))=true)→Sim Q T n0 n' d e' a' (fun k=>gs k (none,x,kS T n' d)) (fun k=>gr k (rF T n' d e' a'))) :
 Sim Q T n0 n d e a (fun k=>Option.bind (ps_want k (kS T n d) s) fun t=>if t.1.isSome=true then some (t.1,z t,p t) else gs k t) (fun k=>Option.bind (pr_want k (rF T n d e a) s) (gr k)):=by
 refine Sim.split (fr:=fun e a k=>Option.bind (pr_want k (rF T n d e a) s) (gr k)) (fun t ht he=>?_) (fun he t ht=>?_)
 · have hn:=(List.getElem?_eq_some_iff.1 ht).1
   by_cases h:(isK t && (t.Text == s))=true
   · intro _
     obtain ⟨q,_⟩:=hg (n+1) 0 0 t.At (fun _=>⟨Nat.lt_succ_self n,he⟩) (fun _ u hu=>by rw [ht] at hu;cases hu;exact h) (hT.next ht (isK_ne5 h));have hr:∀ r,Ev (fun k=>gr k (rF T (n+1) d 0 0)) r→Ev (fun k=>Option.bind (pr_want k (rF T n d 0 0) s) (gr k)) r:=fun r hr=>eb (ea fun k=>(pr_want_ ht hT.1 s k).trans (by rw [if_pos h])) hr
     refine ⟨fun _ _=>?_,fun h=>absurd rfl h⟩;rcases q rfl rfl with ⟨v,n',l1,l2,sv,s,r⟩|⟨e',a',z',p',w,n',he',l,s,r⟩
     · exact .inl ⟨v,n',by omega,l2,sv,eb (ps_want_t ht hT.1 h) (eg (by simp) s),Q.mono hr r⟩
     · exact .inr ⟨e',a',z',p',w,n',he',l,eb (ps_want_t ht hT.1 h) (eg (by simp) s),Q.mono hr r⟩
   · obtain ⟨w,hw⟩:=(hg n 40 t.At 0 (fun h=>absurd h (by decide)) (fun h=>absurd h (by decide)) hn).2 (by decide)
     exact Sim.fault (by decide) hn (eb (ps_want_f ht h) (ep rfl et)) (Q.mono (fun r hr=>eb (ea fun k=>(pr_want_ ht hT.1 s k).trans (by rw [if_neg h])) hr) hw)
 · obtain ⟨w,hw⟩:=(hg n e a 0 (fun h=>absurd h he) (fun h=>absurd h he) (List.getElem?_eq_some_iff.1 ht).1).2 he
   exact ⟨w,Q.mono (fun r hr=>eb (ea (pr_want_F ht he s)) hr) hw⟩
theorem Sim.want (hT:Toks T) (s:By) {gs:Nat→(OV×Int×ParK)→Option (OV×β×ParK)} {z:(OV×Int×ParK)→β} {p:(OV×Int×ParK)→ParK} {gr:Nat→ParR→Option σ}
 (hg:∀ n' e' a' x,(e'=0→n < n'∧e=0)→Sim Q T n0 n' d e' a' (fun k=>gs k (none,x,kS T n' d)) (fun k=>gr k (rF T n' d e' a'))) :
 Sim Q T n0 n d e a (fun k=>Option.bind (ps_want k (kS T n d) s) fun t=>if t.1.isSome=true then some (t.1,z t,p t) else gs k t) (fun k=>Option.bind (pr_want k (rF T n d e a) s) (gr k)) :=
 Sim.wantK hT s fun n' e' a' x h _=>hg n' e' a' x h
theorem Sim.fwd {fs:Nat→Option (OV×β×ParK)} {fr:Nat→Option σ} {n1:Nat} (hn:n1 < T.length) (h:Sim Q T n0 n1 d 0 0 fs fr):Sim Q T n0 n d 0 0 fs fr:=fun _=>⟨(h hn).1,fun h=>absurd rfl h⟩
theorem Sim.may (hT:Toks T) (s:By) {q C:Nat→Bool×ParK→Option (OV×β×ParK)} {D E:Nat→Bool×ParR→Option σ}
 (O:e=0→a=0→(∀ t,T[n]? = some t→(isK t && (t.Text == s))=true)→Sim Q T n0 (n+1) d 0 0 (fun k=>C k (true,kS T (n+1) d)) (fun k=>E k (true,rF T (n+1) d 0 0)))
 (J:(e=0→∀ t,T[n]? = some t→(isK t && (t.Text == s))=false)→Sim Q T n0 n d e a (fun k=>q k (false,kS T n d)) (fun k=>D k (false,rF T n d e a))) :
 Sim Q T n0 n d e a (fun k=>Option.bind (ps_may k (kS T n d) s) fun t=>if t.1=true then C k t else q k t) (fun k=>Option.bind (pr_may k (rF T n d e a) s) fun t=>if t.1=true then E k t else D k t):=by
 by_cases he:e=0
 · by_cases ha:a=0
   · subst he ha
     refine Sim.lt fun hn=>?_
     obtain ⟨t,ht⟩:=at_some hn;have hr:=fun k=>pr_may_ (d:=d) ht hT.1 s k
     have hs:=ps_may_ (d:=d) ht hT.1 s;cases h:(isK t && (t.Text == s))
     · rw [h] at hs
       simp only [h] at hr;refine (J fun _ u hu=>by rw [ht] at hu;cases hu;exact h).pre (fun _ _ r hr'=>?_) (fun r hr'=>?_)
       · exact eb hs (eg (by simp) hr')
       · exact eb (ea hr) (eg (by simp) hr')
     · rw [h] at hs
       simp only [h] at hr;refine Sim.fwd (hT.next ht (isK_ne5 h)) ((O rfl rfl fun u hu=>by rw [ht] at hu;cases hu;exact h).pre (fun _ _ r hr'=>?_) (fun r hr'=>?_))
       · exact eb hs (ep rfl hr')
       · exact eb (ea hr) (ep rfl hr')
   · exact fun _=>⟨fun _ h=>absurd h ha,fun h=>absurd he h⟩
 · intro hn
   obtain ⟨t,ht⟩:=at_some hn;refine ⟨fun h=>absurd h he,fun _=>?_⟩;obtain ⟨w,hw⟩:=(J (fun h=>absurd h he) hn).2 he;exact ⟨w,Q.mono (fun r hr=>eb (ea (pr_may_F ht he s)) (eg (by simp) hr)) hw⟩
theorem Sim.is (hT:Toks T) (s:By) {q C:Nat→Option (OV×β×ParK)} {D E:Nat→Option σ}
 (O:e=0→a=0→(∀ t,T[n]? = some t→(isK t && (t.Text == s))=true)→Sim Q T n0 n d e a C E)
 (J:(e=0→∀ t,T[n]? = some t→(isK t && (t.Text == s))=false)→Sim Q T n0 n d e a q D) :
 Sim Q T n0 n d e a (fun k=>Option.bind (ps_is k (kS T n d) [s]) fun t=>if t=true then C k else q k) (fun k=>Option.bind (pr_is k (rF T n d e a) s) fun t=>if t=true then E k else D k):=by
 by_cases he:e=0
 · by_cases ha:a=0
   · subst he ha
     refine Sim.lt fun hn=>?_
     obtain ⟨t,ht⟩:=at_some hn;have hr:=fun k=>pr_is_ (d:=d) ht s k
     have hs:=ps_is1 (d:=d) ht s;cases h:(isK t && (t.Text == s))
     · rw [h] at hs
       simp only [h] at hr;refine (J fun _ u hu=>by rw [ht] at hu;cases hu;exact h).pre (fun _ _ r hr'=>?_) (fun r hr'=>?_)
       · exact eb hs (eg (by simp) hr')
       · exact eb (ea hr) (eg (by simp) hr')
     · rw [h] at hs
       simp only [h] at hr;refine (O rfl rfl fun u hu=>by rw [ht] at hu;cases hu;exact h).pre (fun _ _ r hr'=>?_) (fun r hr'=>?_)
       · exact eb hs (ep rfl hr')
       · exact eb (ea hr) (ep rfl hr')
   · exact fun _=>⟨fun _ h=>absurd h ha,fun h=>absurd he h⟩
 · intro hn
   obtain ⟨t,ht⟩:=at_some hn;refine ⟨fun h=>absurd h he,fun _=>?_⟩;obtain ⟨w,hw⟩:=(J (fun h=>absurd h he) hn).2 he;exact ⟨w,Q.mono (fun r hr=>eb (ea (pr_is_F ht he s)) (eg (by simp) hr)) hw⟩
theorem Sim.name (hT:Toks T) (q:Int) {gs:Nat→(OV×Tree×ParK)→Option (OV×β×ParK)} {z:(OV×Tree×ParK)→β} {p:(OV×Tree×ParK)→ParK} {gr:Nat→By×Int×ParR→Option σ}
 (hg:∀ n' e' a' s x,(e'=0→n < n'∧e=0)→Sim Q T n0 n' d e' a' (fun k=>gs k (none,⟨q,s,0,x,[]⟩,kS T n' d)) (fun k=>gr k (s,x,rF T n' d e' a'))) :
 Sim Q T n0 n d e a (fun k=>Option.bind (ps_name k (kS T n d) q) fun t=>if t.1.isSome=true then some (t.1,z t,p t) else gs k t) (fun k=>Option.bind (pr_name k (rF T n d e a)) (gr k)):=by
 refine Sim.split (fr:=fun e a k=>Option.bind (pr_name k (rF T n d e a)) (gr k)) (fun t ht he=>?_) (fun he t ht=>?_)
 · have hn:=(List.getElem?_eq_some_iff.1 ht).1
   by_cases h:t.Kind=1
   · refine Sim.fwd (hT.next ht (by omega)) ((hg (n+1) 0 0 t.Text t.At (fun _=>⟨Nat.lt_succ_self n,he⟩)).pre (fun _ _ r hr=>?_) (fun r hr=>?_))
     · exact eb (ea (ps_name_t ht hT.1 h q)) (eg (by simp) hr)
     · exact eb (ea (pr_name_t ht hT.1 h)) hr
   · obtain ⟨w,hw⟩:=(hg n 40 t.At [] 0 (fun h=>absurd h (by decide)) hn).2 (by decide)
     exact Sim.fault (by decide) hn (eb (ea (ps_name_f ht h q)) (ep rfl et)) (Q.mono (fun r hr=>eb (ea (pr_name_f ht h)) hr) hw)
 · obtain ⟨w,hw⟩:=(hg n e a [] 0 (fun h=>absurd h he) (List.getElem?_eq_some_iff.1 ht).1).2 he
   exact ⟨w,Q.mono (fun r hr=>eb (ea (pr_name_F ht he)) hr) hw⟩
theorem Sim.tok {gs:Nat→Token→Option (OV×β×ParK)} {gr:Nat→Token→Option σ}
 (hg:∀ t,T[n]? = some t→Sim Q T n0 n d e a (fun k=>gs k t) (fun k=>gr k t)) :
 Sim Q T n0 n d e a (fun k=>Option.bind (ps_token k (kS T n d)) (gs k)) (fun k=>Option.bind (idx (rF T n d e a).l (rF T n d e a).at_) (gr k)):=by
 refine Sim.lt fun hn=>?_
 obtain ⟨t,ht⟩:=at_some hn;exact (hg t ht).pre (fun _ _ r hr=>eb (ea (ps_token_ ht)) hr) (fun r hr=>ebc (idx_some ht) hr)
theorem Sim.cat2 {N:Nat} {l M:List ρ} {gs:Nat→List ρ→Option (OV×β×ParK)} {gr:Nat→List ρ→Option σ} (h:l.length+M.length≤N)
 (hg:Sim Q T n0 n d e a (fun k=>gs k (l++M)) (fun k=>gr k (l++M))) :
 Sim Q T n0 n d e a (fun k=>Option.bind (catN N l M) (gs k)) (fun k=>Option.bind (catN N l M) (gr k)) :=
 hg.pre (fun _ _ r hr=>ebc (cat_at h) hr) (fun r hr=>ebc (cat_at h) hr)
end
theorem ps_more_no {st:ParK} {b:Bool} {len most:Int} (h:¬ (b=true∧most≤len)):Ev (fun k=>ps_more k st b len most) none:=by
 unfold ps_more;by_cases hb:b=true
 · exact ep hb (eg (fun q=>h ⟨hb,q⟩) et)
 · exact eg hb et
theorem ps_more_yes (ht:T[n]? = some t) {len most:Int} (h:most≤len):Ev (fun k=>ps_more k (kS T n d) true len most) (some (faultV 42 t.At)):=by
 unfold ps_more;exact ep rfl (ep h (eb (ea (ps_give_ ht 42)) (ep rfl et)))
theorem Sim.more [Sml β] {Q:Reach β σ} (hT:Toks T) {s:By} {len most:Int} {gs:Nat→Option (OV×β×ParK)} {z:OV→β} {p:OV→ParK} {gr:Bool→Nat→Option σ} (hle:len≤most)
 (hb:e=0→a=0→len=most→∀ t,T[n]? = some t→∃ w,Q.rt (gr true) w (rF T n d 42 t.At)) (hg:(e=0→len=most→∀ t,T[n]? = some t→(isK t && (t.Text == s))=false)→Sim Q T n0 n d e a gs (gr false)) :
 Sim Q T n0 n d e a (fun k=>Option.bind (ps_is k (kS T n d) [s]) fun t=>Option.bind (ps_more k (kS T n d) t len most) fun m=>if m.isSome=true then some (m,z m,p m) else gs k) (fun k=>Option.bind (pr_is k (rF T n d e a) s) fun t=>if t=true then gr (decide (len=most)) k else gr false k):=by
 by_cases he:e=0
 · by_cases ha:a=0
   · subst he ha
     refine Sim.lt fun hn=>?_
     obtain ⟨t,ht⟩:=at_some hn;have hr:=fun k=>pr_is_ (d:=d) ht s k
     have hs:=ps_is1 (d:=d) ht s;cases h:(isK t && (t.Text == s))
     · rw [h] at hs
       simp only [h] at hr;exact (hg fun _ _ u hu=>by rw [ht] at hu;cases hu;exact h).pre (fun _ _ r hr'=>eb hs (eb (ps_more_no (by simp)) (eg (by simp) hr'))) (fun r hr'=>eb (ea hr) (eg (by simp) hr'))
     · rw [h] at hs
       simp only [h] at hr;by_cases hl:len=most
       · obtain ⟨w,hw⟩:=hb rfl rfl hl t ht
         exact Sim.fault (by decide) hn (eb hs (eb (ps_more_yes ht (by omega)) (ep rfl et))) (Q.mono (fun r hr'=>eb (ea hr) (ep rfl (by simpa only [decide_eq_true hl] using hr'))) hw)
       · exact (hg fun _ q=>absurd q hl).pre (fun _ _ r hr'=>eb hs (eb (ps_more_no (by omega)) (eg (by simp) hr'))) (fun r hr'=>eb (ea hr) (ep rfl (by simpa only [decide_eq_false hl] using hr')))
   · exact fun _=>⟨fun _ h=>absurd h ha,fun h=>absurd he h⟩
 · intro hn
   obtain ⟨t,ht⟩:=at_some hn;refine ⟨fun h=>absurd h he,fun _=>?_⟩;obtain ⟨w,hw⟩:=(hg (fun h=>absurd h he) hn).2 he;exact ⟨w,Q.mono (fun r hr=>eb (ea (pr_is_F ht he s)) (eg (by simp) hr)) hw⟩
theorem value_sim (hT:Toks T):Sim Q0 T n n d e a (fun k=>ps_value k (kS T n d)) (fun k=>pr_value k (rF T n d e a)) :=
 Sim.of_agree (fr:=fun e a k=>pr_value k (rF T n d e a)) (fun t ht=>value_agree hT ht) (fun he t ht=>by obtain ⟨v,hv⟩:=pr_value_F (d:=d) (a:=a) ht he;exact ⟨v,ea hv⟩)
theorem bare_sim (hT:Toks T):Sim Q0 T n n d e a (fun k=>ps_bare k (kS T n d)) (fun k=>pr_bare k (rF T n d e a)) :=
 Sim.of_agree (fr:=fun e a k=>pr_bare k (rF T n d e a)) (fun t ht=>bare_agree hT ht) (fun he t ht=>⟨_,ea (pr_bare_F he ht)⟩)
theorem wordNumber_sim (hT:Toks T):Sim Q0 T n n d e a (fun k=>ps_wordNumber k (kS T n d)) (fun k=>pr_number k (rF T n d e a) true) :=
 Sim.of_agree (fr:=fun e a k=>pr_number k (rF T n d e a) true) (fun t ht=>wordNumber_agree hT ht) (fun he t ht=>⟨_,ea (pr_number_F ht he)⟩)
theorem number_sim (hT:Toks T):Sim Q0 T n n d e a (fun k=>ps_number k (kS T n d)) (fun k=>pr_number k (rF T n d e a) false):=by
 refine Sim.of_agree (fr:=fun e a k=>pr_number k (rF T n d e a) false) (fun t ht=>?_) (fun he t ht=>⟨_,ea (pr_number_F ht he)⟩);have C:=(List.getElem?_eq_some_iff.1 ht).1;by_cases q:t.Kind=3
 · exact .inl ⟨_,n+1,Nat.lt_succ_self _,hT.next ht (by omega),ea (ps_number_t ht hT.1 q),ea (pr_number_t ht hT.1 q (by simp)),rfl⟩
 · exact .inr ⟨40,t.At,_,_,_,n,by decide,C,ea (ps_number_f ht q),ea (pr_number_f ht (by simp [q]))⟩
end Go.Proofs.YtnhifhlbelogcaaGreatDoor
set_option linter.unusedVariables false
set_option linter.unusedSimpArgs false
namespace Go.Proofs.YtnhifhlbelogcaaGreatDoor
open Go Go.Eng
variable {T:List Token} {n0 n d:Nat} {e a:Int} {t:Token}
theorem members_l (hT:Toks T):∀ (m n:Nat) (e a:Int) (l:List Tree),(e=0→T.length - n≤m∧n0 < n∧l.length≤n∧l.length < 64)→(e=0→∀ t∈l,Sm t)→Sim Q0 T n0 n d e a (fun k=>ps_members.l1 k (kS T n d) l) (fun k=>pr_members.l1 k (rF T n d e a) l):=by
 have hTl:=hT.1;have hbad:∀ (n:Nat) (e a:Int) (l:List Tree),e≠0→Ev (fun k=>pr_members.l1 k (rF T n d e a) l) ([],rF T n d e a):=fun n e a l he=>Ev.step (eg he et) (fun k=>by rw [pr_members.l1])
 intro m
 induction m with
 | zero =>
  intro n e a l hl hsm;refine Sim.split (fr:=fun e a k=>pr_members.l1 k (rF T n d e a) l) (fun t ht he=>?_) (fun he t ht=>⟨[],hbad n e a l he⟩);have hn:=(List.getElem?_eq_some_iff.1 ht).1;have:=hl he
  omega
 | succ m ih =>
  intro n e a l hl hsm;refine Sim.split (fr:=fun e a k=>pr_members.l1 k (rF T n d e a) l) (fun t ht he=>?_) (fun he t ht=>⟨[],hbad n e a l he⟩);obtain ⟨hm,Z,aa,ab⟩:=hl he;have hn:=(List.getElem?_eq_some_iff.1 ht).1;refine Sim.unf ?_;simp only [ps_members.l1,pr_members.l1];refine Sim.preR (fun r hr=>ep (by simp) hr) ?_;refine Sim.name hT 5 fun n1 e1 ad s x ae=>?_
  refine Sim.want hT _ fun n2 af ag _ D=>?_
  refine Sim.seq (value_sim hT) fun v ah ai aj ak C=>?_
  refine Sim.cat2 (by simp only [List.length_singleton];omega) ?_;refine Sim.may hT _ (fun q _ _=>Sim.ret (fun _=>by omega) fun _=>⟨by simp only [List.length_append,List.length_singleton];omega,smL_app (hsm he) (smL_one (.one (C q)))⟩) fun _=>?_
  refine Sim.more hT (gr:=fun b k=>pr_members.j1 k _ _ b) (by simp only [List.length_append,List.length_singleton];omega) (fun q E hlen u hu=>⟨[],Ev.unf ?_⟩) fun hmo=>?_
  · simp only [pr_members.j1]
    subst q E;exact ep (by simp) (eb (ea (pr_fail_ hu 42)) (eb (ea (pr_want_F hu (by decide) _)) (hbad _ _ _ _ (by decide))))
  · refine Sim.unfR ?_
    simp only [pr_members.j1];refine Sim.preR (fun r hr=>eg (by decide) hr) ?_;refine Sim.lt fun J=>?_
    refine Sim.wantK hT _ fun O V X _ Y hk=>ih O V X _ (fun h=>?_) (fun h=>smL_app (hsm he) (smL_one (.one (C (Y h).2))))
    obtain ⟨u,hu⟩:=at_some J;have hk':=hk h u hu;have hne:¬ ((l++[(⟨5,s,0,x,[v]⟩:Tree)]).length:Int)=64:=fun D=>by
     have:=hmo (by omega) D u hu;rw [hk'] at this;exact absurd this (by decide)
    simp only [List.length_append,List.length_singleton] at hne ⊢
    omega
theorem members_sim (hT:Toks T):Sim Q0 T n n d e a (fun k=>ps_members k (kS T n d)) (fun k=>pr_members k (rF T n d e a)):=by
 unfold ps_members pr_members;exact Sim.want hT _ fun n1 e1 q _ C=>members_l hT T.length n1 e1 q [] (fun h=>⟨by omega,by omega,by simp,by decide⟩) (fun _=>smL_nil)
section
variable (x57:Int) (s58:By) (x59 x60:Int) (l63:List Tree) (t89:By×Int×ParR)
abbrev argC:Nat→List Tree→ParR→Option (Tree×ParR):=fun k l s=>pr_procedure.j3 k x57 s58 x59 x60 l63 t89 s l
abbrev argP:List Tree→Prop:=fun l=>l.length≤4
theorem args_end (b:Bool×ParR) (h:¬ (e=0)∨b.1=true) {l:List Tree} {r:Tree×ParR} (hr:Ev (fun k=>pr_procedure.j3 k x57 s58 x59 x60 l63 t89 (rF T n d e a) l) r) :
 Ev (fun k=>pr_procedure.l1 k x57 s58 x59 x60 l63 t89 b (rF T n d e a) l) r:=by
 refine Ev.unf ?_;simp only [pr_procedure.l1];by_cases he:e=0
 · have hb:b.1=true:=h.resolve_left (fun h=>h he)
   refine ep he (Ev.unf ?_);simp only [pr_procedure.j4];exact eg (by simp [hb]) hr
 · refine eg he (Ev.unf ?_)
   simp only [pr_procedure.j4];exact eg (by simp) hr
theorem args_l (hT:Toks T) (b:Bool×ParR) (hb:b.1=false):∀ (m n:Nat) (e a:Int) (l:List Tree),l.length≤4→(e=0→T.length - n≤m∧n0 < n)→(e=0→∀ t∈l,Sm t) →
 Sim (QC argP (argC x57 s58 x59 x60 l63 t89)) T n0 n d e a (fun k=>ps_arguments.l1 k (kS T n d) l)
  (fun k=>Option.bind (pr_is k (rF T n d e a) [44]) fun q=>if q=true then if (l.length:Int)=4 then Option.bind (pr_fail k (rF T n d e a) 42) fun C=>Option.bind (pr_want k C [44]) fun D=>pr_procedure.l1 k x57 s58 x59 x60 l63 t89 b D l else Option.bind (pr_want k (rF T n d e a) [44]) fun E=>pr_procedure.l1 k x57 s58 x59 x60 l63 t89 b E l else pr_procedure.j3 k x57 s58 x59 x60 l63 t89 (rF T n d e a) l):=by
 intro m
 induction m with
 | zero =>
  intro n e a l hl h hsm;refine Sim.unfS ?_;simp only [ps_arguments.l1];refine Sim.is hT _ (fun he ha hk=>Sim.lt fun hn=>?_) (fun hk=>Sim.cont hl (fun he=>(h he).2) (fun he=>⟨by omega,hsm he⟩));have:=h he
  omega
 | succ m ih =>
  intro n e a l hl h hsm;refine Sim.unfS ?_;simp only [ps_arguments.l1];refine Sim.is hT _ (fun he ha hk=>Sim.lt fun hn=>?_) (fun hk=>Sim.cont hl (fun he=>(h he).2) (fun he=>⟨by omega,hsm he⟩));obtain ⟨hm,Y⟩:=h he;obtain ⟨t,ht⟩:=at_some hn;subst he ha;by_cases J:(l.length:Int)=4
  · exact Sim.fault (by decide) hn (eb (ps_more_yes ht (by omega)) (ep rfl et)) ⟨hl,fun r hr=>ep J (eb (ea (pr_fail_ ht 42)) (eb (ea (pr_want_F ht (by decide) _)) (args_end x57 s58 x59 x60 l63 t89 b (.inl (by decide)) hr)))⟩
  · refine Sim.pre (fun _ _ r hr=>eb (ps_more_no (by omega)) (eg (by simp) hr)) (fun r hr=>eg J hr) ?_
    refine Sim.want hT _ fun n1 e1 Z _ aa=>?_
    refine Sim.split (fr:=fun e a k=>pr_procedure.l1 k x57 s58 x59 x60 l63 t89 b (rF T n1 d e a) l) (fun u hu he=>?_) (fun he u hu=>⟨l,hl,fun r hr=>args_end x57 s58 x59 x60 l63 t89 b (.inl he) hr⟩);refine Sim.unfR ?_;simp only [pr_procedure.l1];refine Sim.preR (fun r hr=>ep (by simp) hr) (Sim.unfR ?_);simp only [pr_procedure.j4];refine Sim.preR (fun r hr=>ep (by simp [hb]) hr) ?_;refine Sim.seq (bare_sim hT) fun v n2 V X ab O=>?_
    refine Sim.cat2 (by simp only [List.length_singleton];omega) ?_;exact ih n2 V X _ (by simp only [List.length_append,List.length_singleton];omega) (fun h=>by omega) (fun h=>smL_app (hsm rfl) (smL_one (O h)))
theorem args_sim (hT:Toks T):Sim (QC argP (argC x57 s58 x59 x60 l63 t89)) T n n d e a (fun k=>ps_arguments k (kS T n d))
 (fun k=>Option.bind (idx (rF T n d e a).l (rF T n d e a).at_) fun C=>Option.bind (pr_may k (rF T n d e a) [118,111,105,100]) fun q=>if q.1=true then Option.bind (cat [] [(⟨13,[],0,C.At,[]⟩:Tree)]) fun D=>pr_procedure.j2 k x57 s58 x59 x60 l63 t89 q D else pr_procedure.j2 k x57 s58 x59 x60 l63 t89 q []):=by
 unfold ps_arguments;refine Sim.tok fun t ht=>?_
 refine Sim.may hT _ (fun he ha _=>?_) (fun _=>?_)
 · subst he ha
   refine Sim.preR (fun r hr=>ebc (cat_at (by simp)) (args_end x57 s58 x59 x60 l63 t89 _ (.inr rfl) hr)) ?_;exact Sim.cont (show _≤4 by simp) (fun _=>Nat.lt_succ_self n) (fun _=>⟨by simp,smL_one .leaf⟩)
 · refine Sim.split (fr:=fun e a k=>pr_procedure.j2 k x57 s58 x59 x60 l63 t89 (false,rF T n d e a) []) (fun u hu he=>?_) (fun he u hu=>⟨[],show _≤4 by decide,fun r hr=>args_end x57 s58 x59 x60 l63 t89 _ (.inl he) hr⟩)
   unfold pr_procedure.j2;refine Sim.unfR ?_;simp only [pr_procedure.l1];refine Sim.preR (fun r hr=>ep (by simp) hr) (Sim.unfR ?_);simp only [pr_procedure.j4];refine Sim.preR (fun r hr=>ep (by simp) hr) ?_;refine Sim.seq (bare_sim hT) fun v n2 J O V E=>?_
   refine Sim.preR (fun r hr=>ebc (cat_at (show ([]:List Tree).length+[v].length≤_ by simp)) hr) ?_;exact args_l x57 s58 x59 x60 l63 t89 hT _ rfl T.length n2 J O [v] (by simp) (fun h=>by omega) (fun h=>smL_one (E h))
end
theorem procedure_j1 (hT:Toks T) (E:e=0→n0≤n) (x:Int) (s:By) (y z:Int) (l:List Tree) (hr:e=0→Sm ⟨x,s,y,z,l⟩):Sim Q0 T n0 n d e a (fun k=>ps_procedure.j1 k (kS T n d) x s y z l) (fun k=>pr_procedure.j1 k (rF T n d e a) x s y z l):=by
 unfold ps_procedure.j1 pr_procedure.j1;refine Sim.name hT 12 fun n1 e1 J nm D O=>?_
 refine Sim.want hT _ fun n2 V X _ Y=>?_
 refine Sim.seqC (args_sim x s y z l _ hT) fun v Z aa ab hv ad q=>?_
 unfold argC pr_procedure.j3;refine Sim.want hT _ fun ae af ag _ ah=>?_
 refine Sim.want hT _ fun ai e5 aj _ ak=>?_
 refine Sim.seq (wordNumber_sim hT) fun al am an ao ap C=>?_
 unfold pr_procedure.j5;refine Sim.cat2 (by have:v.length≤4:=hv;simp only [List.length_cons,List.length_nil];omega) ?_;exact Sim.want hT _ fun aq ar au _ ax=>Sim.ret (fun _=>by omega) fun he=>.mk (by have:v.length≤4:=hv;simp only [List.length_append,List.length_cons,List.length_nil];omega) (smL_app (smL_cons (C (by omega)) (smL_one (hr (by omega)))) (q (by omega)).2)
theorem procedure_sim (hT:Toks T):Sim Q0 T n n d e a (fun k=>ps_procedure k (kS T n d)) (fun k=>pr_procedure k (rF T n d e a)):=by
 unfold ps_procedure pr_procedure;refine Sim.tok fun t ht=>?_
 refine Sim.may hT _ (fun he ha _=>procedure_j1 hT (fun _=>by omega) _ _ _ _ _ fun _=>.leaf) (fun _=>?_);exact Sim.seq (bare_sim hT) fun v n2 C D E q=>procedure_j1 hT (fun _=>by omega) _ _ _ _ _ fun h=>by have:=q h;cases v;exact this
end Go.Proofs.YtnhifhlbelogcaaGreatDoor
set_option linter.unusedVariables false
set_option linter.unusedSimpArgs false
namespace Go.Proofs.YtnhifhlbelogcaaGreatDoor
open Go Go.Eng
variable {T:List Token} {n0 n d:Nat} {e a:Int} {t:Token}
theorem version_j1 (hT:Toks T) (s:By) (x:Int) (tk:ParK) (tr:ParR) {l:List Tree} (hl:l.length≤1000) (C:e=0→n0≤n) (hsm:e=0→∀ t∈l,Sm t) :
 Sim Q0 T n0 n d e a (fun k=>ps_version.j1 k (none,⟨11,s,0,x,[]⟩,tk) (kS T n d) l) (fun k=>pr_version.j1 k (s,x,tr) (rF T n d e a) l):=by
 unfold ps_version.j1 pr_version.j1;refine Sim.want hT _ fun D e5 E _ J=>?_
 refine Sim.seq (wordNumber_sim hT) fun O V X Y Z q=>?_
 refine Sim.cat2 (by simp only [List.length_cons,List.length_nil];omega) ?_;exact Sim.want hT _ fun aa ab ad _ ae=>Sim.ret (fun _=>by omega) fun he=>.mk (by simp only [List.length_append,List.length_cons,List.length_nil];omega) (smL_app (smL_one (q (by omega))) (hsm (by omega)))
theorem version_bad (hT:Toks T) (s:By) (x:Int) (tr:ParR) {l:List Tree} (hl:l.length≤1000) (he:e≠0) (hn:n < T.length) :
 ∃ w,Ev (fun k=>pr_version.l1 k (s,x,tr) (rF T n d e a) l) (w,rF T n d e a):=by
 obtain ⟨w,hw⟩:=(version_j1 (n0:=n) (a:=a) (d:=d) hT s x (kS T n d) tr hl (fun h=>absurd h he) (fun h=>absurd h he)).bad he hn;exact ⟨w,Ev.step (eg he hw) (fun k=>by rw [pr_version.l1])⟩
def procs (t:Token):Bool:=begins t || isW t [118,111,105,100]
abbrev verT (s:By) (x:Int) (tr:ParR) (k:Nat) (q:ParR) (L:List Tree):Option (Tree×ParR):=Option.bind (pr_begins k q) fun C=>if C=true then (if (L.length:Int)=64 then (Option.bind (pr_fail k q 42) fun D=>pr_version.l1 k (s,x,tr) D L) else pr_version.l1 k (s,x,tr) q L) else Option.bind (pr_is k q ([118,111,105,100]:By)) fun E=>if E=true then (if (L.length:Int)=64 then (Option.bind (pr_fail k q 42) fun J=>pr_version.l1 k (s,x,tr) J L) else pr_version.l1 k (s,x,tr) q L) else pr_version.l1 k (s,x,tr) q L
abbrev verM (s:By) (x:Int) (tr:ParR) (k:Nat) (q:ParR) (L:List Tree):Option (Tree×ParR):=Option.bind (pr_may k q ([125]:By)) fun C=>if C.1=true then pr_version.j1 k (s,x,tr) C.2 L else verT s x tr k C.2 L
theorem verT_bad (hT:Toks T) (s:By) (x:Int) (tr:ParR) {L:List Tree} (hl:L.length≤1000) (he:e≠0) (hn:n < T.length) :
 ∃ w,Ev (fun k=>verT s x tr k (rF T n d e a) L) (w,rF T n d e a):=by
 obtain ⟨u,hu⟩:=at_some hn;obtain ⟨w,hw⟩:=version_bad (d:=d) (a:=a) hT s x tr hl he hn;refine ⟨w,eb (ea (pr_begins_ hu)) ?_⟩;have hw':Ev (fun k=>if (L.length:Int)=64 then (Option.bind (pr_fail k (rF T n d e a) 42) fun C=>(pr_version.l1 k (s,x,tr) C L)) else (pr_version.l1 k (s,x,tr) (rF T n d e a) L)) (w,rF T n d e a):=by
  by_cases q:(L.length:Int)=64
  · exact ep q (eb (ea (pr_fail_F he 42)) hw)
  · exact eg q hw
 by_cases hb:begins u=true
 · exact ep hb hw'
 · exact eg hb (eb (ea (pr_is_F hu he _)) (eg (by decide) hw))
theorem verM_bad (hT:Toks T) (s:By) (x:Int) (tr:ParR) {L:List Tree} (hl:L.length≤1000) (he:e≠0) (hn:n < T.length) :
 ∃ w,Ev (fun k=>verM s x tr k (rF T n d e a) L) (w,rF T n d e a):=by
 obtain ⟨u,hu⟩:=at_some hn;obtain ⟨w,hw⟩:=verT_bad (d:=d) (a:=a) hT s x tr hl he hn;exact ⟨w,eb (ea (pr_may_F hu he _)) (eg (by simp) hw)⟩
theorem Ev.det {α:Type} {f:Nat→Option α} {r s:α} (q:Ev f r) (C:Ev f s):r=s:=by
 obtain ⟨K,q⟩:=q;obtain ⟨L,C⟩:=C;have:=(q (K+L) (by omega)).symm.trans (C (K+L) (by omega));exact Option.some.inj this
theorem Sim.seqF {α β σ:Type} [Sml α] [Sml β] {Q:Reach β σ} {F:Nat→Option (OV×α×ParK)} {fr:Nat→Option (α×ParR)} {gs:Nat→(OV×α×ParK)→Option (OV×β×ParK)} {z:(OV×α×ParK)→β} {p:(OV×α×ParK)→ParK} {C:Nat→α×ParR→Option σ} {f:Value} {q:α} {D:ParK}
 (h:Sim Q0 T n n d 0 0 F fr) (hF:Ev F (some f,q,D)) (hg:∀ v n' e' a',e'≠0→n' < T.length→∃ w,Q.rt (fun k=>C k (v,rF T n' d e' a')) w (rF T n' d e' a')) :
 Sim Q T n0 n d 0 0 (fun k=>Option.bind (F k) fun t=>if t.1.isSome=true then some (t.1,z t,p t) else gs k t) (fun k=>Option.bind (fr k) (C k)):=by
 refine Sim.lt fun hn=>?_
 rcases (h hn).1 rfl rfl with ⟨v,n',l1,l2,sv,s,r⟩|⟨e',a',z',p',w,n',he',l,s,r⟩
 · exact absurd (congrArg Prod.fst (Ev.det s hF)) (by simp)
 · obtain ⟨E,hw⟩:=hg w n' e' a' he' l
   exact Sim.fault he' l (eb s (ep rfl et)) (Q.mono (fun x hx=>eb r hx) hw)
theorem begins_no {u:Token} (h:begins u=false):¬ u.Kind=1∧∀ s∈([[117,110,115,105,103,110,101,100],[105,110,116],[104,121,112,101,114],[102,108,111,97,116],[100,111,117,98,108,101],[98,111,111,108]]:List By),isW u s=false:=by
 unfold begins at h;by_cases q:u.Kind=1
 · rw [if_pos q] at h;exact absurd h (by decide)
 · refine ⟨q,fun s hs=>?_⟩
   rw [if_neg q] at h;by_cases C:u.Kind=2
   · rw [if_pos C] at h
     rw [isW_eq C];by_cases e:u.Text=s
     · exfalso
       subst e;simp only [List.mem_cons,List.not_mem_nil,or_false] at hs;rcases hs with h' | h' | h' | h' | h' | h' <;> (rw [h'] at h;exact absurd h (by decide))
     · simpa using e
   · exact isW_no C s
theorem ps_procedure_no (hT:Toks T) (ht:T[n]? = some t) (h:procs t=false):∃ z p,Ev (fun k=>ps_procedure k (kS T n d)) (some (faultV 40 t.At),z,p):=by
 have hb:begins t=false:=by unfold procs at h;simp at h;exact h.1
 have hv:isW t [118,111,105,100]=false:=by unfold procs at h;simp at h;exact h.2
 unfold ps_procedure;exact ⟨_,_,eb (ea (ps_token_ ht)) (eb (may_no hT ht (by decide) hv) (eg (by simp) (eb (ps_bare_no hT ht (begins_no hb).1 (begins_no hb).2) (ep rfl et))))⟩
theorem ps_more_yes' {u:Token} (hu:T[n]? = some u) {b:Bool} (hb:b=true) {len most:Int} (h:most≤len):Ev (fun k=>ps_more k (kS T n d) b len most) (some (faultV 42 u.At)):=by
 subst hb;exact ps_more_yes hu h
theorem version_l (hT:Toks T) (s:By) (x:Int) (tk:ParK) (tr:ParR):∀ (m n:Nat) (e a:Int) (l:List Tree),l.length≤64→(e=0→T.length - n≤m∧n0 < n)→(e=0→∀ t∈l,Sm t)→(e=0→∀ t,T[n]? = some t→procs t=true→l.length < 64) →
 Sim Q0 T n0 n d e a (fun k=>ps_version.j2 k (none,⟨11,s,0,x,[]⟩,tk) l (kS T n d)) (fun k=>pr_version.l1 k (s,x,tr) (rF T n d e a) l):=by
 have hTl:=hT.1;intro m
 induction m with
 | zero =>
  intro n e a l hl h _ _;refine Sim.split (fr:=fun e a k=>pr_version.l1 k (s,x,tr) (rF T n d e a) l) (fun t ht he=>?_) (fun he t ht=>version_bad hT s x tr (by omega) he (List.getElem?_eq_some_iff.1 ht).1);have hn:=(List.getElem?_eq_some_iff.1 ht).1;have:=h he
  omega
 | succ m ih =>
  intro n e a l hl h hsm hp;refine Sim.split (fr:=fun e a k=>pr_version.l1 k (s,x,tr) (rF T n d e a) l) (fun t ht he=>?_) (fun he t ht=>version_bad hT s x tr (by omega) he (List.getElem?_eq_some_iff.1 ht).1);have hn:=(List.getElem?_eq_some_iff.1 ht).1;obtain ⟨hm,ad⟩:=h he;have hvw:=hT.w1 ht (s:=[118,111,105,100]) (by decide);refine Sim.unf ?_;simp only [ps_version.j2,pr_version.l1];refine Sim.preR (fun r hr=>ep (by simp) hr) ?_;have key:Sim Q0 T n0 n d 0 0 (fun k=>Option.bind (ps_procedure k (kS T n d)) fun C=>(if (C.1).isSome=true then (some (C.1,(⟨0,([]:By),0,0,[]⟩:Tree),C.2.2)) else (Option.bind (cat l ([C.2.1]:List Tree)) fun X=>(ps_version.l1 k (none,⟨11,s,0,x,[]⟩,tk) C.2.2 X))))
   (fun k=>Option.bind (pr_procedure k (rF T n d 0 0)) fun O=>Option.bind (cat l ([O.1]:List Tree)) fun Z=>verM s x tr k O.2 Z):=by
   by_cases hpt:procs t=true
   · have D:=hp he t ht hpt
     refine Sim.seq (procedure_sim hT) fun v n1 e1 J Y aa=>?_
     refine Sim.cat2 (by simp only [List.length_singleton];omega) ?_;refine Sim.unfS ?_;simp only [ps_version.l1];refine Sim.preS (fun _ _ r hr=>eg (by simp only [List.length_append,List.length_singleton];omega) hr) ?_;have hlv:(l++[v]).length≤64:=by simp only [List.length_append,List.length_singleton];omega
     have hLs:e1=0→∀ t∈l++[v],Sm t:=fun h=>smL_app (hsm he) (smL_one (aa h))
     generalize l++[v]=L at hlv hLs;refine Sim.may hT _ (fun q ae _=>version_j1 hT s x _ _ (by omega) (fun _=>by omega) (fun _=>hLs q)) (fun _=>?_);refine Sim.split (fr:=fun e1 J k=>verT s x tr k (rF T n1 d e1 J) L) (fun u hu q=>?_) (fun q u hu=>verT_bad hT s x tr (by omega) q (List.getElem?_eq_some_iff.1 hu).1);have E:=(List.getElem?_eq_some_iff.1 hu).1;have hw:=hT.w1 hu (s:=[118,111,105,100]) (by decide);by_cases hpu:procs u=true
     · have hv:¬ begins u=true→isW u [118,111,105,100]=true:=fun hb=>by unfold procs at hpu;simpa [hb] using hpu
       by_cases D:(L.length:Int)=64
       · obtain ⟨w,V⟩:=version_bad (d:=d) (a:=u.At) hT s x tr (show L.length≤1000 by omega) (show (42:Int)≠0 by decide) E
         refine Sim.fault (e':=42) (a':=u.At) (by decide) E (z:=⟨0,[],0,0,[]⟩) (p:=kS T n1 d) (w:=w) ?_ ?_
         · refine Ev.unf ?_
           simp only [ps_version.j2];refine eb (ps_isBare_ hT hu) ?_;by_cases hb:begins u=true
           · exact ep hb (eb (ps_more_yes hu (by omega)) (ep rfl et))
           · exact eg hb (eb (ps_is1 hu _) (eb (ps_more_yes' hu (by rw [hw];exact hv hb) (by omega)) (ep rfl et)))
         · refine eb (ea (pr_begins_ (e:=0) (a:=0) hu)) ?_
           by_cases hb:begins u=true
           · exact ep hb (ep D (eb (ea (pr_fail_ hu 42)) V))
           · exact eg hb (eb (ea (pr_is_ hu _)) (ep (by rw [hw];exact hv hb) (ep D (eb (ea (pr_fail_ hu 42)) V))))
       · refine Sim.preR (fun r hr=>?_) (ih n1 0 0 L hlv (fun _=>by omega) (fun _=>hLs q) (fun _ _ _ _=>by omega))
         refine eb (ea (pr_begins_ (e:=0) (a:=0) hu)) ?_;by_cases hb:begins u=true
         · exact ep hb (eg D hr)
         · exact eg hb (eb (ea (pr_is_ hu _)) (ep (by rw [hw];exact hv hb) (eg D hr)))
     · refine Sim.preR (fun r hr=>?_) (ih n1 0 0 L hlv (fun _=>by omega) (fun _=>hLs q) (fun _ y hy ab=>by rw [hu] at hy;cases hy;exact absurd ab hpu))
       have hb:¬ begins u=true:=by unfold procs at hpu;intro h;simp [h] at hpu
       have hv:¬ isW u [118,111,105,100]=true:=by unfold procs at hpu;intro h;simp [h] at hpu
       exact eb (ea (pr_begins_ (e:=0) (a:=0) hu)) (eg hb (eb (ea (pr_is_ hu _)) (eg (by rw [hw];exact hv) hr)))
   · obtain ⟨z,p,hF⟩:=ps_procedure_no (d:=d) hT ht (by simpa using hpt)
     refine Sim.seqF (procedure_sim hT) hF fun v n1 e1 J q E=>?_
     obtain ⟨w,hw⟩:=verM_bad (d:=d) (a:=J) hT s x tr (L:=l++[v]) (by simp only [List.length_append,List.length_singleton];omega) q E;exact ⟨w,ebc (cat_at (by simp only [List.length_singleton];omega)) hw⟩
  by_cases hb:begins t=true
  · refine Sim.preS (fun _ _ r hr=>eb (ps_isBare_ hT ht) (ep hb (eb (ps_more_no ?_) (eg (by simp) hr)))) key
    have:=hp he t ht (by unfold procs;simp [hb])
    omega
  · refine Sim.preS (fun _ _ r hr=>eb (ps_isBare_ hT ht) (eg hb (eb (ps_is1 ht _) (eb (ps_more_no ?_) (eg (by simp) hr))))) key
    rintro ⟨Y,af⟩;have:=hp he t ht (by unfold procs;rw [hvw] at Y;simp [Y])
    omega
theorem version_sim (hT:Toks T):Sim Q0 T n n d e a (fun k=>ps_version k (kS T n d)) (fun k=>pr_version k (rF T n d e a)):=by
 unfold ps_version pr_version;refine Sim.want hT _ fun n1 e1 E _ J=>?_
 refine Sim.name hT 11 fun n2 O V s x X=>?_
 refine Sim.want hT _ fun q C D _ Y=>?_
 refine Sim.unfS ?_;simp only [ps_version.l1];exact Sim.preS (fun _ _ r hr=>ep (by simp) hr) (version_l hT s x _ _ T.length q C D [] (by simp) (fun _=>by omega) (fun _=>smL_nil) (fun _ _ _ _=>by simp))
theorem program_j1 (hT:Toks T) (s:By) (x:Int) (tk:ParK) (tr:ParR) {l:List Tree} (hl:l.length≤1000) (C:e=0→n0≤n) (hsm:e=0→∀ t∈l,Sm t) :
 Sim Q0 T n0 n d e a (fun k=>ps_program.j1 k (none,⟨10,s,0,x,[]⟩,tk) (kS T n d) l) (fun k=>pr_program.j1 k (s,x,tr) (rF T n d e a) l):=by
 unfold ps_program.j1 pr_program.j1;refine Sim.want hT _ fun D e5 E _ J=>?_
 refine Sim.seq (wordNumber_sim hT) fun O V X Y Z q=>?_
 refine Sim.cat2 (by simp only [List.length_cons,List.length_nil];omega) ?_;exact Sim.ret (fun _=>by omega) fun he=>.mk (by simp only [List.length_append,List.length_cons,List.length_nil];omega) (smL_app (smL_one (q (by omega))) (hsm (by omega)))
theorem program_bad (hT:Toks T) (s:By) (x:Int) (tr:ParR) {l:List Tree} (hl:l.length≤1000) (he:e≠0) (hn:n < T.length) :
 ∃ w,Ev (fun k=>pr_program.l1 k (s,x,tr) (rF T n d e a) l) (w,rF T n d e a):=by
 obtain ⟨w,hw⟩:=(program_j1 (n0:=n) (a:=a) (d:=d) hT s x (kS T n d) tr hl (fun h=>absurd h he) (fun h=>absurd h he)).bad he hn;exact ⟨w,Ev.step (eg he hw) (fun k=>by rw [pr_program.l1])⟩
abbrev prgT (s:By) (x:Int) (tr:ParR) (k:Nat) (q:ParR) (L:List Tree):Option (Tree×ParR):=Option.bind (pr_is k q ([118,101,114,115,105,111,110]:By)) fun C=>if C=true then (if (L.length:Int)=64 then (Option.bind (pr_fail k q 42) fun D=>pr_program.l1 k (s,x,tr) D L) else pr_program.l1 k (s,x,tr) q L) else pr_program.l1 k (s,x,tr) q L
abbrev prgM (s:By) (x:Int) (tr:ParR) (k:Nat) (q:ParR) (L:List Tree):Option (Tree×ParR):=Option.bind (pr_may k q ([125]:By)) fun C=>if C.1=true then pr_program.j1 k (s,x,tr) C.2 L else prgT s x tr k C.2 L
theorem prgT_bad (hT:Toks T) (s:By) (x:Int) (tr:ParR) {L:List Tree} (hl:L.length≤1000) (he:e≠0) (hn:n < T.length) :
 ∃ w,Ev (fun k=>prgT s x tr k (rF T n d e a) L) (w,rF T n d e a):=by
 obtain ⟨u,hu⟩:=at_some hn;obtain ⟨w,hw⟩:=program_bad (d:=d) (a:=a) hT s x tr hl he hn;exact ⟨w,eb (ea (pr_is_F hu he _)) (eg (by decide) hw)⟩
theorem prgM_bad (hT:Toks T) (s:By) (x:Int) (tr:ParR) {L:List Tree} (hl:L.length≤1000) (he:e≠0) (hn:n < T.length) :
 ∃ w,Ev (fun k=>prgM s x tr k (rF T n d e a) L) (w,rF T n d e a):=by
 obtain ⟨u,hu⟩:=at_some hn;obtain ⟨w,hw⟩:=prgT_bad (d:=d) (a:=a) hT s x tr hl he hn;exact ⟨w,eb (ea (pr_may_F hu he _)) (eg (by simp) hw)⟩
theorem ps_version_no (hT:Toks T) (ht:T[n]? = some t) (h:isW t [118,101,114,115,105,111,110]=false):∃ z p,Ev (fun k=>ps_version k (kS T n d)) (some (faultV 40 t.At),z,p):=by
 have hw:=hT.w1 ht (s:=[118,101,114,115,105,111,110]) (by decide);unfold ps_version;exact ⟨_,_,eb (ps_want_f ht (by rw [hw,h];decide)) (ep rfl et)⟩
theorem program_l (hT:Toks T) (s:By) (x:Int) (tk:ParK) (tr:ParR):∀ (m n:Nat) (e a:Int) (l:List Tree),l.length≤64→(e=0→T.length - n≤m∧n0 < n)→(e=0→∀ t∈l,Sm t)→(e=0→∀ t,T[n]? = some t→isW t [118,101,114,115,105,111,110]=true→l.length < 64) →
 Sim Q0 T n0 n d e a (fun k=>ps_program.j2 k (none,⟨10,s,0,x,[]⟩,tk) l (kS T n d)) (fun k=>pr_program.l1 k (s,x,tr) (rF T n d e a) l):=by
 have hTl:=hT.1;intro m
 induction m with
 | zero =>
  intro n e a l hl h _ _;refine Sim.split (fr:=fun e a k=>pr_program.l1 k (s,x,tr) (rF T n d e a) l) (fun t ht he=>?_) (fun he t ht=>program_bad hT s x tr (by omega) he (List.getElem?_eq_some_iff.1 ht).1);have hn:=(List.getElem?_eq_some_iff.1 ht).1;have:=h he
  omega
 | succ m ih =>
  intro n e a l hl h hsm hp;refine Sim.split (fr:=fun e a k=>pr_program.l1 k (s,x,tr) (rF T n d e a) l) (fun t ht he=>?_) (fun he t ht=>program_bad hT s x tr (by omega) he (List.getElem?_eq_some_iff.1 ht).1);have hn:=(List.getElem?_eq_some_iff.1 ht).1;obtain ⟨hm,ad⟩:=h he;have hvw:=hT.w1 ht (s:=[118,101,114,115,105,111,110]) (by decide);refine Sim.unf ?_;simp only [ps_program.j2,pr_program.l1];refine Sim.preR (fun r hr=>ep (by simp) hr) ?_;have key:Sim Q0 T n0 n d 0 0 (fun k=>Option.bind (ps_version k (kS T n d)) fun C=>(if (C.1).isSome=true then (some (C.1,(⟨0,([]:By),0,0,[]⟩:Tree),C.2.2)) else (Option.bind (cat l ([C.2.1]:List Tree)) fun V=>(ps_program.l1 k (none,⟨10,s,0,x,[]⟩,tk) C.2.2 V))))
   (fun k=>Option.bind (pr_version k (rF T n d 0 0)) fun O=>Option.bind (cat l ([O.1]:List Tree)) fun Y=>prgM s x tr k O.2 Y):=by
   by_cases hpt:isW t [118,101,114,115,105,111,110]=true
   · have E:=hp he t ht hpt
     refine Sim.seq (version_sim hT) fun v n1 e1 J X Z=>?_
     refine Sim.cat2 (by simp only [List.length_singleton];omega) ?_;refine Sim.unfS ?_;simp only [ps_program.l1];refine Sim.preS (fun _ _ r hr=>eg (by simp only [List.length_append,List.length_singleton];omega) hr) ?_;have hlv:(l++[v]).length≤64:=by simp only [List.length_append,List.length_singleton];omega
     have hLs:e1=0→∀ t∈l++[v],Sm t:=fun h=>smL_app (hsm he) (smL_one (Z h))
     generalize l++[v]=L at hlv hLs;refine Sim.may hT _ (fun q ae _=>program_j1 hT s x _ _ (by omega) (fun _=>by omega) (fun _=>hLs q)) (fun _=>?_);refine Sim.split (fr:=fun e1 J k=>prgT s x tr k (rF T n1 d e1 J) L) (fun u hu q=>?_) (fun q u hu=>prgT_bad hT s x tr (by omega) q (List.getElem?_eq_some_iff.1 hu).1);have D:=(List.getElem?_eq_some_iff.1 hu).1;have hw:=hT.w1 hu (s:=[118,101,114,115,105,111,110]) (by decide);by_cases hpu:isW u [118,101,114,115,105,111,110]=true
     · by_cases E:(L.length:Int)=64
       · obtain ⟨w,aa⟩:=program_bad (d:=d) (a:=u.At) hT s x tr (show L.length≤1000 by omega) (show (42:Int)≠0 by decide) D
         refine Sim.fault (e':=42) (a':=u.At) (by decide) D (z:=⟨0,[],0,0,[]⟩) (p:=kS T n1 d) (w:=w) ?_ ?_
         · refine Ev.unf ?_
           simp only [ps_program.j2];exact eb (ps_is1 hu _) (eb (ps_more_yes' hu (by rw [hw];exact hpu) (by omega)) (ep rfl et))
         · exact eb (ea (pr_is_ hu _)) (ep (by rw [hw];exact hpu) (ep E (eb (ea (pr_fail_ hu 42)) aa)))
       · refine Sim.preR (fun r hr=>?_) (ih n1 0 0 L hlv (fun _=>by omega) (fun _=>hLs q) (fun _ _ _ _=>by omega))
         exact eb (ea (pr_is_ hu _)) (ep (by rw [hw];exact hpu) (eg E hr))
     · refine Sim.preR (fun r hr=>?_) (ih n1 0 0 L hlv (fun _=>by omega) (fun _=>hLs q) (fun _ y hy ab=>by rw [hu] at hy;cases hy;exact absurd ab hpu))
       exact eb (ea (pr_is_ hu _)) (eg (by rw [hw];exact hpu) hr)
   · obtain ⟨z,p,hF⟩:=ps_version_no (d:=d) hT ht (by simpa using hpt)
     refine Sim.seqF (version_sim hT) hF fun v n1 e1 J q D=>?_
     obtain ⟨w,hw⟩:=prgM_bad (d:=d) (a:=J) hT s x tr (L:=l++[v]) (by simp only [List.length_append,List.length_singleton];omega) q D;exact ⟨w,ebc (cat_at (by simp only [List.length_singleton];omega)) hw⟩
  refine Sim.preS (fun _ _ r hr=>eb (ps_is1 ht _) (eb (ps_more_no ?_) (eg (by simp) hr))) key;rintro ⟨X,af⟩;have:=hp he t ht (by rw [hvw] at X;exact X)
  omega
theorem program_sim (hT:Toks T):Sim Q0 T n n d e a (fun k=>ps_program k (kS T n d)) (fun k=>pr_program k (rF T n d e a)):=by
 unfold ps_program pr_program;refine Sim.name hT 10 fun n2 E J s x O=>?_
 refine Sim.want hT _ fun q C D _ V=>?_
 refine Sim.unfS ?_;simp only [ps_program.l1];exact Sim.preS (fun _ _ r hr=>ep (by simp) hr) (program_l hT s x _ _ T.length q C D [] (by simp) (fun _=>by omega) (fun _=>smL_nil) (fun _ _ _ _=>by simp))
end Go.Proofs.YtnhifhlbelogcaaGreatDoor
set_option linter.unusedVariables false
set_option linter.unusedSimpArgs false
namespace Go.Proofs.YtnhifhlbelogcaaGreatDoor
open Go Go.Eng
variable {T:List Token} {n0 n d:Nat} {e a:Int} {t:Token}
theorem fixed_sim (hT:Toks T) (s:By) (x:Int) (o:Tree) (ho:Sm o) (q:Int) (b:Bool) (ht:T[n]? = some t) (h:(isK t && (t.Text == [91]))=true) :
 Sim Q0 T n n d 0 0 (fun k=>ps_fixed k (kS T n d) ⟨14,s,0,x,[]⟩ o) (fun k=>pr_sized.j1 k o q (s,x,rF T n d 0 0) b true):=by
 have O:=hT.next ht (isK_ne5 h);have hTl:=hT.1;unfold ps_fixed pr_sized.j1;refine Sim.pre (gs:=fun k=>Option.bind (ps_value k (kS T (n+1) d)) fun C=>if C.1.isSome=true then some (C.1,(⟨0,[],0,0,[]⟩:Tree),C.2.2) else ps_fixed.j1 k ⟨14,s,0,x,[]⟩ C.2.2 [o,C.2.1])
  (gr:=fun k=>Option.bind (pr_value k (rF T (n+1) d 0 0)) fun D=>Option.bind (cat [o] [D.1]) fun E=>pr_sized.j2 k (s,x,rF T n d 0 0) D.2 E)
  (fun _ _ r hr=>eb (ps_want_t ht hT.1 h) (eg (by simp) hr)) (fun r hr=>ep rfl ?_) (Sim.fwd O ?_)
 · rw [show w64 ((n:Int)+1)=((n+1:Nat):Int) from w64_succ (by omega)]
   exact hr
 · refine Sim.seq (value_sim hT) fun v n2 X Y Z J=>?_
   refine Sim.preR (fun r hr=>ebc (cat_at (by simp)) hr) ?_;unfold ps_fixed.j1 pr_sized.j2;exact Sim.want hT _ fun aa ab ad _ V=>Sim.ret (fun _=>by omega) fun h=>.two ho (J (V h).2)
theorem listed_sim (hT:Toks T) (s:By) (x:Int) (o:Tree) (ho:Sm o) (q:Int) (ht:T[n]? = some t) (h:(isK t && (t.Text == [60]))=true) :
 Sim Q0 T n n d 0 0 (fun k=>ps_listed k (kS T n d) ⟨14,s,0,x,[]⟩ o) (fun k=>pr_sized.j1 k o q (s,x,rF T n d 0 0) true false):=by
 have Y:=hT.next ht (isK_ne5 h);have hTl:=hT.1;unfold ps_listed pr_sized.j1;refine Sim.pre (gs:=fun k=>ps_listed.j1 k ⟨14,s,0,x,[]⟩ (none,t.At,kS T (n+1) d) [o])
  (gr:=fun k=>Option.bind (pr_is k (rF T (n+1) d 0 0) ([62]:By)) fun D=>(if D=true then (Option.bind (pr_want k (rF T (n+1) d 0 0) ([62]:By)) fun E=>(some ((⟨16,s,0,x,([o]:List Tree)⟩:Tree),E))) else (Option.bind (pr_value k (rF T (n+1) d 0 0)) fun C=>(Option.bind (cat ([o]:List Tree) ([C.1]:List Tree)) fun J=>(Option.bind (pr_want k C.2 ([62]:By)) fun O=>(some ((⟨16,s,0,x,J⟩:Tree),O)))))))
  (fun _ _ r hr=>eb (ps_want_t ht hT.1 h) (eg (by simp) hr)) (fun r hr=>eg (by simp) (ep rfl ?_)) (Sim.fwd Y ?_)
 · rw [show w64 ((n:Int)+1)=((n+1:Nat):Int) from w64_succ (by omega)]
   exact hr
 · unfold ps_listed.j1
   refine Sim.is hT _ (fun _ _ _=>?_) (fun _=>?_)
   · exact Sim.want hT _ fun Z aa ab _ V=>Sim.ret (fun _=>by omega) fun h=>.one ho
   · refine Sim.seq (value_sim hT) fun v n2 ad ae af X=>?_
     refine Sim.cat2 (by simp) ?_;exact Sim.want hT _ fun Z aa ab _ V=>Sim.ret (fun _=>by omega) fun h=>.two ho (X (V h).2)
theorem listed_no (hT:Toks T) (s:By) (x:Int) (o:Tree) {q:Int} (hq:0 < q) (ht:T[n]? = some t) (h:¬ (isK t && (t.Text == [60]))=true) :
 Sim Q0 T n n d 0 0 (fun k=>ps_listed k (kS T n d) ⟨14,s,0,x,[]⟩ o) (fun k=>pr_sized.j1 k o q (s,x,rF T n d 0 0) false false):=by
 have hn:=(List.getElem?_eq_some_iff.1 ht).1;unfold ps_listed pr_sized.j1;exact Sim.fault (e':=40) (a':=t.At) (by decide) hn (eb (ps_want_f ht h) (ep rfl et)) (eg (by simp) (eg (by simp) (ep hq (eb (ea (pr_fail_ ht 40)) et))))
abbrev szR (o:Tree) (q:Int) (s:By) (x:Int) (st:ParR) (k:Nat):Option (Tree×ParR):=Option.bind (pr_is k st ([91]:By)) fun D=>Option.bind (pr_is k st ([60]:By)) fun C=>if D=true then pr_sized.j1 k o q (s,x,st) C (decide (q < 2)) else pr_sized.j1 k o q (s,x,st) C false
theorem szR_bad (o:Tree) (q:Int) (s:By) (x:Int) (ht:T[n]? = some t) (he:e≠0):Ev (szR o q s x (rF T n d e a)) (⟨14,s,0,x,[o]⟩,rF T n d e a):=by
 refine eb (ea (pr_is_F ht he _)) (eb (ea (pr_is_F ht he _)) (eg (by decide) ?_));unfold pr_sized.j1;refine eg (by decide) (eg (by decide) ?_);by_cases hq:0 < q
 · exact ep hq (eb (ea (pr_fail_F he 40)) et)
 · exact eg hq et
theorem sized_bad (o:Tree) (q:Int) (ht:T[n]? = some t) (he:e≠0):Ev (fun k=>pr_sized k (rF T n d e a) o q) (⟨14,[],0,0,[o]⟩,rF T n d e a):=by
 unfold pr_sized;exact eb (ea (pr_name_F ht he)) (szR_bad o q [] 0 ht he)
theorem sign_ne {u:Token} {s s':By} (hne:s≠s') (h:(isK u && (u.Text == s))=true):(isK u && (u.Text == s'))=false:=by
 simp only [Bool.and_eq_true,beq_iff_eq] at h;rw [h.2]
 simp [hne]
theorem Sim.tail {α:Type} [Sml α] {F:Nat→Option (OV×α×ParK)} {fr:Nat→Option (α×ParR)} {z:(OV×α×ParK)→α} {p:(OV×α×ParK)→ParK} (h:Sim Q0 T n n d e a F fr) (C:e=0→n0≤n) :
 Sim Q0 T n0 n d e a (fun k=>Option.bind (F k) fun t=>if t.1.isSome=true then some (t.1,z t,p t) else some (none,t.2.1,t.2.2)) fr:=by
 refine Sim.preR (gr:=fun k=>Option.bind (fr k) fun t=>some t) (fun r hr=>Ev.fn hr (fun k=>?_)) (Sim.seq h fun v n2 D E J q=>Sim.ret (fun _=>by omega) q);cases hh:fr k <;> rfl
theorem sized_go (hT:Toks T) {q:Int} {s:By} {x:Int} {o:Tree} {C b2:Bool} {fs:Nat→Option (OV×Tree×ParK)} (hu:T[n]? = some t)
 (D:(isK t && (t.Text == [91]))=C) (E:(isK t && (t.Text == [60]))=b2)
 (h:Sim Q0 T n0 n d 0 0 fs (fun k=>pr_sized.j1 k o q (s,x,rF T n d 0 0) b2 (C && decide (q < 2)))):Sim Q0 T n0 n d 0 0 fs (fun k=>szR o q s x (rF T n d 0 0) k):=by
 refine Sim.preR (fun r hr=>eb (ea fun k=>(pr_is_ hu _ k).trans (by rw [D])) (eb (ea fun k=>(pr_is_ hu _ k).trans (by rw [E])) ?_)) h;cases C
 · exact eg (by decide) hr
 · exact ep rfl (Ev.fn hr fun k=>by rw [Bool.true_and])
theorem sized1_sim (hT:Toks T) (s:By) (x:Int) (o:Tree) (ho:Sm o) (J:e=0→n0≤n) :
 Sim Q0 T n0 n d e a (fun k=>Option.bind (ps_is k (kS T n d) ([([91]:By)]:List By)) fun O=>(if O=true then (Option.bind (ps_fixed k (kS T n d) ⟨14,s,0,x,[]⟩ o) fun C=>(if (C.1).isSome=true then (some (C.1,(⟨0,([]:By),0,0,[]⟩:Tree),C.2.2)) else (some (none,C.2.1,C.2.2)))) else (Option.bind (ps_listed k (kS T n d) ⟨14,s,0,x,[]⟩ o) fun D=>(if (D.1).isSome=true then (some (D.1,(⟨0,([]:By),0,0,[]⟩:Tree),D.2.2)) else (some (none,D.2.1,D.2.2))))))
  (fun k=>szR o 1 s x (rF T n d e a) k):=by
 refine Sim.cases (fun he ha u hu hn=>?_) (fun he u hu hn=>⟨_,szR_bad o 1 s x hu he⟩);subst he ha;cases q:(isK u && (u.Text == [91]))
 · refine Sim.preS (fun _ _ r hr=>eb (ps_is1 hu _) (eg (by rw [q];decide) hr)) ?_
   cases E:(isK u && (u.Text == [60]))
   · exact sized_go hT hu q E (Sim.tail (listed_no hT s x o (by decide) hu (by rw [E];decide)) J)
   · exact sized_go hT hu q E (Sim.tail (listed_sim hT s x o ho 1 hu E) J)
 · refine Sim.preS (fun _ _ r hr=>eb (ps_is1 hu _) (ep q hr)) ?_
   exact sized_go hT hu q (sign_ne (by decide) q) (Sim.tail (fixed_sim hT s x o ho 1 _ hu q) J)
theorem sized2_sim (hT:Toks T) (s:By) (x:Int) (o:Tree) (ho:Sm o) (E:e=0→n0≤n) :
 Sim Q0 T n0 n d e a (fun k=>Option.bind (ps_listed k (kS T n d) ⟨14,s,0,x,[]⟩ o) fun C=>(if (C.1).isSome=true then (some (C.1,(⟨0,([]:By),0,0,[]⟩:Tree),C.2.2)) else (some (none,C.2.1,C.2.2))))
  (fun k=>szR o 2 s x (rF T n d e a) k):=by
 refine Sim.cases (fun he ha u hu hn=>?_) (fun he u hu hn=>⟨_,szR_bad o 2 s x hu he⟩);subst he ha;cases D:(isK u && (u.Text == [91]))
 · cases q:(isK u && (u.Text == [60]))
   · exact sized_go hT hu D q (Sim.tail (listed_no hT s x o (by decide) hu (by rw [q];decide)) E)
   · exact sized_go hT hu D q (Sim.tail (listed_sim hT s x o ho 2 hu q) E)
 · have q:=sign_ne (s':=[60]) (by decide) D
   exact sized_go hT hu D q (Sim.tail (listed_no hT s x o (by decide) hu (by rw [q];decide)) E)
theorem sized0_sim (hT:Toks T) (s:By) (x:Int) (o:Tree) (ho:e=0→Sm o) (X:e=0→n0 < n) :
 Sim Q0 T n0 n d e a (fun k=>Option.bind (ps_is k (kS T n d) ([([91]:By)]:List By)) fun O=>(if O=true then (Option.bind (ps_fixed k (kS T n d) ⟨14,s,0,x,[]⟩ o) fun C=>(if (C.1).isSome=true then (some (C.1,(⟨0,([]:By),0,0,[]⟩:Tree),C.2.2)) else (some (none,C.2.1,C.2.2)))) else (Option.bind (ps_is k (kS T n d) ([([60]:By)]:List By)) fun J=>(if J=true then (Option.bind (ps_listed k (kS T n d) ⟨14,s,0,x,[]⟩ o) fun D=>(if (D.1).isSome=true then (some (D.1,(⟨0,([]:By),0,0,[]⟩:Tree),D.2.2)) else (some (none,D.2.1,D.2.2)))) else (some (none,(⟨14,s,0,x,[o]⟩:Tree),kS T n d))))))
  (fun k=>szR o 0 s x (rF T n d e a) k):=by
 refine Sim.cases (fun he ha u hu hn=>?_) (fun he u hu hn=>⟨_,szR_bad o 0 s x hu he⟩);subst he ha;have V:=X rfl;cases q:(isK u && (u.Text == [91]))
 · refine Sim.preS (fun _ _ r hr=>eb (ps_is1 hu _) (eg (by rw [q];decide) hr)) ?_
   cases E:(isK u && (u.Text == [60]))
   · refine sized_go hT hu q E (Sim.pre (fun _ _ r hr=>eb (ps_is1 hu _) (eg (by rw [E];decide) hr)) (fun r hr=>?_) (Sim.ret (fun _=>V) fun _=>.one (ho rfl)))
     unfold pr_sized.j1;exact eg (by decide) (eg (by decide) (eg (by decide) hr))
   · refine sized_go hT hu q E (Sim.preS (fun _ _ r hr=>eb (ps_is1 hu _) (ep E hr)) (Sim.tail (listed_sim hT s x o (ho rfl) 0 hu E) (fun _=>by omega)))
 · refine Sim.preS (fun _ _ r hr=>eb (ps_is1 hu _) (ep q hr)) ?_
   exact sized_go hT hu q (sign_ne (by decide) q) (Sim.tail (fixed_sim hT s x o (ho rfl) 0 _ hu q) (fun _=>by omega))
def declT (t:Token):Bool:=decide (bodied t≠0) || begins t || (decide (t.Kind=2) && decide (t.Text∈([[118,111,105,100],[111,112,97,113,117,101],[115,116,114,105,110,103]]:List By)))
theorem pr_declares_ (ht:T[n]? = some t) (k:Nat):pr_declares k (rF T n d e a)=some (declT t):=by
 unfold pr_declares declT;rw [idx_some ht,Option.bind_some,pr_bodied_ ht,Option.bind_some,pr_begins_ ht,Option.bind_some];by_cases hb:bodied t=0
 · rw [if_pos hb]
   by_cases hg:begins t=true
   · rw [if_pos hg];simp [hg]
   · rw [if_neg hg]
     by_cases q:t.Kind=2
     · rw [if_pos q]
       by_cases C:t.Text=[118,111,105,100]
       · rw [if_pos C];simp [q,C]
       · rw [if_neg C]
         by_cases D:t.Text=[111,112,97,113,117,101]
         · rw [if_pos D];simp [q,D]
         · rw [if_neg D]
           have hg':begins t=false:=by simpa using hg
           simp [q,C,D,hb,hg']
     · rw [if_neg q]
       have hg':begins t=false:=by simpa using hg
       simp [q,hb,hg']
 · rw [if_neg hb];simp [hb]
end Go.Proofs.YtnhifhlbelogcaaGreatDoor
set_option linter.unusedVariables false
set_option linter.unusedSimpArgs false
namespace Go.Proofs.YtnhifhlbelogcaaGreatDoor
open Go Go.Eng
variable {T:List Token} {n0 n d:Nat} {e a:Int} {t:Token}
theorem ps_shallow_yes (hT:Toks T) (ht:T[n]? = some t) (hb:bodied t≠0) (hd:8≤d):Ev (fun k=>ps_shallow k (kS T n d)) (some (faultV 41 t.At)):=by
 unfold ps_shallow;exact eb (ps_isBody_ hT ht) (ep (by simp [hb]) (ep (show (8:Int)≤(d:Int) by omega) (eb (ea (ps_give_ ht 41)) (ep rfl et))))
theorem ps_shallow_no (hT:Toks T) (ht:T[n]? = some t) (h:¬ (bodied t≠0∧8≤d)):Ev (fun k=>ps_shallow k (kS T n d)) none:=by
 unfold ps_shallow;by_cases hb:bodied t≠0
 · exact eb (ps_isBody_ hT ht) (ep (by simp [hb]) (eg (show ¬ (8:Int)≤(d:Int) by omega) et))
 · exact eb (ps_isBody_ hT ht) (eg (by simpa using hb) et)
theorem bodied_w (h:bodied t≠0) {s:By} (hs:s ∉ ([[101,110,117,109],[115,116,114,117,99,116],[117,110,105,111,110]]:List By)):isW t s=false:=by
 unfold bodied bodyK at h;by_cases q:t.Kind=2
 · rw [if_pos q] at h
   rw [isW_eq q];by_cases e:t.Text=s
   · exfalso
     subst e;simp only [List.mem_cons,List.not_mem_nil,or_false,not_or] at hs;rw [if_neg hs.1,if_neg hs.2.1,if_neg hs.2.2] at h;exact h rfl
   · simpa using e
 · exact isW_no q s
theorem ps_decl_typ (hT:Toks T) (ht:T[n]? = some t) (q:isW t [118,111,105,100]=false) (C:isW t [111,112,97,113,117,101]=false) (D:isW t [115,116,114,105,110,103]=false) {f:Value} {z:Tree} {p:ParK}
 (h:Ev (fun k=>ps_typ k (kS T n d)) (some f,z,p)):∃ z p,Ev (fun k=>ps_declaration k (kS T n d)) (some f,z,p):=by
 refine ⟨⟨0,[],0,0,[]⟩,p,Ev.unf ?_⟩;simp only [ps_declaration];exact eb (ea (ps_token_ ht)) (eb (may_no hT ht (by decide) q) (eg (by simp) (eb (may_no hT ht (by decide) C) (eg (by simp) (eb (may_no hT ht (by decide) D) (eg (by simp) (eb h (ep rfl et))))))))
theorem ps_decl_deep (hT:Toks T) (ht:T[n]? = some t) (hb:bodied t≠0) (hd:8≤d):∃ z p,Ev (fun k=>ps_declaration k (kS T n d)) (some (faultV 41 t.At),z,p):=by
 refine ps_decl_typ hT ht (bodied_w hb (by decide)) (bodied_w hb (by decide)) (bodied_w hb (by decide)) (z:=⟨0,[],0,0,[]⟩) (p:=kS T n d) (Ev.unf ?_);simp only [ps_typ];exact eb (ps_shallow_yes hT ht hb hd) (ep rfl et)
theorem declT_no (h:declT t=false):bodied t=0∧begins t=false∧isW t [118,111,105,100]=false∧isW t [111,112,97,113,117,101]=false∧isW t [115,116,114,105,110,103]=false:=by
 unfold declT at h;simp only [Bool.or_eq_false_iff,decide_eq_false_iff_not,ne_eq,Decidable.not_not] at h;refine ⟨h.1.1,h.1.2,?_⟩;have q:=h.2;unfold isW;by_cases C:t.Kind=2
 · simp [C] at q ⊢
   exact q
 · simp [C]
theorem ps_decl_no (hT:Toks T) (ht:T[n]? = some t) (h:declT t=false):∃ z p,Ev (fun k=>ps_declaration k (kS T n d)) (some (faultV 40 t.At),z,p):=by
 obtain ⟨hb,hg,q,C,D⟩:=declT_no h;refine ps_decl_typ hT ht q C D (z:=⟨0,[],0,0,[]⟩) (p:=kS T n d) (Ev.unf ?_);simp only [ps_typ];exact eb (ps_shallow_no hT ht (fun h=>h.1 hb)) (eg (by simp) (eb (ps_isBody_ hT ht) (eg (by simp [hb]) (eb (ps_bare_no hT ht (begins_no hg).1 (begins_no hg).2) (ep rfl et)))))
theorem faultV_inj {e a e' a':Int} (h:faultV e a=faultV e' a'):e=e'∧a=a':=by
 unfold faultV at h
 simpa using h
theorem Sim.faulty {α ρ:Type} [Sml α] {Q:Reach α ρ} {F:Nat→Option (OV×α×ParK)} {fr:Nat→Option ρ} {q:α} {C:ParK} {e' a':Int} (h:Sim Q T n0 n d 0 0 F fr) (hn:n < T.length) (hF:Ev F (some (faultV e' a'),q,C)) :
 e'≠0∧∃ w n',n' < T.length∧Q.rt fr w (rF T n' d e' a'):=by
 rcases (h hn).1 rfl rfl with ⟨v,n',l1,l2,sv,s,r⟩|⟨D,E,z',p',w,n',he',l,s,r⟩
 · exact absurd (congrArg Prod.fst (Ev.det s hF)) (by simp)
 · have:=congrArg Prod.fst (Ev.det s hF)
   obtain ⟨rfl,rfl⟩:=faultV_inj (Option.some.inj this);exact ⟨he',w,n',l,r⟩
def HD (T:List Token) (M:Nat):Prop:=∀ (n d:Nat) (e a:Int),d≤8→(e=0→M≤n)→Sim Q0 T n n d e a (fun k=>ps_declaration k (kS T n d)) (fun k=>pr_declaration k (rF T n d e a) true)
theorem fields_bad (he:e≠0) (l:List Tree):Ev (fun k=>pr_fields.l1 k (rF T n d e a) l) ([],rF T n d e a) :=
 Ev.step (eg he et) (fun k=>by rw [pr_fields.l1])
theorem fields_j2_bad (he:e≠0) (l:List Tree) (c b:Bool):Ev (fun k=>pr_fields.j2 k l (c,rF T n d e a) b) ([],rF T n d e a):=by
 refine Ev.unf ?_;simp only [pr_fields.j2];cases b
 · exact eg (by simp) (eb (ea (pr_fail_F he 42)) (fields_bad he l))
 · exact ep (by simp) (eb (ea (pr_fail_F he 41)) (eb (ea (pr_fail_F he 42)) (fields_bad he l)))
theorem fields_j1_bad (ht:T[n]? = some t) (he:e≠0) (l:List Tree) (c b:Bool):Ev (fun k=>pr_fields.j1 k l (c,rF T n d e a) b) ([],rF T n d e a):=by
 refine Ev.unf ?_;simp only [pr_fields.j1];cases b
 · exact eg (by simp) (fields_bad he l)
 · refine ep (by simp) (eb (ea (pr_bodied_ ht)) ?_)
   by_cases hb:bodied t=0
   · exact ep hb (fields_j2_bad he l c _)
   · exact eg hb (fields_j2_bad he l c _)
abbrev fldT (k:Nat) (q:ParR) (L:List Tree):Option (List Tree×ParR):=Option.bind (pr_declares k q) fun C=>if C=true then pr_fields.j1 k L (false,q) (decide ((L.length:Int)=64)) else pr_fields.j1 k L (false,q) false
abbrev fldM (k:Nat) (q:ParR) (L:List Tree):Option (List Tree×ParR):=Option.bind (pr_want k q ([59]:By)) fun D=>Option.bind (pr_may k D ([125]:By)) fun C=>if C.1=true then some (L,C.2) else Option.bind (pr_declares k C.2) fun E=>if E=true then pr_fields.j1 k L C (decide ((L.length:Int)=64)) else pr_fields.j1 k L C false
theorem fldT_bad (ht:T[n]? = some t) (he:e≠0) (L:List Tree):Ev (fun k=>fldT k (rF T n d e a) L) ([],rF T n d e a):=by
 refine eb (ea (pr_declares_ ht)) ?_;by_cases hb:declT t=true
 · exact ep hb (fields_j1_bad ht he L _ _)
 · exact eg hb (fields_j1_bad ht he L _ _)
theorem fldM_bad (ht:T[n]? = some t) (he:e≠0) (L:List Tree):Ev (fun k=>fldM k (rF T n d e a) L) ([],rF T n d e a) :=
 eb (ea (pr_want_F ht he _)) (eb (ea (pr_may_F ht he _)) (eg (by simp) (fldT_bad ht he L)))
theorem psf_A (hT:Toks T) (ht:T[n]? = some t) (hb:bodied t≠0) (hd:8≤d) (l:List Tree):Ev (fun k=>ps_fields.j1 k l (kS T n d)) (some (faultV 41 t.At),[],kS T n d):=by
 refine Ev.unf ?_;simp only [ps_fields.j1];exact eb (ps_shallow_yes hT ht hb hd) (ep rfl et)
theorem psf_is (hT:Toks T) (ht:T[n]? = some t):Ev (fun k=>ps_is k (kS T n d) ([([118,111,105,100]:By),([111,112,97,113,117,101]:By),([115,116,114,105,110,103]:By)]:List By)) (decide (t.Kind=2) && decide (t.Text∈([[118,111,105,100],[111,112,97,113,117,101],[115,116,114,105,110,103]]:List By))) :=
 (ps_is_ ht (by decide)).cast (hT.word ht (by decide))
theorem psf_B (hT:Toks T) (ht:T[n]? = some t) (hA:¬ (bodied t≠0∧8≤d)) (hD:declT t=true) {l:List Tree} (hl:64≤l.length):Ev (fun k=>ps_fields.j1 k l (kS T n d)) (some (faultV 42 t.At),[],kS T n d):=by
 refine Ev.unf ?_;simp only [ps_fields.j1];refine eb (ps_shallow_no hT ht hA) (eg (by simp) (eb (ps_isBare_ hT ht) ?_));have hl':(64:Int)≤(l.length:Int):=by omega
 by_cases hg:begins t=true
 · exact ep hg (eb (ps_more_yes ht hl') (ep rfl et))
 · refine eg hg (eb (ps_isBody_ hT ht) ?_)
   by_cases hb:bodied t=0
   · refine eg (by simp [hb]) (eb (psf_is hT ht) (eb (ps_more_yes' ht ?_ hl') (ep rfl et)))
     unfold declT at hD
     simpa [hb,hg] using hD
   · exact ep (by simp [hb]) (eb (ps_more_yes ht hl') (ep rfl et))
theorem psf_C (hT:Toks T) (ht:T[n]? = some t) (hA:¬ (bodied t≠0∧8≤d)) {l:List Tree} (hl:declT t=true→l.length < 64) {r:OV×List Tree×ParK} (hr:Ev (fun k=>ps_fields.j2 k l (kS T n d)) r):Ev (fun k=>ps_fields.j1 k l (kS T n d)) r:=by
 refine Ev.unf ?_;simp only [ps_fields.j1];refine eb (ps_shallow_no hT ht hA) (eg (by simp) (eb (ps_isBare_ hT ht) ?_));by_cases hg:begins t=true
 · have:=hl (by unfold declT;simp [hg])
   exact ep hg (eb (ps_more_no (by omega)) (eg (by simp) hr))
 · refine eg hg (eb (ps_isBody_ hT ht) ?_)
   by_cases hb:bodied t=0
   · refine eg (by simp [hb]) (eb (psf_is hT ht) (eb (ps_more_no ?_) (eg (by simp) hr)))
     rintro ⟨q,C⟩;have:=hl (by unfold declT;rw [q];simp)
     omega
   · have:=hl (by unfold declT;simp [hb])
     exact ep (by simp [hb]) (eb (ps_more_no (by omega)) (eg (by simp) hr))
theorem fields_l {M:Nat} (hT:Toks T) (hd:d≤8) (hD:HD T M):∀ (m n:Nat) (e a:Int) (l:List Tree),l.length≤64→(e=0→T.length - n≤m∧n0 < n∧M≤n)→(e=0→∀ t∈l,Sm t)→(e=0→∀ t,T[n]? = some t→¬ (bodied t≠0∧8≤d)→declT t=true→l.length < 64) →
 Sim Q0 T n0 n d e a (fun k=>ps_fields.j1 k l (kS T n d)) (fun k=>pr_fields.l1 k (rF T n d e a) l):=by
 have hTl:=hT.1;intro m
 induction m with
 | zero =>
  intro n e a l hl h _ _;refine Sim.cases (fun he ha t ht hn=>?_) (fun he t ht hn=>⟨[],fields_bad he l⟩);have:=h he
  omega
 | succ m ih =>
  intro n e a l hl h hsm hp;refine Sim.cases (fun he ha t ht hn=>?_) (fun he t ht hn=>⟨[],fields_bad he l⟩);obtain ⟨hm,ag,hM⟩:=h he;subst he ha;refine Sim.unfR ?_;simp only [pr_fields.l1];refine Sim.preR (gr:=fun k=>Option.bind (pr_declaration k (rF T n d 0 0) true) fun X=>Option.bind (cat l [X.1]) fun J=>fldM k X.2 J) (fun r hr=>ep (by simp) hr) ?_;have hbadL:∀ (v:Tree) (n1:Nat) (e1 E:Int),e1≠0→n1 < T.length→∃ w,Ev (fun k=>Option.bind (cat l [v]) fun J=>fldM k (rF T n1 d e1 E) J) (w,rF T n1 d e1 E):=fun v n1 e1 E C q=>by
   obtain ⟨u,hu⟩:=at_some q;exact ⟨_,ebc (cat_at (by simp only [List.length_singleton];omega)) (fldM_bad hu C _)⟩
  by_cases hA:bodied t≠0∧8≤d
  · obtain ⟨z,p,hF⟩:=ps_decl_deep hT ht hA.1 hA.2
    obtain ⟨Y,w,n1,q,hw⟩:=(hD n d 0 0 hd (fun _=>hM)).faulty hn hF;obtain ⟨ai,ab⟩:=hbadL w n1 41 t.At Y q;exact Sim.fault Y q (psf_A hT ht hA.1 hA.2 l) (eb hw ab)
  · refine Sim.preS (fun _ _ r hr=>psf_C hT ht hA (hp rfl t ht hA) hr) ?_
    refine Sim.unfS ?_;simp only [ps_fields.j2];by_cases hDt:declT t=true
    · have D:=hp rfl t ht hA hDt
      refine Sim.seq (hD n d 0 0 hd (fun _=>hM)) fun v n1 e1 E aj ad=>?_
      refine Sim.cat2 (by simp only [List.length_singleton];omega) ?_;have hlv:(l++[v]).length≤64:=by simp only [List.length_append,List.length_singleton];omega
      have hlp:0 < (l++[v]).length:=by simp only [List.length_append,List.length_singleton];omega
      have hLs:e1=0→∀ t∈l++[v],Sm t:=fun h=>smL_app (hsm rfl) (smL_one (ad h))
      generalize l++[v]=L at hlv hlp hLs;refine Sim.want hT _ fun n2 ak al _ aa=>?_
      refine Sim.unfS ?_;simp only [ps_fields.l1];refine Sim.preS (fun _ _ r hr=>eg (by omega) hr) ?_;refine Sim.may hT _ (fun C ah _=>Sim.ret (fun _=>by omega) fun _=>⟨by omega,hLs (aa C).2⟩) (fun _=>?_);refine Sim.cases (fun O ae u hu V=>?_) (fun O u hu V=>⟨[],fldT_bad hu O L⟩);subst O ae;by_cases hDu:declT u=true
      · by_cases D:(L.length:Int)=64
        · by_cases hAu:bodied u≠0∧8≤d
          · refine Sim.fault (by decide) V (psf_A hT hu hAu.1 hAu.2 L) (w:=[]) (eb (ea (pr_declares_ hu)) (ep hDu (Ev.unf ?_)))
            simp only [pr_fields.j1];refine ep (by simpa using D) (eb (ea (pr_bodied_ hu)) (eg hAu.1 (Ev.unf ?_)));simp only [pr_fields.j2];exact ep (by simp;omega) (eb (ea (pr_fail_ hu 41)) (eb (ea (pr_fail_F (by decide) 42)) (fields_bad (by decide) L)))
          · refine Sim.fault (by decide) V (psf_B hT hu hAu hDu (l:=L) (by omega)) (w:=[]) (eb (ea (pr_declares_ hu)) (ep hDu (Ev.unf ?_)))
            simp only [pr_fields.j1];have Z:∀ b,b=false→Ev (fun k=>pr_fields.j2 k L (false,rF T n2 d 0 0) b) ([],rF T n2 d 42 u.At):=fun b hb=>by
             refine Ev.unf ?_;simp only [pr_fields.j2];exact eg (by simp [hb]) (eb (ea (pr_fail_ hu 42)) (fields_bad (by decide) L))
            refine ep (by simpa using D) (eb (ea (pr_bodied_ hu)) ?_);by_cases hb:bodied u=0
            · exact ep hb (Z _ rfl)
            · exact eg hb (Z _ (by simp;omega))
        · refine Sim.preR (fun r hr=>eb (ea (pr_declares_ hu)) (ep hDu (Ev.unf ?_))) (ih n2 0 0 L hlv (fun _=>by omega) (fun _=>hLs (aa rfl).2) (fun _ _ _ _ _=>by omega))
          simp only [pr_fields.j1];exact eg (by simpa using D) hr
      · refine Sim.preR (fun r hr=>eb (ea (pr_declares_ hu)) (eg hDu (Ev.unf ?_))) (ih n2 0 0 L hlv (fun _=>by omega) (fun _=>hLs (aa rfl).2) (fun _ y hy _ af=>by rw [hu] at hy;cases hy;exact absurd af hDu))
        simp only [pr_fields.j1];exact eg (by simp) hr
    · obtain ⟨z,p,hF⟩:=ps_decl_no (d:=d) hT ht (by simpa using hDt)
      exact Sim.seqF (hD n d 0 0 hd (fun _=>hM)) hF fun v n1 e1 E C q=>hbadL v n1 e1 E C q
theorem fields_sim {M:Nat} (hT:Toks T) (hd:d≤8) (hD:HD T M) (h:e=0→M≤n):Sim Q0 T n n d e a (fun k=>ps_fields k (kS T n d)) (fun k=>pr_fields k (rF T n d e a)):=by
 refine Sim.unf ?_;simp only [ps_fields,pr_fields];refine Sim.want hT _ fun n1 e1 q _ C=>?_
 refine Sim.unfS ?_;simp only [ps_fields.l1];exact Sim.preS (fun _ _ r hr=>ep (by simp) hr) (fields_l hT hd hD T.length n1 e1 q [] (by simp) (fun _=>by omega) (fun _=>smL_nil) (fun _ _ _ _ _=>by simp))
end Go.Proofs.YtnhifhlbelogcaaGreatDoor
set_option linter.unusedVariables false
set_option linter.unusedSimpArgs false
namespace Go.Proofs.YtnhifhlbelogcaaGreatDoor
open Go Go.Eng
variable {T:List Token} {n0 n d:Nat} {e a:Int} {t:Token}
theorem arm_j1 {M:Nat} (hT:Toks T) (hd:d≤8) (hD:HD T M) (h:e=0→M≤n∧n0≤n) (x:Token) {l:List Tree} (hl:l.length≤1000) (hsm:e=0→∀ t∈l,Sm t) :
 Sim Q0 T n0 n d e a (fun k=>ps_arm.j1 k x (kS T n d) l) (fun k=>pr_arm.j1 k x (rF T n d e a) l):=by
 refine Sim.unf ?_;simp only [ps_arm.j1,pr_arm.j1];refine Sim.seq (hD n d e a hd (fun he=>(h he).1)) fun v n1 e1 C D q=>?_
 refine Sim.cat2 (by simp only [List.length_singleton];omega) (Sim.unf ?_);simp only [ps_arm.j4,pr_arm.j3];exact Sim.want hT _ fun n2 E J _ O=>Sim.ret (fun _=>by omega) fun h=>.mk (by simp only [List.length_append,List.length_singleton];omega) (smL_app (hsm (by omega)) (smL_one (q (by omega))))
theorem arm_bad {M:Nat} (hT:Toks T) (hd:d≤8) (hD:HD T M) (he:e≠0) (hn:n < T.length) (x:Token) {l:List Tree} (hl:l.length≤1000):∃ w,Ev (fun k=>pr_arm.l1 k x (rF T n d e a) l) (w,rF T n d e a):=by
 obtain ⟨w,hw⟩:=(arm_j1 (n0:=n) (a:=a) hT hd hD (fun h=>absurd h he) x hl (fun h=>absurd h he)).bad he hn;exact ⟨w,Ev.step (eg he hw) (fun k=>by rw [pr_arm.l1])⟩
theorem arm_l {M:Nat} (hT:Toks T) (hd:d≤8) (hD:HD T M) (x:Token):∀ (m n:Nat) (e a:Int) (l:List Tree),l.length < 64→(e=0→T.length - n≤m∧n0 < n∧M≤n)→(e=0→∀ t∈l,Sm t) →
 Sim Q0 T n0 n d e a (fun k=>Option.bind (ps_value k (kS T n d)) fun q=>(if (q.1).isSome=true then (some (q.1,(⟨0,([]:By),0,0,[]⟩:Tree),q.2.2)) else (Option.bind (cat l ([q.2.1]:List Tree)) fun E=>(ps_arm.j3 k x q.2.2 E)))) (fun k=>pr_arm.l1 k x (rF T n d e a) l):=by
 have hTl:=hT.1;intro m
 induction m with
 | zero =>
  intro n e a l hl h hsm;refine Sim.cases (fun he ha t ht hn=>?_) (fun he t ht hn=>arm_bad hT hd hD he hn x (by omega));have:=h he
  omega
 | succ m ih =>
  intro n e a l hl h hsm;refine Sim.cases (fun he ha t ht hn=>?_) (fun he t ht hn=>arm_bad hT hd hD he hn x (by omega));obtain ⟨hm,aa,hM⟩:=h he;refine Sim.unfR ?_;simp only [pr_arm.l1];refine Sim.preR (fun r hr=>ep he hr) ?_;refine Sim.seq (value_sim hT) fun v n1 e1 ab ad J=>?_
  refine Sim.cat2 (by simp only [List.length_singleton];omega) (Sim.unf ?_);simp only [ps_arm.j3,pr_arm.j2];have hlv:(l++[v]).length≤64:=by simp only [List.length_append,List.length_singleton];omega
  have hlp:0 < (l++[v]).length:=by simp only [List.length_append,List.length_singleton];omega
  have hLs:e1=0→∀ t∈l++[v],Sm t:=fun h=>smL_app (hsm he) (smL_one (J h))
  generalize l++[v]=L at hlv hlp hLs;refine Sim.want hT _ fun n2 ae af _ ag=>?_
  refine Sim.unfS ?_;simp only [ps_arm.l1];refine Sim.preS (fun _ _ r hr=>eg (by omega) hr) ?_;refine Sim.is hT _ (fun O V hk=>?_) (fun _=>arm_j1 hT hd hD (fun _=>by omega) x (by omega) (fun h=>hLs (by omega)));subst O V;refine Sim.lt fun C=>?_
  obtain ⟨u,hu⟩:=at_some C;have hk':=hk u hu;by_cases D:(L.length:Int)=64
  · obtain ⟨w,hw⟩:=arm_bad (a:=u.At) hT hd hD (show (42:Int)≠0 by decide) C x (l:=L) (by omega)
    refine Sim.fault (by decide) C (z:=⟨0,[],0,0,[]⟩) (p:=kS T n2 d) (Ev.unf ?_) (ep D (eb (ea (pr_fail_ hu 42)) (eb (ea (pr_want_F hu (by decide) _)) hw)));simp only [ps_arm.j2];exact eb (ps_is1 hu _) (eb (ps_more_yes' hu hk' (by omega)) (ep rfl et))
  · refine Sim.preR (fun r hr=>eg D hr) (Sim.unfS ?_)
    simp only [ps_arm.j2];refine Sim.preS (fun _ _ r hr=>eb (ps_is1 hu _) (eb (ps_more_no (by omega)) (eg (by simp) hr))) ?_;exact Sim.want hT _ fun X Y Z _ ah=>ih X Y Z L (by omega) (fun _=>by omega) (fun h=>hLs (by omega))
theorem arm_sim {M:Nat} (hT:Toks T) (hd:d≤8) (hD:HD T M) (h:e=0→M≤n):Sim Q0 T n n d e a (fun k=>ps_arm k (kS T n d)) (fun k=>pr_arm k (rF T n d e a)):=by
 refine Sim.unf ?_;simp only [ps_arm,pr_arm];refine Sim.tok fun t ht=>?_
 refine Sim.unfS ?_;simp only [ps_arm.l1];refine Sim.preS (fun _ _ r hr=>ep (by simp) hr) (Sim.unfS ?_);simp only [ps_arm.j2];refine Sim.lt fun hn=>?_
 refine Sim.preS (fun _ _ r hr=>eb (ps_is1 ht _) (eb (ps_more_no (by simp)) (eg (by simp) hr))) ?_;exact Sim.want hT _ fun q C D _ E=>arm_l hT hd hD t T.length q C D [] (by simp) (fun _=>by omega) (fun _=>smL_nil)
theorem choice_j1 {M:Nat} (hT:Toks T) (hd:d≤8) (hD:HD T M) (h:e=0→M≤n∧n0≤n) {l:List Tree} (hl:l.length≤100) (hsm:e=0→∀ t∈l,Sm t) :
 Sim Q0 T n0 n d e a (fun k=>ps_choice.j1 k (kS T n d) l) (fun k=>pr_choice.j1 k (rF T n d e a) l):=by
 refine Sim.unf ?_;simp only [ps_choice.j1,pr_choice.j1];refine Sim.cases (fun he ha t ht hn=>?_) (fun he t ht hn=>⟨l,ebc (idx_some ht) (eb (ea (pr_may_F ht he _)) (eg (by simp) (eb (ea (pr_want_F ht he _)) et)))⟩);subst he ha;obtain ⟨hM,E⟩:=h rfl;cases hk:(isK t && (t.Text == [100,101,102,97,117,108,116]))
 · refine Sim.pre (fun _ _ r hr=>eb (ps_is1 ht _) (eg (by rw [hk];decide) hr)) (fun r hr=>ebc (idx_some ht) (eb (ea fun k=>(pr_may_ ht hT.1 _ k).trans (by rw [hk])) (eg (by simp) hr))) ?_
   exact Sim.want hT _ fun n1 e1 C _ q=>Sim.ret (fun _=>by omega) fun _=>⟨by omega,hsm rfl⟩
 · have q:=hT.next ht (isK_ne5 hk)
   refine Sim.pre (fun _ _ r hr=>eb (ps_is1 ht _) (ep hk (eb (ps_want_t ht hT.1 hk) (eg (by simp) hr)))) (fun r hr=>ebc (idx_some ht) (eb (ea fun k=>(pr_may_ ht hT.1 _ k).trans (by rw [hk])) (ep rfl hr))) (Sim.fwd q ?_);refine Sim.want hT _ fun n1 e1 C _ q=>?_
   refine Sim.seq (hD n1 d e1 C hd (fun _=>by omega)) fun v n2 J O V D=>?_
   refine Sim.cat2 (by simp only [List.length_singleton];omega) ?_;refine Sim.want hT _ fun X Y Z _ aa=>?_
   exact Sim.want hT _ fun ab ad ae _ af=>Sim.ret (fun _=>by omega) fun h=>⟨by simp only [List.length_append,List.length_singleton];omega,smL_app (hsm rfl) (smL_one (.one (D (by omega))))⟩
theorem choice_bad {M:Nat} (hT:Toks T) (hd:d≤8) (hD:HD T M) (he:e≠0) (hn:n < T.length) {l:List Tree} (hl:l.length≤100):∃ w,Ev (fun k=>pr_choice.l1 k (rF T n d e a) l) (w,rF T n d e a):=by
 obtain ⟨w,hw⟩:=(choice_j1 (n0:=n) (a:=a) hT hd hD (fun h=>absurd h he) hl (fun h=>absurd h he)).bad he hn;exact ⟨w,Ev.step (eg he hw) (fun k=>by rw [pr_choice.l1])⟩
theorem choice_l {M:Nat} (hT:Toks T) (hd:d≤8) (hD:HD T M):∀ (m n:Nat) (e a:Int) (l:List Tree),1≤l.length→l.length≤64→(e=0→T.length - n≤m∧n0 < n∧M≤n)→(e=0→∀ t∈l,Sm t) →
 Sim Q0 T n0 n d e a (fun k=>ps_choice.j2 k (kS T n d) l) (fun k=>pr_choice.l1 k (rF T n d e a) l):=by
 have hTl:=hT.1;intro m
 induction m with
 | zero =>
  intro n e a l D hl h hsm;refine Sim.cases (fun he ha t ht hn=>?_) (fun he t ht hn=>choice_bad hT hd hD he hn (by omega));have:=h he
  omega
 | succ m ih =>
  intro n e a l D hl h hsm;refine Sim.cases (fun he ha t ht hn=>?_) (fun he t ht hn=>choice_bad hT hd hD he hn (by omega));obtain ⟨hm,V,hM⟩:=h he;refine Sim.unf ?_;simp only [ps_choice.j2,pr_choice.l1];refine Sim.pre (fun _ _ r hr=>eb (ps_is1 ht _) (eb (ps_more_no (by rw [w64_of (by omega) (by omega)];omega)) (eg (by simp) hr))) (fun r hr=>ep he hr) ?_;refine Sim.seq (arm_sim hT hd hD (fun _=>hM)) fun v n1 e1 X Y E=>?_
  refine Sim.cat2 (by simp only [List.length_singleton];omega) (Sim.unfS ?_);have hlv:(l++[v]).length≤65:=by simp only [List.length_append,List.length_singleton];omega
  have hlp:2≤(l++[v]).length:=by simp only [List.length_append,List.length_singleton];omega
  have hLs:e1=0→∀ t∈l++[v],Sm t:=fun h=>smL_app (hsm he) (smL_one (E h))
  generalize l++[v]=L at hlv hlp hLs;simp only [ps_choice.l1];refine Sim.preS (fun _ _ r hr=>eg (by omega) hr) ?_;refine Sim.is hT _ (fun J O hk=>?_) (fun _=>choice_j1 hT hd hD (fun _=>by omega) (by omega) (fun h=>hLs h));subst J O;refine Sim.lt fun q=>?_
  obtain ⟨u,hu⟩:=at_some q;have hk':=hk u hu;by_cases C:64 < (L.length:Int)
  · obtain ⟨w,hw⟩:=choice_bad (a:=u.At) hT hd hD (show (42:Int)≠0 by decide) q (l:=L) (by omega)
    refine Sim.fault (by decide) q (z:=[]) (p:=kS T n1 d) (Ev.unf ?_) (ep C (eb (ea (pr_fail_ hu 42)) hw));simp only [ps_choice.j2];exact eb (ps_is1 hu _) (eb (ps_more_yes' hu hk' (by rw [w64_of (by omega) (by omega)];omega)) (ep rfl et))
  · exact Sim.preR (fun r hr=>eg C hr) (ih n1 0 0 L (by omega) (by omega) (fun _=>by omega) (fun _=>hLs rfl))
theorem choice_sim {M:Nat} (hT:Toks T) (hd:d≤8) (hD:HD T M) (h:e=0→M≤n):Sim Q0 T n n d e a (fun k=>ps_choice k (kS T n d)) (fun k=>pr_choice k (rF T n d e a)):=by
 refine Sim.unf ?_;simp only [ps_choice,pr_choice];refine Sim.want hT _ fun n1 e1 O _ V=>?_
 refine Sim.want hT _ fun n2 C D _ X=>?_
 refine Sim.seq (hD n2 d C D hd (fun _=>by omega)) fun v Y Z aa ab q=>?_
 refine Sim.want hT _ fun ad ae af _ ag=>?_
 refine Sim.want hT _ fun E e5 J _ ah=>?_
 refine Sim.unfS ?_;simp only [ps_choice.l1];exact Sim.preS (fun _ _ r hr=>ep (by simp) hr) (choice_l hT hd hD T.length E e5 J [v] (by simp) (by simp) (fun _=>by omega) (fun h=>smL_one (q (by omega))))
theorem body_rel {M:Nat} (hT:Toks T) (hd:d < 8) (hD:HD T M) (h:e=0→M≤n) (txt:By) (K:Int) (hK:e=0→K=bodyK txt∧K≠0) (nm:By) (x:Int) (hn:n < T.length) :
 (e=0→a=0→(∃ kids n',n < n'∧n' < T.length∧Sml.sm kids∧Ev (fun k=>ps_body k (kS T n d) txt) (none,K,kids,kS T n' d)∧Ev (fun k=>pr_body k (rF T n d e a) ⟨K,nm,0,x,[]⟩) (⟨K,nm,0,x,kids⟩,rS T n' d)) ∨
  ∃ e' a' O V p kids n',e'≠0∧n' < T.length∧Ev (fun k=>ps_body k (kS T n d) txt) (some (faultV e' a'),O,V,p)∧Ev (fun k=>pr_body k (rF T n d e a) ⟨K,nm,0,x,[]⟩) (⟨K,nm,0,x,kids⟩,rF T n' d e' a')) ∧
 (e≠0→∃ kids,Ev (fun k=>pr_body k (rF T n d e a) ⟨K,nm,0,x,[]⟩) (⟨K,nm,0,x,kids⟩,rF T n d e a)):=by
 have hu:w64 ((d:Int)+1)=((d+1:Nat):Int):=w64_succ (by omega);have hdn:w64 (((d+1:Nat):Int) - 1)=(d:Int):=by rw [w64_of (by omega) (by omega)];omega
 have gen:∀ {F:Nat→Option (OV×List Tree×ParK)} {fr:Nat→Option (List Tree×ParR)},Sim Q0 T n n (d+1) e a F fr →
  (e=0→∀ r,Ev (fun k=>Option.bind (F k) fun q=>(if (q.1).isSome=true then (some (q.1,(0:Int),([]:List Tree),(⟨q.2.2.tokens,q.2.2.next,w64 (q.2.2.deep - 1)⟩:ParK))) else (some (none,K,(q.2.1),(⟨q.2.2.tokens,q.2.2.next,w64 (q.2.2.deep - 1)⟩:ParK))))) r→Ev (fun k=>ps_body k (kS T n d) txt) r) →
  (∀ r,Ev (fun k=>Option.bind (fr k) fun J=>pr_body.j1 k ⟨K,nm,0,x,[]⟩ J.2 (J.1)) r→Ev (fun k=>pr_body k (rF T n d e a) ⟨K,nm,0,x,[]⟩) r) →
  (e=0→a=0→(∃ kids n',n < n'∧n' < T.length∧Sml.sm kids∧Ev (fun k=>ps_body k (kS T n d) txt) (none,K,kids,kS T n' d)∧Ev (fun k=>pr_body k (rF T n d e a) ⟨K,nm,0,x,[]⟩) (⟨K,nm,0,x,kids⟩,rS T n' d)) ∨
   ∃ e' a' O V p kids n',e'≠0∧n' < T.length∧Ev (fun k=>ps_body k (kS T n d) txt) (some (faultV e' a'),O,V,p)∧Ev (fun k=>pr_body k (rF T n d e a) ⟨K,nm,0,x,[]⟩) (⟨K,nm,0,x,kids⟩,rF T n' d e' a')) ∧
  (e≠0→∃ kids,Ev (fun k=>pr_body k (rF T n d e a) ⟨K,nm,0,x,[]⟩) (⟨K,nm,0,x,kids⟩,rF T n d e a)):=by
  intro F fr hS hps hpr;obtain ⟨X,C⟩:=hS hn;have hj:∀ (kids:List Tree) (n':Nat) (e' a':Int),Ev fr (kids,rF T n' (d+1) e' a')→Ev (fun k=>pr_body k (rF T n d e a) ⟨K,nm,0,x,[]⟩) (⟨K,nm,0,x,kids⟩,rF T n' d e' a'):=fun kids n' e' a' hr=>by
   refine hpr _ (eb hr (Ev.unf ?_));simp only [pr_body.j1];rw [hdn];exact et
  refine ⟨fun he ha=>?_,fun he=>?_⟩
  · rcases X he ha with ⟨v,n',l1,l2,sv,s,r⟩|⟨e',a',z',p',w,n',he',l,s,r⟩
    · refine .inl ⟨v,n',l1,l2,sv,hps he _ (eb s (eg (by simp) (ecs et ?_))),hj _ _ _ _ r⟩
      simp only [hdn]
    · exact .inr ⟨e',a',_,_,_,w,n',he',l,hps he _ (eb s (ep rfl et)),hj _ _ _ _ r⟩
  · obtain ⟨w,hw⟩:=C he
    exact ⟨w,hj _ _ _ _ hw⟩
 have hbk:e=0→(txt=[101,110,117,109]→K=4)∧(¬ txt=[101,110,117,109]→txt=[115,116,114,117,99,116]→K=6)∧(¬ txt=[101,110,117,109]→¬ txt=[115,116,114,117,99,116]→K=7):=fun he=>by
  obtain ⟨C,Y⟩:=hK he;unfold bodyK at C;refine ⟨fun h=>by rw [if_pos h] at C;exact C,fun ha hb=>by rw [if_neg ha,if_pos hb] at C;exact C,fun ha hb=>?_⟩;rw [if_neg ha,if_neg hb] at C;by_cases hc:txt=[117,110,105,111,110]
  · rw [if_pos hc] at C;exact C
  · rw [if_neg hc] at C;exact absurd C Y
 by_cases D:K=4
 · refine gen (members_sim (d:=d+1) hT) (fun he r hr=>Ev.unf ?_) (fun r hr=>Ev.unf ?_)
   · have hx:txt=[101,110,117,109]:=Classical.byContradiction fun hx=>by
      by_cases hy:txt=[115,116,114,117,99,116]
      · have:=(hbk he).2.1 hx hy;omega
      · have:=(hbk he).2.2 hx hy;omega
     subst D;simp only [ps_body,hu];exact ep hx hr
   · simp only [pr_body,hu]
     exact ep D hr
 · by_cases E:K=6
   · refine gen (fields_sim (d:=d+1) hT (by omega) hD h) (fun he r hr=>Ev.unf ?_) (fun r hr=>Ev.unf ?_)
     · have hx:¬ txt=[101,110,117,109]:=fun hx=>D ((hbk he).1 hx)
       have hy:txt=[115,116,114,117,99,116]:=Classical.byContradiction fun hy=>by
        have:=(hbk he).2.2 hx hy;omega
       subst E;simp only [ps_body,hu];exact eg hx (ep hy hr)
     · simp only [pr_body,hu]
       exact eg D (ep E hr)
   · refine gen (choice_sim (d:=d+1) hT (by omega) hD h) (fun he r hr=>Ev.unf ?_) (fun r hr=>Ev.unf ?_)
     · have hx:¬ txt=[101,110,117,109]:=fun hx=>D ((hbk he).1 hx)
       have hy:¬ txt=[115,116,114,117,99,116]:=fun hy=>E ((hbk he).2.1 hx hy)
       obtain rfl:=(hbk he).2.2 hx hy;simp only [ps_body,hu];exact eg hx (eg hy hr)
     · simp only [pr_body,hu]
       exact eg D (eg E hr)
theorem body_seq {β σ:Type} [Sml β] {Q:Reach β σ} {M:Nat} (hT:Toks T) (hd:d < 8) (hD:HD T M) (h:e=0→M≤n) (txt:By) (K:Int) (hK:e=0→K=bodyK txt∧K≠0) (nm:By) (x:Int)
 {gs:Nat→(OV×Int×List Tree×ParK)→Option (OV×β×ParK)} {z:(OV×Int×List Tree×ParK)→β} {p:(OV×Int×List Tree×ParK)→ParK} {gr:Nat→Tree×ParR→Option σ}
 (hg:∀ kids n' e' a',(e'=0→n < n'∧e=0)→(e'=0→Sml.sm kids)→Sim Q T n0 n' d e' a' (fun k=>gs k (none,K,kids,kS T n' d)) (fun k=>gr k (⟨K,nm,0,x,kids⟩,rF T n' d e' a'))) :
 Sim Q T n0 n d e a (fun k=>Option.bind (ps_body k (kS T n d) txt) fun t=>if t.1.isSome=true then some (t.1,z t,p t) else gs k t) (fun k=>Option.bind (pr_body k (rF T n d e a) ⟨K,nm,0,x,[]⟩) (gr k)):=by
 intro hn;obtain ⟨J,O⟩:=body_rel (a:=a) hT hd hD h txt K hK nm x hn;refine ⟨fun he ha=>?_,fun he=>?_⟩
 · rcases J he ha with ⟨v,n',l1,l2,sv,s,r⟩|⟨e',a',ab,C,p',w,n',he',l,s,r⟩
   · rcases (hg v n' 0 0 (fun _=>⟨l1,he⟩) (fun _=>sv) l2).1 rfl rfl with ⟨v',n2,V,X,sv',s',r'⟩|⟨Y,Z,C,aa,q,n2,D,m,s',r'⟩
     · exact .inl ⟨v',n2,V,X,sv',eb s (eg (by simp) s'),Q.mono (fun x hx=>eb r hx) r'⟩
     · exact .inr ⟨Y,Z,C,aa,q,n2,D,m,eb s (eg (by simp) s'),Q.mono (fun x hx=>eb r hx) r'⟩
   · obtain ⟨q,hw⟩:=(hg w n' e' a' (fun h=>absurd h he') (fun h=>absurd h he') l).2 he'
     exact .inr ⟨e',a',_,_,q,n',he',l,eb s (ep rfl et),Q.mono (fun x hx=>eb r hx) hw⟩
 · obtain ⟨w,hw⟩:=O he
   obtain ⟨q,E⟩:=(hg w n e a (fun h=>absurd h he) (fun h=>absurd h he) hn).2 he;exact ⟨q,Q.mono (fun x hx=>eb hw hx) E⟩
theorem typ_bad (ht:T[n]? = some t) (he:e≠0):∃ w,Ev (fun k=>pr_typed k (rF T n d e a)) (w,rF T n d e a):=by
 refine ⟨⟨0,[],0,t.At,[]⟩,Ev.unf ?_⟩;simp only [pr_typed];refine eb (ea (pr_bodied_ ht)) (eg he (Ev.unf ?_));simp only [pr_typed.j1];exact ep (by simp) (eb (ea (pr_bare_F he ht)) et)
theorem typ_sim (hT:Toks T) (hd:d≤8) (hD:HD T (n+1)):Sim Q0 T n n d e a (fun k=>ps_typ k (kS T n d)) (fun k=>pr_typed k (rF T n d e a)):=by
 have hTl:=hT.1;refine Sim.cases (fun he ha t ht hn=>?_) (fun he t ht hn=>typ_bad ht he);subst he ha;by_cases hb:bodied t=0
 · refine Sim.unf ?_
   simp only [ps_typ,pr_typed];refine Sim.pre (fun _ _ r hr=>eb (ps_shallow_no hT ht (fun h=>h.1 hb)) (eg (by simp) (eb (ps_isBody_ hT ht) (eg (by simp [hb]) hr)))) (fun r hr=>eb (ea (pr_bodied_ ht)) (ep (by simp) (Ev.unf ?_))) (Sim.eta (Sim.tail (bare_sim hT) (fun _=>Nat.le_refl n)));simp only [pr_typed.j1];exact ep (by simp [hb]) hr
 · by_cases D:8≤d
   · refine Sim.fault (e':=41) (a':=t.At) (by decide) hn (z:=⟨0,[],0,0,[]⟩) (p:=kS T n d) (w:=⟨0,[],0,0,[]⟩) (Ev.unf ?_) (show Ev (fun k=>pr_typed k (rF T n d 0 0)) _ from Ev.unf ?_)
     · simp only [ps_typ]
       exact eb (ps_shallow_yes hT ht hb D) (ep rfl et)
     · simp only [pr_typed]
       refine eb (ea (pr_bodied_ ht)) (ep (by simp) (Ev.unf ?_));simp only [pr_typed.j1];exact eg (by simp [hb]) (ep (by omega) (eb (ea (pr_fail_ ht 41)) et))
   · have E:t.Kind≠5:=fun V=>hb (by unfold bodied;rw [if_neg (by omega)])
     have O:=hT.next ht E;have hw:w64 ((n:Int)+1)=((n+1:Nat):Int):=w64_succ (by omega);have hbt:bodied t=bodyK t.Text:=by
      unfold bodied at hb ⊢;by_cases J:t.Kind=2
      · rw [if_pos J]
      · rw [if_neg J] at hb;exact absurd rfl hb
     refine Sim.unf ?_;simp only [ps_typ,pr_typed];refine Sim.pre (gs:=fun k=>Option.bind (ps_body k (kS T (n+1) d) t.Text) fun q=>(if (q.1).isSome=true then (some (q.1,(⟨0,([]:By),0,0,[]⟩:Tree),q.2.2.2)) else (some (none,(⟨q.2.1,([]:By),0,t.At,(q.2.2.1)⟩:Tree),q.2.2.2))))
      (gr:=fun k=>Option.bind (pr_body k (rF T (n+1) d 0 0) ⟨bodied t,[],0,t.At,[]⟩) fun C=>some (C.1,C.2))
      (fun _ _ r hr=>eb (ps_shallow_no hT ht (fun h=>D h.2)) (eg (by simp) (eb (ps_isBody_ hT ht) (ep (by simp [hb]) (eb (ea (ps_token_ ht)) ?_))))) (fun r hr=>eb (ea (pr_bodied_ ht)) (ep (by simp) (Ev.unf ?_))) ?_
     · rw [hw];exact hr
     · simp only [pr_typed.j1]
       refine eg (by simp [hb]) (eg (by omega) (ebc (idx_some ht) ?_));rw [hw];exact hr
     · refine Sim.fwd O (body_seq (n0:=n) hT (by omega) hD (fun _=>Nat.le_refl _) t.Text (bodied t) (fun _=>⟨hbt,hb⟩) [] t.At fun kids n' e' a' h' hk=>Sim.ret (fun _=>by omega) fun h=>.mk (Nat.le_trans (hk h).1 (by decide)) (hk h).2)
theorem decl_bad (ht:T[n]? = some t) (he:e≠0) (b:Bool):∃ w,Ev (fun k=>pr_declaration k (rF T n d e a) b) (w,rF T n d e a):=by
 obtain ⟨w,hw⟩:=typ_bad (d:=d) (a:=a) ht he;refine ⟨⟨14,[],0,0,[w]⟩,Ev.unf ?_⟩;simp only [pr_declaration];refine ebc (idx_some ht) (eb (ea (pr_is_F ht he _)) (eg (by simp) (Ev.unf ?_)));simp only [pr_declaration.j1];refine eg (by simp) (eb (ea (pr_may_F ht he _)) (eg (by simp) (eb (ea (pr_may_F ht he _)) (eg (by simp) (eb hw ?_)))));exact eb (ea (pr_may_F ht he _)) (eg (by simp) (eb (sized_bad w 0 ht he) et))
theorem decl_sim (hT:Toks T) (hd:d≤8) (hD:HD T (n+1)) (b:Bool) (hb:b=false→e=0→∀ t,T[n]? = some t→isW t [118,111,105,100]=false):Sim Q0 T n n d e a (fun k=>ps_declaration k (kS T n d)) (fun k=>pr_declaration k (rF T n d e a) b):=by
 have hTl:=hT.1;refine Sim.cases (fun he ha t ht hn=>?_) (fun he t ht hn=>decl_bad ht he b);subst he ha;have hw:=hT.w1 ht (s:=[118,111,105,100]) (by decide);refine Sim.unf ?_;simp only [ps_declaration,pr_declaration];refine Sim.pre (fun _ _ r hr=>eb (ea (ps_token_ ht)) hr) (fun r hr=>ebc (idx_some ht) hr) ?_;by_cases hv:isW t [118,111,105,100]=true
 · have hbt:b=true:=by
    cases b
    · rw [hb rfl rfl t ht] at hv;exact absurd hv (by decide)
    · rfl
   have D:t.Kind≠5:=by unfold isW at hv;simp at hv;omega
   have q:=hT.next ht D;have E:w64 ((n:Int)+1)=((n+1:Nat):Int):=w64_succ (by omega);refine Sim.pre (fun _ _ r hr=>eb (may_yes hT ht (by decide) hv) (ep rfl hr)) (fun r hr=>eb (ea fun k=>(pr_is_ ht _ k).trans (by rw [hw,hv])) (ep rfl (Ev.unf ?_))) (Sim.fwd q (Sim.ret (fun _=>Nat.lt_succ_self n) fun _=>.leaf));simp only [pr_declaration.j1];refine ep (by simp [hbt]) ?_;rw [E];exact hr
 · have hv':isW t [118,111,105,100]=false:=by simpa using hv
   refine Sim.pre (fun _ _ r hr=>eb (may_no hT ht (by decide) hv') (eg (by simp) hr)) (fun r hr=>eb (ea fun k=>(pr_is_ ht _ k).trans (by rw [hw,hv'])) (eg (by simp) hr)) (Sim.unfR ?_);simp only [pr_declaration.j1];refine Sim.preR (fun r hr=>eg (by simp) hr) ?_;refine Sim.may hT _ (fun _ _ _=>?_) (fun _=>?_)
   · refine Sim.eta ?_
     unfold pr_sized;exact Sim.name hT 14 fun n1 e1 J s x q=>sized1_sim hT s x _ .leaf (fun _=>by omega)
   · refine Sim.may hT _ (fun _ _ _=>?_) (fun _=>?_)
     · refine Sim.eta ?_
       unfold pr_sized;exact Sim.name hT 14 fun n1 e1 J s x q=>sized2_sim hT s x _ .leaf (fun _=>by omega)
     · refine Sim.seq (typ_sim hT hd hD) fun v n1 e1 J q C=>?_
       refine Sim.may hT _ (fun _ _ _=>?_) (fun _=>?_)
       · exact Sim.name hT 17 fun n2 O V s x X=>Sim.ret (fun _=>by omega) fun h=>.one (C (by omega))
       · refine Sim.eta ?_
         unfold pr_sized;exact Sim.name hT 14 fun n2 O V s x X=>sized0_sim hT s x _ (fun h=>C (by omega)) (fun _=>by omega)
theorem HD_all (hT:Toks T):∀ (m M:Nat),T.length - M≤m→HD T M:=by
 intro m
 induction m with
 | zero =>
  intro M hM n d e a hd h;refine Sim.cases (fun he ha t ht hn=>?_) (fun he t ht hn=>decl_bad ht he true);have:=h he
  omega
 | succ m ih =>
  intro M hM n d e a hd h;refine Sim.cases (fun he ha t ht hn=>?_) (fun he t ht hn=>decl_bad ht he true);have:=h he;exact decl_sim hT hd (ih (n+1) (by omega)) true (fun h=>absurd h (by decide))
theorem HD_ (hT:Toks T) (M:Nat):HD T M:=HD_all hT _ M (Nat.le_refl _)
end Go.Proofs.YtnhifhlbelogcaaGreatDoor
set_option linter.unusedVariables false
set_option linter.unusedSimpArgs false
namespace Go.Proofs.YtnhifhlbelogcaaGreatDoor
open Go Go.Eng
variable {T:List Token} {n0 n d:Nat} {e a:Int} {t:Token}
theorem pr_decl_void (ht:T[n]? = some t) (hT:Toks T) (h:isW t [118,111,105,100]=true):∃ w,Ev (fun k=>pr_declaration k (rS T n d) false) (w,rF T n d 40 t.At):=by
 have hn:=(List.getElem?_eq_some_iff.1 ht).1;have h':=h;unfold isW at h';simp only [Bool.and_eq_true,decide_eq_true_eq,beq_iff_eq] at h';have hb:bodied t=0:=by unfold bodied;rw [if_pos h'.1,h'.2];rfl
 have hg:begins t=false:=by unfold begins;rw [if_neg (by omega),if_pos h'.1,h'.2];rfl
 refine ⟨⟨14,[],0,0,[⟨0,[],0,t.At,[]⟩]⟩,Ev.unf ?_⟩;simp only [pr_declaration];have hno:∀ s:By,s≠[118,111,105,100]→∀ k,pr_may k (rS T n d) s=some (false,rS T n d):=fun s hs k=>by
  have:=pr_may_ (d:=d) ht hT.1 s k;rw [show (isK t && (t.Text == s))=false by rw [h'.2];simp [Ne.symm hs]] at this;exact this
 refine ebc (idx_some ht) (eb (ea fun k=>(pr_is_ ht _ k).trans (by rw [hT.w1 ht (by decide),h])) (ep rfl (Ev.unf ?_)));simp only [pr_declaration.j1];refine eg (by simp) (eb (ea (hno _ (by decide))) (eg (by simp) (eb (ea (hno _ (by decide))) (eg (by simp) (eb (r:=(⟨0,[],0,t.At,[]⟩,rF T n d 40 t.At)) (Ev.unf ?_) ?_)))))
 · simp only [pr_typed]
   refine eb (ea (pr_bodied_ (e:=0) (a:=0) ht)) (ep (by simp) (Ev.unf ?_));simp only [pr_typed.j1];exact ep (by simp [hb]) (eb (ea (pr_bare_no ht hg)) et)
 · exact eb (ea (pr_may_F ht (by decide) _)) (eg (by simp) (eb (sized_bad _ 0 ht (by decide)) et))
theorem definition_sim (hT:Toks T):Sim Q0 T n n 0 0 0 (fun k=>ps_definition k (kS T n 0)) (fun k=>pr_definition k (rF T n 0 0 0)):=by
 have hTl:=hT.1;refine Sim.cases (fun _ _ t ht hn=>?_) (fun he=>absurd rfl he);unfold ps_definition pr_definition;refine Sim.pre (fun _ _ r hr=>eb (ea (ps_token_ ht)) hr) (fun r hr=>ebc (idx_some ht) (eb (ea (pr_bodied_ ht)) hr)) ?_;by_cases hb:bodied t=0
 · refine Sim.preR (fun r hr=>ep hb hr) ?_
   refine Sim.may hT _ (fun _ _ _=>?_) (fun _=>?_)
   · refine Sim.name hT 2 fun n1 e1 ad s x D=>?_
     refine Sim.want hT _ fun n2 E J _ q=>?_
     refine Sim.seq (number_sim hT) fun v ae af ag ah Z=>?_
     exact Sim.want hT _ fun O V X _ Y=>Sim.ret (fun _=>by omega) fun h=>.one (Z (by omega))
   · refine Sim.may hT _ (fun _ _ _=>?_) (fun _=>?_)
     · refine Sim.cases (fun _ _ u hu aa=>?_) (fun he=>absurd rfl he)
       have hw:=hT.w1 hu (s:=[118,111,105,100]) (by decide);by_cases hv:isW u [118,111,105,100]=true
       · obtain ⟨w,hwv⟩:=pr_decl_void (d:=0) hu hT hv
         exact Sim.fault (e':=40) (a':=u.At) (by decide) aa (eb (ps_is1 hu _) (ep (by rw [hw];exact hv) (eb (ea (ps_give_ hu 40)) (ep rfl et)))) (eb hwv (eb (ea (pr_want_F hu (by decide) _)) et))
       · have hv':isW u [118,111,105,100]=false:=by simpa using hv
         refine Sim.preS (fun _ _ r hr=>eb (ps_is1 hu _) (eg (by rw [hw];exact hv) hr)) ?_;unfold ps_definition.j1;refine Sim.seq (decl_sim hT (by decide) (HD_ hT _) false (fun _ _ y hy=>by rw [hu] at hy;cases hy;exact hv')) fun v n2 E J q C=>?_
         exact Sim.want hT _ fun O V X _ Y=>Sim.ret (fun _=>by omega) fun h=>.one (C (by omega))
     · refine Sim.may hT _ (fun _ _ _=>?_) (fun _=>?_)
       · refine Sim.seq (program_sim hT) fun v n2 E J q C=>?_
         exact Sim.want hT _ fun O V X _ Y=>Sim.ret (fun _=>by omega) fun h=>C (by omega)
       · exact Sim.fault (e':=40) (a':=t.At) (by decide) hn (eb (ps_isBody_ hT ht) (eg (by simp [hb]) (eb (ea (ps_give_ ht 40)) (ep rfl et)))) (eb (ea (pr_fail_ ht 40)) (eb (ea (pr_want_F ht (by decide) _)) et))
 · have ab:t.Kind≠5:=fun ai=>hb (by unfold bodied;rw [if_neg (by omega)])
   have D:=hT.next ht ab;have hw:w64 ((n:Int)+1)=((n+1:Nat):Int):=w64_succ (by omega);have hbt:bodied t=bodyK t.Text:=by
    unfold bodied at hb ⊢;by_cases q:t.Kind=2
    · rw [if_pos q]
    · rw [if_neg q] at hb;exact absurd rfl hb
   refine Sim.preR (fun r hr=>eg hb hr) ?_;refine Sim.preS (fun _ _ r hr=>eb (may_no hT ht (by decide) (bodied_w hb (by decide))) (eg (by simp) (eb (may_no hT ht (by decide) (bodied_w hb (by decide))) (eg (by simp) (eb (may_no hT ht (by decide) (bodied_w hb (by decide))) (eg (by simp) (eb (ps_isBody_ hT ht) (ep (by simp [hb]) hr)))))))) ?_;simp only [hw];refine Sim.fwd D (Sim.name hT 6 fun n1 e1 ad s x D=>?_);refine body_seq hT (by decide) (HD_ hT 0) (fun _=>Nat.zero_le _) t.Text (bodied t) (fun _=>⟨hbt,hb⟩) s x fun kids n2 E J q hk=>?_
   exact Sim.want hT _ fun O V X _ Y=>Sim.ret (fun _=>by omega) fun h=>.mk (Nat.le_trans (hk (by omega)).1 (by decide)) (hk (by omega)).2
def defT (t:Token):Bool:=decide (bodied t≠0) || (decide (t.Kind=2) && decide (t.Text∈([[99,111,110,115,116],[116,121,112,101,100,101,102],[112,114,111,103,114,97,109]]:List By)))
theorem pr_defines_ (hT:Toks T) (ht:T[n]? = some t) (k:Nat):pr_defines k (rF T n d 0 0)=some (defT t):=by
 have hi:=pr_is_ (d:=d) ht;unfold pr_defines defT;rw [pr_bodied_ ht,Option.bind_some,hi,Option.bind_some,hi,Option.bind_some,hi,Option.bind_some,hT.w1 ht (by decide),hT.w1 ht (by decide),hT.w1 ht (by decide)];unfold isW;by_cases hb:bodied t=0
 · rw [if_pos hb]
   by_cases q:t.Kind=2
   · by_cases C:t.Text=[99,111,110,115,116]
     · simp [q,C]
     · by_cases D:t.Text=[116,121,112,101,100,101,102]
       · simp [q,D]
       · simp [q,C,D,hb]
         cases hx:(t.Text == [112,114,111,103,114,97,109]) <;> simp_all
   · simp [q,hb]
 · rw [if_neg hb];simp [hb]
theorem ps_definition_no (hT:Toks T) (ht:T[n]? = some t) (h:defT t=false):∃ z p,Ev (fun k=>ps_definition k (kS T n 0)) (some (faultV 40 t.At),z,p):=by
 unfold defT at h;simp only [Bool.or_eq_false_iff,decide_eq_false_iff_not,ne_eq,Decidable.not_not] at h;have hm:∀ s∈([[99,111,110,115,116],[116,121,112,101,100,101,102],[112,114,111,103,114,97,109]]:List By),isW t s=false:=fun s hs=>by
  by_cases q:t.Kind=2
  · rw [isW_eq q]
    have C:=h.2;by_cases he:t.Text=s
    · exfalso
      subst he
      simp [q] at C
      simp at hs
      rcases hs with h | h | h <;> simp_all
    · simpa using he
  · exact isW_no q s
 unfold ps_definition;exact ⟨_,_,eb (ea (ps_token_ ht)) (eb (may_no hT ht (by decide) (hm _ (by simp))) (eg (by simp) (eb (may_no hT ht (by decide) (hm _ (by simp))) (eg (by simp) (eb (may_no hT ht (by decide) (hm _ (by simp))) (eg (by simp) (eb (ps_isBody_ hT ht) (eg (by simp [h.1]) (eb (ea (ps_give_ ht 40)) (ep rfl et))))))))))⟩
theorem pss_is (hT:Toks T) (ht:T[n]? = some t):Ev (fun k=>ps_is k (kS T n d) ([([99,111,110,115,116]:By),([116,121,112,101,100,101,102]:By),([112,114,111,103,114,97,109]:By)]:List By)) (decide (t.Kind=2) && decide (t.Text∈([[99,111,110,115,116],[116,121,112,101,100,101,102],[112,114,111,103,114,97,109]]:List By))) :=
 (ps_is_ ht (by decide)).cast (hT.word ht (by decide))
abbrev noT:Tree:=⟨0,[],0,0,[]⟩
theorem prP_bad (he:e≠0) (l:List Tree):Ev (fun k=>pr_Parse.l1 k l T (n:Int) (d:Int) e a) (noT,e,a):=by
 refine Ev.unf ?_;simp only [pr_Parse.l1];refine eg he (Ev.unf ?_);simp only [pr_Parse.j2];refine eg (by simp) ?_;unfold pr_Parse.j1;exact eg he et
theorem source_l (hT:Toks T):∀ (m n:Nat) (l:List Tree),n < T.length→T.length - n≤m→l.length≤100→(∀ t∈l,Sm t)→(∀ t,T[n]? = some t→defT t=true→l.length≤100) →
 (∃ v p,Sm v∧Ev (fun k=>ps_source.l1 k (kS T n 0) l) (none,v,p)∧Ev (fun k=>pr_Parse.l1 k l T (n:Int) 0 0 0) (v,0,0)) ∨
 ∃ e a z p,e≠0∧Ev (fun k=>ps_source.l1 k (kS T n 0) l) (some (faultV e a),z,p)∧Ev (fun k=>pr_Parse.l1 k l T (n:Int) 0 0 0) (noT,e,a):=by
 have hTl:=hT.1;intro m
 induction m with
 | zero=>intro n l hn hm;omega
 | succ m ih =>
  intro n l hn hm hl hsm _;obtain ⟨t,ht⟩:=at_some hn;by_cases q:t.Kind=5
  · refine .inl ⟨⟨1,[],0,0,l⟩,kS T n 0,.mk (by omega) hsm,Ev.unf ?_,Ev.unf ?_⟩
    · simp only [ps_source.l1]
      exact eb (ea (ps_token_ ht)) (ep q et)
    · simp only [pr_Parse.l1]
      refine ep (by simp) (ebc (idx_some ht) (Ev.unf ?_));simp only [pr_Parse.j2];refine eg (by simp [q]) ?_;unfold pr_Parse.j1;exact ep rfl et
  · have hpr:∀ {r:Tree×Int×Int},(¬ (defT t=true∧(l.length:Int)=100))→Ev (fun k=>pr_Parse.j3 k l T (n:Int) 0 0 0) r→Ev (fun k=>pr_Parse.l1 k l T (n:Int) 0 0 0) r:=fun {r} hno hr=>by
     refine Ev.unf ?_;simp only [pr_Parse.l1];refine ep (by simp) (ebc (idx_some ht) (Ev.unf ?_));simp only [pr_Parse.j2];refine ep (by simp [q]) (eb (ea (pr_defines_ (d:=0) hT ht)) ?_);by_cases hd:defT t=true
     · exact ep hd (eg (fun h=>hno ⟨hd,h⟩) hr)
     · exact eg hd hr
    by_cases hmany:defT t=true∧(l.length:Int)=100
    · refine .inr ⟨42,t.At,noT,kS T n 0,by decide,Ev.unf ?_,Ev.unf ?_⟩
      · simp only [ps_source.l1]
        refine eb (ea (ps_token_ ht)) (eg q (eb (ps_isBody_ hT ht) ?_));by_cases hb:bodied t=0
        · refine eg (by simp [hb]) (eb (pss_is hT ht) (eb (ps_more_yes' ht ?_ (by omega)) (ep rfl et)))
          have:=hmany.1;unfold defT at this
          simpa [hb] using this
        · exact ep (by simp [hb]) (eb (ps_more_yes ht (by omega)) (ep rfl et))
      · simp only [pr_Parse.l1]
        refine ep (by simp) (ebc (idx_some ht) (Ev.unf ?_));simp only [pr_Parse.j2];refine ep (by simp [q]) (eb (ea (pr_defines_ (d:=0) hT ht)) (ep hmany.1 (ep hmany.2 (eb (ea (pr_fail_ (d:=0) ht 42)) ?_))));unfold pr_Parse.j1;exact eg (show ¬ (42:Int)=0 by decide) et
    · have hps:∀ {r:OV×Tree×ParK},Ev (fun k=>ps_source.j1 k (kS T n 0) l) r→Ev (fun k=>ps_source.l1 k (kS T n 0) l) r:=fun {r} hr=>by
       refine Ev.unf ?_;simp only [ps_source.l1];refine eb (ea (ps_token_ ht)) (eg q (eb (ps_isBody_ hT ht) ?_));by_cases hb:bodied t=0
       · refine eg (by simp [hb]) (eb (pss_is hT ht) (eb (ps_more_no ?_) (eg (by simp) hr)))
         rintro ⟨J,Y⟩;exact hmany ⟨by unfold defT;rw [J];simp,by omega⟩
       · refine ep (by simp [hb]) (eb (ps_more_no ?_) (eg (by simp) hr))
         rintro ⟨J,Y⟩;exact hmany ⟨by unfold defT;simp [hb],by omega⟩
      rcases (definition_sim (n:=n) hT hn).1 rfl rfl with ⟨v,n',l1,l2,sv,s,r⟩|⟨e',a',z',p',w,n',he',l',s,r⟩
      · have X:l.length < 100:=by
         by_cases hd:defT t=true
         · have:¬ (l.length:Int)=100:=fun h=>hmany ⟨hd,h⟩
           omega
         · obtain ⟨z,p,hF⟩:=ps_definition_no hT ht (by simpa using hd)
           exact absurd (congrArg Prod.fst (Ev.det s hF)) (by simp)
        have hc:cat l [v]=some (l++[v]):=cat_at (by simp only [List.length_singleton];omega);have hsm':=smL_app hsm (smL_one sv);rcases ih n' (l++[v]) l2 (by omega) (by simp only [List.length_append,List.length_singleton];omega) hsm' (fun _ _ _=>by simp only [List.length_append,List.length_singleton];omega) with ⟨Z,C,O,D,E⟩|⟨aa,ab,ad,C,V,D,E⟩
        · refine .inl ⟨Z,C,O,hps (Ev.unf ?_),hpr hmany (Ev.unf ?_)⟩
          · simp only [ps_source.j1]
            exact eb s (eg (by simp) (ebc hc D))
          · simp only [pr_Parse.j3]
            exact eb r (ebc hc E)
        · refine .inr ⟨aa,ab,ad,C,V,hps (Ev.unf ?_),hpr hmany (Ev.unf ?_)⟩
          · simp only [ps_source.j1]
            exact eb s (eg (by simp) (ebc hc D))
          · simp only [pr_Parse.j3]
            exact eb r (ebc hc E)
      · refine .inr ⟨e',a',noT,p',he',hps (Ev.unf ?_),hpr hmany (Ev.unf ?_)⟩
        · simp only [ps_source.j1]
          exact eb s (ep rfl et)
        · simp only [pr_Parse.j3]
          exact eb r (ebc (cat_at (show l.length+[w].length≤_ by simp only [List.length_singleton];omega)) (prP_bad (d:=0) he' _))
theorem kind_not {a b:Int} {P:Prop} (h:a≠b):a=b→P:=fun e=>absurd e h
theorem numS_nb (b:Bool) (l:By):N40 (numS b l).1:=by
 have D:=fun x=>digS_in (.inl rfl) x
 have q:=fun x=>digS_in (.inr (.inl rfl)) x
 have C:=fun x=>digS_in (.inr (.inr rfl)) x
 unfold numS N40;have:=q l;have:=D (l.drop 1);have:=C (l.drop 2)
 repeat' split
 all_goals first | omega | (show -1099511627776 < -(digS 10 l).1∧-(digS 10 l).1≤1099511627776;omega) | decide
theorem nextS_tok (m:By):∀ t k,nextS m = .tok t k→t.Kind≠5∧(t.Kind=4→t.Text.length=1)∧(t.Kind=1→t.Text≠[])∧(t.Kind=3→N40 t.Number):=by
 intro t k h;cases m with
 | nil=>exact absurd h (by unfold nextS;simp)
 | cons c l =>
  rw [nextS_cons] at h
  split at h
  · cases h
  split at h
  · split at h <;> cases h
  split at h
  · split at h
    · cases h;exact ⟨(by decide:(2:Int)≠5),kind_not (by decide:(2:Int)≠4),kind_not (by decide:(2:Int)≠1),kind_not (by decide:(2:Int)≠3)⟩
    · split at h
      · cases h
      · cases h;exact ⟨(by decide:(1:Int)≠5),kind_not (by decide:(1:Int)≠4),fun _=>(by rename_i hc _ _ _;rw [runLen_cons,if_pos (by simp [inRun,hc])];simp),kind_not (by decide:(1:Int)≠3)⟩
  by_cases c4:(isDigit c || minusDigit c l)=true
  · rw [if_pos c4] at h
    by_cases q:(numS (decide (c=45)) (if c=45 then l.take (runLen l) else (c::l).take (1+runLen l))).2=true
    · rw [if_pos q] at h
      have h':=(Nx.tok.inj h).1;subst h';exact ⟨(by decide:(3:Int)≠5),kind_not (by decide:(3:Int)≠4),kind_not (by decide:(3:Int)≠1),fun _=>numS_nb _ _⟩
    · rw [if_neg q] at h
      cases h
  rw [if_neg c4] at h
  split at h
  · cases h;exact ⟨(by decide:(4:Int)≠5),fun _=>rfl,kind_not (by decide:(4:Int)≠1),kind_not (by decide:(4:Int)≠3)⟩
  · cases h
def TokIn (len:Nat) (t:Token):Prop:=t.Kind≠5∧((t.Kind=4→t.Text.length=1)∧(t.Kind=1→t.Text≠[])∧(t.Kind=3→N40 t.Number))∧0≤t.At∧t.At≤(len:Int)
theorem scanG_toks (s:By):∀ (d a:Nat) (acc:List Token),s.length < a+d→a≤s.length→(∀ t∈acc,TokIn s.length t)→(scanG d s a acc).2.1=0 →
 ∃ A,(scanG d s a acc).1=A++[⟨5,[],0,(s.length:Int)⟩]∧∀ t∈A,TokIn s.length t:=by
 intro d
 induction d with
 | zero=>intro a acc D E;omega
 | succ d ih =>
  intro a acc D E hacc q;rw [scanG] at q ⊢;by_cases ha:a < s.length
  · rw [if_pos ha] at q ⊢
    have hok:=nextS_ok _ (drop_ne ha);have htk:=nextS_tok (s.drop a);generalize nextS (s.drop a)=x at hok htk q ⊢;cases x with
    | bad e =>
     have he:e≠0:=by rcases hok with h | h | h | h <;> subst h <;> decide
     exact absurd q he
    | skip k =>
     obtain ⟨J,C⟩:=hok;rw [List.length_drop] at C;exact ih (a+k) acc (by omega) (by omega) hacc q
    | tok t k =>
     obtain ⟨J,C,V⟩:=hok;rw [List.length_drop] at C;obtain ⟨O,k2⟩:=htk t k rfl;refine ih (a+k) _ (by omega) (by omega) (fun u hu=>?_) q;rcases List.mem_append.1 hu with hu | hu
     · exact hacc u hu
     · rw [List.mem_singleton] at hu
       subst hu;exact ⟨O,k2,show (0:Int)≤(a:Int) by omega,show (a:Int)≤(s.length:Int) by omega⟩
  · rw [if_neg ha]
    exact ⟨acc,rfl,hacc⟩
theorem scanS_toks {s:By} (q:(scanS s).2.1=0):s.length≤16000∧∃ A,(scanS s).1=A++[⟨5,[],0,(s.length:Int)⟩]∧∀ t∈A,TokIn s.length t:=by
 unfold scanS at q ⊢;by_cases h:16000 < s.length
 · rw [if_pos h] at q
   exact absurd q (by decide)
 · rw [if_neg h] at q ⊢
   exact ⟨by omega,scanG_toks s (s.length+1) 0 [] (by omega) (by omega) (fun t ht=>absurd ht (by simp)) q⟩
theorem toks_scan {s:By} (C:(scanS s).2.1=0):Toks (scanS s).1:=by
 have hl:=scanS_len s;obtain ⟨_,A,hA,hin⟩:=scanS_toks C;rw [hA] at hl ⊢;refine ⟨hl,fun n t ht=>?_,fun t ht q=>?_⟩
 · rw [List.length_append,List.length_singleton]
   by_cases hn:n < A.length
   · rw [List.getElem?_append_left hn] at ht
     have:=(hin t (List.mem_of_getElem? ht)).1
     constructor
     · intro h;exact absurd h this
     · intro h;omega
   · rw [List.getElem?_append_right (by omega)] at ht
     have D:=(List.getElem?_eq_some_iff.1 ht).1;rw [List.length_singleton] at D;have:n - A.length=0:=by omega
     rw [this] at ht;cases ht
     constructor
     · intro _;omega
     · intro _;rfl
 · rcases List.mem_append.1 ht with h | h
   · exact (hin t h).2.1.1 q
   · rw [List.mem_singleton] at h
     subst h;exact absurd q (show (5:Int)≠4 by decide)
theorem tk_scan {s:By} (q:(scanS s).2.1=0):TK (scanS s).1:=by
 obtain ⟨_,A,hA,hin⟩:=scanS_toks q;rw [hA];intro t ht;rcases List.mem_append.1 ht with h | h
 · exact (hin t h).2.1.2
 · rw [List.mem_singleton] at h
   subst h;exact ⟨kind_not (show (5:Int)≠1 by decide),kind_not (show (5:Int)≠3 by decide)⟩
theorem faultOf_V (e a:Int):faultOf (faultV e a)=some (e,a):=rfl
end Go.Proofs.YtnhifhlbelogcaaGreatDoor
