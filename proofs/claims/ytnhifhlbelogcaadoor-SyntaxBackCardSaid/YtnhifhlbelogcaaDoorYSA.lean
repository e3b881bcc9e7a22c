/- Both parsers: their states, and the first steps. -/
import Derived.Test.YtnhifhlbelogcaaDoorYPR
import Derived.Test.YtnhifhlbelogcaaDoorYLexP
set_option linter.unusedVariables false
set_option linter.unusedSimpArgs false
namespace Go.Proofs.YtnhifhlbelogcaaDoor
open Go Go.Eng
theorem Ev.unf {α:Type} {f:Nat→Option α} {r:α} (h:Ev (fun k=>f (k+1)) r):Ev f r:=Ev.step h (fun _=>rfl)
abbrev kS (T:List Token) (n d:Nat):ParK:=⟨T,(n:Int),(d:Int)⟩
abbrev rS (T:List Token) (n d:Nat):ParR:=⟨T,(n:Int),(d:Int),0,0⟩
abbrev rF (T:List Token) (n d:Nat) (e a:Int):ParR:=⟨T,(n:Int),(d:Int),e,a⟩
abbrev NB (x:Int):Prop:=-9223372036854775808≤x∧x≤9223372036854775807
theorem nb0:NB 0:=by decide
def Toks (T:List Token):Prop:=T.length≤16001∧(∀ (n:Nat) t,T[n]? = some t→(t.Kind=5 ↔ n+1=T.length))∧∀ t∈T,(t.Kind=4→t.Text.length=1)∧NB t.Number
variable {T:List Token} {n d:Nat} {t:Token}
theorem Toks.next (h:Toks T) (hn:T[n]? = some t) (hk:t.Kind≠5):n+1 < T.length:=by
 have C:=(List.getElem?_eq_some_iff.1 hn).1;have q:=h.2.1 n t hn;have:¬ n+1=T.length:=fun e=>hk (q.2 e)
 omega
theorem idx_some {α:Type} {l:List α} {i:Nat} {x:α} (h:l[i]? = some x):idx l (i:Int)=some x:=by
 obtain ⟨q,C⟩:=List.getElem?_eq_some_iff.1 h;rw [idx_at rfl q,C]
def isK (t:Token):Bool:=t.Kind == 2 || t.Kind == 4
theorem ps_token_ (hn:T[n]? = some t) (k:Nat):ps_token k (kS T n d)=some t:=by
 unfold ps_token;rw [idx_some hn]
 rfl
theorem pr_is_ (hn:T[n]? = some t) (s:List UInt8) (k:Nat):pr_is k (rS T n d) s=some (isK t && (t.Text == s)):=by
 unfold pr_is isK;rw [idx_some hn,Option.bind_some,if_pos rfl];by_cases q:t.Text=s
 · rw [if_pos q]
   by_cases C:t.Kind=4
   · rw [if_pos C];simp [q,C]
   · rw [if_neg C];congr 1;rw [Bool.eq_iff_iff];simp [q,C]
 · rw [if_neg q];simp [q]
theorem pr_fail_ (hn:T[n]? = some t) (e:Int) (k:Nat):pr_fail k (rS T n d) e=some (rF T n d e t.At):=by
 unfold pr_fail;rw [if_pos rfl,idx_some hn]
 rfl
theorem pr_fail_F {e a:Int} (he:e≠0) (e':Int) (k:Nat):pr_fail k (rF T n d e a) e'=some (rF T n d e a):=by
 unfold pr_fail;rw [if_neg he]
theorem pr_may_ (hn:T[n]? = some t) (hT:T.length≤16001) (s:List UInt8) (k:Nat):pr_may k (rS T n d) s=some (isK t && (t.Text == s),if isK t && (t.Text == s) then rS T (n+1) d else rS T n d):=by
 have q:=(List.getElem?_eq_some_iff.1 hn).1;unfold pr_may;rw [pr_is_ hn,Option.bind_some,show (rS T n d).at_=(n:Int) from rfl,w64_succ (by omega)];by_cases h:(isK t && (t.Text == s))=true
 · rw [if_pos h,if_pos h]
 · rw [if_neg h,if_neg h]
theorem pr_want_ (hn:T[n]? = some t) (hT:T.length≤16001) (s:List UInt8) (k:Nat):pr_want k (rS T n d) s=some (if isK t && (t.Text == s) then rS T (n+1) d else rF T n d 40 t.At):=by
 unfold pr_want;rw [pr_may_ hn hT,Option.bind_some];by_cases h:(isK t && (t.Text == s))=true
 · rw [if_pos h,if_pos h,if_pos h]
 · rw [if_neg h,if_neg h,if_neg h,pr_fail_ hn]
   rfl
theorem ps_give_ (hn:T[n]? = some t) (e:Int) (k:Nat):ps_give k (kS T n d) e=some (some (faultV e t.At)):=by
 unfold ps_give;rw [ps_token_ hn]
 rfl
theorem ps_is_ (hn:T[n]? = some t) {L:List (List UInt8)} (hL:L.length≤1000000):Ev (fun k=>ps_is k (kS T n d) L) (isK t && decide (t.Text∈L)):=by
 unfold ps_is isK;refine Ev.bind (Ev.all (ps_token_ hn)) ?_;by_cases q:t.Kind=2
 · exact Ev.pos q (Ev.bind (slContains_ L t.Text hL) (Ev.cast Ev.ret (by simp [q])))
 · by_cases C:t.Kind=4
   · exact Ev.neg q (Ev.pos C (Ev.bind (slContains_ L t.Text hL) (Ev.cast Ev.ret (by simp [C]))))
   · exact Ev.neg q (Ev.neg C (Ev.cast Ev.ret (by simp [q,C])))
theorem ps_is1 (hn:T[n]? = some t) (s:List UInt8):Ev (fun k=>ps_is k (kS T n d) [s]) (isK t && (t.Text == s)):=by
 refine (ps_is_ hn (L:=[s]) (by simp)).cast ?_;rw [Bool.eq_iff_iff]
 simp
theorem ps_may_ (hn:T[n]? = some t) (hT:T.length≤16001) (s:List UInt8):Ev (fun k=>ps_may k (kS T n d) s) (isK t && (t.Text == s),if isK t && (t.Text == s) then kS T (n+1) d else kS T n d):=by
 have q:=(List.getElem?_eq_some_iff.1 hn).1;unfold ps_may;refine Ev.bind (ps_is1 hn s) ?_;rw [show (kS T n d).next=(n:Int) from rfl,w64_succ (by omega)];by_cases h:(isK t && (t.Text == s))=true
 · exact Ev.pos h (Ev.cast Ev.ret (by rw [if_pos h]))
 · exact Ev.neg h (Ev.cast Ev.ret (by rw [if_neg h]))
theorem ps_want_t (hn:T[n]? = some t) (hT:T.length≤16001) {s:List UInt8} (h:(isK t && (t.Text == s))=true):Ev (fun k=>ps_want k (kS T n d) s) (none,t.At,kS T (n+1) d):=by
 have q:=(List.getElem?_eq_some_iff.1 hn).1;unfold ps_want;refine Ev.bind (ps_is1 hn s) (Ev.pos h ?_);unfold ps_want.j1;rw [show (kS T n d).next=(n:Int) from rfl,w64_succ (by omega),w64_of (by omega) (by omega),show (((n+1:Nat):Int) - 1)=(n:Int) by omega];exact Ev.bindc (idx_some hn) Ev.ret
theorem ps_want_f (hn:T[n]? = some t) {s:List UInt8} (h:¬ (isK t && (t.Text == s))=true):Ev (fun k=>ps_want k (kS T n d) s) (some (faultV 40 t.At),0,kS T n d):=by
 unfold ps_want;exact Ev.bind (ps_is1 hn s) (Ev.neg h (Ev.bind (Ev.all (ps_give_ hn 40)) (Ev.pos rfl Ev.ret)))
theorem ps_kind_t (hn:T[n]? = some t) (hT:T.length≤16001) {q:Int} (h:t.Kind=q) (k:Nat):ps_kind k (kS T n d) q=some (none,t,kS T (n+1) d):=by
 have C:=(List.getElem?_eq_some_iff.1 hn).1;unfold ps_kind;rw [ps_token_ hn,Option.bind_some,if_pos h];unfold ps_kind.j1;rw [show (kS T n d).next=(n:Int) from rfl,w64_succ (by omega)]
theorem ps_kind_f (hn:T[n]? = some t) {q:Int} (h:¬ t.Kind=q) (k:Nat):ps_kind k (kS T n d) q=some (some (faultV 40 t.At),⟨0,[],0,0⟩,kS T n d):=by
 unfold ps_kind;rw [ps_token_ hn,Option.bind_some,if_neg h,ps_give_ hn]
 rfl
theorem ps_name_t (hn:T[n]? = some t) (hT:T.length≤16001) (h:t.Kind=1) (q:Int) (k:Nat):ps_name k (kS T n d) q=some (none,⟨q,t.Text,0,t.At,[]⟩,kS T (n+1) d):=by
 unfold ps_name;rw [ps_kind_t hn hT h]
 rfl
theorem ps_name_f (hn:T[n]? = some t) (h:¬ t.Kind=1) (q:Int) (k:Nat):ps_name k (kS T n d) q=some (some (faultV 40 t.At),⟨0,[],0,0,[]⟩,kS T n d):=by
 unfold ps_name;rw [ps_kind_f hn h]
 rfl
theorem pr_name_t (hn:T[n]? = some t) (hT:T.length≤16001) (h:t.Kind=1) (k:Nat):pr_name k (rS T n d)=some (t.Text,t.At,rS T (n+1) d):=by
 have q:=(List.getElem?_eq_some_iff.1 hn).1;unfold pr_name;rw [idx_some hn,Option.bind_some,if_pos rfl];unfold pr_name.j1;rw [if_neg (by simp [h]),show (rS T n d).at_=(n:Int) from rfl,w64_succ (by omega)]
theorem pr_name_f (hn:T[n]? = some t) (h:¬ t.Kind=1) (k:Nat):pr_name k (rS T n d)=some ([],0,rF T n d 40 t.At):=by
 unfold pr_name;rw [idx_some hn,Option.bind_some,if_pos rfl];unfold pr_name.j1;rw [if_pos (by simp [h]),pr_fail_ hn]
 rfl
theorem pr_name_F (hn:T[n]? = some t) {e a:Int} (he:e≠0) (k:Nat):pr_name k (rF T n d e a)=some ([],0,rF T n d e a):=by
 unfold pr_name;rw [idx_some hn,Option.bind_some,if_neg he];unfold pr_name.j1;rw [if_pos rfl,pr_fail_F he]
 rfl
end Go.Proofs.YtnhifhlbelogcaaDoor
set_option linter.unusedVariables false
set_option linter.unusedSimpArgs false
namespace Go.Proofs.YtnhifhlbelogcaaDoor
open Go Go.Eng
variable {T:List Token} {n d:Nat} {t:Token}
def Agree (T:List Token) (n d:Nat) (fs:Nat→Option (Option Value×Tree×ParK)) (fr:Nat→Option (Tree×ParR)):Prop :=
 (∃ v n',n < n'∧n' < T.length∧Ev fs (none,v,kS T n' d)∧Ev fr (v,rS T n' d)∧v.Kids=[]∧NB v.Number) ∨
  ∃ e a z p w n',e≠0∧n' < T.length∧Ev fs (some (faultV e a),z,p)∧Ev fr (w,rF T n' d e a)
theorem ps_number_t (hn:T[n]? = some t) (hT:T.length≤16001) (h:t.Kind=3) (k:Nat):ps_number k (kS T n d)=some (none,⟨28,[],t.Number,t.At,[]⟩,kS T (n+1) d):=by
 unfold ps_number;rw [ps_kind_t hn hT h]
 rfl
theorem ps_number_f (hn:T[n]? = some t) (h:¬ t.Kind=3) (k:Nat):ps_number k (kS T n d)=some (some (faultV 40 t.At),⟨0,[],0,0,[]⟩,kS T n d):=by
 unfold ps_number;rw [ps_kind_f hn h]
 rfl
theorem pr_number_t (hn:T[n]? = some t) (hT:T.length≤16001) {b:Bool} (h:t.Kind=3) (hb:¬ (b=true∧t.Number < 0)) (k:Nat):pr_number k (rS T n d) b=some (⟨28,[],t.Number,t.At,[]⟩,rS T (n+1) d):=by
 have D:=(List.getElem?_eq_some_iff.1 hn).1;have hj:pr_number.j1 k (rS T n d) t=some (⟨28,[],t.Number,t.At,[]⟩,rS T (n+1) d):=by
  unfold pr_number.j1;rw [show (rS T n d).at_=(n:Int) from rfl,w64_succ (by omega)]
 unfold pr_number;rw [idx_some hn,Option.bind_some,if_pos rfl,if_pos h];by_cases q:b=true
 · rw [if_pos q,if_neg (fun C=>hb ⟨q,C⟩)];exact hj
 · rw [if_neg q];exact hj
theorem pr_number_f (hn:T[n]? = some t) {b:Bool} (h:¬ (t.Kind=3∧¬ (b=true∧t.Number < 0))) (k:Nat):pr_number k (rS T n d) b=some (⟨0,[],0,0,[]⟩,rF T n d 40 t.At):=by
 unfold pr_number;rw [idx_some hn,Option.bind_some,if_pos rfl];by_cases q:t.Kind=3
 · have hb:b=true∧t.Number < 0:=Classical.byContradiction fun C=>h ⟨q,C⟩
   rw [if_pos q,if_pos hb.1,if_pos hb.2,pr_fail_ hn]
   rfl
 · rw [if_neg q,pr_fail_ hn]
   rfl
theorem pr_number_F (hn:T[n]? = some t) {b:Bool} {e a:Int} (he:e≠0) (k:Nat):pr_number k (rF T n d e a) b=some (⟨0,[],0,0,[]⟩,rF T n d e a):=by
 unfold pr_number;rw [idx_some hn,Option.bind_some,if_neg he,pr_fail_F he]
 rfl
theorem pr_value_F (hn:T[n]? = some t) {e a:Int} (he:e≠0):∃ v,∀ k,pr_value k (rF T n d e a)=some (v,rF T n d e a):=by
 by_cases h:t.Kind=1
 · exact ⟨_,fun k=>by unfold pr_value;rw [idx_some hn,Option.bind_some,if_pos h,pr_name_F hn he];rfl⟩
 · exact ⟨_,fun k=>by unfold pr_value;rw [idx_some hn,Option.bind_some,if_neg h,pr_number_F hn he];rfl⟩
theorem value_agree (hT:Toks T) (hn:T[n]? = some t):Agree T n d (fun k=>ps_value k (kS T n d)) (fun k=>pr_value k (rS T n d)):=by
 have hl:=hT.1;have C:=(List.getElem?_eq_some_iff.1 hn).1;by_cases h:t.Kind=1
 · refine .inl ⟨⟨27,t.Text,0,t.At,[]⟩,n+1,Nat.lt_succ_self _,hT.next hn (by omega),Ev.all fun k=>?_,Ev.all fun k=>?_,rfl,nb0⟩
   · unfold ps_value;rw [ps_token_ hn,Option.bind_some,if_pos h,ps_name_t hn hl h];rfl
   · unfold pr_value;rw [idx_some hn,Option.bind_some,if_pos h,pr_name_t hn hl h];rfl
 · by_cases q:t.Kind=3
   · refine .inl ⟨⟨28,[],t.Number,t.At,[]⟩,n+1,Nat.lt_succ_self _,hT.next hn (by omega),Ev.all fun k=>?_,Ev.all fun k=>?_,rfl,(hT.2.2 t (List.mem_of_getElem? hn)).2⟩
     · unfold ps_value;rw [ps_token_ hn,Option.bind_some,if_neg h,ps_number_t hn hl q];rfl
     · unfold pr_value;rw [idx_some hn,Option.bind_some,if_neg h,pr_number_t hn hl q (by simp)];rfl
   · refine .inr ⟨40,t.At,⟨0,[],0,0,[]⟩,kS T n d,⟨0,[],0,0,[]⟩,n,by decide,C,Ev.all fun k=>?_,Ev.all fun k=>?_⟩
     · unfold ps_value;rw [ps_token_ hn,Option.bind_some,if_neg h,ps_number_f hn q];rfl
     · unfold pr_value;rw [idx_some hn,Option.bind_some,if_neg h,pr_number_f hn (by simp [q])];rfl
end Go.Proofs.YtnhifhlbelogcaaDoor
set_option linter.unusedVariables false
set_option linter.unusedSimpArgs false
namespace Go.Proofs.YtnhifhlbelogcaaDoor
open Go Go.Eng
variable {T:List Token} {n d:Nat} {t:Token}
theorem Toks.word (hT:Toks T) (hn:T[n]? = some t) {L:List (List UInt8)} (hL:∀ s∈L,s.length≠1):(isK t && decide (t.Text∈L))=(decide (t.Kind=2) && decide (t.Text∈L)):=by
 by_cases hm:t.Text∈L
 · have q:t.Kind≠4:=fun h=>hL _ hm ((hT.2.2 t (List.mem_of_getElem? hn)).1 h)
   rw [Bool.eq_iff_iff]
   simp [isK,hm,q]
 · simp [hm]
def bodyK (s:List UInt8):Int:=if s=[101,110,117,109] then 4 else if s=[115,116,114,117,99,116] then 6 else if s=[117,110,105,111,110] then 7 else 0
def bodied (t:Token):Int:=if t.Kind=2 then bodyK t.Text else 0
theorem pr_bodied_ {e a:Int} (hn:T[n]? = some t) (k:Nat):pr_bodied k (rF T n d e a)=some (bodied t):=by
 unfold pr_bodied bodied bodyK;rw [idx_some hn,Option.bind_some];by_cases q:t.Kind=2 <;> by_cases C:t.Text=[101,110,117,109] <;> by_cases D:t.Text=[115,116,114,117,99,116] <;> by_cases E:t.Text=[117,110,105,111,110] <;> simp [q,C,D,E]
theorem ps_isBody_ (hT:Toks T) (hn:T[n]? = some t):Ev (fun k=>ps_isBody k (kS T n d)) (decide (bodied t≠0)):=by
 unfold ps_isBody;refine Ev.bind (ps_is_ hn (by decide)) (Ev.cast Ev.ret ?_);rw [hT.word hn (by decide),Bool.eq_iff_iff];unfold bodied bodyK;by_cases q:t.Kind=2
 · simp only [q,if_true,decide_true,Bool.true_and,decide_eq_true_eq,List.mem_cons,List.not_mem_nil,or_false]
   by_cases C:t.Text=[101,110,117,109]
   · simp [C]
   · by_cases D:t.Text=[115,116,114,117,99,116]
     · simp [D]
     · by_cases E:t.Text=[117,110,105,111,110]
       · simp [E]
       · simp [C,D,E]
 · simp [q]
theorem wordNumber_agree (hT:Toks T) (hn:T[n]? = some t):Agree T n d (fun k=>ps_wordNumber k (kS T n d)) (fun k=>pr_number k (rS T n d) true):=by
 have hl:=hT.1;have D:=(List.getElem?_eq_some_iff.1 hn).1;by_cases q:t.Number < 0
 · refine .inr ⟨40,t.At,⟨0,[],0,0,[]⟩,kS T n d,⟨0,[],0,0,[]⟩,n,by decide,D,Ev.all fun k=>?_,Ev.all fun k=>pr_number_f hn (fun h=>h.2 ⟨rfl,q⟩) k⟩
   unfold ps_wordNumber;rw [ps_token_ hn,Option.bind_some,if_pos q,ps_give_ hn];rfl
 · by_cases C:t.Kind=3
   · refine .inl ⟨⟨28,[],t.Number,t.At,[]⟩,n+1,Nat.lt_succ_self _,hT.next hn (by omega),Ev.all fun k=>?_,Ev.all fun k=>pr_number_t hn hl C (fun h=>q h.2) k,rfl,(hT.2.2 t (List.mem_of_getElem? hn)).2⟩
     unfold ps_wordNumber;rw [ps_token_ hn,Option.bind_some,if_neg q,ps_number_t hn hl C];rfl
   · refine .inr ⟨40,t.At,⟨0,[],0,0,[]⟩,kS T n d,⟨0,[],0,0,[]⟩,n,by decide,D,Ev.all fun k=>?_,Ev.all fun k=>pr_number_f hn (fun h=>C h.1) k⟩
     unfold ps_wordNumber;rw [ps_token_ hn,Option.bind_some,if_neg q,ps_number_f hn C];rfl
end Go.Proofs.YtnhifhlbelogcaaDoor
set_option linter.unusedVariables false
set_option linter.unusedSimpArgs false
namespace Go.Proofs.YtnhifhlbelogcaaDoor
open Go Go.Eng
variable {T:List Token} {n d:Nat} {t:Token}
def bareK (s:List UInt8):Int:=if s=[105,110,116] then 18 else if s=[104,121,112,101,114] then 20 else if s=[102,108,111,97,116] then 22 else if s=[100,111,117,98,108,101] then 23 else if s=[98,111,111,108] then 24 else 0
theorem pr_base_ (s:List UInt8) (k:Nat):pr_base k s=some (bareK s):=by
 unfold pr_base bareK;by_cases q:s=[105,110,116]
 · simp [q]
 by_cases C:s=[104,121,112,101,114]
 · simp [C]
 by_cases D:s=[102,108,111,97,116]
 · simp [D]
 by_cases E:s=[100,111,117,98,108,101]
 · simp [E]
 by_cases J:s=[98,111,111,108]
 · simp [J]
 · simp [q,C,D,E,J]
def begins (t:Token):Bool:=if t.Kind=1 then true else if t.Kind=2 then (if t.Text=[117,110,115,105,103,110,101,100] then true else !(decide (bareK t.Text=0))) else false
theorem pr_begins_ {e a:Int} (hn:T[n]? = some t) (k:Nat):pr_begins k (rF T n d e a)=some (begins t):=by
 unfold pr_begins begins;rw [idx_some hn,Option.bind_some];by_cases q:t.Kind=1
 · rw [if_pos q,if_pos q]
 · rw [if_neg q,if_neg q]
   by_cases C:t.Kind=2
   · rw [if_pos C,if_pos C]
     by_cases D:t.Text=[117,110,115,105,103,110,101,100]
     · rw [if_pos D,if_pos D]
     · rw [if_neg D,if_neg D,pr_base_]
       rfl
   · rw [if_neg C,if_neg C]
theorem ps_isBare_ (hT:Toks T) (hn:T[n]? = some t):Ev (fun k=>ps_isBare k (kS T n d)) (begins t):=by
 unfold ps_isBare begins;refine Ev.bind (Ev.all (ps_token_ hn)) ?_;by_cases C:t.Kind=1
 · rw [if_pos C]
   exact Ev.pos C Ev.ret
 · rw [if_neg C]
   refine Ev.neg C (Ev.bind (ps_is_ hn (by decide)) (Ev.cast Ev.ret ?_));rw [hT.word hn (by decide)];by_cases q:t.Kind=2
   · rw [if_pos q]
     unfold bareK;by_cases D:t.Text=[117,110,115,105,103,110,101,100]
     · simp [q,D]
     by_cases E:t.Text=[105,110,116]
     · simp [q,E]
     by_cases J:t.Text=[104,121,112,101,114]
     · simp [q,J]
     by_cases O:t.Text=[102,108,111,97,116]
     · simp [q,O]
     by_cases V:t.Text=[100,111,117,98,108,101]
     · simp [q,V]
     by_cases X:t.Text=[98,111,111,108]
     · simp [q,X]
     · simp [q,D,E,J,O,V,X]
   · rw [if_neg q]
     simp [q]
end Go.Proofs.YtnhifhlbelogcaaDoor
set_option linter.unusedVariables false
set_option linter.unusedSimpArgs false
namespace Go.Proofs.YtnhifhlbelogcaaDoor
open Go Go.Eng
variable {T:List Token} {n d:Nat} {t:Token}
def isW (t:Token) (s:List UInt8):Bool:=decide (t.Kind=2) && (t.Text == s)
theorem Toks.w1 (hT:Toks T) (hn:T[n]? = some t) {s:List UInt8} (hs:s.length≠1):(isK t && (t.Text == s))=isW t s:=by
 have:=hT.word hn (L:=[s]) (by simpa using hs);unfold isW;rw [Bool.eq_iff_iff] at this ⊢
 simpa using this
theorem may_no (hT:Toks T) (hn:T[n]? = some t) {s:List UInt8} (hs:s.length≠1) (h:isW t s=false):Ev (fun k=>ps_may k (kS T n d) s) (false,kS T n d):=by
 have:=ps_may_ (d:=d) hn hT.1 s;rw [hT.w1 hn hs,h] at this;exact this
theorem may_yes (hT:Toks T) (hn:T[n]? = some t) {s:List UInt8} (hs:s.length≠1) (h:isW t s=true):Ev (fun k=>ps_may k (kS T n d) s) (true,kS T (n+1) d):=by
 have:=ps_may_ (d:=d) hn hT.1 s;rw [hT.w1 hn hs,h] at this;exact this
theorem isW_eq (q:t.Kind=2) (s:List UInt8):isW t s=(t.Text == s):=by unfold isW;simp [q]
theorem isW_no (q:¬ t.Kind=2) (s:List UInt8):isW t s=false:=by unfold isW;simp [q]
theorem ps_bare_no (hT:Toks T) (hn:T[n]? = some t) (q:¬ t.Kind=1) (h:∀ s∈([[117,110,115,105,103,110,101,100],[105,110,116],[104,121,112,101,114],[102,108,111,97,116],[100,111,117,98,108,101],[98,111,111,108]]:List (List UInt8)),isW t s=false):Ev (fun k=>ps_bare k (kS T n d)) (some (faultV 40 t.At),⟨0,[],0,0,[]⟩,kS T n d):=by
 unfold ps_bare;refine Ev.bind (Ev.all (ps_token_ hn)) (Ev.neg q ?_);refine Ev.bind (may_no hT hn (by decide) (h _ (by simp))) (Ev.neg Bool.false_ne_true ?_);refine Ev.bind (may_no hT hn (by decide) (h _ (by simp))) (Ev.neg Bool.false_ne_true ?_);refine Ev.bind (may_no hT hn (by decide) (h _ (by simp))) (Ev.neg Bool.false_ne_true ?_);refine Ev.bind (may_no hT hn (by decide) (h _ (by simp))) (Ev.neg Bool.false_ne_true ?_);refine Ev.bind (may_no hT hn (by decide) (h _ (by simp))) (Ev.neg Bool.false_ne_true ?_);refine Ev.bind (may_no hT hn (by decide) (h _ (by simp))) (Ev.neg Bool.false_ne_true ?_);exact Ev.bind (Ev.all (ps_give_ hn 40)) (Ev.pos rfl Ev.ret)
theorem pr_bare_no (hn:T[n]? = some t) (hb:begins t=false) (k:Nat):pr_bare k (rS T n d)=some (⟨0,[],0,t.At,[]⟩,rF T n d 40 t.At):=by
 unfold pr_bare;rw [idx_some hn,Option.bind_some,pr_begins_ (e:=0) (a:=0) hn,Option.bind_some,if_pos rfl,hb];unfold pr_bare.j1;rw [if_pos (show (!false)=true from rfl),pr_fail_ hn]
 rfl
theorem pr_bare_F {e a:Int} (he:e≠0) (hn:T[n]? = some t) (k:Nat):pr_bare k (rF T n d e a)=some (⟨0,[],0,t.At,[]⟩,rF T n d e a):=by
 unfold pr_bare;rw [idx_some hn,Option.bind_some,pr_begins_ hn,Option.bind_some,if_neg he];unfold pr_bare.j1;rw [if_pos rfl,pr_fail_F he]
 rfl
end Go.Proofs.YtnhifhlbelogcaaDoor
set_option linter.unusedVariables false
set_option linter.unusedSimpArgs false
namespace Go.Proofs.YtnhifhlbelogcaaDoor
open Go Go.Eng
variable {T:List Token} {n d:Nat} {t:Token}
theorem pr_bare_w (hn:T[n]? = some t) (hT:T.length≤16001) (q:t.Kind=2) (hu:¬ t.Text=[117,110,115,105,103,110,101,100]) (hb:bareK t.Text≠0) (k:Nat):pr_bare k (rS T n d)=some (⟨bareK t.Text,[],0,t.At,[]⟩,rS T (n+1) d):=by
 have C:=(List.getElem?_eq_some_iff.1 hn).1;have hbg:begins t=true:=by unfold begins;rw [if_neg (by omega),if_pos q,if_neg hu];simp [hb]
 unfold pr_bare;rw [idx_some hn,Option.bind_some,pr_begins_ (e:=0) (a:=0) hn,Option.bind_some,if_pos rfl,hbg];unfold pr_bare.j1;rw [if_neg (show ¬ (!true)=true by decide),if_neg (by omega),pr_base_,Option.bind_some,if_neg hu,show (rS T n d).at_=(n:Int) from rfl,w64_succ (by omega)]
theorem bare_word (hT:Toks T) (hn:T[n]? = some t) (O:t.Kind=2) (hu:¬ t.Text=[117,110,115,105,103,110,101,100]) (hb:bareK t.Text≠0):Ev (fun k=>ps_bare k (kS T n d)) (none,⟨bareK t.Text,[],0,t.At,[]⟩,kS T (n+1) d):=by
 have hw:=isW_eq O;unfold ps_bare;refine Ev.bind (Ev.all (ps_token_ hn)) (Ev.neg (by omega) ?_);refine Ev.bind (may_no hT hn (by decide) (by rw [hw];simpa using hu)) (Ev.neg Bool.false_ne_true ?_);by_cases q:t.Text=[105,110,116]
 · exact Ev.bind (may_yes hT hn (by decide) (by rw [hw,q];rfl)) (Ev.pos rfl (Ev.cast Ev.ret (by rw [q];rfl)))
 refine Ev.bind (may_no hT hn (by decide) (by rw [hw];simpa using q)) (Ev.neg Bool.false_ne_true ?_);by_cases C:t.Text=[104,121,112,101,114]
 · exact Ev.bind (may_yes hT hn (by decide) (by rw [hw,C];rfl)) (Ev.pos rfl (Ev.cast Ev.ret (by rw [C];rfl)))
 refine Ev.bind (may_no hT hn (by decide) (by rw [hw];simpa using C)) (Ev.neg Bool.false_ne_true ?_);by_cases D:t.Text=[102,108,111,97,116]
 · exact Ev.bind (may_yes hT hn (by decide) (by rw [hw,D];rfl)) (Ev.pos rfl (Ev.cast Ev.ret (by rw [D];rfl)))
 refine Ev.bind (may_no hT hn (by decide) (by rw [hw];simpa using D)) (Ev.neg Bool.false_ne_true ?_);by_cases E:t.Text=[100,111,117,98,108,101]
 · exact Ev.bind (may_yes hT hn (by decide) (by rw [hw,E];rfl)) (Ev.pos rfl (Ev.cast Ev.ret (by rw [E];rfl)))
 refine Ev.bind (may_no hT hn (by decide) (by rw [hw];simpa using E)) (Ev.neg Bool.false_ne_true ?_);by_cases J:t.Text=[98,111,111,108]
 · exact Ev.bind (may_yes hT hn (by decide) (by rw [hw,J];rfl)) (Ev.pos rfl (Ev.cast Ev.ret (by rw [J];rfl)))
 · exact absurd (by unfold bareK;simp [q,C,D,E,J]) hb
theorem bare_agree (hT:Toks T) (hn:T[n]? = some t):Agree T n d (fun k=>ps_bare k (kS T n d)) (fun k=>pr_bare k (rS T n d)):=by
 have hl:=hT.1;have J:=(List.getElem?_eq_some_iff.1 hn).1;by_cases hk:t.Kind=1
 · refine .inl ⟨⟨27,t.Text,0,t.At,[]⟩,n+1,Nat.lt_succ_self _,hT.next hn (by omega),Ev.all fun k=>?_,Ev.all fun k=>?_,rfl,nb0⟩
   · unfold ps_bare;rw [ps_token_ hn,Option.bind_some,if_pos hk,ps_name_t hn hl hk];rfl
   · have hbg:begins t=true:=by unfold begins;rw [if_pos hk]
     unfold pr_bare;rw [idx_some hn,Option.bind_some,pr_begins_ (e:=0) (a:=0) hn,Option.bind_some,if_pos rfl,hbg];unfold pr_bare.j1;rw [if_neg (show ¬ (!true)=true by decide),if_pos hk,show (rS T n d).at_=(n:Int) from rfl,w64_succ (by omega)]
 by_cases C:t.Kind=2
 · have hw:=isW_eq C
   by_cases hu:t.Text=[117,110,115,105,103,110,101,100]
   · have hx:=hT.next hn (by omega)
     have q:T[n+1]? = some T[n+1]:=List.getElem?_eq_getElem hx;have hbg:begins t=true:=by unfold begins;rw [if_neg hk,if_pos C,if_pos hu]
     have hr:∀ k,pr_bare k (rS T n d)=Option.bind (pr_may k (rS T (n+1) d) [105,110,116]) fun D=>if D.1=true then some (⟨19,[],0,t.At,[]⟩,D.2) else Option.bind (pr_want k D.2 [104,121,112,101,114]) fun E=>some (⟨21,[],0,t.At,[]⟩,E):=fun k=>by
      unfold pr_bare;rw [idx_some hn,Option.bind_some,pr_begins_ (e:=0) (a:=0) hn,Option.bind_some,if_pos rfl,hbg];unfold pr_bare.j1;rw [if_neg (show ¬ (!true)=true by decide),if_neg hk,pr_base_,Option.bind_some,if_pos hu,show (rS T n d).at_=(n:Int) from rfl,w64_succ (by omega)]
     have wi:=hT.w1 q (s:=[105,110,116]) (by decide);have wh:=hT.w1 q (s:=[104,121,112,101,114]) (by decide);by_cases hh:isW T[n+1] [104,121,112,101,114]=true
     · have hni:isW T[n+1] [105,110,116]=false:=by
        unfold isW at hh ⊢;simp only [Bool.and_eq_true,decide_eq_true_eq,beq_iff_eq] at hh
        simp [hh.2]
       refine .inl ⟨⟨21,[],0,t.At,[]⟩,n+2,by omega,hT.next q (by unfold isW at hh;simp at hh;omega),?_,Ev.all fun k=>?_,rfl,nb0⟩
       · unfold ps_bare
         exact Ev.bind (Ev.all (ps_token_ hn)) (Ev.neg hk (Ev.bind (may_yes hT hn (by decide) (by rw [hw,hu];rfl)) (Ev.pos rfl (Ev.bind (may_yes hT q (by decide) hh) (Ev.pos rfl Ev.ret)))))
       · rw [hr,pr_may_ q hl,wi,hni,Option.bind_some,if_neg Bool.false_ne_true]
         show Option.bind (pr_want k (rS T (n+1) d) _) _=_
         rw [pr_want_ q hl,wh,if_pos hh]
         rfl
     · have hh':isW T[n+1] [104,121,112,101,114]=false:=by simpa using hh
       by_cases hi:isW T[n+1] [105,110,116]=true
       · refine .inl ⟨⟨19,[],0,t.At,[]⟩,n+2,by omega,hT.next q (by unfold isW at hi;simp at hi;omega),?_,Ev.all fun k=>?_,rfl,nb0⟩
         · unfold ps_bare
           exact Ev.bind (Ev.all (ps_token_ hn)) (Ev.neg hk (Ev.bind (may_yes hT hn (by decide) (by rw [hw,hu];rfl)) (Ev.pos rfl (Ev.bind (may_no hT q (by decide) hh') (Ev.neg Bool.false_ne_true (Ev.bind (ps_want_t q hl (by rw [wi];exact hi)) (Ev.neg (by simp) Ev.ret)))))))
         · rw [hr,pr_may_ q hl,wi,hi,Option.bind_some,if_pos rfl]
           rfl
       · have hi':isW T[n+1] [105,110,116]=false:=by simpa using hi
         refine .inr ⟨40,T[n+1].At,⟨0,[],0,0,[]⟩,kS T (n+1) d,⟨21,[],0,t.At,[]⟩,n+1,by decide,hx,?_,Ev.all fun k=>?_⟩
         · unfold ps_bare
           exact Ev.bind (Ev.all (ps_token_ hn)) (Ev.neg hk (Ev.bind (may_yes hT hn (by decide) (by rw [hw,hu];rfl)) (Ev.pos rfl (Ev.bind (may_no hT q (by decide) hh') (Ev.neg Bool.false_ne_true (Ev.bind (ps_want_f q (by rw [wi,hi'];decide)) (Ev.pos rfl Ev.ret)))))))
         · rw [hr,pr_may_ q hl,wi,hi',Option.bind_some,if_neg Bool.false_ne_true]
           show Option.bind (pr_want k (rS T (n+1) d) _) _=_
           rw [pr_want_ q hl,wh,if_neg hh]
           rfl
   · by_cases hb:bareK t.Text=0
     · have hbg:begins t=false:=by unfold begins;rw [if_neg hk,if_pos C,if_neg hu];simp [hb]
       refine .inr ⟨40,t.At,_,_,_,n,by decide,J,ps_bare_no hT hn hk ?_,Ev.all (pr_bare_no hn hbg)⟩;intro s hs;rw [hw];by_cases e:t.Text=s
       · exfalso
         subst e;simp only [List.mem_cons,List.not_mem_nil,or_false] at hs;rcases hs with h | h | h | h | h | h
         · exact hu h
         all_goals (rw [h] at hb;exact absurd hb (by decide))
       · simpa using e
     · exact .inl ⟨_,n+1,Nat.lt_succ_self _,hT.next hn (by omega),bare_word hT hn C hu hb,Ev.all (pr_bare_w hn hl C hu hb),rfl,nb0⟩
 · have hbg:begins t=false:=by unfold begins;rw [if_neg hk,if_neg C]
   exact .inr ⟨40,t.At,_,_,_,n,by decide,J,ps_bare_no hT hn hk (fun s _=>isW_no C s),Ev.all (pr_bare_no hn hbg)⟩
end Go.Proofs.YtnhifhlbelogcaaDoor
