/- Both parsers: their states, and the first steps. -/
import Derived.Test.YtnhifhlbelogcaaGreatDoorYPH
import Derived.Test.YtnhifhlbelogcaaGreatDoorYLexT
set_option linter.unusedVariables false
set_option linter.unusedSimpArgs false
namespace Go.Proofs.YtnhifhlbelogcaaGreatDoor
open Go Go.Eng
theorem Ev.unf {α:Type} {f:Nat→Option α} {r:α} (h:Ev (fun k=>f (k+1)) r):Ev f r:=Ev.step h (fun _=>rfl)
abbrev kS (T:List Token) (n d:Nat):ParK:=⟨T,(n:Int),(d:Int)⟩
abbrev rS (T:List Token) (n d:Nat):ParR:=⟨T,(n:Int),(d:Int),0,0⟩
abbrev rF (T:List Token) (n d:Nat) (e a:Int):ParR:=⟨T,(n:Int),(d:Int),e,a⟩
def Toks (T:List Token):Prop:=T.length≤16001∧(∀ (n:Nat) t,T[n]? = some t→(t.Kind=5 ↔ n+1=T.length))∧∀ t∈T,t.Kind=4→t.Text.length=1
variable {T:List Token} {n d:Nat} {t:Token}
theorem Toks.next (h:Toks T) (hn:T[n]? = some t) (hk:t.Kind≠5):n+1 < T.length:=by
 have q:=(List.getElem?_eq_some_iff.1 hn).1;have h2:=h.2.1 n t hn;have:¬ n+1=T.length:=fun e=>hk (h2.2 e)
 omega
theorem idx_some {α:Type} {l:List α} {i:Nat} {x:α} (h:l[i]? = some x):idx l (i:Int)=some x:=by
 obtain ⟨q,h2⟩:=List.getElem?_eq_some_iff.1 h;rw [idx_at rfl q,h2]
def isK (t:Token):Bool:=t.Kind == 2 || t.Kind == 4
theorem ps_token_ (hn:T[n]? = some t) (k:Nat):ps_token k (kS T n d)=some t:=by
 unfold ps_token;rw [idx_some hn]
 rfl
theorem pr_is_ (hn:T[n]? = some t) (s:List UInt8) (k:Nat):pr_is k (rS T n d) s=some (isK t && (t.Text == s)):=by
 unfold pr_is isK;rw [idx_some hn,Option.bind_some,if_pos rfl];by_cases q:t.Text=s
 · rw [if_pos q]
   by_cases h2:t.Kind=4
   · rw [if_pos h2];simp [q,h2]
   · rw [if_neg h2];congr 1;rw [Bool.eq_iff_iff];simp [q,h2]
 · rw [if_neg q];simp [q]
theorem pr_fail_ (hn:T[n]? = some t) (e:Int) (k:Nat):pr_fail k (rS T n d) e=some (rF T n d e t.At):=by
 unfold pr_fail;rw [if_pos rfl,idx_some hn]
 rfl
theorem pr_fail_F {e a:Int} (he:e≠0) (e':Int) (k:Nat):pr_fail k (rF T n d e a) e'=some (rF T n d e a):=by
 unfold pr_fail;rw [if_neg he]
theorem pr_may_ (hn:T[n]? = some t) (hT:T.length≤16001) (s:List UInt8) (k:Nat):pr_may k (rS T n d) s=some (isK t && (t.Text == s),if isK t && (t.Text == s) then rS T (n+1) d else rS T n d):=by
 have q:=(List.getElem?_eq_some_iff.1 hn).1;unfold pr_may;rw [pr_is_ hn,Option.bind_some,show (rS T n d).at_=(n:Int) from rfl,w64_succ (by omega)];by_cases h:(isK t && (t.Text == s))=true
 · rw [if_pos h,if_pos h]
 · rw [if_neg h,if_neg h]
theorem pr_want_ (hn:T[n]? = some t) (hT:T.length≤16001) (s:List UInt8) (k:Nat):pr_want k (rS T n d) s=some (if isK t && (t.Text == s) then rS T (n+1) d else rF T n d 40 t.At):=by
 unfold pr_want;rw [pr_may_ hn hT,Option.bind_some];by_cases h:(isK t && (t.Text == s))=true
 · rw [if_pos h,if_pos h,if_pos h]
 · rw [if_neg h,if_neg h,if_neg h,pr_fail_ hn]
   rfl
theorem ps_give_ (hn:T[n]? = some t) (e:Int) (k:Nat):ps_give k (kS T n d) e=some (some (faultV e t.At)):=by
 unfold ps_give;rw [ps_token_ hn]
 rfl
theorem ps_is_ (hn:T[n]? = some t) {L:List (List UInt8)} (hL:L.length≤1000000):Ev (fun k=>ps_is k (kS T n d) L) (isK t && decide (t.Text∈L)):=by
 unfold ps_is isK;refine Ev.bind (Ev.all (ps_token_ hn)) ?_;by_cases h2:t.Kind=2
 · exact Ev.pos h2 (Ev.bind (slContains_ L t.Text hL) (Ev.cast Ev.ret (by simp [h2])))
 · by_cases q:t.Kind=4
   · exact Ev.neg h2 (Ev.pos q (Ev.bind (slContains_ L t.Text hL) (Ev.cast Ev.ret (by simp [q]))))
   · exact Ev.neg h2 (Ev.neg q (Ev.cast Ev.ret (by simp [h2,q])))
theorem ps_is1 (hn:T[n]? = some t) (s:List UInt8):Ev (fun k=>ps_is k (kS T n d) [s]) (isK t && (t.Text == s)):=by
 refine (ps_is_ hn (L:=[s]) (by simp)).cast ?_;rw [Bool.eq_iff_iff]
 simp
theorem ps_may_ (hn:T[n]? = some t) (hT:T.length≤16001) (s:List UInt8):Ev (fun k=>ps_may k (kS T n d) s) (isK t && (t.Text == s),if isK t && (t.Text == s) then kS T (n+1) d else kS T n d):=by
 have q:=(List.getElem?_eq_some_iff.1 hn).1;unfold ps_may;refine Ev.bind (ps_is1 hn s) ?_;rw [show (kS T n d).next=(n:Int) from rfl,w64_succ (by omega)];by_cases h:(isK t && (t.Text == s))=true
 · exact Ev.pos h (Ev.cast Ev.ret (by rw [if_pos h]))
 · exact Ev.neg h (Ev.cast Ev.ret (by rw [if_neg h]))
theorem ps_want_t (hn:T[n]? = some t) (hT:T.length≤16001) {s:List UInt8} (h:(isK t && (t.Text == s))=true):Ev (fun k=>ps_want k (kS T n d) s) (none,t.At,kS T (n+1) d):=by
 have q:=(List.getElem?_eq_some_iff.1 hn).1;unfold ps_want;refine Ev.bind (ps_is1 hn s) (Ev.pos h ?_);unfold ps_want.j1;rw [show (kS T n d).next=(n:Int) from rfl,w64_succ (by omega),w64_of (by omega) (by omega),show (((n+1:Nat):Int) - 1)=(n:Int) by omega];exact Ev.bindc (idx_some hn) Ev.ret
theorem ps_want_f (hn:T[n]? = some t) {s:List UInt8} (h:¬ (isK t && (t.Text == s))=true):Ev (fun k=>ps_want k (kS T n d) s) (some (faultV 40 t.At),0,kS T n d):=by
 unfold ps_want;exact Ev.bind (ps_is1 hn s) (Ev.neg h (Ev.bind (Ev.all (ps_give_ hn 40)) (Ev.pos rfl Ev.ret)))
theorem ps_kind_t (hn:T[n]? = some t) (hT:T.length≤16001) {q:Int} (h:t.Kind=q) (k:Nat):ps_kind k (kS T n d) q=some (none,t,kS T (n+1) d):=by
 have C:=(List.getElem?_eq_some_iff.1 hn).1;unfold ps_kind;rw [ps_token_ hn,Option.bind_some,if_pos h];unfold ps_kind.j1;rw [show (kS T n d).next=(n:Int) from rfl,w64_succ (by omega)]
theorem ps_kind_f (hn:T[n]? = some t) {q:Int} (h:¬ t.Kind=q) (k:Nat):ps_kind k (kS T n d) q=some (some (faultV 40 t.At),⟨0,[],0,0⟩,kS T n d):=by
 unfold ps_kind;rw [ps_token_ hn,Option.bind_some,if_neg h,ps_give_ hn]
 rfl
theorem ps_name_t (hn:T[n]? = some t) (hT:T.length≤16001) (h:t.Kind=1) (q:Int) (k:Nat):ps_name k (kS T n d) q=some (none,⟨q,t.Text,0,t.At,[]⟩,kS T (n+1) d):=by
 unfold ps_name;rw [ps_kind_t hn hT h]
 rfl
theorem ps_name_f (hn:T[n]? = some t) (h:¬ t.Kind=1) (q:Int) (k:Nat):ps_name k (kS T n d) q=some (some (faultV 40 t.At),⟨0,[],0,0,[]⟩,kS T n d):=by
 unfold ps_name;rw [ps_kind_f hn h]
 rfl
theorem pr_name_t (hn:T[n]? = some t) (hT:T.length≤16001) (h:t.Kind=1) (k:Nat):pr_name k (rS T n d)=some (t.Text,t.At,rS T (n+1) d):=by
 have q:=(List.getElem?_eq_some_iff.1 hn).1;unfold pr_name;rw [idx_some hn,Option.bind_some,if_pos rfl];unfold pr_name.j1;rw [if_neg (by simp [h]),show (rS T n d).at_=(n:Int) from rfl,w64_succ (by omega)]
theorem pr_name_f (hn:T[n]? = some t) (h:¬ t.Kind=1) (k:Nat):pr_name k (rS T n d)=some ([],0,rF T n d 40 t.At):=by
 unfold pr_name;rw [idx_some hn,Option.bind_some,if_pos rfl];unfold pr_name.j1;rw [if_pos (by simp [h]),pr_fail_ hn]
 rfl
theorem pr_name_F (hn:T[n]? = some t) {e a:Int} (he:e≠0) (k:Nat):pr_name k (rF T n d e a)=some ([],0,rF T n d e a):=by
 unfold pr_name;rw [idx_some hn,Option.bind_some,if_neg he];unfold pr_name.j1;rw [if_pos rfl,pr_fail_F he]
 rfl
end Go.Proofs.YtnhifhlbelogcaaGreatDoor
