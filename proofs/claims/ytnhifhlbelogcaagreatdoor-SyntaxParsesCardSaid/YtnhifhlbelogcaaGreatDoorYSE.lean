/- Both parsers: bare types. -/
import Derived.Test.YtnhifhlbelogcaaGreatDoorYSD
set_option linter.unusedVariables false
set_option linter.unusedSimpArgs false
namespace Go.Proofs.YtnhifhlbelogcaaGreatDoor
open Go Go.Eng
variable {T:List Token} {n d:Nat} {t:Token}
def isW (t:Token) (s:List UInt8):Bool:=decide (t.Kind=2) && (t.Text == s)
theorem Toks.w1 (hT:Toks T) (hn:T[n]? = some t) {s:List UInt8} (hs:s.length≠1):(isK t && (t.Text == s))=isW t s:=by
 have:=hT.word hn (L:=[s]) (by simpa using hs);unfold isW;rw [Bool.eq_iff_iff] at this ⊢
 simpa using this
theorem may_no (hT:Toks T) (hn:T[n]? = some t) {s:List UInt8} (hs:s.length≠1) (h:isW t s=false):Ev (fun k=>ps_may k (kS T n d) s) (false,kS T n d):=by
 have:=ps_may_ (d:=d) hn hT.1 s;rw [hT.w1 hn hs,h] at this;exact this
theorem may_yes (hT:Toks T) (hn:T[n]? = some t) {s:List UInt8} (hs:s.length≠1) (h:isW t s=true):Ev (fun k=>ps_may k (kS T n d) s) (true,kS T (n+1) d):=by
 have:=ps_may_ (d:=d) hn hT.1 s;rw [hT.w1 hn hs,h] at this;exact this
theorem isW_eq (h2:t.Kind=2) (s:List UInt8):isW t s=(t.Text == s):=by unfold isW;simp [h2]
theorem isW_no (h2:¬ t.Kind=2) (s:List UInt8):isW t s=false:=by unfold isW;simp [h2]
theorem ps_bare_no (hT:Toks T) (hn:T[n]? = some t) (q:¬ t.Kind=1) (h:∀ s∈([[117,110,115,105,103,110,101,100],[105,110,116],[104,121,112,101,114],[102,108,111,97,116],[100,111,117,98,108,101],[98,111,111,108]]:List (List UInt8)),isW t s=false):Ev (fun k=>ps_bare k (kS T n d)) (some (faultV 40 t.At),⟨0,[],0,0,[]⟩,kS T n d):=by
 unfold ps_bare;refine Ev.bind (Ev.all (ps_token_ hn)) (Ev.neg q ?_);refine Ev.bind (may_no hT hn (by decide) (h _ (by simp))) (Ev.neg Bool.false_ne_true ?_);refine Ev.bind (may_no hT hn (by decide) (h _ (by simp))) (Ev.neg Bool.false_ne_true ?_);refine Ev.bind (may_no hT hn (by decide) (h _ (by simp))) (Ev.neg Bool.false_ne_true ?_);refine Ev.bind (may_no hT hn (by decide) (h _ (by simp))) (Ev.neg Bool.false_ne_true ?_);refine Ev.bind (may_no hT hn (by decide) (h _ (by simp))) (Ev.neg Bool.false_ne_true ?_);refine Ev.bind (may_no hT hn (by decide) (h _ (by simp))) (Ev.neg Bool.false_ne_true ?_);exact Ev.bind (Ev.all (ps_give_ hn 40)) (Ev.pos rfl Ev.ret)
theorem pr_bare_no (hn:T[n]? = some t) (hb:begins t=false) (k:Nat):pr_bare k (rS T n d)=some (⟨0,[],0,t.At,[]⟩,rF T n d 40 t.At):=by
 unfold pr_bare;rw [idx_some hn,Option.bind_some,pr_begins_ (e:=0) (a:=0) hn,Option.bind_some,if_pos rfl,hb];unfold pr_bare.j1;rw [if_pos (show (!false)=true from rfl),pr_fail_ hn]
 rfl
theorem pr_bare_F {e a:Int} (he:e≠0) (hn:T[n]? = some t) (k:Nat):pr_bare k (rF T n d e a)=some (⟨0,[],0,t.At,[]⟩,rF T n d e a):=by
 unfold pr_bare;rw [idx_some hn,Option.bind_some,pr_begins_ hn,Option.bind_some,if_neg he];unfold pr_bare.j1;rw [if_pos rfl,pr_fail_F he]
 rfl
end Go.Proofs.YtnhifhlbelogcaaGreatDoor
