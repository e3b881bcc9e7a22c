/- Both parsers: does a bare type begin? -/
import Derived.Test.YtnhifhlbelogcaaGreatDoorYSC
set_option linter.unusedVariables false
set_option linter.unusedSimpArgs false
namespace Go.Proofs.YtnhifhlbelogcaaGreatDoor
open Go Go.Eng
variable {T:List Token} {n d:Nat} {t:Token}
def bareK (s:List UInt8):Int:=if s=[105,110,116] then 18 else if s=[104,121,112,101,114] then 20 else if s=[102,108,111,97,116] then 22 else if s=[100,111,117,98,108,101] then 23 else if s=[98,111,111,108] then 24 else 0
theorem pr_base_ (s:List UInt8) (k:Nat):pr_base k s=some (bareK s):=by
 unfold pr_base bareK;by_cases q:s=[105,110,116]
 · simp [q]
 by_cases C:s=[104,121,112,101,114]
 · simp [C]
 by_cases D:s=[102,108,111,97,116]
 · simp [D]
 by_cases E:s=[100,111,117,98,108,101]
 · simp [E]
 by_cases J:s=[98,111,111,108]
 · simp [J]
 · simp [q,C,D,E,J]
def begins (t:Token):Bool:=if t.Kind=1 then true else if t.Kind=2 then (if t.Text=[117,110,115,105,103,110,101,100] then true else !(decide (bareK t.Text=0))) else false
theorem pr_begins_ {e a:Int} (hn:T[n]? = some t) (k:Nat):pr_begins k (rF T n d e a)=some (begins t):=by
 unfold pr_begins begins;rw [idx_some hn,Option.bind_some];by_cases q:t.Kind=1
 · rw [if_pos q,if_pos q]
 · rw [if_neg q,if_neg q]
   by_cases h2:t.Kind=2
   · rw [if_pos h2,if_pos h2]
     by_cases C:t.Text=[117,110,115,105,103,110,101,100]
     · rw [if_pos C,if_pos C]
     · rw [if_neg C,if_neg C,pr_base_]
       rfl
   · rw [if_neg h2,if_neg h2]
theorem ps_isBare_ (hT:Toks T) (hn:T[n]? = some t):Ev (fun k=>ps_isBare k (kS T n d)) (begins t):=by
 unfold ps_isBare begins;refine Ev.bind (Ev.all (ps_token_ hn)) ?_;by_cases q:t.Kind=1
 · rw [if_pos q]
   exact Ev.pos q Ev.ret
 · rw [if_neg q]
   refine Ev.neg q (Ev.bind (ps_is_ hn (by decide)) (Ev.cast Ev.ret ?_));rw [hT.word hn (by decide)];by_cases h2:t.Kind=2
   · rw [if_pos h2]
     unfold bareK;by_cases C:t.Text=[117,110,115,105,103,110,101,100]
     · simp [h2,C]
     by_cases D:t.Text=[105,110,116]
     · simp [h2,D]
     by_cases E:t.Text=[104,121,112,101,114]
     · simp [h2,E]
     by_cases J:t.Text=[102,108,111,97,116]
     · simp [h2,J]
     by_cases O:t.Text=[100,111,117,98,108,101]
     · simp [h2,O]
     by_cases V:t.Text=[98,111,111,108]
     · simp [h2,V]
     · simp [h2,C,D,E,J,O,V]
   · rw [if_neg h2]
     simp [h2]
end Go.Proofs.YtnhifhlbelogcaaGreatDoor
