/- Both parsers: what begins; numbers of words. -/
import Derived.Test.YtnhifhlbelogcaaGreatDoorYSB
set_option linter.unusedVariables false
set_option linter.unusedSimpArgs false
namespace Go.Proofs.YtnhifhlbelogcaaGreatDoor
open Go Go.Eng
variable {T:List Token} {n d:Nat} {t:Token}
theorem Toks.word (hT:Toks T) (hn:T[n]? = some t) {L:List (List UInt8)} (hL:∀ s∈L,s.length≠1):(isK t && decide (t.Text∈L))=(decide (t.Kind=2) && decide (t.Text∈L)):=by
 by_cases hm:t.Text∈L
 · have q:t.Kind≠4:=fun h=>hL _ hm (hT.2.2 t (List.mem_of_getElem? hn) h)
   rw [Bool.eq_iff_iff]
   simp [isK,hm,q]
 · simp [hm]
def bodyK (s:List UInt8):Int:=if s=[101,110,117,109] then 4 else if s=[115,116,114,117,99,116] then 6 else if s=[117,110,105,111,110] then 7 else 0
def bodied (t:Token):Int:=if t.Kind=2 then bodyK t.Text else 0
theorem pr_bodied_ {e a:Int} (hn:T[n]? = some t) (k:Nat):pr_bodied k (rF T n d e a)=some (bodied t):=by
 unfold pr_bodied bodied bodyK;rw [idx_some hn,Option.bind_some];by_cases h2:t.Kind=2 <;> by_cases q:t.Text=[101,110,117,109] <;> by_cases C:t.Text=[115,116,114,117,99,116] <;> by_cases D:t.Text=[117,110,105,111,110] <;> simp [h2,q,C,D]
theorem ps_isBody_ (hT:Toks T) (hn:T[n]? = some t):Ev (fun k=>ps_isBody k (kS T n d)) (decide (bodied t≠0)):=by
 unfold ps_isBody;refine Ev.bind (ps_is_ hn (by decide)) (Ev.cast Ev.ret ?_);rw [hT.word hn (by decide),Bool.eq_iff_iff];unfold bodied bodyK;by_cases h2:t.Kind=2
 · simp only [h2,if_true,decide_true,Bool.true_and,decide_eq_true_eq,List.mem_cons,List.not_mem_nil,or_false]
   by_cases q:t.Text=[101,110,117,109]
   · simp [q]
   · by_cases C:t.Text=[115,116,114,117,99,116]
     · simp [C]
     · by_cases D:t.Text=[117,110,105,111,110]
       · simp [D]
       · simp [q,C,D]
 · simp [h2]
theorem wordNumber_agree (hT:Toks T) (hn:T[n]? = some t):Agree T n d (fun k=>ps_wordNumber k (kS T n d)) (fun k=>pr_number k (rS T n d) true):=by
 have hl:=hT.1;have D:=(List.getElem?_eq_some_iff.1 hn).1;by_cases q:t.Number < 0
 · refine .inr ⟨40,t.At,⟨0,[],0,0,[]⟩,kS T n d,⟨0,[],0,0,[]⟩,n,by decide,D,Ev.all fun k=>?_,Ev.all fun k=>pr_number_f hn (fun h=>h.2 ⟨rfl,q⟩) k⟩
   unfold ps_wordNumber;rw [ps_token_ hn,Option.bind_some,if_pos q,ps_give_ hn];rfl
 · by_cases C:t.Kind=3
   · refine .inl ⟨⟨28,[],t.Number,t.At,[]⟩,n+1,Nat.lt_succ_self _,hT.next hn (by omega),Ev.all fun k=>?_,Ev.all fun k=>pr_number_t hn hl C (fun h=>q h.2) k,rfl⟩
     unfold ps_wordNumber;rw [ps_token_ hn,Option.bind_some,if_neg q,ps_number_t hn hl C];rfl
   · refine .inr ⟨40,t.At,⟨0,[],0,0,[]⟩,kS T n d,⟨0,[],0,0,[]⟩,n,by decide,D,Ev.all fun k=>?_,Ev.all fun k=>pr_number_f hn (fun h=>C h.1) k⟩
     unfold ps_wordNumber;rw [ps_token_ hn,Option.bind_some,if_neg q,ps_number_f hn C];rfl
end Go.Proofs.YtnhifhlbelogcaaGreatDoor
