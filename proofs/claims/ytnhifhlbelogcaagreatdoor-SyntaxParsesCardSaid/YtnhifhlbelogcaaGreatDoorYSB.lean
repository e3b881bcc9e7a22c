/- Both parsers: numbers, values; what it is to agree. -/
import Derived.Test.YtnhifhlbelogcaaGreatDoorYSA
set_option linter.unusedVariables false
set_option linter.unusedSimpArgs false
namespace Go.Proofs.YtnhifhlbelogcaaGreatDoor
open Go Go.Eng
variable {T:List Token} {n d:Nat} {t:Token}
def Agree (T:List Token) (n d:Nat) (fs:Nat→Option (Option Value×Tree×ParK)) (fr:Nat→Option (Tree×ParR)):Prop :=
 (∃ v n',n < n'∧n' < T.length∧Ev fs (none,v,kS T n' d)∧Ev fr (v,rS T n' d)∧v.Kids=[]) ∨
  ∃ e a z p w n',e≠0∧n' < T.length∧Ev fs (some (faultV e a),z,p)∧Ev fr (w,rF T n' d e a)
theorem ps_number_t (hn:T[n]? = some t) (hT:T.length≤16001) (h:t.Kind=3) (k:Nat):ps_number k (kS T n d)=some (none,⟨28,[],t.Number,t.At,[]⟩,kS T (n+1) d):=by
 unfold ps_number;rw [ps_kind_t hn hT h]
 rfl
theorem ps_number_f (hn:T[n]? = some t) (h:¬ t.Kind=3) (k:Nat):ps_number k (kS T n d)=some (some (faultV 40 t.At),⟨0,[],0,0,[]⟩,kS T n d):=by
 unfold ps_number;rw [ps_kind_f hn h]
 rfl
theorem pr_number_t (hn:T[n]? = some t) (hT:T.length≤16001) {b:Bool} (h:t.Kind=3) (hb:¬ (b=true∧t.Number < 0)) (k:Nat):pr_number k (rS T n d) b=some (⟨28,[],t.Number,t.At,[]⟩,rS T (n+1) d):=by
 have C:=(List.getElem?_eq_some_iff.1 hn).1;have hj:pr_number.j1 k (rS T n d) t=some (⟨28,[],t.Number,t.At,[]⟩,rS T (n+1) d):=by
  unfold pr_number.j1;rw [show (rS T n d).at_=(n:Int) from rfl,w64_succ (by omega)]
 unfold pr_number;rw [idx_some hn,Option.bind_some,if_pos rfl,if_pos h];by_cases q:b=true
 · rw [if_pos q,if_neg (fun h2=>hb ⟨q,h2⟩)];exact hj
 · rw [if_neg q];exact hj
theorem pr_number_f (hn:T[n]? = some t) {b:Bool} (h:¬ (t.Kind=3∧¬ (b=true∧t.Number < 0))) (k:Nat):pr_number k (rS T n d) b=some (⟨0,[],0,0,[]⟩,rF T n d 40 t.At):=by
 unfold pr_number;rw [idx_some hn,Option.bind_some,if_pos rfl];by_cases q:t.Kind=3
 · have hb:b=true∧t.Number < 0:=Classical.byContradiction fun h2=>h ⟨q,h2⟩
   rw [if_pos q,if_pos hb.1,if_pos hb.2,pr_fail_ hn]
   rfl
 · rw [if_neg q,pr_fail_ hn]
   rfl
theorem pr_number_F (hn:T[n]? = some t) {b:Bool} {e a:Int} (he:e≠0) (k:Nat):pr_number k (rF T n d e a) b=some (⟨0,[],0,0,[]⟩,rF T n d e a):=by
 unfold pr_number;rw [idx_some hn,Option.bind_some,if_neg he,pr_fail_F he]
 rfl
theorem pr_value_F (hn:T[n]? = some t) {e a:Int} (he:e≠0):∃ v,∀ k,pr_value k (rF T n d e a)=some (v,rF T n d e a):=by
 by_cases h:t.Kind=1
 · exact ⟨_,fun k=>by unfold pr_value;rw [idx_some hn,Option.bind_some,if_pos h,pr_name_F hn he];rfl⟩
 · exact ⟨_,fun k=>by unfold pr_value;rw [idx_some hn,Option.bind_some,if_neg h,pr_number_F hn he];rfl⟩
theorem value_agree (hT:Toks T) (hn:T[n]? = some t):Agree T n d (fun k=>ps_value k (kS T n d)) (fun k=>pr_value k (rS T n d)):=by
 have hl:=hT.1;have C:=(List.getElem?_eq_some_iff.1 hn).1;by_cases h:t.Kind=1
 · refine .inl ⟨⟨27,t.Text,0,t.At,[]⟩,n+1,Nat.lt_succ_self _,hT.next hn (by omega),Ev.all fun k=>?_,Ev.all fun k=>?_,rfl⟩
   · unfold ps_value;rw [ps_token_ hn,Option.bind_some,if_pos h,ps_name_t hn hl h];rfl
   · unfold pr_value;rw [idx_some hn,Option.bind_some,if_pos h,pr_name_t hn hl h];rfl
 · by_cases q:t.Kind=3
   · refine .inl ⟨⟨28,[],t.Number,t.At,[]⟩,n+1,Nat.lt_succ_self _,hT.next hn (by omega),Ev.all fun k=>?_,Ev.all fun k=>?_,rfl⟩
     · unfold ps_value;rw [ps_token_ hn,Option.bind_some,if_neg h,ps_number_t hn hl q];rfl
     · unfold pr_value;rw [idx_some hn,Option.bind_some,if_neg h,pr_number_t hn hl q (by simp)];rfl
   · refine .inr ⟨40,t.At,⟨0,[],0,0,[]⟩,kS T n d,⟨0,[],0,0,[]⟩,n,by decide,C,Ev.all fun k=>?_,Ev.all fun k=>?_⟩
     · unfold ps_value;rw [ps_token_ hn,Option.bind_some,if_neg h,ps_number_f hn q];rfl
     · unfold pr_value;rw [idx_some hn,Option.bind_some,if_neg h,pr_number_f hn (by simp [q])];rfl
end Go.Proofs.YtnhifhlbelogcaaGreatDoor
