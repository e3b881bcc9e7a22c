/- apart's plain law: lists that are their owners' alone stay as they are written. -/
import Derived.Test.YtnhifhlbelogcaaGreatDoorYAP
set_option linter.unusedVariables false
set_option linter.unusedSimpArgs false
namespace Go.Proofs.YtnhifhlbelogcaaGreatDoor
open Go Go.Eng
def markH (n:Int):TreeH:=⟨-5,[],n,0,(none,0,0)⟩
theorem mark_ (k:Nat) (n:Int):sy_mark k n=some (markH n):=rfl
def Marked (l:List TreeH) (n:Int):Prop:=∀ x∈l,x=markH n
theorem reads_ {l:List TreeH} {n:Int} (h:Marked l n) (hl:l.length≤1000000):Ev (fun k=>sy_reads k l n) true:=by
 unfold sy_reads;have loop:∀ (d i:Nat),l.length - i=d→i≤l.length→Ev (fun k=>sy_reads.l1 k l n (i:Int)) true:=by
  intro d
  induction d with
  | zero =>
   intro i q h2;refine Ev.unf ?_;simp only [sy_reads.l1];exact Ev.neg (by omega) Ev.ret
  | succ d ih =>
   intro i q h2;have hi:i < l.length:=by omega
   have hx:idx l (i:Int)=some l[i]:=idx_at rfl hi;have hm:=h l[i] (List.getElem_mem hi);refine Ev.unf ?_;simp only [sy_reads.l1];refine Ev.pos (by omega) (Ev.bindc hx (Ev.pos (by rw [hm];rfl) (Ev.bindc hx (Ev.pos (by rw [hm];rfl) ?_))));rw [w64_succ (by omega)];exact ih (i+1) (by omega) (by omega)
 exact loop l.length 0 rfl (Nat.zero_le _)
theorem apart_5 {all:List (List TreeH)} {whose:List Int} (hlen:all.length=whose.length) (hal:all.length≤100000000) (h:∀ (i:Nat) (hi:i < all.length),Marked all[i] (whose[i]'(by omega))∧all[i].length≤1000000):Ev (fun k=>sy_apart.j2 k all whose) true:=by
 unfold sy_apart.j2;have loop:∀ (d i:Nat),all.length - i=d→i≤all.length→Ev (fun k=>sy_apart.l5 k all whose (i:Int)) true:=by
  intro d
  induction d with
  | zero =>
   intro i q h2;refine Ev.unf ?_;simp only [sy_apart.l5];exact Ev.neg (by omega) Ev.ret
  | succ d ih =>
   intro i q h2;have hi:i < all.length:=by omega
   obtain ⟨hm,hl⟩:=h i hi;refine Ev.unf ?_;simp only [sy_apart.l5];refine Ev.pos (by omega) (Ev.bindc (idx_at rfl hi) (Ev.bindc (idx_at rfl (by omega)) (Ev.bind (reads_ hm hl) (Ev.pos rfl ?_))));rw [w64_succ (by omega)];exact ih (i+1) (by omega) (by omega)
 exact loop all.length 0 rfl (Nat.zero_le _)
structure Laid (all:List (List TreeH)) (whose:List Int):Prop where
 len:all.length=whose.length
 ok:∀ (i:Nat) (hi:i < all.length),Marked all[i] (whose[i]'(by omega))∧all[i].length≤1000000
theorem Laid.app {all:List (List TreeH)} {whose:List Int} (h:Laid all whose) {x:List TreeH} {n:Int} (hx:Marked x n) (hl:x.length≤1000000):Laid (all++[x]) (whose++[n]):=by
 refine ⟨by simp [h.len],fun i hi=>?_⟩;have hlen:=h.len;by_cases q:i < all.length
 · rw [List.getElem_append_left q,List.getElem_append_left (by omega)]
   exact h.ok i q
 · rw [List.length_append,List.length_singleton] at hi
   have:i=all.length:=by omega
   subst this;rw [List.getElem_append_right (Nat.le_refl _),List.getElem_append_right (by omega)];simp only [Nat.sub_self,List.getElem_singleton];exact ⟨hx,hl⟩
theorem Marked.app {l:List TreeH} {n:Int} (h:Marked l n):Marked (l++[markH n]) n:=fun x hx=>by
 rcases List.mem_append.1 hx with hx | hx
 · exact h x hx
 · rw [List.mem_singleton] at hx;exact hx
theorem apart_3 {L:List (List TreeH)} (hL:L.length≤1000000) (hm:∀ (i:Nat) (hi:i < L.length),Marked L[i] (i:Int)∧L[i].length≤999990):Ev (fun k=>sy_apart.j1 k L) true:=by
 unfold sy_apart.j1;have loop:∀ (d i:Nat) (all:List (List TreeH)) (whose:List Int),L.length - i=d→i≤L.length→Laid all whose→all.length=5 * i→Ev (fun k=>sy_apart.l3 k L all whose (i:Int)) true:=by
  intro d
  induction d with
  | zero =>
   intro i all whose q h2 hl ha;refine Ev.unf ?_;simp only [sy_apart.l3];exact Ev.neg (by omega) (apart_5 hl.len (by omega) hl.ok)
  | succ d ih =>
   intro i all whose q h2 hl ha;have hi:i < L.length:=by omega
   obtain ⟨hmi,hli⟩:=hm i hi;refine Ev.unf ?_;simp only [sy_apart.l3];refine Ev.pos (by omega) (Ev.bindc (idx_at rfl hi) ?_);have inner:∀ (e j:Nat) (all:List (List TreeH)) (whose:List Int) (x:List TreeH),5 - j=e→j≤5→Laid all whose→all.length=5 * i+j→Marked x (i:Int)→x.length=L[i].length+j→Ev (fun k=>sy_apart.l4 k L (i:Int) all whose x (j:Int)) true:=by
    intro e
    induction e with
    | zero =>
     intro j all whose x e1 C hl ha hx hxl;refine Ev.unf ?_;simp only [sy_apart.l4];refine Ev.neg (by omega) ?_;rw [w64_succ (by omega)];exact ih (i+1) all whose (by omega) (by omega) hl (by omega)
    | succ e ihe =>
     intro j all whose x e1 C hl ha hx hxl;refine Ev.unf ?_;simp only [sy_apart.l4];have hwl:=hl.len;refine Ev.pos (by omega) (Ev.bindc (cat_at (by simp only [List.length_singleton];omega)) (Ev.bindc (cat_at (by simp only [List.length_singleton];omega)) (Ev.bind (Ev.all fun k=>mark_ k _) (Ev.bindc (cat_at (by simp only [List.length_singleton];omega)) ?_))));rw [w64_succ (by omega)];exact ihe (j+1) _ _ _ (by omega) (by omega) (hl.app hx (by omega)) (by simp only [List.length_append,List.length_singleton];omega) hx.app (by simp only [List.length_append,List.length_singleton];omega)
   exact inner 5 0 all whose L[i] rfl (by decide) hl (by omega) hmi (by omega)
 exact loop L.length 0 [] [] rfl (Nat.zero_le _) ⟨rfl,fun i hi=>absurd hi (by simp)⟩ rfl
theorem apart_true {L:List (List TreeH)} (hL:L.length≤1000000) (hl:∀ x∈L,x.length≤999990):Ev (fun k=>sy_apart k L) true:=by
 unfold sy_apart;have loop:∀ (d i:Nat) (L:List (List TreeH)),L.length - i=d→i≤L.length→L.length≤1000000→(∀ x∈L,x.length≤999990)→(∀ (j:Nat) (hj:j < L.length),j < i→Marked L[j] (j:Int))→Ev (fun k=>sy_apart.l1 k L (i:Int)) true:=by
  intro d
  induction d with
  | zero =>
   intro i L C h2 hL hl hm;refine Ev.unf ?_;simp only [sy_apart.l1];exact Ev.neg (by omega) (apart_3 hL fun j hj=>⟨hm j hj (by omega),hl _ (List.getElem_mem hj)⟩)
  | succ d ih =>
   intro i L C h2 hL hl hm;have hi:i < L.length:=by omega
   refine Ev.unf ?_;simp only [sy_apart.l1];refine Ev.pos (by omega) ?_;have inner:∀ (e j:Nat) (L:List (List TreeH)) (hi:i < L.length),L[i].length - j=e→j≤L[i].length→L.length - i=d+1→L.length≤1000000→(∀ x∈L,x.length≤999990)→(∀ (q:Nat) (hq:q < L.length),q < i→Marked L[q] (q:Int))→(∀ x∈L[i].take j,x=markH (i:Int))→Ev (fun k=>sy_apart.l2 k (i:Int) L (j:Int)) true:=by
    intro e
    induction e with
    | zero =>
     intro j L hi e1 E D hL hl hm hd;refine Ev.unf ?_;simp only [sy_apart.l2];refine Ev.bindc (idx_at rfl hi) (Ev.neg (by omega) ?_);rw [w64_succ (by omega)];refine ih (i+1) L (by omega) (by omega) hL hl fun q hq hqi=>?_
     by_cases h:q < i
     · exact hm q hq h
     · have:q=i:=by omega
       subst this;intro x hx;exact hd x (by rw [List.take_of_length_le (by omega)];exact hx)
    | succ e ihe =>
     intro j L hi e1 E D hL hl hm hd;have hj:j < L[i].length:=by omega
     have hmem:=hl _ (List.getElem_mem hi);refine Ev.unf ?_;simp only [sy_apart.l2];refine Ev.bindc (idx_at rfl hi) (Ev.pos (by omega) (Ev.bindc (idx_at rfl hi) (Ev.bind (Ev.all fun k=>mark_ k _) (Ev.bindc (idx_at rfl hj) (Ev.bindc (upd_at hj) (Ev.bindc (upd_at hi) ?_))))));rw [w64_succ (by omega)];have hgi:(L.set i (L[i].set j (markH (i:Int))))[i]'(by rw [List.length_set];exact hi)=L[i].set j (markH (i:Int)):=List.getElem_set_self _;refine ihe (j+1) _ (by rw [List.length_set];exact hi) (by rw [hgi,List.length_set];omega) (by rw [hgi,List.length_set];omega) (by rw [List.length_set];exact D) (by rw [List.length_set];exact hL) ?_ ?_ ?_
     · intro x hx
       rcases List.mem_or_eq_of_mem_set hx with hx | rfl
       · exact hl x hx
       · rw [List.length_set];exact hmem
     · intro q hq hqi
       rw [List.getElem_set_ne (by omega)];exact hm q (by rw [List.length_set] at hq;exact hq) hqi
     · rw [hgi]
       intro x hx;rw [List.take_add_one,List.mem_append] at hx;rcases hx with hx | hx
       · rw [List.take_set_of_le (Nat.le_refl _)] at hx
         exact hd x hx
       · rw [List.getElem?_set_self (by exact hj)] at hx
         simpa using hx
   exact inner L[i].length 0 L hi rfl (Nat.zero_le _) C hL hl hm (by simp)
 exact loop L.length 0 L rfl (Nat.zero_le _) hL hl fun j hj h=>absurd h (by omega)
end Go.Proofs.YtnhifhlbelogcaaGreatDoor
