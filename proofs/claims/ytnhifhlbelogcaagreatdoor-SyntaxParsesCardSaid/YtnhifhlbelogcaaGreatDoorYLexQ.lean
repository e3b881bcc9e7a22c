/- The scanners' plain functions: words, names, one step. -/
import Derived.Test.YtnhifhlbelogcaaGreatDoorYLexP
set_option linter.unusedVariables false
namespace Go.Proofs.YtnhifhlbelogcaaGreatDoor
open Go Go.Eng
def allWords:List UInt8:=[98,111,111,108,32,99,97,115,101,32,99,111,110,115,116,32,100,101,102,97,117,108,116,32,100,111,117,98,108,101,32,101,110,117,109,32,102,108,111,97,116,32,104,121,112,101,114,32,105,110,116,32,111,112,97,113,117,101,32,112,114,111,103,114,97,109,32,113,117,97,100,114,117,112,108,101,32,115,116,114,105,110,103,32,115,116,114,117,99,116,32,115,119,105,116,99,104,32,116,121,112,101,100,101,102,32,117,110,105,111,110,32,117,110,115,105,103,110,101,100,32,118,101,114,115,105,111,110,32,118,111,105,100]
def wordsB:List UInt8:=32::allWords++[32]
def wordsL:List (List UInt8):=Lib.fields allWords
def isWord (s:List UInt8):Bool:=decide (s∈wordsL)
theorem gv_Fields_ (k:Nat):gv_Fields k allWords=some wordsL:=by
 unfold gv_Fields;rw [if_pos ⟨by decide +kernel,by decide +kernel⟩]
 rfl
theorem slContains_ (L:List (List UInt8)) (s:List UInt8) (hL:L.length≤1000000):Ev (fun k=>slContains k L s) (decide (s∈L)):=by
 have key:∀ (d j:Nat),L.length - j=d→j≤L.length→∃ r,Ev (fun k=>slIndex.l1 k L s (j:Int)) r∧(0≤r ↔ s∈L.drop j):=by
  intro d
  induction d with
  | zero =>
   intro j hd hj;obtain rfl:j=L.length:=by omega
   refine ⟨-1,Ev.step (g:=fun k=>slIndex.l1 (k+1) L s (L.length:Int)) ?_ (fun _=>rfl),by simp⟩;simp only [slIndex.l1];exact Ev.neg (by omega) Ev.ret
  | succ d ih =>
   intro j hd hj;have hlt:j < L.length:=by omega
   obtain ⟨r,hr,hi⟩:=ih (j+1) (by omega) hlt;have hdr:L.drop j=L[j]::L.drop (j+1):=List.drop_eq_getElem_cons hlt;by_cases e:s=L[j]
   · refine ⟨j,Ev.step (g:=fun k=>slIndex.l1 (k+1) L s (j:Int)) ?_ (fun _=>rfl),?_⟩
     · simp only [slIndex.l1]
       refine Ev.pos (by omega) ?_;refine Ev.bindc (idx_at rfl hlt) ?_;exact Ev.pos e Ev.ret
     · exact ⟨fun _=>by rw [hdr,e];exact List.mem_cons_self,fun _=>by omega⟩
   · refine ⟨r,Ev.step (g:=fun k=>slIndex.l1 (k+1) L s (j:Int)) ?_ (fun _=>rfl),?_⟩
     · simp only [slIndex.l1]
       refine Ev.pos (by omega) ?_;refine Ev.bindc (idx_at rfl hlt) ?_;refine Ev.neg e ?_;rw [w64_succ (by omega)];exact hr
     · rw [hdr,List.mem_cons,hi];exact ⟨.inr,fun h=>h.resolve_left e⟩
 obtain ⟨r,hr,hi⟩:=key L.length 0 rfl (Nat.zero_le _);unfold slContains slIndex;refine Ev.bind hr ?_;exact Ev.ret.cast (by rw [Bool.eq_iff_iff];simp [hi])
theorem lx_IsWord_ (s:List UInt8):Ev (fun k=>lx_IsWord k s) (isWord s):=by
 unfold lx_IsWord;refine Ev.bind (Ev.all fun k=>gv_Fields_ k) ?_;exact Ev.bind (slContains_ wordsL s (by decide +kernel)) Ev.ret
def occ (s:List UInt8) (i:Nat):Bool:=decide ((wordsB.take (i+(s.length+2))).drop i=32::s++[32])
def anyO (s:List UInt8):Nat→Nat→Bool
 | j,0=>false
 | j,d+1=>occ s j || anyO s (j+1) d
theorem anyO_ex (s:List UInt8):∀ (d j:Nat),anyO s j d=true→∃ i,j≤i∧i < j+d∧occ s i=true
 | 0,j,h=>by cases h
 | d+1,j,h=>by
  rw [anyO,Bool.or_eq_true] at h;rcases h with h | h
  · exact ⟨j,Nat.le_refl _,by omega,h⟩
  · obtain ⟨i,C,h2,q⟩:=anyO_ex s d (j+1) h
    exact ⟨i,by omega,by omega,q⟩
def okWord (i n:Nat):Bool:=!(decide (0 < n) && decide (wordsB[i]? = some 32) && decide (wordsB[i+1+n]? = some 32) && ((wordsB.drop (i+1)).take n).all inRun) || decide ((wordsB.drop (i+1)).take n∈wordsL)
theorem okWords:((List.range 136).all fun i=>(List.range 136).all fun n=>okWord i n)=true:=by decide +kernel
theorem words_are:(wordsL.all fun w=>decide (w≠[]) && decide (runLen w=w.length) && anyO w 0 (136 - (w.length+2)) && decide (w.length≤12))=true:=by decide +kernel
theorem isWord_iff (s:List UInt8):isWord s=true ↔ s≠[]∧runLen s=s.length∧anyO s 0 (136 - (s.length+2))=true:=by
 unfold isWord;rw [decide_eq_true_eq]
 constructor
 · intro h
   have:=List.all_eq_true.1 words_are s h;simp only [Bool.and_eq_true,decide_eq_true_eq] at this;exact ⟨this.1.1.1,this.1.1.2,this.1.2⟩
 · rintro ⟨E,D,h2⟩
   obtain ⟨i,_,hi,ho⟩:=anyO_ex s _ _ h2;have hlen:s.length+2≤136:=by omega
   have C:=List.all_eq_true.1 (List.all_eq_true.1 okWords i (List.mem_range.2 (by omega))) s.length (List.mem_range.2 (by omega));unfold occ at ho;rw [decide_eq_true_eq] at ho;have hW:wordsB.length=135:=by decide +kernel
   have g:∀ q,q < s.length+2→wordsB[i+q]? = (32::s++[32])[q]?:=by
    intro q hq;rw [← ho,List.getElem?_drop,List.getElem?_take,if_pos (by omega)]
   have e1:(wordsB.drop (i+1)).take s.length=s:=by
    apply List.ext_getElem?
    intro q;by_cases hq:q < s.length
    · rw [List.getElem?_take,if_pos hq,List.getElem?_drop,show i+1+q=i+(q+1) by omega,g (q+1) (by omega)]
      rw [List.cons_append,List.getElem?_cons_succ,List.getElem?_append_left hq]
    · rw [List.getElem?_take,if_neg hq,List.getElem?_eq_none (by omega)]
   have J:wordsB[i]? = some 32:=by rw [show i=i+0 by omega,g 0 (by omega)];rfl
   have O:wordsB[i+1+s.length]? = some 32:=by
    rw [show i+1+s.length=i+(s.length+1) by omega,g (s.length+1) (by omega)];rw [List.cons_append,List.getElem?_cons_succ,List.getElem?_append_right (Nat.le_refl _)]
    simp
   have V:s.all inRun=true:=by
    rw [List.all_eq_true];unfold runLen at D;have X:s.takeWhile inRun=s:=(List.takeWhile_prefix (p:=inRun) (l:=s)).eq_of_length D;intro c hc;rw [← X] at hc;exact List.all_eq_true.1 (List.all_takeWhile (p:=inRun) (l:=s)) c hc
   unfold okWord at C;rw [e1,J,O,V,decide_eq_true (by have:=List.length_pos_iff.2 E;omega)] at C
   simpa using C
theorem big_max {n:Nat} (h:n≤140737488355328):n≤maxLen:=by simp only [maxLen];omega
theorem rf_IsWord_ (s:List UInt8) (hmax:s.length≤140737488355328):Ev (fun k=>rf_IsWord k s) (isWord s):=by
 unfold rf_IsWord;have hs:=big_max hmax;have C:wordsB.length=135:=by decide +kernel
 refine Ev.bind ((rf_run_ s hs (j:=0) (Nat.zero_le _)).cast (r':=(runLen s:Int)) (by simp)) ?_;have hW:∀ j:Nat,j+(s.length+2)≤135→cut wordsB (j:Int) ((j+(s.length+2):Nat):Int)=some ((wordsB.take (j+(s.length+2))).drop j):=fun j hj=>cut_at rfl rfl (by omega) (by omega)
 have hn:w64 ((s.length:Int)+2)=((s.length+2:Nat):Int):=by rw [w64_of (by omega) (by omega)];rfl
 have key:∀ (d j:Nat),136 - (j+(s.length+2))=d→j≤136→Ev (fun k=>rf_IsWord.l1 k s (runLen s:Int) (j:Int)) (decide (s≠[]) && decide (runLen s=s.length) && anyO s j d):=by
  intro d
  induction d with
  | zero =>
   intro j hd hj;refine Ev.step (g:=fun k=>rf_IsWord.l1 (k+1) s (runLen s:Int) (j:Int)) ?_ (fun _=>rfl);simp only [rf_IsWord.l1];rw [hn,w64_of (by omega) (by omega)];refine Ev.neg (by omega) ?_;refine Ev.step (g:=fun k=>rf_IsWord.j1 (k+1) s (runLen s:Int) (j:Int) false) ?_ (fun _=>rfl);simp only [rf_IsWord.j1];exact (Ev.neg (by simp) Ev.ret).cast (by simp [anyO])
  | succ d ih =>
   intro j hd hj;have q:=ih (j+1) (by omega) (by omega);refine Ev.step (g:=fun k=>rf_IsWord.l1 (k+1) s (runLen s:Int) (j:Int)) ?_ (fun _=>rfl);simp only [rf_IsWord.l1];rw [hn,w64_of (by omega) (by omega)];refine Ev.pos (by omega) ?_;have hf:Ev (fun k=>rf_IsWord.j1 k s (runLen s:Int) (j:Int) false) false:=by
    refine Ev.step (g:=fun k=>rf_IsWord.j1 (k+1) s (runLen s:Int) (j:Int) false) ?_ (fun _=>rfl);simp only [rf_IsWord.j1];exact Ev.neg (by simp) Ev.ret
   by_cases c1:s=[]
   · refine Ev.pos c1 ?_
     exact hf.cast (by simp [c1])
   · refine Ev.neg c1 ?_
     by_cases c2:runLen s=s.length
     · rw [decide_eq_true (show ((runLen s:Nat):Int)=(s.length:Int) from by omega)]
       refine Ev.step (g:=fun k=>rf_IsWord.j1 (k+1) s (runLen s:Int) (j:Int) true) ?_ (fun _=>rfl);simp only [rf_IsWord.j1];refine Ev.pos trivial ?_;rw [hn,show w64 ((j:Int)+((s.length+2:Nat):Int))=((j+(s.length+2):Nat):Int) from by rw [w64_of (by omega) (by omega)];omega];refine Ev.bindc (hW j (by omega)) ?_;refine Ev.bindc (cat_at (by simp;omega)) ?_;refine Ev.bindc (cat_at (by simp;omega)) ?_;have ho:occ s j=decide ((wordsB.take (j+(s.length+2))).drop j=[32]++s++[32]):=rfl;by_cases c3:(wordsB.take (j+(s.length+2))).drop j=[32]++s++[32]
       · refine Ev.pos c3 ?_
         exact Ev.ret.cast (by rw [anyO,ho,decide_eq_true c3];simp [c1,c2])
       · refine Ev.neg c3 ?_
         rw [w64_succ (by omega)];exact q.cast (by rw [anyO,ho,decide_eq_false c3];simp)
     · rw [decide_eq_false (show ¬ ((runLen s:Nat):Int)=(s.length:Int) from by omega)]
       exact hf.cast (by simp [c2])
 refine (key _ 0 rfl (by omega)).cast ?_;rw [Bool.eq_iff_iff,isWord_iff]
 simp [and_assoc]
theorem word_len {s:List UInt8} (h:isWord s=true):s.length≤12:=by
 unfold isWord at h;have:=List.all_eq_true.1 words_are s (by simpa using h);simp only [Bool.and_eq_true,decide_eq_true_eq] at this;exact this.2
end Go.Proofs.YtnhifhlbelogcaaGreatDoor
