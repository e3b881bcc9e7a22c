/- The scanners' plain functions: a whole scan; the names' law. -/
import Derived.Test.YtnhifhlbelogcaaGreatDoorYLexS
set_option linter.unusedVariables false
namespace Go.Proofs.YtnhifhlbelogcaaGreatDoor
open Go Go.Eng
def Nx.ok (m:List UInt8):Nx→Prop
 | .bad e=>e=30∨e=31∨e=32∨e=33
 | .skip n=>1≤n∧n≤m.length
 | .tok t n=>1≤n∧n≤m.length∧t.Kind≠0
theorem nextS_ok (m:List UInt8) (D:m≠[]):(nextS m).ok m:=by
 obtain ⟨c,l,rfl⟩:∃ c l,m=c::l:=by cases m with | nil=>exact absurd rfl D | cons c l=>exact ⟨c,l,rfl⟩
 have hr:=runLen_le (c::l);have hl:=runLen_le l;have hll:(c::l).length=l.length+1:=rfl;rw [nextS_cons];by_cases c1:isBlank c=true
 · rw [if_pos c1];exact ⟨Nat.le_refl _,by omega⟩
 rw [if_neg c1];by_cases c2:(c::l).take 2=[47,42]
 · have h2:2≤(c::l).length:=by have:=congrArg List.length c2;rw [List.length_take] at this;simp only [List.length_cons,List.length_nil] at this ⊢;omega
   rw [if_pos c2];by_cases c3:Lib.index ((c::l).drop 2) ends < 0
   · rw [if_pos c3];exact .inr (.inr (.inr rfl))
   · rw [if_neg c3]
     have:=index_in _ c3;rw [List.length_drop] at this;exact ⟨by omega,by omega⟩
 rw [if_neg c2];by_cases c3:isLetter c=true
 · rw [if_pos c3]
   have hin:inRun c=true:=by simp [inRun,c3]
   have q:1≤runLen (c::l):=by rw [runLen_cons,if_pos hin];omega
   split
   · exact ⟨q,hr,show (2:Int)≠0 by decide⟩
   · split
     · exact .inr (.inr (.inl rfl))
     · exact ⟨q,hr,show (1:Int)≠0 by decide⟩
 rw [if_neg c3];by_cases c4:(isDigit c || minusDigit c l)=true
 · rw [if_pos c4]
   by_cases C:(numS (decide (c=45)) (if c=45 then l.take (runLen l) else (c::l).take (1+runLen l))).2=true
   · rw [if_pos C]
     exact ⟨by omega,by omega,show (3:Int)≠0 by decide⟩
   · rw [if_neg C]
     exact .inr (.inl rfl)
 rw [if_neg c4]
 split
 · exact ⟨by omega,by omega,show (4:Int)≠0 by decide⟩
 · exact .inl rfl
def Token.put (t:Token) (a:Nat):Token:=⟨t.Kind,t.Text,t.Number,(a:Int)⟩
def scanG:Nat→List UInt8→Nat→List Token→List Token×Int×Int
 | 0,_,_,_=>([],0,0)
 | d+1,s,a,acc=>if a < s.length then (match nextS (s.drop a) with
  | .bad e=>([],e,(a:Int))
  | .skip n=>scanG d s (a+n) acc
  | .tok t n=>scanG d s (a+n) (acc++[t.put a]))
  else (acc++[⟨5,[],0,(s.length:Int)⟩],0,0)
def scanS (s:List UInt8):List Token×Int×Int:=if 16000 < s.length then ([],34,16000) else scanG (s.length+1) s 0 []
theorem drop_ne {s:List UInt8} {a:Nat} (h:a < s.length):s.drop a≠[]:=by
 intro e;have:=congrArg List.length e;rw [List.length_drop,List.length_nil] at this;omega
theorem lx_Scan_l (s:List UInt8) (hs:s.length≤16000):∀ (d a:Nat) (acc:List Token),s.length < a+d→a≤s.length→acc.length≤a→Ev (fun k=>lx_Scan.l1 k s acc (a:Int)) (scanG d s a acc):=by
 intro d
 induction d with
 | zero=>intro a acc C h2;omega
 | succ d ih =>
  intro a acc C h2 J;refine Ev.step (g:=fun k=>lx_Scan.l1 (k+1) s acc (a:Int)) ?_ (fun _=>rfl);simp only [lx_Scan.l1];rw [scanG];by_cases ha:a < s.length
  · rw [if_pos ha]
    refine Ev.pos (by omega) ?_;refine Ev.bindc (cut_from (a:=a) rfl (by omega)) ?_;refine Ev.bind (lx_next_ _ (drop_ne ha) (by rw [List.length_drop];omega)) ?_;have hok:=nextS_ok _ (drop_ne ha);generalize nextS (s.drop a)=x at hok ⊢;cases x with
    | bad e =>
     have he:e≠0:=by rcases hok with h | h | h | h <;> subst h <;> decide
     exact Ev.neg he Ev.ret
    | skip n =>
     obtain ⟨D,q⟩:=hok;rw [List.length_drop] at q;refine Ev.pos rfl (Ev.pos rfl ?_);have e:w64 ((a:Int)+(Nx.skip n).out.2.1)=((a+n:Nat):Int):=by show w64 ((a:Int)+(n:Int))=_;rw [w64_of (by omega) (by omega)];rfl
     rw [e];exact ih (a+n) acc (by omega) (by omega) (by omega)
    | tok t n =>
     obtain ⟨D,q,E⟩:=hok;rw [List.length_drop] at q;refine Ev.pos rfl (Ev.neg E ?_);refine Ev.bindc (cat_at (by simp;omega)) ?_;have e:w64 ((a:Int)+(Nx.tok t n).out.2.1)=((a+n:Nat):Int):=by show w64 ((a:Int)+(n:Int))=_;rw [w64_of (by omega) (by omega)];rfl
     rw [e];exact ih (a+n) (acc++[t.put a]) (by omega) (by omega) (by simp;omega)
  · rw [if_neg ha]
    refine Ev.neg (by omega) ?_;exact Ev.bindc (cat_at (by simp;omega)) Ev.ret
theorem lx_Scan_ (s:List UInt8):Ev (fun k=>lx_Scan k s) (scanS s):=by
 unfold lx_Scan scanS;by_cases h:16000 < s.length
 · rw [if_pos h];exact Ev.pos (by omega) Ev.ret
 · rw [if_neg h]
   refine Ev.neg (by omega) ?_;exact lx_Scan_l s (by omega) (s.length+1) 0 [] (by omega) (by omega) (Nat.le_refl _)
theorem noskip {c:UInt8} {l:List UInt8} (c1:¬ isBlank c=true) (c2:¬ (c::l).take 2=[47,42]) (n:Nat):nextS (c::l)≠.skip n:=by
 intro h;rw [nextS_cons,if_neg c1,if_neg c2] at h
 split at h
 · split at h
   · cases h
   · split at h <;> cases h
 · by_cases c4:(isDigit c || minusDigit c l)=true
   · rw [if_pos c4] at h
     by_cases q:(numS (decide (c=45)) (if c=45 then l.take (runLen l) else (c::l).take (1+runLen l))).2=true
     · rw [if_pos q] at h;cases h
     · rw [if_neg q] at h;cases h
   · rw [if_neg c4] at h
     split at h <;> cases h
theorem rf_Scan_l (s:List UInt8) (hs:s.length≤16000):∀ (d a:Nat) (acc:List Token),s.length < a+d→a≤s.length→acc.length≤a→Ev (fun k=>rf_Scan.l1 k s acc (a:Int)) (scanG d s a acc):=by
 intro d
 induction d with
 | zero=>intro a acc E h2;omega
 | succ d ih =>
  intro a acc E h2 X;refine Ev.step (g:=fun k=>rf_Scan.l1 (k+1) s acc (a:Int)) ?_ (fun _=>rfl);simp only [rf_Scan.l1];rw [scanG];by_cases ha:a < s.length
  · rw [if_pos ha]
    refine Ev.pos (by omega) ?_;refine Ev.bindc (idx_at rfl ha) ?_;have hdr:s.drop a=s[a]::s.drop (a+1):=List.drop_eq_getElem_cons ha;have blank:isBlank s[a]=true→Ev (fun k=>rf_Scan.j1 k s acc (a:Int) s[a] true) (match nextS (s.drop a) with
     | .bad e=>([],e,(a:Int))
     | .skip n=>scanG d s (a+n) acc
     | .tok t n=>scanG d s (a+n) (acc++[t.put a])):=by
     intro hb;rw [hdr,nextS_cons,if_pos hb];refine Ev.step (g:=fun k=>rf_Scan.j1 (k+1) s acc (a:Int) s[a] true) ?_ (fun _=>rfl);simp only [rf_Scan.j1];refine Ev.pos trivial ?_;rw [w64_succ (by omega)];exact ih (a+1) acc (by omega) (by omega) (by omega)
    have other:¬ isBlank s[a]=true→Ev (fun k=>rf_Scan.j1 k s acc (a:Int) s[a] false) (match nextS (s.drop a) with
     | .bad e=>([],e,(a:Int))
     | .skip n=>scanG d s (a+n) acc
     | .tok t n=>scanG d s (a+n) (acc++[t.put a])):=by
     intro hb;have plain:¬ (s.drop a).take 2=[47,42]→Ev (fun k=>rf_Scan.j2 k s acc (a:Int)) (match nextS (s.drop a) with
      | .bad e=>([],e,(a:Int))
      | .skip n=>scanG d s (a+n) acc
      | .tok t n=>scanG d s (a+n) (acc++[t.put a])):=by
      intro ht;rw [hdr] at ht;refine Ev.step (g:=fun k=>rf_Scan.j2 (k+1) s acc (a:Int)) ?_ (fun _=>rfl);simp only [rf_Scan.j2];refine Ev.bind (rf_one_ s hs ha _ _ hdr hb ht) ?_;have hok:=nextS_ok _ (drop_ne ha);have hns:∀ n,nextS (s.drop a)≠.skip n:=by rw [hdr];exact noskip hb ht
      generalize nextS (s.drop a)=x at hok hns ⊢;cases x with
      | bad e =>
       have he:e≠0:=by rcases hok with h | h | h | h <;> subst h <;> decide
       exact Ev.neg he Ev.ret
      | skip n=>exact absurd rfl (hns n)
      | tok t n =>
       obtain ⟨Y,J,Z⟩:=hok;rw [List.length_drop] at J;refine Ev.pos rfl ?_;refine Ev.bindc (cat_at (by rw [List.length_singleton];omega)) ?_;exact ih (a+n) (acc++[t.put a]) (by omega) (by omega) (by rw [List.length_append,List.length_singleton];omega)
     refine Ev.step (g:=fun k=>rf_Scan.j1 (k+1) s acc (a:Int) s[a] false) ?_ (fun _=>rfl);simp only [rf_Scan.j1];refine Ev.neg (by simp) ?_;by_cases c1:s[a]=47
     · refine Ev.pos ((toNatN _ 47 (by decide)).2 c1) ?_
       by_cases D:a+1 < s.length
       · rw [w64_succ (by omega)]
         refine Ev.pos (by omega) ?_;refine Ev.bindc (idx_at rfl D) ?_;have C:=take2 s a D;by_cases c2:s[a+1]=42
         · refine Ev.pos ((toNatN _ 42 (by decide)).2 c2) ?_
           refine Ev.bind (rf_comment_ s hs (j:=a) (by omega)) ?_;have ht:(s.drop a).take 2=[47,42]:=by rw [C,c1,c2]
           have hdd:(s.drop a).drop 2=s.drop (a+2):=List.drop_drop;have hin:=index_in (s.drop (a+2));have hge:=index_ge (s.drop (a+2)) ends;rw [List.length_drop] at hin;have e1:nextS (s.drop a)=if Lib.index (s.drop (a+2)) ends < 0 then .bad 33 else .skip ((Lib.index (s.drop (a+2)) ends).toNat+4):=by
            rw [← hdd,hdr,nextS_cons,if_neg hb,if_pos (by rw [← hdr];exact ht)]
           rw [e1];by_cases q:Lib.index (s.drop (a+2)) ends < 0
           · rw [if_pos q,if_pos q]
             exact Ev.pos rfl Ev.ret
           · rw [if_neg q,if_neg q]
             have V:=hin q;refine Ev.neg (by omega) ?_;have O:((a+4:Nat):Int)+Lib.index (s.drop (a+2)) ends=((a+((Lib.index (s.drop (a+2)) ends).toNat+4):Nat):Int):=by omega
             rw [O];exact ih _ acc (by omega) (by omega) (by omega)
         · refine Ev.neg (fun h=>c2 ((toNatN _ 42 (by decide)).1 h)) ?_
           exact plain (by rw [C];intro h;injection h with _ h;injection h with h _;exact c2 h)
       · rw [w64_succ (by omega)]
         refine Ev.neg (by omega) ?_;refine plain ?_;have:s.drop (a+1)=[]:=List.drop_eq_nil_of_le (by omega);rw [hdr,this];simp
     · refine Ev.neg (fun h=>c1 ((toNatN _ 47 (by decide)).1 h)) ?_
       refine plain ?_;rw [hdr];intro h;cases hl:s.drop (a+1) <;> rw [hl] at h <;> simp at h;exact c1 h.1
    have hbl:isBlank s[a]=true ↔ s[a]=32∨s[a]=9∨s[a]=10∨s[a]=13:=by
     have e:∀ n:Nat,n < 256→(s[a].toNat=n ↔ s[a]=UInt8.ofNat n):=fun n hn=>by
      rw [← toNatN _ n hn];omega
     simp only [isBlank,Bool.or_eq_true,decide_eq_true_eq];rw [e 32 (by decide),e 9 (by decide),e 10 (by decide),e 13 (by decide)]
     constructor
     · rintro (((h | h) | h) | h)
       · exact .inl h
       · exact .inr (.inl h)
       · exact .inr (.inr (.inl h))
       · exact .inr (.inr (.inr h))
     · rintro (h | h | h | h)
       · exact .inl (.inl (.inl h))
       · exact .inl (.inl (.inr h))
       · exact .inl (.inr h)
       · exact .inr h
    by_cases c1:s[a]=32
    · exact Ev.pos ((toNatN _ 32 (by decide)).2 c1) (blank (hbl.2 (.inl c1)))
    refine Ev.neg (fun h=>c1 ((toNatN _ 32 (by decide)).1 h)) ?_;by_cases c2:s[a]=9
    · exact Ev.pos ((toNatN _ 9 (by decide)).2 c2) (blank (hbl.2 (.inr (.inl c2))))
    refine Ev.neg (fun h=>c2 ((toNatN _ 9 (by decide)).1 h)) ?_;by_cases c3:s[a]=10
    · exact Ev.pos ((toNatN _ 10 (by decide)).2 c3) (blank (hbl.2 (.inr (.inr (.inl c3)))))
    refine Ev.neg (fun h=>c3 ((toNatN _ 10 (by decide)).1 h)) ?_;by_cases c4:s[a]=13
    · rw [decide_eq_true (show (s[a].toNat:Int)=13 from (toNatN _ 13 (by decide)).2 c4)]
      exact blank (hbl.2 (.inr (.inr (.inr c4))))
    · rw [decide_eq_false (show ¬ (s[a].toNat:Int)=13 from fun h=>c4 ((toNatN _ 13 (by decide)).1 h))]
      refine other (fun h=>?_);rcases hbl.1 h with h | h | h | h
      · exact c1 h
      · exact c2 h
      · exact c3 h
      · exact c4 h
  · rw [if_neg ha]
    refine Ev.neg (by omega) ?_;exact Ev.bindc (cat_at (by rw [List.length_singleton];omega)) Ev.ret
theorem rf_Scan_ (s:List UInt8):Ev (fun k=>rf_Scan k s) (scanS s):=by
 unfold rf_Scan scanS;by_cases h:16000 < s.length
 · rw [if_pos h];exact Ev.pos (by omega) Ev.ret
 · rw [if_neg h]
   refine Ev.neg (by omega) ?_;exact rf_Scan_l s (by omega) (s.length+1) 0 [] (by omega) (by omega) (Nat.le_refl _)
theorem scanG_len (s:List UInt8):∀ (d a:Nat) (acc:List Token),acc.length≤a→a≤s.length→(scanG d s a acc).1.length≤s.length+1:=by
 intro d
 induction d with
 | zero=>intro a acc _ _;exact Nat.zero_le _
 | succ d ih =>
  intro a acc D h2;rw [scanG];by_cases ha:a < s.length
  · rw [if_pos ha]
    have hok:=nextS_ok _ (drop_ne ha);generalize nextS (s.drop a)=x at hok ⊢;cases x with
    | bad e=>exact Nat.zero_le _
    | skip n =>
     obtain ⟨C,q⟩:=hok;rw [List.length_drop] at q;exact ih _ _ (by omega) (by omega)
    | tok t n =>
     obtain ⟨C,q,_⟩:=hok;rw [List.length_drop] at q;exact ih _ _ (by rw [List.length_append,List.length_singleton];omega) (by omega)
  · rw [if_neg ha]
    show (acc++[_]).length≤_
    rw [List.length_append,List.length_singleton];omega
theorem scanS_len (s:List UInt8):(scanS s).1.length≤16001:=by
 unfold scanS;by_cases h:16000 < s.length
 · rw [if_pos h];exact Nat.zero_le _
 · rw [if_neg h]
   have:=scanG_len s (s.length+1) 0 [] (Nat.le_refl _) (Nat.zero_le _)
   omega
end Go.Proofs.YtnhifhlbelogcaaGreatDoor
