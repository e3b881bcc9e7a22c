/- Scans of beginnings: the tokens ahead of a place are the same, whatever stands behind it. -/
import Derived.Test.YtnhifhlbelogcaaDoorYSM
set_option linter.unusedVariables false
set_option linter.unusedSimpArgs false
namespace Go.Proofs.YtnhifhlbelogcaaDoor
open Go Go.Eng
inductive Run (s:List UInt8):Nat→Nat→List Token→Prop where
 | refl {a:Nat}:Run s a a []
 | skip {a b c:Nat} {W:List Token}:a < s.length→nextS (s.drop a) = .skip c→Run s (a+c) b W→Run s a b W
 | tok {a b c:Nat} {t:Token} {W:List Token}:a < s.length→nextS (s.drop a) = .tok t c→Run s (a+c) b W→Run s a b (t.put a::W)
variable {s:List UInt8}
theorem skip_ok {a c:Nat} (ha:a < s.length) (h:nextS (s.drop a) = .skip c):1≤c∧a+c≤s.length:=by
 have hok:=nextS_ok _ (drop_ne ha);rw [h] at hok;have q:=hok.2;rw [List.length_drop] at q;exact ⟨hok.1,by omega⟩
theorem tok_ok {a c:Nat} {t:Token} (ha:a < s.length) (h:nextS (s.drop a) = .tok t c):1≤c∧a+c≤s.length:=by
 have hok:=nextS_ok _ (drop_ne ha);rw [h] at hok;have q:=hok.2.1;rw [List.length_drop] at q;exact ⟨hok.1,by omega⟩
theorem Run.le {a b:Nat} {W:List Token} (h:Run s a b W):a≤b:=by
 induction h with
 | refl=>exact Nat.le_refl _
 | skip ha hn _ ih=>omega
 | tok ha hn _ ih=>omega
theorem scanG_run (s:List UInt8):∀ (d a:Nat) (acc:List Token),s.length < a+d→a≤s.length→(scanG d s a acc).2.1=0 →
 ∃ W,Run s a s.length W∧(scanG d s a acc).1=acc++W++[⟨5,[],0,(s.length:Int)⟩]:=by
 intro d
 induction d with
 | zero=>intro a acc C D;omega
 | succ d ih =>
  intro a acc C D q;rw [scanG] at q ⊢;by_cases ha:a < s.length
  · rw [if_pos ha] at q ⊢
    have hok:=nextS_ok _ (drop_ne ha);cases hx:nextS (s.drop a) with
    | bad e =>
     rw [hx] at q hok;have he:e≠0:=by rcases hok with h | h | h | h <;> subst h <;> decide
     exact absurd q he
    | skip k =>
     obtain ⟨E,J⟩:=skip_ok ha hx;rw [hx] at q;obtain ⟨W,hW,hq⟩:=ih (a+k) acc (by omega) (by omega) q;exact ⟨W,.skip ha hx hW,hq⟩
    | tok t k =>
     obtain ⟨E,J⟩:=tok_ok ha hx;rw [hx] at q;obtain ⟨W,hW,hq⟩:=ih (a+k) (acc++[t.put a]) (by omega) (by omega) q;exact ⟨t.put a::W,.tok ha hx hW,hq.trans (by simp)⟩
  · rw [if_neg ha] at q ⊢
    have:a=s.length:=by omega
    subst this;exact ⟨[],.refl,by simp⟩
theorem Run.scan {a b:Nat} {W:List Token} (h:Run s a b W):∀ (d:Nat) (acc:List Token),s.length < a+d→b≤s.length→∃ d',s.length < b+d'∧scanG d s a acc=scanG d' s b (acc++W):=by
 induction h with
 | refl=>intro d acc q _;exact ⟨d,q,by simp⟩
 | @skip a b c W ha hn hr ih =>
  intro d acc q C;obtain ⟨E,J⟩:=skip_ok ha hn;cases d with
  | zero=>omega
  | succ d =>
   obtain ⟨d',e1,D⟩:=ih d acc (by omega) C;refine ⟨d',e1,?_⟩;rw [scanG,if_pos ha,hn];exact D
 | @tok a b c t W ha hn hr ih =>
  intro d acc q C;obtain ⟨E,J⟩:=tok_ok ha hn;cases d with
  | zero=>omega
  | succ d =>
   obtain ⟨d',e1,D⟩:=ih d (acc++[t.put a]) (by omega) C;refine ⟨d',e1,?_⟩;rw [scanG,if_pos ha,hn];refine D.trans ?_
   simp
def Soft (x:List UInt8):Prop:=x=[]∨∃ r,x=32::r
theorem soft_run {x:List UInt8} (hx:Soft x):runLen x=0:=by
 rcases hx with rfl | ⟨r,rfl⟩
 · rfl
 · rw [runLen_cons,if_neg (by decide)]
theorem run_cut {x:List UInt8} (hx:Soft x):∀ (y:List UInt8) (p:Nat),runLen y≤p→runLen (y.take p++x)=runLen y
 | [],p,_=>by rw [List.take_nil,List.nil_append,soft_run hx];rfl
 | c::y,0,h=>by
  rw [List.take_zero,List.nil_append,soft_run hx];omega
 | c::y,p+1,h=>by
  rw [List.take_succ_cons,List.cons_append,runLen_cons,runLen_cons];rw [runLen_cons] at h;by_cases hc:inRun c=true
  · rw [if_pos hc] at h
    rw [if_pos hc,if_pos hc,run_cut hx y p (by omega)]
  · rw [if_neg hc,if_neg hc]
theorem take_cut {α:Type} (y x:List α) {r p:Nat} (h:r≤p) (hp:p≤y.length):(y.take p++x).take r=y.take r:=by
 rw [List.take_append_of_le_length (by rw [List.length_take];omega),List.take_take,Nat.min_eq_left h]
theorem index_cut (x:List UInt8):∀ (y:List UInt8) (p:Nat),¬ Lib.index y ends < 0→Lib.index y ends+2≤(p:Int)→Lib.index (y.take p++x) ends=Lib.index y ends
 | [],p,h,_=>absurd (show Lib.index [] ends < 0 by decide) h
 | c::y,p,h,hp=>by
  have hg:=index_ge y ends;rw [index_cons] at h hp ⊢;cases p with
  | zero =>
   exfalso
   by_cases C:(c::y).take 2=ends
   · rw [if_pos C] at hp;omega
   · rw [if_neg C] at hp h
     by_cases D:Lib.index y ends < 0
     · rw [if_pos D] at h;omega
     · rw [if_neg D] at hp;omega
  | succ p =>
   rw [List.take_succ_cons,List.cons_append,index_cons];by_cases C:(c::y).take 2=ends
   · rw [if_pos C] at hp
     have:(c::(y.take p++x)).take 2=(c::y).take 2:=by
      have E:2≤p+1:=by omega
      have hl:2≤(c::y).length:=by
       have:=congrArg List.length C;rw [List.length_take] at this;have e:ends.length=2:=rfl
       omega
      have:=take_cut (c::y) x (r:=2) (p:=min (p+1) (c::y).length) (by omega) (Nat.min_le_right _ _);rw [show (c::y).take (min (p+1) (c::y).length)=c::y.take p by
       rw [← List.take_succ_cons];by_cases hq:p+1≤(c::y).length
       · rw [Nat.min_eq_left hq]
       · rw [Nat.min_eq_right (by omega),List.take_of_length_le (Nat.le_refl _),List.take_of_length_le (by omega)]] at this
      exact this
     rw [if_pos (this.trans C),if_pos C]
   · rw [if_neg C] at hp h
     by_cases D:Lib.index y ends < 0
     · rw [if_pos D] at h;omega
     · rw [if_neg D] at hp
       have ih:=index_cut x y p D (by omega);have hne:¬ (c::(y.take p++x)).take 2=ends:=fun E=>C (by
        have J:1≤p:=by omega
        have hy:y≠[]:=fun e=>by subst e;exact D (by decide)
        obtain ⟨c2,y2,rfl⟩:∃ c2 y2,y=c2::y2:=by cases y with | nil=>exact absurd rfl hy | cons c2 y2=>exact ⟨c2,y2,rfl⟩
        obtain ⟨p,rfl⟩:∃ q,p=q+1:=⟨p - 1,by omega⟩;rw [List.take_succ_cons] at E;exact E)
       rw [if_neg hne,ih,if_neg D,if_neg C]
theorem sign_45:isSign 45=false:=by decide
theorem minus_cut {c:UInt8} {l l':List UInt8} (h:c≠45):minusDigit c l=minusDigit c l':=by
 unfold minusDigit
 simp [h]
theorem nextS_cut {x:List UInt8} (hx:Soft x) (c:UInt8) (l:List UInt8) (p:Nat) (hp:p≤l.length) (h:(∃ k,nextS (c::l) = .skip k∧k≤p+1)∨∃ t k,nextS (c::l) = .tok t k∧k≤p+1) :
 nextS (c::(l.take p++x))=nextS (c::l):=by
 have af:=h;rw [nextS_cons] at h;rw [nextS_cons,nextS_cons];by_cases c1:isBlank c=true
 · rw [if_pos c1,if_pos c1]
 rw [if_neg c1] at h;rw [if_neg c1,if_neg c1];by_cases c2:(c::l).take 2=[47,42]
 · rw [if_pos c2] at h
   have hd:(c::l).drop 2=l.drop 1:=rfl;by_cases c3:Lib.index ((c::l).drop 2) ends < 0
   · rw [if_pos c3] at h
     rcases h with ⟨k,h,_⟩|⟨t,k,h,_⟩ <;> cases h
   · rw [if_neg c3] at h
     have hk:(Lib.index ((c::l).drop 2) ends).toNat+4≤p+1:=by
      rcases h with ⟨k,h,hk⟩|⟨t,k,h,_⟩
      · cases h;exact hk
      · cases h
     have ae:1≤p:=by omega
     have aa:(c::(l.take p++x)).take 2=(c::l).take 2:=by
      have:=take_cut (c::l) x (r:=2) (p:=p+1) (by omega) (by rw [List.length_cons];omega)
      rwa [List.take_succ_cons] at this
     have ab:(c::(l.take p++x)).drop 2=(l.drop 1).take (p - 1)++x:=by
      show (l.take p++x).drop 1=_
      rw [List.drop_append_of_le_length (by rw [List.length_take];omega),List.drop_take]
     have ad:Lib.index ((c::(l.take p++x)).drop 2) ends=Lib.index ((c::l).drop 2) ends:=by
      rw [ab,hd];rw [hd] at c3 hk;exact index_cut x _ (p - 1) c3 (by omega)
     rw [if_pos (aa.trans c2),if_pos c2,ad]
 rw [if_neg c2] at h;have C:c=47→(isLetter c=false∧(isDigit c || minusDigit c l)=false∧isSign c=false):=fun e=>by
  subst e;exact ⟨by decide,by rw [show isDigit 47=false by decide];simp [minusDigit],by decide⟩
 by_cases c3:isLetter c=true
 · have D:c≠47:=fun e=>by rw [(C e).1] at c3;cases c3
   have E:¬ (c::(l.take p++x)).take 2=[47,42]:=fun e=>D (List.cons.inj e).1
   rw [if_pos c3] at h;rw [if_neg E,if_neg c2,if_pos c3,if_pos c3];have hr:runLen (c::l)≤p+1:=by
    by_cases w:isWord ((c::l).take (runLen (c::l)))=true
    · rw [if_pos w] at h
      rcases h with ⟨k,h,_⟩|⟨t,k,h,hk⟩
      · cases h
      · have:=(Nx.tok.inj h).2;omega
    · rw [if_neg w] at h
      by_cases O:32 < runLen (c::l)
      · rw [if_pos O] at h
        rcases h with ⟨k,h,_⟩|⟨t,k,h,_⟩ <;> cases h
      · rw [if_neg O] at h
        rcases h with ⟨k,h,_⟩|⟨t,k,h,hk⟩
        · cases h
        · have:=(Nx.tok.inj h).2;omega
   have er:runLen (c::(l.take p++x))=runLen (c::l):=by
    have:=run_cut hx (c::l) (p+1) hr
    rwa [List.take_succ_cons] at this
   have et:(c::(l.take p++x)).take (runLen (c::l))=(c::l).take (runLen (c::l)):=by
    have:=take_cut (c::l) x hr (by rw [List.length_cons];omega)
    rwa [List.take_succ_cons] at this
   rw [er,et]
 rw [if_neg c3] at h;by_cases c4:(isDigit c || minusDigit c l)=true
 · have D:c≠47:=fun e=>by rw [(C e).2.1] at c4;cases c4
   have E:¬ (c::(l.take p++x)).take 2=[47,42]:=fun e=>D (List.cons.inj e).1
   rw [if_pos c4] at h;have hr:runLen l≤p:=by
    by_cases w:(numS (decide (c=45)) (if c=45 then l.take (runLen l) else (c::l).take (1+runLen l))).2=true
    · rw [if_pos w] at h
      rcases h with ⟨k,h,_⟩|⟨t,k,h,hk⟩
      · cases h
      · have:=(Nx.tok.inj h).2;omega
    · rw [if_neg w] at h
      rcases h with ⟨k,h,_⟩|⟨t,k,h,_⟩ <;> cases h
   have er:runLen (l.take p++x)=runLen l:=run_cut hx l p hr;have et:(l.take p++x).take (runLen l)=l.take (runLen l):=take_cut l x hr hp;have V:(c::(l.take p++x)).take (1+runLen l)=(c::l).take (1+runLen l):=by
    rw [Nat.add_comm,List.take_succ_cons,List.take_succ_cons,et]
   have X:(isDigit c || minusDigit c (l.take p++x))=true:=by
    by_cases hd:isDigit c=true
    · rw [hd];rfl
    · have hd':isDigit c=false:=by simpa using hd
      rw [hd',Bool.false_or] at c4 ⊢;cases l with
      | nil=>exact absurd c4 (by simp [minusDigit])
      | cons d l =>
       have hdig:isDigit d=true:=by
        unfold minusDigit at c4
        simp at c4
        exact c4.2
       have:1≤runLen (d::l):=by rw [runLen_cons,if_pos (by unfold inRun;rw [hdig];simp)];omega
       obtain ⟨p,rfl⟩:∃ q,p=q+1:=⟨p - 1,by omega⟩;rw [List.take_succ_cons,List.cons_append];exact c4
   rw [if_neg E,if_neg c2,if_neg c3,if_neg c3,if_pos X,if_pos c4,er,et,V]
 · rw [if_neg c4] at h
   by_cases J:isSign c=true
   · have D:c≠47:=fun e=>by rw [(C e).2.2] at J;cases J
     have Y:c≠45:=fun e=>by subst e;rw [sign_45] at J;cases J
     have E:¬ (c::(l.take p++x)).take 2=[47,42]:=fun e=>D (List.cons.inj e).1
     rw [if_neg E,if_neg c2,if_neg c3,if_neg c3,if_neg (by rw [minus_cut Y (l':=l)];exact c4),if_neg c4,if_pos J]
   · rw [if_neg J] at h
     rcases h with ⟨k,h,_⟩|⟨t,k,h,_⟩ <;> cases h
theorem drop_cut {s x:List UInt8} {a m:Nat} (ha:a < m) (hm:m≤s.length):∃ c l,s.drop a=c::l∧(s.take m++x).drop a=c::(l.take (m - a - 1)++x)∧m - a - 1≤l.length:=by
 have q:=drop_cons (s:=s) (j:=a) (by omega);refine ⟨_,_,q,?_,by rw [List.length_drop];omega⟩;rw [List.drop_append_of_le_length (by rw [List.length_take];omega),List.drop_take,q,show m - a=(m - a - 1)+1 by omega,List.take_succ_cons]
 rfl
theorem Run.cut {x:List UInt8} (hx:Soft x) {a m:Nat} {W:List Token} (h:Run s a m W) (hm:m≤s.length):Run (s.take m++x) a m W:=by
 induction h with
 | refl=>exact .refl
 | @skip a b c W ha hn hr ih =>
  obtain ⟨D,E⟩:=skip_ok ha hn;have hle:=hr.le;obtain ⟨c0,l,e1,q,C⟩:=drop_cut (x:=x) (s:=s) (a:=a) (m:=b) (by omega) hm;refine .skip (by rw [List.length_append,List.length_take];omega) ?_ (ih hm);rw [q,nextS_cut hx c0 l _ C (.inl ⟨c,by rw [← e1];exact hn,by omega⟩),← e1];exact hn
 | @tok a b c t W ha hn hr ih =>
  obtain ⟨D,E⟩:=tok_ok ha hn;have hle:=hr.le;obtain ⟨c0,l,e1,q,C⟩:=drop_cut (x:=x) (s:=s) (a:=a) (m:=b) (by omega) hm;refine .tok (by rw [List.length_append,List.length_take];omega) ?_ (ih hm);rw [q,nextS_cut hx c0 l _ C (.inr ⟨t,c,by rw [← e1];exact hn,by omega⟩),← e1];exact hn
theorem scanS_run {s:List UInt8} (q:(scanS s).2.1=0):s.length≤16000∧∃ W,Run s 0 s.length W∧(scanS s).1=W++[⟨5,[],0,(s.length:Int)⟩]:=by
 unfold scanS at q ⊢;by_cases h:16000 < s.length
 · rw [if_pos h] at q
   exact absurd q (by decide)
 · rw [if_neg h] at q ⊢
   obtain ⟨W,hW,hq⟩:=scanG_run s (s.length+1) 0 [] (by omega) (by omega) q;exact ⟨by omega,W,hW,by rw [hq];simp⟩
theorem scan_take {s:List UInt8} (hs:s.length≤16000) {q:Nat} {W:List Token} (h:Run s 0 q W) (hq:q≤s.length):scanS (s.take q)=(W++[⟨5,[],0,(q:Int)⟩],0,0):=by
 have C:=h.cut (x:=[]) (.inl rfl) hq;rw [List.append_nil] at C;have hl:(s.take q).length=q:=by rw [List.length_take];omega
 unfold scanS;rw [if_neg (by omega)];obtain ⟨d',e1,D⟩:=C.scan ((s.take q).length+1) [] (by omega) (by omega);rw [D];cases d' with
 | zero=>omega
 | succ d' =>
  rw [scanG,if_neg (by omega),hl]
  rfl
end Go.Proofs.YtnhifhlbelogcaaDoor
