/- The tokens of a tree that is read are those that were read: words. -/
import Derived.Test.YtnhifhlbelogcaaDoorYBA
set_option linter.unusedVariables false
set_option linter.unusedSimpArgs false
set_option linter.unusedSectionVars false
namespace Go.Proofs.YtnhifhlbelogcaaDoor
open Go Go.Eng
variable {T:List Token} {n:Nat} {d:Int} {α β:Type} {Z:Tk}
theorem slIndex_mem (L:List (List UInt8)) (x:List UInt8):∀ (k:Nat) (i r:Int),slIndex.l1 k L x i=some r→0≤r→x∈L
 | 0,_,_,h,_=>nomatch h
 | k+1,i,r,h,D=>by
  simp only [slIndex.l1] at h;by_cases q:i < (L.length:Int)
  · rw [if_pos q] at h
    obtain ⟨y,hy,h⟩:=Option.bind_eq_some_iff.1 h;by_cases C:x=y
    · obtain ⟨j,_,e,_⟩:=idx_spec hy
      rw [C];exact List.mem_of_getElem? e
    · rw [if_neg C] at h
      exact slIndex_mem L x k _ r h D
  · rw [if_neg q] at h
    cases h
    omega
theorem slContains_mem {k:Nat} {L:List (List UInt8)} {x:List UInt8} {b:Bool} (h:slContains k L x=some b) (e:b=true):x∈L:=by
 unfold slContains slIndex at h;obtain ⟨r,hr,h⟩:=Option.bind_eq_some_iff.1 h;cases h;exact slIndex_mem L x k 0 r hr (of_decide_eq_true e)
theorem decDigits_ne (u:Nat):Lib.decDigits u≠[]:=by
 rw [Lib.decDigits]
 split <;> simp
theorem itoa_ne (x:Int):Lib.itoa x≠[]:=by
 unfold Lib.itoa
 split
 · simp
 · exact decDigits_ne _
def sp (t:Token):List UInt8:=if t.Kind=3 then Lib.itoa t.Number else t.Text
def ne (L:Tk):Tk:=L.filter fun x=>!x.isEmpty
def n1 (t:Tree):Tk:=ne (nk t).1
def n2 (t:Tree):Tk:=ne (nk t).2
def eachN (l:List Tree) (s:Tk):Tk:=(l.map fun t=>n1 t++s).flatten
def betwN:List Tree→Tk
 | []=>[]
 | t::l=>n1 t++(l.map fun q=>[44]::n1 q).flatten
def betwC (l:List Tree):Tk:=if l=[] then [] else betwN l++[[44]]
def caseN (l:List Tree):Tk:=(l.map fun t=>[99,97,115,101]::(n1 t++[[58]])).flatten
def defsN (l:List Tree):Tk:=(l.map n2).flatten
def zch (l:List Tree):Tk:=[[115,119,105,116,99,104],[40]]++(n1 (l[0]?.getD noTr)++([[41],[123]]++eachN (l.drop 1) [[59]]))
def kw (i:Int):List UInt8:=if i=4 then [101,110,117,109] else if i=6 then [115,116,114,117,99,116] else [117,110,105,111,110]
def bodyW (i:Int) (l:List Tree):Tk:=if i=4 then [[123]]++(betwN l++[[125]]) else if i=6 then [[123]]++(eachN l [[59]]++[[125]]) else zch l++[[125]]
abbrev Bd (i:Int):Prop:=i=4∨i=6∨i=7
theorem ne_nil:ne []=[]:=rfl
theorem ne_e (L:Tk):ne ([]::L)=ne L:=rfl
theorem ne_c (c:UInt8) (s:List UInt8) (L:Tk):ne ((c::s)::L)=(c::s)::ne L:=rfl
theorem ne_app (L M:Tk):ne (L++M)=ne L++ne M:=List.filter_append ..
theorem ne_flat (L:List Tk):ne L.flatten=(L.map ne).flatten:=by
 induction L with
 | nil=>rfl
 | cons a L ih=>rw [List.flatten_cons,ne_app,ih,List.map_cons,List.flatten_cons]
theorem ne_each (l:List Tree) (s:Tk):ne (eachT (l.map nk) s)=eachN l (ne s):=by
 unfold eachT eachN;rw [ne_flat,List.map_map,List.map_map]
 congr 1
 exact List.map_congr_left fun t _=>ne_app _ _
theorem ne_betw (l:List Tree):ne (betwT (l.map nk))=betwN l:=by
 cases l with
 | nil=>rfl
 | cons t l =>
  rw [List.map_cons,betwT,betwN,ne_app,ne_flat,List.map_map,List.map_map]
  rfl
theorem ne_kid (l:List Tree) (i:Nat):ne (kidT (l.map nk) i)=n1 (l[i]?.getD noTr):=by rw [kidT_map];rfl
theorem eachN_snoc (l:List Tree) (x:Tree) (s:Tk):eachN (l++[x]) s=eachN l s++(n1 x++s):=by
 unfold eachN;rw [List.map_append,List.flatten_append];simp
theorem caseN_snoc (l:List Tree) (x:Tree):caseN (l++[x])=caseN l++[99,97,115,101]::(n1 x++[[58]]):=by
 unfold caseN;rw [List.map_append,List.flatten_append];simp
theorem defsN_snoc (l:List Tree) (x:Tree):defsN (l++[x])=defsN l++n2 x:=by
 unfold defsN;rw [List.map_append,List.flatten_append];simp
theorem betwN_snoc (l:List Tree) (x:Tree):betwN (l++[x])=betwC l++n1 x:=by
 cases l with
 | nil=>simp [betwN,betwC]
 | cons t l=>simp [betwN,betwC]
theorem betwC_snoc (l:List Tree) (x:Tree):betwC (l++[x])=betwC l++(n1 x++[[44]]):=by
 rw [betwC,if_neg (by simp),betwN_snoc,List.append_assoc]
theorem betwC_ne {l:List Tree} (h:l≠[]):betwC l=betwN l++[[44]]:=if_neg h
theorem zch_snoc {l:List Tree} (h:l≠[]) (x:Tree):zch (l++[x])=zch l++(n1 x++[[59]]):=by
 cases l with
 | nil=>exact absurd rfl h
 | cons t l =>
  have e:∀ m:List Tree,zch (t::m)=[[115,119,105,116,99,104],[40]]++(n1 t++([[41],[123]]++eachN m [[59]])):=fun m=>rfl
  rw [List.cons_append,e,e,eachN_snoc];simp only [List.append_assoc]
theorem itoa_c (x:Int):∃ c s,Lib.itoa x=c::s:=by
 cases h:Lib.itoa x with
 | nil=>exact absurd h (itoa_ne x)
 | cons c s=>exact ⟨c,s,rfl⟩
section
variable (c:UInt8) (s:List UInt8) (x a:Int) (t v w:Tree) (l:List Tree)
theorem e13:n1 ⟨13,[],x,a,[]⟩=[[118,111,105,100]]:=by rw [n1,nk_eq];rfl
theorem e18:n1 ⟨18,[],x,a,[]⟩=[[105,110,116]]:=by rw [n1,nk_eq];rfl
theorem e19:n1 ⟨19,[],x,a,[]⟩=[[117,110,115,105,103,110,101,100],[105,110,116]]:=by rw [n1,nk_eq];rfl
theorem e20:n1 ⟨20,[],x,a,[]⟩=[[104,121,112,101,114]]:=by rw [n1,nk_eq];rfl
theorem e21:n1 ⟨21,[],x,a,[]⟩=[[117,110,115,105,103,110,101,100],[104,121,112,101,114]]:=by rw [n1,nk_eq];rfl
theorem e22:n1 ⟨22,[],x,a,[]⟩=[[102,108,111,97,116]]:=by rw [n1,nk_eq];rfl
theorem e23:n1 ⟨23,[],x,a,[]⟩=[[100,111,117,98,108,101]]:=by rw [n1,nk_eq];rfl
theorem e24:n1 ⟨24,[],x,a,[]⟩=[[98,111,111,108]]:=by rw [n1,nk_eq];rfl
theorem e25:n1 ⟨25,[],x,a,[]⟩=[[111,112,97,113,117,101]]:=by rw [n1,nk_eq];rfl
theorem e26:n1 ⟨26,[],x,a,[]⟩=[[115,116,114,105,110,103]]:=by rw [n1,nk_eq];rfl
theorem e27:n1 ⟨27,c::s,x,a,l⟩=[c::s]:=by rw [n1,nk_eq];rfl
theorem e28:n1 ⟨28,[],x,a,l⟩=[Lib.itoa x]:=by
 obtain ⟨c,s,h⟩:=itoa_c x;rw [n1,nk_eq]
 show ne [Lib.itoa x]=_
 rw [h];rfl
theorem e14:n1 ⟨14,c::s,x,a,[t]⟩=n1 t++[c::s]:=by
 rw [n1,nk_eq]
 show ne (kidT ([t].map nk) 0++[c::s])=_
 rw [ne_app,ne_kid];rfl
theorem e15:n1 ⟨15,c::s,x,a,[t,v]⟩=n1 t++((c::s)::[91]::(n1 v++[[93]])):=by
 rw [n1,nk_eq]
 show ne (kidT ([t,v].map nk) 0++([c::s,[91]]++(kidT ([t,v].map nk) 1++[[93]])))=_
 rw [ne_app,ne_app,ne_app,ne_kid,ne_kid];rfl
theorem e16:n1 ⟨16,c::s,x,a,[t]⟩=n1 t++[c::s,[60],[62]]:=by
 rw [n1,nk_eq]
 show ne (kidT ([t].map nk) 0++([c::s,[60]]++(eachT ((([]:List Tree)).map nk) []++[[62]])))=_
 rw [ne_app,ne_app,ne_app,ne_kid,ne_each];rfl
theorem e16':n1 ⟨16,c::s,x,a,[t,v]⟩=n1 t++((c::s)::[60]::(n1 v++[[62]])):=by
 rw [n1,nk_eq]
 show ne (kidT ([t,v].map nk) 0++([c::s,[60]]++(eachT (([v]).map nk) []++[[62]])))=_
 rw [ne_app,ne_app,ne_app,ne_kid,ne_each,eachN,List.map_cons,List.map_nil,List.flatten_cons,List.flatten_nil,ne_nil,List.append_nil,List.append_nil];rfl
theorem e17:n1 ⟨17,c::s,x,a,[t]⟩=n1 t++[[42],c::s]:=by
 rw [n1,nk_eq]
 show ne (kidT ([t].map nk) 0++[[42],c::s])=_
 rw [ne_app,ne_kid];rfl
theorem e5:n1 ⟨5,c::s,x,a,[v]⟩=(c::s)::[61]::n1 v:=by
 rw [n1,nk_eq]
 show ne ([c::s,[61]]++kidT ([v].map nk) 0)=_
 rw [ne_app,ne_kid];rfl
theorem e8:n1 ⟨8,s,x,a,l++[t]⟩=caseN l++n1 t:=by
 rw [n1,nk_eq]
 show ne (((((l++[t]).map nk).take (((l++[t]).map nk).length - 1)).map fun p=>[99,97,115,101]::(p.1++[[58]])).flatten++eachT (((l++[t]).map nk).drop (((l++[t]).map nk).length - 1)) [])=_
 have e:((l++[t]).map nk).length - 1=l.length:=by simp
 rw [e,← List.map_take,← List.map_drop,List.take_left' rfl,List.drop_left' rfl,ne_app,ne_each,ne_flat,List.map_map,List.map_map]
 congr 1
 · unfold caseN
   congr 1
   refine List.map_congr_left fun t _=>?_
   show ne ([99,97,115,101]::((nk t).1++[[58]]))=_
   rw [ne_c,ne_app];rfl
 · unfold eachN;simp [ne_nil]
theorem e9:n1 ⟨9,[],x,a,[t]⟩=[100,101,102,97,117,108,116]::[58]::n1 t:=by
 rw [n1,nk_eq]
 show ne ([[100,101,102,97,117,108,116],[58]]++kidT ([t].map nk) 0)=_
 rw [ne_app,ne_kid];rfl
theorem ebody {i:Int} (hi:Bd i) (nm:List UInt8):n1 ⟨i,nm,x,a,l⟩=ne [kw i,nm]++bodyW i l:=by
 rw [n1,nk_eq];rcases hi with rfl | rfl | rfl
 · show ne ([[101,110,117,109],nm,[123]]++(betwT (l.map nk)++[[125]]))=ne [[101,110,117,109],nm]++([[123]]++(betwN l++[[125]]))
   rw [ne_app,ne_app,ne_betw,show [[101,110,117,109],nm,[123]]=[[101,110,117,109],nm]++[[123]] from rfl,ne_app,List.append_assoc];rfl
 · show ne ([[115,116,114,117,99,116],nm,[123]]++(eachT (l.map nk) [[59]]++[[125]]))=ne [[115,116,114,117,99,116],nm]++([[123]]++(eachN l [[59]]++[[125]]))
   rw [ne_app,ne_app,ne_each,show [[115,116,114,117,99,116],nm,[123]]=[[115,116,114,117,99,116],nm]++[[123]] from rfl,ne_app,List.append_assoc];rfl
 · show ne ([[117,110,105,111,110],nm,[115,119,105,116,99,104],[40]]++(kidT (l.map nk) 0++([[41],[123]]++(eachT ((l.map nk).drop 1) [[59]]++[[125]]))))=ne [[117,110,105,111,110],nm]++(zch l++[[125]])
   rw [← List.map_drop,ne_app,ne_app,ne_app,ne_app,ne_each,ne_kid,show [[117,110,105,111,110],nm,[115,119,105,116,99,104],[40]]=[[117,110,105,111,110],nm]++[[115,119,105,116,99,104],[40]] from rfl,ne_app];unfold zch;simp only [List.append_assoc];rfl
theorem e12:n1 ⟨12,c::s,x,a,v::w::l⟩=n1 w++((c::s)::[40]::(betwN l++([41]::[61]::(n1 v++[[59]])))):=by
 rw [n1,nk_eq]
 show ne (kidT ((v::w::l).map nk) 1++([c::s,[40]]++(betwT (l.map nk)++([[41],[61]]++(kidT ((v::w::l).map nk) 0++[[59]])))))=_
 rw [ne_app,ne_app,ne_app,ne_app,ne_app,ne_kid,ne_kid,ne_betw];rfl
theorem e11:n1 ⟨11,c::s,x,a,v::l⟩=[118,101,114,115,105,111,110]::(c::s)::[123]::(eachN l []++([125]::[61]::(n1 v++[[59]]))):=by
 rw [n1,nk_eq]
 show ne ([[118,101,114,115,105,111,110],c::s,[123]]++(eachT (l.map nk) []++([[125],[61]]++(kidT ((v::l).map nk) 0++[[59]]))))=_
 rw [ne_app,ne_app,ne_app,ne_app,ne_kid,ne_each];rfl
theorem e10:n1 ⟨10,c::s,x,a,v::l⟩=[112,114,111,103,114,97,109]::(c::s)::[123]::(eachN l []++([125]::[61]::n1 v)):=by
 rw [n1,nk_eq]
 show ne ([[112,114,111,103,114,97,109],c::s,[123]]++(eachT (l.map nk) []++([[125],[61]]++kidT ((v::l).map nk) 0)))=_
 rw [ne_app,ne_app,ne_app,ne_kid,ne_each];rfl
theorem e1:n1 ⟨1,s,x,a,l⟩=defsN l:=by
 rw [n1,nk_eq]
 show ne ((l.map nk).map (·.2)).flatten=_
 rw [ne_flat,List.map_map,List.map_map];rfl
theorem d2:n2 ⟨2,c::s,x,a,[v]⟩=[99,111,110,115,116]::(c::s)::[61]::(n1 v++[[59]]):=by
 rw [n2,nk_eq]
 show ne ([[99,111,110,115,116],c::s,[61]]++(kidT ([v].map nk) 0++[[59]]))=_
 rw [ne_app,ne_app,ne_kid];rfl
theorem d3:n2 ⟨3,s,x,a,[v]⟩=[116,121,112,101,100,101,102]::(n1 v++[[59]]):=by
 rw [n2,nk_eq]
 show ne ([[116,121,112,101,100,101,102]]++(kidT ([v].map nk) 0++[[59]]))=_
 rw [ne_app,ne_app,ne_kid];rfl
theorem dn (q:t.Kind≠2) (C:t.Kind≠3):n2 t=n1 t++[[59]]:=by
 obtain ⟨K,nm,x,a,l⟩:=t;rw [n2,n1,nk_eq]
 show ne (wD K nm x (l.map nk))=_
 rw [wD,if_neg q,if_neg C,ne_app];rfl
end
def seg (T:List Token) (n m:Nat):Tk:=((T.drop n).take (m - n)).map sp
theorem seg_self (T:List Token) (n:Nat):seg T n n=[]:=by rw [seg,Nat.sub_self];rfl
theorem seg_add {m p:Nat} (q:n≤m) (C:m≤p):seg T n m++seg T m p=seg T n p:=by
 unfold seg;rw [← List.map_append,show T.drop m=(T.drop n).drop (m - n) by rw [List.drop_drop];congr 1;omega]
 congr 1
 rw [show p - n=(m - n)+(p - m) by omega,List.take_add]
theorem seg_one {t:Token} (h:T[n]? = some t):seg T n (n+1)=[sp t]:=by
 unfold seg;have hn:=(List.getElem?_eq_some_iff.1 h).1;rw [List.drop_eq_getElem_cons hn,show n+1 - n=1 by omega,List.take_succ_cons,List.take_zero,(List.getElem?_eq_some_iff.1 h).2];rfl
def LT (T:List Token) (W:α→Tk) (Z:Tk) (n:Nat) (A:Option (Option Value×α×ParK)):Prop :=
 ∀ v p,A=some (none,v,p)→∃ (n':Nat) (d':Int),p=⟨T,(n':Int),d'⟩∧n≤n'∧n'≤T.length∧Z++seg T n n'=W v
def LB (T:List Token) (a:List UInt8) (Z:Tk) (n:Nat) (A:Option (Option Value×Int×List Tree×ParK)):Prop :=
 ∀ i v p,A=some (none,i,v,p)→∃ (n':Nat) (d':Int),p=⟨T,(n':Int),d'⟩∧n≤n'∧n'≤T.length∧Z++seg T n n'=bodyW i v∧Bd i∧(a=[101,110,117,109]∨a=[115,116,114,117,99,116]∨a=[117,110,105,111,110]→a=kw i)
theorem LT.nil {W:α→Tk}:LT (α:=α) T W Z n none:=fun v p h=>nomatch h
theorem LB.nil {a:List UInt8}:LB T a Z n none:=fun i v p h=>nomatch h
theorem LT.ret {W:α→Tk} {v:α} (hn:n≤T.length) (h:Z=W v):LT T W Z n (some (none,v,(⟨T,(n:Int),d⟩:ParK))):=fun v' p hp=>by
 cases hp
 exact ⟨n,d,rfl,Nat.le_refl _,hn,by rw [seg_self,List.append_nil,h]⟩
theorem LT.ite {W:α→Tk} {c:Prop} [Decidable c] {A B:Option (Option Value×α×ParK)} (q:c→LT T W Z n A) (C:¬ c→LT T W Z n B):LT T W Z n (if c then A else B):=by
 by_cases h:c
 · rw [if_pos h];exact q h
 · rw [if_neg h];exact C h
theorem LT.pure {γ:Type} {W:α→Tk} {A:Option γ} {G:γ→Option (Option Value×α×ParK)} (hg:∀ x,A=some x→LT T W Z n (G x)):LT T W Z n (Option.bind A G):=by
 cases A with
 | none=>exact LT.nil
 | some x=>exact hg x rfl
theorem LT.chk {W:α→Tk} {A:Option (Option Value)} {zz:Option Value→α} {pp:Option Value→ParK} {G:Option Value→Option (Option Value×α×ParK)} (hg:LT T W Z n (G none)):LT T W Z n (Option.bind A fun t=>if t.isSome=true then some (t,zz t,pp t) else G t):=by
 refine LT.pure fun x hx=>?_
 cases x with
 | none=>rw [if_neg (by simp)];exact hg
 | some f=>rw [if_pos (by simp)];exact fun v p h=>nomatch (congrArg Prod.fst (Option.some.inj h))
theorem LT.mono {W:α→Tk} {m:Nat} {A:Option (Option Value×α×ParK)} (h:n≤m) (hA:LT T W (Z++seg T n m) m A):LT T W Z n A:=fun v p hp=>by
 obtain ⟨n',d',e,l,b,c⟩:=hA v p hp;exact ⟨n',d',e,by omega,b,by rw [← c,List.append_assoc,seg_add h l]⟩
theorem LT.cast {W:α→Tk} {Y:Tk} {A:Option (Option Value×α×ParK)} (h:LT T W Y n A) (e:Z=Y):LT T W Z n A:=e ▸ h
theorem LT.pre {W:α→Tk} {A:Option (Option Value×α×ParK)} (h:LT T W [] n A) (Z:Tk):LT T (fun v=>Z++W v) Z n A:=fun v p hp=>by
 obtain ⟨n',d',e,l,b,c⟩:=h v p hp;exact ⟨n',d',e,l,b,by show Z++seg T n n'=Z++W v;rw [← c];rfl⟩
theorem LT.bind {q:β→Tk} {W:α→Tk} {A:Option (Option Value×β×ParK)} {zz:(Option Value×β×ParK)→α} {pp:(Option Value×β×ParK)→ParK} {G:(Option Value×β×ParK)→Option (Option Value×α×ParK)} (h:LT T q Z n A)
 (hg:∀ v (n':Nat) (d':Int),n'≤T.length→LT T W (q v) n' (G (none,v,⟨T,(n':Int),d'⟩))):LT T W Z n (Option.bind A fun t=>if t.1.isSome=true then some (t.1,zz t,pp t) else G t):=by
 refine LT.pure fun x hx=>?_
 obtain ⟨f,v,p⟩:=x;cases f with
 | some f=>rw [if_pos (by simp)];exact fun v p h=>nomatch (congrArg Prod.fst (Option.some.inj h))
 | none =>
  rw [if_neg (by simp)];obtain ⟨n',d',rfl,l,b,c⟩:=h v p hx;exact LT.mono l (by rw [c];exact hg v n' d' b)
theorem LT.bind0 {q:β→Tk} {W:α→Tk} {A:Option (Option Value×β×ParK)} {zz:(Option Value×β×ParK)→α} {pp:(Option Value×β×ParK)→ParK} {G:(Option Value×β×ParK)→Option (Option Value×α×ParK)} (h:LT T q [] n A)
 (hg:∀ v (n':Nat) (d':Int),n'≤T.length→LT T W (Z++q v) n' (G (none,v,⟨T,(n':Int),d'⟩))):LT T W Z n (Option.bind A fun t=>if t.1.isSome=true then some (t.1,zz t,pp t) else G t):=LT.bind (h.pre Z) hg
theorem LT.body {W:α→Tk} {a:List UInt8} {A:Option (Option Value×Int×List Tree×ParK)} {zz:(Option Value×Int×List Tree×ParK)→α} {pp:(Option Value×Int×List Tree×ParK)→ParK} {G:(Option Value×Int×List Tree×ParK)→Option (Option Value×α×ParK)} (h:LB T a [] n A) (ha:a=[101,110,117,109]∨a=[115,116,114,117,99,116]∨a=[117,110,105,111,110])
 (hg:∀ i v (n':Nat) (d':Int),n'≤T.length→Bd i→a=kw i→LT T W (Z++bodyW i v) n' (G (none,i,v,⟨T,(n':Int),d'⟩))):LT T W Z n (Option.bind A fun t=>if t.1.isSome=true then some (t.1,zz t,pp t) else G t):=by
 refine LT.pure fun x hx=>?_
 obtain ⟨f,i,v,p⟩:=x;cases f with
 | some f=>rw [if_pos (by simp)];exact fun v p h=>nomatch (congrArg Prod.fst (Option.some.inj h))
 | none =>
  rw [if_neg (by simp)];obtain ⟨n',d',rfl,l,b,c,hb,hk⟩:=h i v p hx;exact LT.mono l (by rw [← List.nil_append (seg T n n'),c];exact hg i v n' d' b hb (hk ha))
theorem LB.ite {a:List UInt8} {c:Prop} [Decidable c] {A B:Option (Option Value×Int×List Tree×ParK)} (q:c→LB T a Z n A) (C:¬ c→LB T a Z n B):LB T a Z n (if c then A else B):=by
 by_cases h:c
 · rw [if_pos h];exact q h
 · rw [if_neg h];exact C h
theorem LB.bind {a:List UInt8} {A:Option (Option Value×List Tree×ParK)} {i:Int} {g:Int→Int} {zz:(Option Value×List Tree×ParK)→Int×List Tree×ParK} (h:LT T (bodyW i) [] n A) (hi:Bd i) (ha:a=[101,110,117,109]∨a=[115,116,114,117,99,116]∨a=[117,110,105,111,110]→a=kw i) :
 LB T a [] n (Option.bind A fun t=>if t.1.isSome=true then some (t.1,zz t) else some (none,i,t.2.1,(⟨t.2.2.tokens,t.2.2.next,g t.2.2.deep⟩:ParK))):=fun j v p hp=>by
 obtain ⟨x,hx,hG⟩:=Option.bind_eq_some_iff.1 hp;obtain ⟨f,v',p'⟩:=x;cases f with
 | some f=>rw [if_pos (by simp)] at hG;exact nomatch (congrArg Prod.fst (Option.some.inj hG))
 | none =>
  rw [if_neg (by simp)] at hG;obtain ⟨n',d',rfl,l,b,c⟩:=h v' p' hx;cases hG;exact ⟨n',_,rfl,l,b,c,hi,ha⟩
structure TN (T:List Token):Prop where
 len:T.length≤16001
 nm:∀ t∈T,t.Kind=1→t.Text≠[]
theorem w64_tn (h:TN T) (hn:n < T.length):w64 ((n:Int)+1)=((n+1:Nat):Int):=w64_succ (by have:=h.len;omega)
theorem token_get {k:Nat} {t:Token} (h:ps_token k (⟨T,(n:Nat),d⟩:ParK)=some t):T[n]? = some t:=by
 unfold ps_token at h;obtain ⟨y,q,hy⟩:=Option.bind_eq_some_iff.1 h;cases hy;obtain ⟨j,hj,e,_⟩:=idx_spec q;have:n=j:=by have hj:(n:Int)=(j:Int):=hj;omega
 subst this;exact e
theorem is_get {k:Nat} {L:List (List UInt8)} (h:ps_is k (⟨T,(n:Nat),d⟩:ParK) L=some true):∃ t,T[n]? = some t∧sp t=t.Text∧t.Text∈L:=by
 unfold ps_is at h;obtain ⟨t,ht,h⟩:=Option.bind_eq_some_iff.1 h;refine ⟨t,token_get ht,?_⟩;have hc:∀ {b},slContains k L t.Text=some b→b=true→t.Text∈L:=fun hb e=>slContains_mem hb e
 by_cases q:t.Kind=2
 · rw [if_pos q] at h
   obtain ⟨b,hb,h⟩:=Option.bind_eq_some_iff.1 h;cases h;exact ⟨by unfold sp;rw [if_neg (by omega)],hc hb rfl⟩
 · rw [if_neg q] at h
   by_cases C:t.Kind=4
   · rw [if_pos C] at h
     obtain ⟨b,hb,h⟩:=Option.bind_eq_some_iff.1 h;cases h;exact ⟨by unfold sp;rw [if_neg (by omega)],hc hb rfl⟩
   · rw [if_neg C] at h
     cases h
section
variable (hT:TN T) (k:Nat)
include hT
theorem LT.step {W:α→Tk} {t:Token} {A:Option (Option Value×α×ParK)} (hn:T[n]? = some t) (h:LT T W (Z++[sp t]) (n+1) A):LT T W Z n A:=LT.mono (Nat.le_succ n) (by rw [seg_one hn];exact h)
theorem LT.want {W:α→Tk} (s:List UInt8) {zz:(Option Value×Int×ParK)→α} {pp:(Option Value×Int×ParK)→ParK} {G:(Option Value×Int×ParK)→Option (Option Value×α×ParK)}
 (hg:∀ x,n+1≤T.length→LT T W (Z++[s]) (n+1) (G (none,x,⟨T,((n+1:Nat):Int),d⟩))):LT T W Z n (Option.bind (ps_want k (⟨T,(n:Int),d⟩:ParK) s) fun t=>if t.1.isSome=true then some (t.1,zz t,pp t) else G t):=by
 refine LT.pure fun x hx=>?_
 obtain ⟨f,v,p⟩:=x;cases f with
 | some f=>rw [if_pos (by simp)];exact fun v p h=>nomatch (congrArg Prod.fst (Option.some.inj h))
 | none =>
  rw [if_neg (by simp)];unfold ps_want at hx;obtain ⟨b,hb,hx⟩:=Option.bind_eq_some_iff.1 hx;cases b with
  | true =>
   rw [if_pos rfl] at hx;obtain ⟨t,ht,e1,q⟩:=is_get hb;have hn:=(List.getElem?_eq_some_iff.1 ht).1;unfold ps_want.j1 at hx;obtain ⟨y,_,hx⟩:=Option.bind_eq_some_iff.1 hx;cases hx;rw [List.mem_singleton] at q;refine LT.step hT ht ?_;rw [e1,q]
   show LT T W _ (n+1) (G (none,y.At,⟨T,w64 ((n:Int)+1),d⟩))
   rw [w64_tn hT hn];exact hg _ hn
  | false =>
   rw [if_neg (by simp)] at hx;obtain ⟨f,hf,hx⟩:=Option.bind_eq_some_iff.1 hx;unfold ps_give at hf;obtain ⟨t,_,hf⟩:=Option.bind_eq_some_iff.1 hf;cases hf;rw [if_pos (by simp)] at hx;exact nomatch (congrArg Prod.fst (Option.some.inj hx))
theorem kind_get {q:Int} {t:Token} {p:ParK} (h:ps_kind k (⟨T,(n:Nat),d⟩:ParK) q=some (none,t,p)):T[n]? = some t∧t.Kind=q∧p=⟨T,((n+1:Nat):Int),d⟩:=by
 unfold ps_kind at h;obtain ⟨u,hu,h⟩:=Option.bind_eq_some_iff.1 h;have hg:=token_get hu;have hn:=(List.getElem?_eq_some_iff.1 hg).1;by_cases C:u.Kind=q
 · rw [if_pos C] at h
   unfold ps_kind.j1 at h;cases h;exact ⟨hg,C,by show (⟨T,w64 ((n:Int)+1),d⟩:ParK)=_;rw [w64_tn hT hn]⟩
 · rw [if_neg C] at h
   obtain ⟨f,hf,h⟩:=Option.bind_eq_some_iff.1 h;unfold ps_give at hf;obtain ⟨t,_,hf⟩:=Option.bind_eq_some_iff.1 hf;cases hf;rw [if_pos (by simp)] at h;exact nomatch (congrArg Prod.fst (Option.some.inj h))
theorem LT.name {W:α→Tk} (K:Int) {zz:(Option Value×Tree×ParK)→α} {pp:(Option Value×Tree×ParK)→ParK} {G:(Option Value×Tree×ParK)→Option (Option Value×α×ParK)}
 (hg:∀ c s a,n+1≤T.length→LT T W (Z++[c::s]) (n+1) (G (none,⟨K,c::s,0,a,[]⟩,⟨T,((n+1:Nat):Int),d⟩))):LT T W Z n (Option.bind (ps_name k (⟨T,(n:Int),d⟩:ParK) K) fun t=>if t.1.isSome=true then some (t.1,zz t,pp t) else G t):=by
 refine LT.pure fun x hx=>?_
 unfold ps_name at hx;obtain ⟨⟨f,t,p⟩,hk,hx⟩:=Option.bind_eq_some_iff.1 hx;cases f with
 | some f =>
  rw [if_pos (by simp)] at hx;cases hx;rw [if_pos (by simp)];exact fun v p h=>nomatch (congrArg Prod.fst (Option.some.inj h))
 | none =>
  rw [if_neg (by simp)] at hx;cases hx;rw [if_neg (by simp)];obtain ⟨q,C,rfl⟩:=kind_get hT k hk;refine LT.step hT q ?_;have hn:=(List.getElem?_eq_some_iff.1 q).1;have ht:=hT.nm t (List.mem_of_getElem? q) C;have e:sp t=t.Text:=by unfold sp;rw [if_neg (by omega)]
  rw [e]
  show LT T W (Z++[t.Text]) (n+1) (G (none,⟨K,t.Text,0,t.At,[]⟩,⟨T,((n+1:Nat):Int),d⟩))
  revert ht
  cases t.Text with
  | nil=>exact fun h=>absurd rfl h
  | cons c s=>exact fun _=>hg c s _ hn
theorem number_lt (n:Nat) (d:Int):LT T n1 [] n (ps_number k (⟨T,(n:Int),d⟩:ParK)):=fun v p hp=>by
 unfold ps_number at hp;obtain ⟨⟨f,t,q⟩,hk,hp⟩:=Option.bind_eq_some_iff.1 hp;cases f with
 | some f=>rw [if_pos (by simp)] at hp;exact nomatch (congrArg Prod.fst (Option.some.inj hp))
 | none =>
  rw [if_neg (by simp)] at hp;cases hp;obtain ⟨C,D,rfl⟩:=kind_get hT k hk;have hn:=(List.getElem?_eq_some_iff.1 C).1;refine ⟨n+1,d,rfl,Nat.le_succ n,hn,?_⟩;rw [seg_one C,e28,sp,if_pos D];rfl
theorem LT.may {W:α→Tk} (s:List UInt8) {A B:(Bool×ParK)→Option (Option Value×α×ParK)}
 (C:n+1≤T.length→LT T W (Z++[s]) (n+1) (A (true,⟨T,((n+1:Nat):Int),d⟩))) (D:LT T W Z n (B (false,⟨T,(n:Int),d⟩))):LT T W Z n (Option.bind (ps_may k (⟨T,(n:Int),d⟩:ParK) s) fun t=>if t.1=true then A t else B t):=by
 refine LT.pure fun x hx=>?_
 unfold ps_may at hx;obtain ⟨b,hb,hx⟩:=Option.bind_eq_some_iff.1 hx;cases b with
 | true =>
  rw [if_pos (by simp)] at hx;cases hx;rw [if_pos (by simp)];obtain ⟨t,ht,e1,q⟩:=is_get hb;have hn:=(List.getElem?_eq_some_iff.1 ht).1;rw [List.mem_singleton] at q;refine LT.step hT ht ?_;rw [e1,q]
  show LT T W _ (n+1) (A (true,⟨T,w64 ((n:Int)+1),d⟩))
  rw [w64_tn hT hn];exact C hn
 | false =>
  rw [if_neg (by simp)] at hx;cases hx;rw [if_neg (by simp)];exact D
end
theorem LT.give {W:α→Tk} {k:Nat} {s:ParK} {e:Int} {zz:Option Value→α} {pp:Option Value→ParK} {G:Option Value→Option (Option Value×α×ParK)}:LT T W Z n (Option.bind (ps_give k s e) fun t=>if t.isSome=true then some (t,zz t,pp t) else G t):=by
 refine LT.pure fun x hx=>?_
 unfold ps_give at hx;obtain ⟨t,_,hx⟩:=Option.bind_eq_some_iff.1 hx;cases hx;rw [if_pos (by simp)];exact fun v p h=>nomatch (congrArg Prod.fst (Option.some.inj h))
end Go.Proofs.YtnhifhlbelogcaaDoor
