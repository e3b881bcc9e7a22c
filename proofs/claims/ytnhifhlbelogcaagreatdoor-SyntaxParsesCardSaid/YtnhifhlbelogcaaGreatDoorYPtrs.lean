/- What the engine says more: elements apart, names of lists, appends of things. -/
import Derived.LaidEql
import Derived.ChangeKeysEq
import Derived.Test.YtnhifhlbelogcaaGreatDoorYEng3
set_option linter.unusedVariables false
set_option linter.unusedSimpArgs false
namespace Go.Eng
open Go
section
variable {α:Type} {r:Rp α} {P:Program} {w w0:World} {K:Nat→Prop} {Gs:List Grp} {G Gn Gr:Grp} {e T:TypeId} {A:Option Addr} {c j:Nat} {L:List α} {x:α} {cs:List Value}
def SlH (e:TypeId) (r:Rp α) (A:Option Addr) (c:Nat) (L:List α) (j:Nat) (cs:List Value) (G:Grp):Prop :=
 ∃ b off cur xa xb Ga Gb,A=some ⟨b,off,none⟩∧j < L.length∧L.length≤c∧c≤maxLen∧0 < c∧cs.length=r.sz∧G=[(b,Obj.cells cur e (0,0))]++(Ga++Gb)∧off+c * r.sz≤cur.size∧xa.length=j * r.sz∧(xa++cs++xb).length=L.length * r.sz ∧
  (cur.toList.drop off).take (L.length * r.sz)=xa++cs++xb∧∀ x' cs' Gn',r.own x' cs' Gn'→elemsO r (L.set j x') (xa++cs'++xb) (Ga++Gn'++Gb)
theorem SlO.hole (h:SlO e r (.slice A L.length c) L G) (hj:L[j]? = some x):∃ cs Gn Gr,r.own x cs Gn∧SlH e r A c L j cs Gr∧G.Perm (Gn++Gr):=by
 obtain ⟨xs,C,D,⟨hl,hrow⟩,h2,rfl⟩:=h;have hlt:j < L.length:=(List.getElem?_eq_some_iff.1 hj).1;rcases hrow with ⟨A',hv',hz,_⟩|⟨b,off,cap,cur,hv',hpos,rfl,hnc,hcm,hfit,ht⟩
 · omega
 cases hv'
 obtain ⟨xa,cs,xb,Ga,Gn,Gb,rfl,hxa,rfl,hown,hset⟩:=h2.at hj;refine ⟨cs,Gn,[(b,Obj.cells cur e (0,0))]++(Ga++Gb),hown,⟨b,off,cur,xa,xb,Ga,Gb,rfl,hlt,hnc,hcm,hpos,r.lenO hown,rfl,hfit,hxa,hl,ht,hset⟩,?_⟩;have q:([(b,Obj.cells cur e (0,0))]++(Ga++Gn++Gb))=([(b,Obj.cells cur e (0,0))]++Ga)++(Gn++Gb):=by simp
 have h2:(Gn++([(b,Obj.cells cur e (0,0))]++(Ga++Gb)))=Gn++(([(b,Obj.cells cur e (0,0))]++Ga)++Gb):=by simp
 rw [q,h2];exact (List.perm_append_comm_assoc _ _ _)
theorem SlH.key (h:SlH e r A c L j cs G) {b off:Nat} (eA:A=some ⟨b,off,none⟩):b∈keys G:=by
 obtain ⟨b',off',cur,xa,xb,Ga,Gb,e1,_,_,_,_,_,rfl,_⟩:=h;rw [e1] at eA;cases eA
 simp [keys]
theorem SlH.cells (h:SlH e r A c L j cs G) (hG:∀ b o,(b,o)∈G→w.heap[b]? = some o) {b off:Nat} (eA:A=some ⟨b,off,none⟩):cellsAt w b (off+j * r.sz) cs:=by
 obtain ⟨b',off',cur,xa,xb,Ga,Gb,e1,hj,hnc,hcm,hpos,hcs,rfl,hfit,hxa,hl,ht,hset⟩:=h;rw [e1] at eA;cases eA;have hb:=hG b _ (List.mem_append_left _ (List.mem_singleton.2 rfl));have hc:=cellsAt.of_blk (off:=off) (cs:=xa++cs++xb) hb (by rw [hl];exact ht);intro i u hi;have:(xa++cs++xb)[j * r.sz+i]? = some u:=by
  rw [List.append_assoc,List.getElem?_append_right (by omega),hxa,Nat.add_sub_cancel_left,List.getElem?_append_left (List.getElem?_eq_some_iff.1 hi).1];exact hi
 rw [Nat.add_assoc];exact hc _ _ this
theorem SlH.shut (h:SlH e r A c L j cs Gr) (ho:r.own x cs Gn):∃ G',SlO e r (.slice A (L.set j x).length c) (L.set j x) G'∧(Gn++Gr).Perm G':=by
 obtain ⟨b',off',cur,xa,xb,Ga,Gb,rfl,hj,hnc,hcm,hpos,hcs,rfl,hfit,hxa,hl,ht,hset⟩:=h;have hE:=hset x cs Gn ho;refine ⟨[(b',Obj.cells cur e (0,0))]++(Ga++Gn++Gb),⟨xa++cs++xb,[(b',Obj.cells cur e (0,0))],Ga++Gn++Gb,⟨hE.len,.inr ⟨b',off',c,cur,by rw [List.length_set],hpos,rfl,by rw [List.length_set];exact hnc,hcm,hfit,by rw [List.length_set];exact ht⟩⟩,hE,rfl⟩,?_⟩;have q:([(b',Obj.cells cur e (0,0))]++(Ga++Gn++Gb))=([(b',Obj.cells cur e (0,0))]++Ga)++(Gn++Gb):=by simp
 have h2:(Gn++([(b',Obj.cells cur e (0,0))]++(Ga++Gb)))=Gn++(([(b',Obj.cells cur e (0,0))]++Ga)++Gb):=by simp
 rw [q,h2];exact (List.perm_append_comm_assoc _ _ _)
theorem St.focusL (S:St w0 K w (G::Gs)) (h:SlO e r (.slice A L.length c) L G) (hj:L[j]? = some x):∃ cs Gn Gr,r.own x cs Gn∧SlH e r A c L j cs Gr∧St w0 K w (Gn::Gr::Gs):=by
 obtain ⟨cs,Gn,Gr,q,h2,C⟩:=h.hole hj;exact ⟨cs,Gn,Gr,q,h2,S.perm (by simp only [List.flatten_cons,← List.append_assoc];exact C.append_right _)⟩
theorem St.shutL (S:St w0 K w (Gn::Gr::Gs)) (h:SlH e r A c L j cs Gr) (ho:r.own x cs Gn):∃ G',SlO e r (.slice A (L.set j x).length c) (L.set j x) G'∧St w0 K w (G'::Gs):=by
 obtain ⟨G',q,h2⟩:=h.shut ho;exact ⟨G',q,S.perm (by simp only [List.flatten_cons,← List.append_assoc];exact h2.append_right _)⟩
theorem SlO.subH {e':TypeId} {LL:List (List α)} {x:List α} (h:SlO e (Rp.slice e' r) (.slice A LL.length c) LL G) (hj:LL[j]? = some x) :
 ∃ q c1,SlG r q c1 x G∧(∃ Gn Gr,SlO e' r (.slice q x.length c1) x Gn∧SlH e (Rp.slice e' r) A c LL j [.slice q x.length c1] Gr∧G.Perm (Gn++Gr)) ∧
  SubOf e e' r A c LL G j x q c1∧∀ w:World,(∀ b o,(b,o)∈G→w.heap[b]? = some o)→∃ b off,A=some ⟨b,off,none⟩∧b∈keys G∧cellsAt w b (off+j * 1) [.slice q x.length c1]:=by
 obtain ⟨cs,Gn,Gr,⟨v,rfl,hown⟩,hH,hp⟩:=h.hole hj;obtain ⟨q,c1,rfl⟩:=hown.shape;have D:∀ {b o},(b,o)∈Gn→(b,o)∈G:=fun hb=>hp.mem_iff.2 (List.mem_append_left _ hb)
 have C:∀ {b o},(b,o)∈Gr→(b,o)∈G:=fun hb=>hp.mem_iff.2 (List.mem_append_right _ hb)
 refine ⟨q,c1,fun w hG=>?_,⟨Gn,Gr,hown,hH,hp⟩,⟨Gn,Gr,hp,hown,fun x' Gn' hl h'=>?_⟩,fun w hG=>?_⟩
 · exact (hown.rd (w:=w) (fun b o hb=>hG b o (D hb))).mono (fun b hb=>by rw [keys_perm hp,keys_append];exact List.mem_append_left _ hb)
 · have hH':SlH e (Rp.slice e' r) A c LL j [.slice q x'.length c1] Gr:=by rw [hl];exact hH
   obtain ⟨G',E,k2⟩:=hH'.shut (x:=x') (Gn:=Gn') ⟨_,rfl,h'⟩;exact ⟨G',k2.symm,E⟩
 · have hc:=hH
   obtain ⟨b,off,cur,xa,xb,Ga,Gb,e1,_,_,_,_,_,eG,_⟩:=hc;refine ⟨b,off,e1,?_,hH.cells (fun b o hb=>hG b o (C hb)) e1⟩;have:(b,Obj.cells cur e (0,0))∈G:=C (by rw [eG];simp);exact mem_keys this
theorem St.focusS {e':TypeId} {LL:List (List α)} {x:List α} {q:Option Addr} {c1:Nat} (S:St w0 K w (G::Gs)) (h:∃ Gn Gr,SlO e' r (.slice q x.length c1) x Gn∧SlH e (Rp.slice e' r) A c LL j [.slice q x.length c1] Gr∧G.Perm (Gn++Gr)):∃ Gn Gr,SlO e' r (.slice q x.length c1) x Gn∧SlH e (Rp.slice e' r) A c LL j [.slice q x.length c1] Gr∧St w0 K w (Gn::Gr::Gs):=by
 obtain ⟨Gn,Gr,C,h2,D⟩:=h;exact ⟨Gn,Gr,C,h2,S.perm (by simp only [List.flatten_cons,← List.append_assoc];exact D.append_right _)⟩
end
end Go.Eng
namespace Go.Eng
open Go
abbrev Hs:=Option Addr×Nat×Nat
def Rp.hs:Rp Hs:=.plain (fun h=>[.slice h.1 h.2.1 h.2.2]) 1 (fun _=>rfl) (fun _=>rfl)
section
variable {P:Program} {N:FN} {l:Fr} {dst:Option Tmp} {ty:TypeId} {pos:String} {aft:Array Edge} {g:Option (Nat×Bool)} {t u e:TypeId} {x y:Operand}
end
end Go.Eng
namespace Go.Eng
open Go
section
variable {α:Type} {e e':TypeId} {r:Rp α} {A AD:Option Addr} {c cD n:Nat} {LL LD:List (List α)} {G M GD:Grp}
variable {P:Program} {w w0:World} {K:Nat→Prop} {Gs:List Grp}
variable {tip:Option (Ent α)}
theorem St.appO {α:Type} {r:Rp α} {L MM LM:List α} {GB:Grp} {B:Option Addr} {d bytes n:Nat} (S:St w0 K w (G::GB::Gs)) {t:TypeId} (hT:Elt P t e r.sz bytes) (hb:(Nat.ble (n * bytes) 140737488355328 && Nat.ble n 140737488355328)=true)
 (h:SlO e r (.slice A L.length c) L G) (hB:SlO e r (.slice B MM.length d) MM GB) (hc:catN n L MM=some LM) :
 ∃ A' c' G' w1,(∀ {N:FN} {l:Fr} {x y:Operand} {dst:Option Tmp} {ty:TypeId} {pos:String} {aft:Array Edge} {g:Option (Nat×Bool)},ev l x=some (.slice A L.length c)→ev l y=some (.slice B MM.length d) →
  GE P N l w ⟨dst,.call { callee:=.builtin .append,args:=#[x,y],argTypes:=#[t,t] },ty,pos,aft,g⟩ (.slice A' LM.length c') w1) ∧
  SlO e r (.slice A' LM.length c') LM G'∧St w0 K w1 (G'::Gs):=by
 obtain ⟨xs,q,C,E,h2,rfl⟩:=hB;have D:St w0 K w (G::C::q::Gs):=S.perm (by
  simp only [List.flatten_cons];have e1:G++(q++C++Gs.flatten)=G++(q++(C++Gs.flatten)):=by simp
  rw [e1];exact (List.perm_append_comm_assoc _ _ _).append_left _)
 obtain ⟨hmn,hrd⟩:=E.rd (w:=w) (fun b o hb=>D.grp 2 rfl hb);obtain ⟨A',c',G',w1,hE,hO,J,_⟩:=St.app (P:=P) D hT hb h hrd h2 rfl hc;exact ⟨A',c',G',w1,hE,hO,(J.perm (Gs':=q::G'::Gs) (by simp only [List.flatten_cons];exact List.perm_append_comm_assoc _ _ _)).drop⟩
end
end Go.Eng
namespace Go.Eng
theorem St.reord {w0 w:World} {K:Nat→Prop} {Gs Gs':List Grp} (S:St w0 K w Gs) (is:List Nat) (n:Nat) (hn:Gs.length=n) (hp:is.isPerm (List.range n)=true) (he:is.map (fun i=>Gs.getD i [])=Gs'):St w0 K w Gs':=by
 subst he;have q:(is.map (fun i=>Gs.getD i [])).Perm ((List.range n).map (fun i=>Gs.getD i [])):=(List.isPerm_iff.1 hp).map _;have h2:(List.range n).map (fun i=>Gs.getD i [])=Gs:=by
  subst hn
  apply List.ext_getElem
  · simp
  · intro i q h2
    simp [List.getD_eq_getElem?_getD,h2]
 rw [h2] at q;exact S.perm q.symm.flatten
end Go.Eng
