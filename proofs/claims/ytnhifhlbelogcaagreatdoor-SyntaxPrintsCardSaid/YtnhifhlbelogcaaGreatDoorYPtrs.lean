/- Lists that are kept: as a field of a thing; given in rows; with those that their owner goes through. -/
import Derived.MapKept
import Derived.Laws.IdiomRangeMap
import Derived.LaidEql
import Derived.ChangeKeysEq
import Derived.Test.YtnhifhlbelogcaaGreatDoorYEng3
import Derived.Below
import Derived.ChangeSame
import Derived.Deep.Slices
import Derived.WideKeyArgs
import Derived.WalkKit
import Derived.ProofKit
import Derived.OpenShut
import Derived.Test.YtnhifhlbelogcaaGreatDoorProg
set_option linter.unusedVariables false
set_option linter.unusedSimpArgs false
namespace Go.Eng
open Go
section
variable {α:Type} {e e':TypeId} {r:Rp α} {A AD:OA} {c cD n:Nat} {LL LD:List (List α)} {G M GD:Grp}
variable {P:Program} {w w0:World} {K:Nat→Prop} {Gs:List Grp}
theorem St.appO {α:Type} {r:Rp α} {L MM LM:List α} {GB:Grp} {B:OA} {d bytes n:Nat} (S:St w0 K w (G::GB::Gs)) {t:TypeId} (hT:Elt P t e r.sz bytes) (hb:(Nat.ble (n * bytes) 140737488355328 && Nat.ble n 140737488355328)=true)
 (h:SlO e r (.slice A L.length c) L G) (hB:SlO e r (.slice B MM.length d) MM GB) (hc:catN n L MM=some LM) :
 ∃ A' c' G' w1,(∀ {N:FN} {l:Fr} {x y:Operand} {dst:Option Tmp} {ty:TypeId} {pos:String} {aft:Array Edge} {g:Option (Nat×Bool)},ev l x=some (.slice A L.length c)→ev l y=some (.slice B MM.length d) →
  GE P N l w ⟨dst,.call { callee:=.builtin .append,args:=#[x,y],argTypes:=#[t,t] },ty,pos,aft,g⟩ (.slice A' LM.length c') w1) ∧
  SlO e r (.slice A' LM.length c') LM G'∧St w0 K w1 (G'::Gs):=by
 obtain ⟨xs,q,C,E,J,rfl⟩:=hB;have D:St w0 K w (G::C::q::Gs):=S.perm (by
  simp only [List.flatten_cons];have e1:G++(q++C++Gs.flatten)=G++(q++(C++Gs.flatten)):=by simp
  rw [e1];exact (List.perm_append_comm_assoc _ _ _).append_left _)
 obtain ⟨hmn,hrd⟩:=E.rd (w:=w) (fun b o hb=>D.grp 2 rfl hb);obtain ⟨A',c',G',w1,hE,hO,O,_⟩:=St.app (P:=P) D hT hb h hrd J rfl hc;exact ⟨A',c',G',w1,hE,hO,(O.perm (Gs':=q::G'::Gs) (by simp only [List.flatten_cons];exact List.perm_append_comm_assoc _ _ _)).drop⟩
end
end Go.Eng
namespace Go.Eng
theorem St.reord {w0 w:World} {K:Nat→Prop} {Gs Gs':List Grp} (S:St w0 K w Gs) (is:List Nat) (n:Nat) (hn:Gs.length=n) (hp:is.isPerm (List.range n)=true) (he:is.map (fun i=>Gs.getD i [])=Gs'):St w0 K w Gs':=by
 subst he;have q:(is.map (fun i=>Gs.getD i [])).Perm ((List.range n).map (fun i=>Gs.getD i [])):=(List.isPerm_iff.1 hp).map _;have C:(List.range n).map (fun i=>Gs.getD i [])=Gs:=by
  subst hn
  apply List.ext_getElem
  · simp
  · intro i q C
    simp [List.getD_eq_getElem?_getD,C]
 rw [C] at q;exact S.perm q.symm.flatten
end Go.Eng
namespace Go.Eng
open Go
section
variable {α:Type} {r:Rp α} {P:Program} {w w0:World} {K:Nat→Prop} {Gs:List Grp} {G Gn Gr:Grp} {e T:TypeId} {A:OA} {c j:Nat} {L:List α} {x:α} {cs:List Value}
def SlH (e:TypeId) (r:Rp α) (A:OA) (c:Nat) (L:List α) (j:Nat) (cs:List Value) (G:Grp):Prop :=
 ∃ b off cur xa xb Ga Gb,A=some ⟨b,off,none⟩∧j < L.length∧L.length≤c∧c≤maxLen∧0 < c∧cs.length=r.sz∧G=[(b,Obj.cells cur e (0,0))]++(Ga++Gb)∧off+c * r.sz≤cur.size∧xa.length=j * r.sz∧(xa++cs++xb).length=L.length * r.sz ∧
  (cur.toList.drop off).take (L.length * r.sz)=xa++cs++xb∧∀ x' cs' Gn',r.own x' cs' Gn'→elemsO r (L.set j x') (xa++cs'++xb) (Ga++Gn'++Gb)
theorem SlO.hole (h:SlO e r (.slice A L.length c) L G) (hj:L[j]? = some x):∃ cs Gn Gr,r.own x cs Gn∧SlH e r A c L j cs Gr∧G.Perm (Gn++Gr):=by
 obtain ⟨xs,D,E,⟨hl,hrow⟩,q,rfl⟩:=h;have hlt:j < L.length:=(List.getElem?_eq_some_iff.1 hj).1;rcases hrow with ⟨A',hv',hz,_⟩|⟨b,off,cap,cur,hv',hpos,rfl,hnc,hcm,hfit,ht⟩
 · omega
 cases hv'
 obtain ⟨xa,cs,xb,Ga,Gn,Gb,rfl,hxa,rfl,hown,hset⟩:=q.at hj;refine ⟨cs,Gn,[(b,Obj.cells cur e (0,0))]++(Ga++Gb),hown,⟨b,off,cur,xa,xb,Ga,Gb,rfl,hlt,hnc,hcm,hpos,r.lenO hown,rfl,hfit,hxa,hl,ht,hset⟩,?_⟩;have C:([(b,Obj.cells cur e (0,0))]++(Ga++Gn++Gb))=([(b,Obj.cells cur e (0,0))]++Ga)++(Gn++Gb):=by simp
 have q:(Gn++([(b,Obj.cells cur e (0,0))]++(Ga++Gb)))=Gn++(([(b,Obj.cells cur e (0,0))]++Ga)++Gb):=by simp
 rw [C,q];exact (List.perm_append_comm_assoc _ _ _)
theorem St.storeH (S:St w0 K w (G::Gs)) (h:SlH e r A c L j cs G) {m:Nat} (hs:sizeT P T=some m) {b off:Nat} (eA:A=some ⟨b,off,none⟩) {v:Value} (ca cm cb:List Value) (q:cs=ca++cm++cb) (hm:v.cells.size=m) (hcm:cm.length=m) (C:v.cells.toList.all Value.oneCell'=true):∃ w1 G',
 (∀ {N:FN} {l:Fr} {p z:Operand} {dst:Option Tmp} {ty:TypeId} {pos:String} {aft:Array Edge} {g:Option (Nat×Bool)},ev l p=some (.pointer (some ⟨b,off+j * r.sz+ca.length,none⟩))→ev l z=some v→GU P N l w ⟨dst,.store T p z,ty,pos,aft,g⟩ w1) ∧
 SlH e r A c L j (ca++v.cells.toList++cb) G'∧St w0 K w1 (G'::Gs):=by
 obtain ⟨b',off',cur,xa,xb,Ga,Gb,e1,hj,hnc,hcx,hpos,hcs,rfl,hfit,hxa,hl,ht,hset⟩:=h;rw [e1] at eA;cases eA;subst q;have E:St w0 K w ([(b,Obj.cells cur e (0,0))]::(Ga++Gb)::Gs):=S.split;have hls:L.length * r.sz≤c * r.sz:=Nat.mul_le_mul_right _ hnc;have hvl:v.cells.toList.length=m:=by rw [Array.length_toList,hm]
 have hsum:ca.length+m+cb.length=r.sz:=by have:=hcs;simp only [List.length_append] at this;omega
 have hxl:xa.length+r.sz+xb.length=L.length * r.sz:=by rw [← hl,← hcs];simp only [List.length_append]
 have hroom:off+j * r.sz+ca.length+v.cells.size≤cur.size:=by omega
 obtain ⟨w1,hU,J⟩:=St.store (P:=P) E 0 T v (off:=off+j * r.sz+ca.length) (cur':=over cur (off+j * r.sz+ca.length) v.cells.toList) rfl (by rw [hm];exact hs) (by simpa [Nat.ble_eq] using hroom) C rfl;have hsz':(over cur (off+j * r.sz+ca.length) v.cells.toList).size=cur.size:=by simp [over];omega
 refine ⟨w1,[(b,Obj.cells (over cur (off+j * r.sz+ca.length) v.cells.toList) e (0,0))]++(Ga++Gb),hU,⟨b,off,over cur (off+j * r.sz+ca.length) v.cells.toList,xa,xb,Ga,Gb,e1,hj,hnc,hcx,hpos,?_,rfl,by rw [hsz'];exact hfit,hxa,?_,?_,hset⟩,St.join J⟩
 · simp only [List.length_append,hvl];omega
 · simp only [List.length_append,hvl];omega
 · have hcl:cur.toList.length=cur.size:=Array.length_toList
   have e1:cur.toList=cur.toList.take off++(xa++(ca++cm++cb)++xb)++cur.toList.drop (off+L.length * r.sz):=by
    have O:=(List.take_append_drop off cur.toList).symm;have D:=(List.take_append_drop (L.length * r.sz) (cur.toList.drop off)).symm;have V:(cur.toList.drop off).take (L.length * r.sz)=xa++(ca++cm++cb)++xb:=ht;rw [V,List.drop_drop] at D;rw [List.append_assoc,← D];exact O
   have hto:(cur.toList.take off).length=off:=by rw [List.length_take];omega
   generalize cur.toList.take off=pa at e1 hto;generalize cur.toList.drop (off+L.length * r.sz)=pz at e1;have X:(over cur (off+j * r.sz+ca.length) v.cells.toList).toList=pa++(xa++(ca++v.cells.toList++cb)++xb)++pz:=by
    simp only [over];rw [e1];have Y:List.take (off+j * r.sz+ca.length) (pa++(xa++(ca++cm++cb)++xb)++pz)=pa++xa++ca:=by
     have:pa++(xa++(ca++cm++cb)++xb)++pz=(pa++xa++ca)++(cm++cb++xb++pz):=by simp
     rw [this];exact List.take_left' (by simp only [List.length_append,hto,hxa])
    have Z:List.drop (off+j * r.sz+ca.length+v.cells.toList.length) (pa++(xa++(ca++cm++cb)++xb)++pz)=cb++xb++pz:=by
     have:pa++(xa++(ca++cm++cb)++xb)++pz=(pa++xa++ca++cm)++(cb++xb++pz):=by simp
     rw [this];exact List.drop_left' (by simp only [List.length_append,hto,hxa,hcm,hvl])
    rw [Y,Z]
    simp
   rw [X,List.append_assoc,List.drop_left' hto];exact List.take_left' (by simp only [List.length_append,hvl];omega)
theorem SlH.shut (h:SlH e r A c L j cs Gr) (ho:r.own x cs Gn):∃ G',SlO e r (.slice A (L.set j x).length c) (L.set j x) G'∧(Gn++Gr).Perm G':=by
 obtain ⟨b',off',cur,xa,xb,Ga,Gb,rfl,hj,hnc,hcm,hpos,hcs,rfl,hfit,hxa,hl,ht,hset⟩:=h;have hE:=hset x cs Gn ho;refine ⟨[(b',Obj.cells cur e (0,0))]++(Ga++Gn++Gb),⟨xa++cs++xb,[(b',Obj.cells cur e (0,0))],Ga++Gn++Gb,⟨hE.len,.inr ⟨b',off',c,cur,by rw [List.length_set],hpos,rfl,by rw [List.length_set];exact hnc,hcm,hfit,by rw [List.length_set];exact ht⟩⟩,hE,rfl⟩,?_⟩;have q:([(b',Obj.cells cur e (0,0))]++(Ga++Gn++Gb))=([(b',Obj.cells cur e (0,0))]++Ga)++(Gn++Gb):=by simp
 have C:(Gn++([(b',Obj.cells cur e (0,0))]++(Ga++Gb)))=Gn++(([(b',Obj.cells cur e (0,0))]++Ga)++Gb):=by simp
 rw [q,C];exact (List.perm_append_comm_assoc _ _ _)
theorem St.focusL (S:St w0 K w (G::Gs)) (h:SlO e r (.slice A L.length c) L G) (hj:L[j]? = some x):∃ cs Gn Gr,r.own x cs Gn∧SlH e r A c L j cs Gr∧St w0 K w (Gn::Gr::Gs):=by
 obtain ⟨cs,Gn,Gr,q,C,D⟩:=h.hole hj;exact ⟨cs,Gn,Gr,q,C,S.perm (by simp only [List.flatten_cons,← List.append_assoc];exact D.append_right _)⟩
theorem St.shutL (S:St w0 K w (Gn::Gr::Gs)) (h:SlH e r A c L j cs Gr) (ho:r.own x cs Gn):∃ G',SlO e r (.slice A (L.set j x).length c) (L.set j x) G'∧St w0 K w (G'::Gs):=by
 obtain ⟨G',q,C⟩:=h.shut ho;exact ⟨G',q,S.perm (by simp only [List.flatten_cons,← List.append_assoc];exact C.append_right _)⟩
end
end Go.Eng
set_option linter.unusedVariables false
namespace Go.Eng
open Go Go.RowKit Go.WideShapes Go.ChangeShapes Go.Deep
section
variable {H:Type} {enc:TypeId×Value→H} {P:Program}
theorem post_below {f:Func} {s:ChangeSpec} {apart fresh handsOn again:Bool} {W W':World} {args:Array Value} {v:Value} {ds gs:List (DataW H)} {before pa pv:List MemPlace}
 (hW:DataW.Whole enc P f.params.toList s.vars apart W args.toList ds gs before)
 (hres:∀ (b:Nat) (sp:Nat→Bool) (hd:Bool),DataW.TrodAll enc P W' b sp hd f.resultTypes.toList (v.resultList f.resultTypes.size) (s.fn H (ds++gs)).results [])
 (hargs:∀ sp:Nat→Bool,(∀ p∈before,sp p.block=true)→DataW.TrodAll enc P W' 0 sp true f.params.toList args.toList (s.fn H (ds++gs)).args pa)
 (hvars:∀ sp:Nat→Bool,(∀ p∈before,sp p.block=true)→DataW.TrodVars enc P W' sp s.vars (s.fn H (ds++gs)).vars pv)
 (hps:before=pa++pv) (hb:Below W.heap.size W W')
 (hok:∀ (j:Nat) (t:TypeId) (r:Value),f.resultTypes[j]? = some t→(v.resultList f.resultTypes.size)[j]? = some r→Value.okWide P W' .any 0 t r) :
 s.post enc P f apart fresh handsOn again W args v W':=by
 have hlt:∀ p∈before,p.block < W.heap.size:=fun p hp=>hW.lt p hp
 have hold:∀ p∈before,(fun b=>decide (b < W.heap.size)) p.block=true:=fun p hp=>by simpa using hlt p hp
 refine ⟨ds,gs,before,[],pa,pv,hW,hres _ _ _,hargs _ hold,hvars _ hold,World.keptBut_mono (fun p hp=>⟨hp,?_⟩) (hb.frame (·∈before)),fun _=>?_⟩
 · rw [hps,List.mem_append] at hp
   exact Or.inr hp
 · obtain ⟨_,_,_,_,_,hz,hn⟩:=hW
   refine ⟨hok,_,_,([]++pa)++pv,⟨[]++pa,pv,trodAll_append (hargs _ (fun _ _=>rfl)) (hres _ _ _),hvars _ (fun _ _=>rfl),rfl,?_,?_⟩,?_⟩
   · intro b off hp
     have hin:MemPlace.cell b off∈before:=by rw [hps];simpa using hp
     rw [hb.frozen (hlt _ hin)];exact hz b off hin
   · intro ha
     have:=hn ha;rw [hps] at this
     simpa using this
   · intro p hp _
     rw [hps]
     simpa using hp
theorem args_below (hl:laidOutB P=true) {W W':World} (hb:Below W.heap.size W W'):∀ {ts:List TypeId} {vs:List Value} {ds:List (DataW H)} {ps:List MemPlace},
 ts.all (fun t=>P.readableRec t && decide (t < P.types.size))=true→DataW.TrodAll enc P W 0 (fun _=>true) true ts vs ds ps→(∀ x∈ps,x.block < W.heap.size) →
 ∀ sp:Nat→Bool,(∀ x∈ps,sp x.block=true)→DataW.TrodAll enc P W' 0 sp true ts vs ds ps
 | [],vs,ds,ps,_,h,_,sp,_=>by
  obtain ⟨rfl,rfl,rfl⟩:=trodAll_nil h;exact trodAll_mk0
 | t::ts,vs,ds,ps,ht,h,hlt,sp,hsp=>by
  obtain ⟨v,D,d,E,a,b,rfl,rfl,rfl,q,C⟩:=trodAll_cons h;simp only [List.all_cons,Bool.and_eq_true,decide_eq_true_eq] at ht;obtain ⟨⟨hr,hrow⟩,hts⟩:=ht;refine ⟨a,b,?_,args_below hl hb (by simpa using hts) C (fun x hx=>hlt x (by simp [hx])) sp (fun x hx=>hsp x (by simp [hx])),rfl⟩;exact WideElems.Trod_stays hl hr hrow q (fun x hx=>hb.same (hlt x (by simp [hx]))) (fun x hx=>hsp x (by simp [hx]))
end
end Go.Eng
set_option linter.unusedVariables false
namespace Go.Eng
open Go
section
variable {P:Program} {N:FN} {l:Fr} {w:World} {dst:Option Tmp} {ty:TypeId} {pos:String} {aft:Array Edge} {g:Option (Nat×Bool)} {T:TypeId} {x:Operand} {v u:Value} {fs:Array Field}
theorem G.mkif (hu:P.underlying T=some (.struct fs)) (hx:ev l x=some v):GP P N l ⟨dst,.makeInterface T x,ty,pos,aft,g⟩ (.iface T v):=fun w a ha=>by
 have hr:(Instr.makeInterface T v).run P w = .ok (.iface T v) w:=by unfold Instr.makeInterface;simp [go_sem,run_underlying hu]
 unfold execOp;simp only [ha.ev hx,Sem.run_bind,hr,Result.andThen_ok,Sem.run_pure]
variable {n d i f:Nat} {fn:Func} {R:Ending→World→Prop} {t s:Tmp} {ops:Array Oper} {Q:Exit→Act→World→Prop} {S:World→Prop} {o:Ord} {es:List En} {W:List Nat} {op:Op} {xs:List Operand} {vs:List Value} {ts:Array TypeId}
theorem WLv.ret2 (hres:fn.results = #[.tmp t,.tmp s]) (hv:look l t=some v) (hx:look l s=some u) (h:R (.returned (.tuple #[v,u])) w):WLv P n fn R [] .returning l w :=
 WLv.ret (fun N a ha=>by rw [results_tmp2 hres,ha.get hv,ha.get hx]) h
theorem calls_uponp {o:Oper} {a:Act} {K:Act→World→Prop} (h:Calls P f vs.toArray w fun e w'=>(∃ v,e = .returned v∧K (a.put o.dst v) w')∨∃ c,e = .panicked c∧Q (.panic c) a w'):o.upon P a K Q (.ok (.enter f vs.toArray) w):=by
 show Calls P f vs.toArray w _
 refine h.mono ?_;rintro e w' (⟨v,rfl,hk⟩|⟨c,rfl,hk⟩)
 · exact hk
 · exact hk
theorem WH.callp (hi:ops[i]? = some ⟨some d,.call { callee:=.value (.func f),args:=xs.toArray,argTypes:=ts },ty,pos,aft,g⟩)
 (hw:Wants N ops l ⟨some d,.call { callee:=.value (.func f),args:=xs.toArray,argTypes:=ts },ty,pos,aft,g⟩) (hf:Callable P f) (hargs:evs l xs vs) (hd:Nat.blt d N.n=true)
 (h:Calls P f vs.toArray w fun e w'=>(∃ v,e = .returned v∧S w'∧WH P N ops Q S o ((d,v)::l) w')∨∃ c,e = .panicked c∧WEx N Q (.panic c) l w'):WH P N ops Q S (.one i 2 o) l w:=fun a ha =>
 ⟨_,hi,by
  rw [if_pos (hw a ha)]
  show Oper.wp _ _ _ _ _ _
  unfold Oper.wp;rw [exec_call hf hargs ha];refine calls_uponp (h.mono ?_);rintro e w' (⟨v,rfl,hS,hk⟩|⟨c,rfl,hk⟩)
  · exact .inl ⟨v,rfl,hS,hk _ (ha.put hd v)⟩
  · exact .inr ⟨c,rfl,hk a ha⟩⟩
def fldOne (P:Program) (S:TypeId) (f:Nat):Option Nat :=
 match P.underlying S with
 | some (.struct fs)=>match fs[f]? with
  | some fd=>if isOneT P fd.type then some fd.offset else none
  | none=>none
 | _=>none
theorem G.fieldv {S:TypeId} {f off:Nat} {cs:Array Value} (hf:fldOne P S f=some off) (hx:ev l x=some (.agg cs)) (hv:cs[off]? = some v):GP P N l ⟨dst,.field S x f,ty,pos,aft,g⟩ v:=fun w a ha=>by
 unfold fldOne at hf
 split at hf
 · rename_i fs hS
   split at hf
   · rename_i fd hfd
     split at hf
     · rename_i q
       cases hf
       have hr:(Instr.field S (.agg cs) f).run P w = .ok v w:=by
        unfold Instr.field
        simp [go_sem,run_underlying hS,hfd,part,isOne_run q,hv,asAgg]
       unfold execOp;simp only [ha.ev hx,Sem.run_bind,hr,Result.andThen_ok,Sem.run_pure]
     · cases hf
   · cases hf
 · cases hf
theorem exec_pan {T:TypeId} {u:Value} (hx:ev l x=some (.iface T u)):∀ a,Has N l a→(execOp a.eval ⟨dst,.panic x,ty,pos,aft,none⟩).run P w = .halt (.panic (.iface T u)) w:=fun a ha=>by
 unfold execOp;simp only [ha.ev hx,Sem.run_bind,Instr.panic]
 rfl
end
end Go.Eng
namespace Go.Proofs.YtnhifhlbelogcaaGreatDoor
open Go Go.Eng
structure Tree where
 Kind:Int
 Name:By
 Number:Int
 At:Int
 Kids:List Tree
section
variable {w w':World} {F F':Nat→Prop} {α:Type} {e:TypeId} {k:Nat}
def Tree.no:Rp Tree where
 sz:=5
 rd:=fun _ _ _ _=>False
 own:=fun _ _ _=>False
 len:=fun h=>h.elim
 one:=fun h=>h.elim
 lenO:=fun h=>h.elim
 oneO:=fun h=>h.elim
 ext:=fun h _=>h
 mono:=fun h _=>h
 low:=fun h _=>h.elim
theorem elems.imp {r r':Rp α} (h:∀ x cs,r.rd w F x cs→r'.rd w F x cs):∀ {L:List α} {xs:List Value},elems r w F L xs→elems r' w F L xs
 | [],_,q=>q
 | x::L,_,⟨cs,ys,e1,q,C⟩=>⟨cs,ys,e1,h x cs q,elems.imp h C⟩
theorem elemsO.imp {r r':Rp α} (h:∀ x cs G,r.own x cs G→r'.own x cs G):∀ {L:List α} {xs:List Value} {G:Grp},elemsO r L xs G→elemsO r' L xs G
 | [],_,_,q=>q
 | x::L,_,_,⟨cs,ys,C,D,e1,E,q,J⟩=>⟨cs,ys,C,D,e1,E,h x cs C q,elemsO.imp h J⟩
theorem SlR.imp {r r':Rp α} {A:OA} {c:Nat} {L:List α} (h:∀ x cs,r.rd w F x cs→r'.rd w F x cs) (q:SlR r w F A c L):SlR r' w F A c L:=by
 obtain ⟨C,k2,xs,D,E⟩:=q;exact ⟨C,k2,xs,elems.imp h D,E⟩
theorem SlO.imp {r r':Rp α} {v:Value} {L:List α} {G:Grp} (hs:r.sz=r'.sz) (h:∀ x cs G,r.own x cs G→r'.own x cs G) (q:SlO e r v L G):SlO e r' v L G:=by
 obtain ⟨xs,C,D,E,k2,J⟩:=q;exact ⟨xs,C,D,hs ▸ E,elemsO.imp h k2,J⟩
def Tree.nodeK (k:Nat) (r:Rp Tree):Rp Tree where
 sz:=5
 rd:=fun w F x cs=>∃ q:OA,∃ c1:Nat,cs=[.int .i64 x.Kind,.string (bs x.Name),.int .i64 x.Number,.int .i64 x.At,.slice q ((x.Kids).length - k) c1]∧SlR r w F q c1 (x.Kids)
 own:=fun x cs G=>∃ q:OA,∃ c1:Nat,∃ D:Grp,cs=[.int .i64 x.Kind,.string (bs x.Name),.int .i64 x.Number,.int .i64 x.At,.slice q ((x.Kids).length - k) c1]∧SlO 29 r (.slice q (x.Kids).length c1) (x.Kids) D∧G=D
 len:=by rintro _ _ _ _ ⟨_,_,rfl,_⟩;rfl
 one:=by rintro _ _ _ _ ⟨_,_,rfl,_⟩;exact one_of_all rfl
 lenO:=by rintro _ _ _ ⟨_,_,_,rfl,_⟩;rfl
 oneO:=by rintro _ _ _ ⟨_,_,_,rfl,_⟩;exact one_of_all rfl
 ext:=by rintro _ _ _ _ _ ⟨q,c1,rfl,C⟩ hE;exact ⟨q,c1,rfl,C.ext hE⟩
 mono:=by rintro _ _ _ _ _ ⟨q,c1,rfl,C⟩ hF;exact ⟨q,c1,rfl,C.mono hF⟩
 low:=by
  rintro w x cs G ⟨q,c1,D,rfl,C,rfl⟩ hG;exact ⟨q,c1,rfl,C.rd hG⟩
def Tree.tpN (k:Nat):Nat→Rp Tree
 | 0=>Tree.no
 | n+1=>Tree.nodeK k (Tree.tpN k n)
theorem Tree.tpN_sz:∀ n,(Tree.tpN k n).sz=5
 | 0=>rfl
 | n+1=>rfl
theorem Tree.td_succ:∀ (n:Nat) (x:Tree) (cs:List Value),(Tree.tpN k n).rd w F x cs→(Tree.tpN k (n+1)).rd w F x cs
 | 0,_,_,h=>h.elim
 | n+1,x,cs,⟨q,c1,e1,C⟩=>⟨q,c1,e1,SlR.imp (Tree.td_succ n) C⟩
theorem Tree.to_succ:∀ (n:Nat) (x:Tree) (cs:List Value) (G:Grp),(Tree.tpN k n).own x cs G→(Tree.tpN k (n+1)).own x cs G
 | 0,_,_,_,h=>h.elim
 | n+1,x,cs,G,⟨q,c1,C,e1,D,E⟩=>⟨q,c1,C,e1,SlO.imp ((Tree.tpN_sz n).trans (Tree.tpN_sz (n+1)).symm) (Tree.to_succ n) D,E⟩
theorem Tree.td_le {n m:Nat} (h:n≤m) {x:Tree} {cs:List Value} (q:(Tree.tpN k n).rd w F x cs):(Tree.tpN k m).rd w F x cs:=by
 induction h with
 | refl=>exact q
 | step _ ih=>exact Tree.td_succ _ _ _ ih
theorem Tree.to_le {n m:Nat} (h:n≤m) {x:Tree} {cs:List Value} {G:Grp} (q:(Tree.tpN k n).own x cs G):(Tree.tpN k m).own x cs G:=by
 induction h with
 | refl=>exact q
 | step _ ih=>exact Tree.to_succ _ _ _ _ ih
def Tree.tp (k:Nat):Rp Tree where
 sz:=5
 rd:=fun w F x cs=>∃ n,(Tree.tpN k n).rd w F x cs
 own:=fun x cs G=>∃ n,(Tree.tpN k n).own x cs G
 len:=by rintro _ _ _ _ ⟨n,h⟩;exact ((Tree.tpN k n).len h).trans (Tree.tpN_sz n)
 one:=by rintro _ _ _ _ ⟨n,h⟩;exact (Tree.tpN k n).one h
 lenO:=by rintro _ _ _ ⟨n,h⟩;exact ((Tree.tpN k n).lenO h).trans (Tree.tpN_sz n)
 oneO:=by rintro _ _ _ ⟨n,h⟩;exact (Tree.tpN k n).oneO h
 ext:=by rintro _ _ _ _ _ ⟨n,h⟩ hE;exact ⟨n,(Tree.tpN k n).ext h hE⟩
 mono:=by rintro _ _ _ _ _ ⟨n,h⟩ hF;exact ⟨n,(Tree.tpN k n).mono h hF⟩
 low:=by rintro _ _ _ _ ⟨n,h⟩ hG;exact ⟨n,(Tree.tpN k n).low h hG⟩
theorem Tree.els_ex:∀ {L:List Tree} {xs:List Value},elems (Tree.tp k) w F L xs→∃ n,elems (Tree.tpN k n) w F L xs
 | [],_,h=>⟨0,h⟩
 | x::L,_,⟨cs,ys,e1,⟨n,q⟩,C⟩=>by
  obtain ⟨m,D⟩:=Tree.els_ex C;exact ⟨max n m,cs,ys,e1,Tree.td_le (Nat.le_max_left _ _) q,elems.imp (fun _ _ h=>Tree.td_le (Nat.le_max_right _ _) h) D⟩
theorem Tree.elsO_ex:∀ {L:List Tree} {xs:List Value} {G:Grp},elemsO (Tree.tp k) L xs G→∃ n,elemsO (Tree.tpN k n) L xs G
 | [],_,_,h=>⟨0,h⟩
 | x::L,_,_,⟨cs,ys,q,C,e1,D,⟨n,E⟩,J⟩=>by
  obtain ⟨m,O⟩:=Tree.elsO_ex J;exact ⟨max n m,cs,ys,q,C,e1,D,Tree.to_le (Nat.le_max_left _ _) E,elemsO.imp (fun _ _ _ h=>Tree.to_le (Nat.le_max_right _ _) h) O⟩
theorem Tree.td_iff {x:Tree} {cs:List Value}:(Tree.tp k).rd w F x cs ↔ ∃ q:OA,∃ c1:Nat,cs=[.int .i64 x.Kind,.string (bs x.Name),.int .i64 x.Number,.int .i64 x.At,.slice q ((x.Kids).length - k) c1]∧SlR (Tree.tp k) w F q c1 (x.Kids):=by
 constructor
 · rintro ⟨n,h⟩
   cases n with
   | zero=>exact h.elim
   | succ n =>
    obtain ⟨q,c1,e1,C⟩:=h;exact ⟨q,c1,e1,SlR.imp (fun _ _ h=>⟨n,h⟩) C⟩
 · rintro ⟨q,c1,e1,D,k2,xs,E,J⟩
   obtain ⟨n,h⟩:=Tree.els_ex E;exact ⟨n+1,q,c1,e1,D,k2,xs,h,J⟩
theorem Tree.to_iff {x:Tree} {cs:List Value} {G:Grp}:(Tree.tp k).own x cs G ↔ ∃ q:OA,∃ c1:Nat,∃ C:Grp,cs=[.int .i64 x.Kind,.string (bs x.Name),.int .i64 x.Number,.int .i64 x.At,.slice q ((x.Kids).length - k) c1]∧SlO 29 (Tree.tp k) (.slice q (x.Kids).length c1) (x.Kids) C∧G=C:=by
 constructor
 · rintro ⟨n,h⟩
   cases n with
   | zero=>exact h.elim
   | succ n =>
    obtain ⟨q,c1,C,e1,E,D⟩:=h;exact ⟨q,c1,C,e1,SlO.imp (Tree.tpN_sz n) (fun _ _ _ h=>⟨n,h⟩) E,D⟩
 · rintro ⟨q,c1,C,e1,⟨xs,J,O,V,k2,X⟩,D⟩
   obtain ⟨n,h⟩:=Tree.elsO_ex k2;exact ⟨n+1,q,c1,C,e1,⟨xs,J,O,(Tree.tpN_sz n).symm ▸ V,h,X⟩,D⟩
def Tree.rp:Rp Tree:=Tree.tp 0
theorem Tree.rd_iff {x:Tree} {cs:List Value}:Tree.rp.rd w F x cs ↔ ∃ q:OA,∃ c1:Nat,cs=[.int .i64 x.Kind,.string (bs x.Name),.int .i64 x.Number,.int .i64 x.At,.slice q (x.Kids).length c1]∧SlR Tree.rp w F q c1 (x.Kids):=Tree.td_iff
theorem Tree.own_iff {x:Tree} {cs:List Value} {G:Grp}:Tree.rp.own x cs G ↔ ∃ q:OA,∃ c1:Nat,∃ C:Grp,cs=[.int .i64 x.Kind,.string (bs x.Name),.int .i64 x.Number,.int .i64 x.At,.slice q (x.Kids).length c1]∧SlO 29 Tree.rp (.slice q (x.Kids).length c1) (x.Kids) C∧G=C:=Tree.to_iff
end
def endP:OV→Value→Ending
 | none,v=>.returned v
 | some x,_=>.panicked [{ v:=x,recovered:=false }]
theorem endP_some {o:OV} (h:o.isSome=true):∃ x,∀ v,endP o v = .panicked [{ v:=x,recovered:=false }]:=by
 obtain ⟨x,rfl⟩:=Option.isSome_iff_exists.1 h;exact ⟨_,fun _=>rfl⟩
theorem endP_none {o:OV} (h:¬ o.isSome=true) (v:Value):endP o v = .returned v:=by
 cases o with
 | none=>rfl
 | some x=>exact absurd rfl h
end Go.Proofs.YtnhifhlbelogcaaGreatDoor
set_option linter.unusedVariables false
namespace Go.Proofs.YtnhifhlbelogcaaGreatDoor
open Go Go.Eng
section
variable {w w':World} {F F':Nat→Prop} {A:OA} {c:Nat} {r r':Rp Tree}
abbrev Tree.lp:Rp Tree:=Tree.tp 2
def m7:Tree:=⟨-7,[],0,0,[]⟩
mutual
def fl:Tree→Tree
 | ⟨K,nm,x,a,l⟩=>⟨K,nm,x,a,flL l⟩
def flL:List Tree→List Tree
 | []=>[m7,m7]
 | t::l=>fl t::flL l
end
theorem fl_eq (t:Tree):fl t=⟨t.Kind,t.Name,t.Number,t.At,flL t.Kids⟩:=by
 cases t
 rw [fl]
theorem flL_eq:∀ l:List Tree,flL l=l.map fl++[m7,m7]
 | []=>by rw [flL];rfl
 | t::l=>by rw [flL,flL_eq l];rfl
theorem flL_len (l:List Tree):(flL l).length=l.length+2:=by rw [flL_eq,List.length_append,List.length_map];rfl
theorem flL_at {l:List Tree} {j:Nat} {x:Tree} (h:l[j]? = some x):(flL l)[j]? = some (fl x):=by
 rw [flL_eq,List.getElem?_append_left (by rw [List.length_map];exact (List.getElem?_eq_some_iff.1 h).1),List.getElem?_map,h]
 rfl
theorem flL_m {l:List Tree} {j:Nat} (h:l.length≤j) (C:j < l.length+2):(flL l)[j]? = some m7:=by
 rw [flL_eq,List.getElem?_append_right (by rw [List.length_map];exact h),List.length_map];obtain q | q:j - l.length=0∨j - l.length=1:=by omega
 · rw [q];rfl
 · rw [q];rfl
theorem lp_fl {x:Tree} {cs:List Value} (h:Tree.lp.rd w F (fl x) cs):∃ q:OA,∃ c1:Nat,cs=[.int .i64 x.Kind,.string (bs x.Name),.int .i64 x.Number,.int .i64 x.At,.slice q (x.Kids).length c1]∧SlR Tree.lp w F q c1 (flL x.Kids):=by
 obtain ⟨A,c,e,h⟩:=Tree.td_iff.1 h;rw [fl_eq] at e h;rw [flL_len] at e;exact ⟨A,c,e,h⟩
theorem lpo_fl {x:Tree} {cs:List Value} {q:OA} {c1:Nat} {G:Grp} (e:cs=[.int .i64 x.Kind,.string (bs x.Name),.int .i64 x.Number,.int .i64 x.At,.slice q (x.Kids).length c1]) (h:SlO 29 Tree.lp (.slice q (flL x.Kids).length c1) (flL x.Kids) G):Tree.lp.own (fl x) cs G:=by
 rw [fl_eq];refine Tree.to_iff.2 ⟨q,c1,G,?_,h,rfl⟩;rw [flL_len];exact e
theorem elems.swap:∀ {L:List Tree} {xa cs xb:List Value} {j:Nat} {x:Tree} {cs':List Value},elems r w F L (xa++cs++xb)→xa.length=j * r.sz→cs.length=r.sz→r.rd w F x cs'→elems r w F (L.set j x) (xa++cs'++xb)
 | [],xa,cs,xb,j,x,cs',h,J,C,D=>by
  have q:xa++cs++xb=[]:=h
  simp at q
  obtain ⟨rfl,rfl,rfl⟩:=q;have E:=r.len D;have:cs'=[]:=by rw [← List.length_eq_zero_iff,E,← C];rfl
  subst this;exact h
 | y::L,xa,cs,xb,0,x,cs',⟨cy,ys,e1,q,E⟩,J,C,D=>by
  have:xa=[]:=by rw [← List.length_eq_zero_iff,J,Nat.zero_mul]
  subst this;obtain ⟨rfl,rfl⟩:=List.append_inj (s₁:=cs) (t₁:=xb) e1 (by rw [C,r.len q]);exact ⟨cs',xb,rfl,D,E⟩
 | y::L,xa,cs,xb,j+1,x,cs',⟨cy,ys,e1,q,E⟩,J,C,D=>by
  have Z:xa.length=cy.length+j * r.sz:=by rw [J,r.len q,Nat.succ_mul,Nat.add_comm]
  have V:xa.take cy.length=cy:=by
   have:=congrArg (List.take cy.length) e1;rw [List.take_left,List.append_assoc,List.take_append_of_le_length (by omega)] at this;exact this
  have O:=List.take_append_drop cy.length xa;rw [V] at O;have X:xa.drop cy.length++cs++xb=ys:=by
   rw [← O,List.append_assoc,List.append_assoc] at e1;rw [List.append_assoc];exact List.append_cancel_left e1
  have Y:=elems.swap (L:=L) (xa:=xa.drop cy.length) (j:=j) (x:=x) (X ▸ E) (by rw [List.length_drop];omega) C D;refine ⟨cy,xa.drop cy.length++cs'++xb,?_,q,Y⟩;rw [← List.append_assoc,← List.append_assoc,O]
theorem elems.fl (hi:∀ t cs,r.rd w F (fl t) cs→r'.rd w F t cs):∀ {l:List Tree} {xs:List Value},elems r w F (flL l) xs→∃ ys zs,xs=ys++zs∧elems r' w F l ys
 | [],xs,h=>⟨[],xs,rfl,rfl⟩
 | t::l,xs,h=>by
  rw [flL] at h;obtain ⟨cs,ys,rfl,C,D⟩:=h;obtain ⟨q,E,rfl,J⟩:=elems.fl hi D;exact ⟨cs++q,E,(List.append_assoc ..).symm,cs,q,rfl,hi t cs C,J⟩
theorem cellsAt.pre {b off:Nat} {ys zs:List Value} (h:cellsAt w b off (ys++zs)):cellsAt w b off ys:=fun j v hj=>h j v (by rw [List.getElem?_append_left (List.getElem?_eq_some_iff.1 hj).1];exact hj)
theorem SlR.fl (hi:∀ t cs,r.rd w F (fl t) cs→r'.rd w F t cs) {l:List Tree} (h:SlR r w F A c (flL l)):SlR r' w F A c l:=by
 obtain ⟨C,D,xs,E,q⟩:=h;rw [flL_len] at C q;obtain ⟨ys,zs,rfl,J⟩:=elems.fl hi E;exact ⟨by omega,D,ys,J,fun _=>by
  obtain ⟨b,off,e,hF,hc⟩:=q (by omega);exact ⟨b,off,e,hF,cellsAt.pre hc⟩⟩
theorem fl_rdN:∀ (n:Nat) (t:Tree) (cs:List Value),(Tree.tpN 2 n).rd w F (fl t) cs→Tree.rp.rd w F t cs
 | 0,_,_,h=>h.elim
 | n+1,t,cs,⟨A,c,e,h⟩=>by
  rw [fl_eq] at e h;rw [flL_len] at e;exact Tree.rd_iff.2 ⟨A,c,e,SlR.fl (fl_rdN n) h⟩
theorem SlR.flp {l:List Tree} (h:SlR Tree.lp w F A c (flL l)):SlR Tree.rp w F A c l:=SlR.fl (fun t cs h=>by obtain ⟨n,h⟩:=h;exact fl_rdN n t cs h) h
theorem St.putL {P:Program} {w0:World} {K:Nat→Prop} {Gn G:Grp} {Gs:List Grp} {e T:TypeId} {L:List Tree} {j:Nat} {x:Tree} {v:Value} (S:St w0 K w (Gn::G::Gs)) (h:SlO e r (.slice A L.length c) L G) (hj:j < L.length) (hx:r.own x v.cells.toList Gn) (hs:sizeT P T=some r.sz):∃ b off w1 G',A=some ⟨b,off,none⟩ ∧
 (∀ {N:FN} {l:Fr} {p z:Operand} {dst:Option Tmp} {ty:TypeId} {pos:String} {aft:Array Edge} {g:Option (Nat×Bool)},ev l p=some (.pointer (some ⟨b,off+j * r.sz,none⟩))→ev l z=some v→GU P N l w ⟨dst,.store T p z,ty,pos,aft,g⟩ w1) ∧
 SlO e r (.slice A (L.set j x).length c) (L.set j x) G'∧St w0 K w1 (G'::Gs):=by
 have C:St w0 K w (G::Gn::Gs):=S.perm (by simp only [List.flatten_cons,← List.append_assoc];exact List.perm_append_comm.append_right _);obtain ⟨cs,Go,Gr,ho,hH,D⟩:=St.focusL C h (List.getElem?_eq_getElem hj);have hH':=hH;obtain ⟨b,off,_,_,_,_,_,eA,_⟩:=hH';have hl:=r.lenO hx;rw [Array.length_toList] at hl;obtain ⟨w1,E,hU,q,J⟩:=St.storeH (P:=P) (T:=T) D.drop hH hs eA (v:=v) [] cs [] (by simp) hl (r.lenO ho) (List.all_eq_true.2 (r.oneO hx));rw [List.nil_append,List.append_nil] at q;have O:St w0 K w1 (Gn::E::Gs):=J.perm (by simp only [List.flatten_cons,← List.append_assoc];exact List.perm_append_comm.append_right _);obtain ⟨G',V,X⟩:=St.shutL O q hx;exact ⟨b,off,w1,G',eA,hU,V,X⟩
theorem set_self {α:Type} {L:List α} {j:Nat} {y:α} (h:L[j]? = some y):L.set j y=L:=List.ext_getElem? fun i=>by
 rw [List.getElem?_set]
 split
 · rename_i e;subst e;rw [h];split
   · rfl
   · rename_i e;rw [List.getElem?_eq_none (by omega)] at h;cases h
 · rfl
theorem St.mixL {P:Program} {w0:World} {As:List Grp} {G:Grp} {Gs:List Grp} {T:TypeId} {l:List Tree} {j:Nat} {x:Tree} {v:Value} (S:St w0 (KS As) w (G::Gs)) (h:SlO 29 Tree.lp (.slice A (flL l).length c) (flL l) G) (hj:j < l.length) (hx:Tree.rp.rd w0 F x v.cells.toList) (hF:∀ b,F b→NK w0 As b) (hs:sizeT P T=some 5):∃ b off w1 G',A=some ⟨b,off,none⟩ ∧
 (∀ {N:FN} {l:Fr} {p z:Operand} {dst:Option Tmp} {ty:TypeId} {pos:String} {aft:Array Edge} {g:Option (Nat×Bool)},ev l p=some (.pointer (some ⟨b,off+j * 5,none⟩))→ev l z=some v→GU P N l w ⟨dst,.store T p z,ty,pos,aft,g⟩ w1) ∧
 SlR Tree.rp w1 (fun b=>b∈keys G'∨F b) A c (l.set j x)∧St w0 (KS As) w1 (G'::Gs):=by
 have hy:=flL_at (List.getElem?_eq_getElem hj);obtain ⟨cs,Gn,Gr,ho,hH,X⟩:=St.focusL S h hy;have Y:St w0 (KS As) w (Gr::Gn::Gs):=X.perm (by simp only [List.flatten_cons,← List.append_assoc];exact List.perm_append_comm.append_right _);have hH':=hH;obtain ⟨b,off,_,_,_,_,_,eA,_⟩:=hH';have hl:=Tree.rp.len hx;have hl':v.cells.size=5:=by rw [Array.length_toList] at hl;exact hl
 obtain ⟨w1,ad,hU,q,D⟩:=St.storeH (P:=P) (T:=T) Y hH hs eA (v:=v) [] cs [] (by simp) hl' (Tree.lp.lenO ho) (List.all_eq_true.2 (Tree.rp.one hx));rw [List.nil_append,List.append_nil] at q;obtain ⟨b',off',cur,xa,xb,Ga,Gb,eA',hj',hlc,hcm,hpos,hcs,rfl,hfit,hxa,hlen,ht,hset⟩:=q;have hE:=hset _ cs Gn ho;rw [set_self hy] at hE;have C:=D.join;have hG:∀ b o,(b,o)∈Ga++Gn++Gb→w1.heap[b]? = some o:=fun b o hb=>C.grp 0 rfl (by simp at hb ⊢;rcases hb with hb | hb | hb <;> simp [hb])
 have Z:=elems.mono (F':=fun b=>b∈keys ([(b',Obj.cells cur 29 (0,0))]++(Ga++Gb)++Gn)∨F b) (fun b hb=>.inl (by simp only [keys_append,List.mem_append] at hb ⊢;rcases hb with (hb | hb) | hb <;> simp [hb])) (elemsO.low hE hG);obtain ⟨ys,zs,e1,E⟩:=elems.fl (fun t cs h=>by obtain ⟨n,h⟩:=h;exact fl_rdN n t cs h) Z;have hys:=E.len;have hcl:=Tree.lp.lenO ho;have e5:(Tree.rp).sz=5:=rfl;have aa:(Tree.lp).sz=5:=rfl;rw [e5] at hys;rw [aa] at hxa hcl;have hle:(xa++cs).length≤ys.length:=by rw [List.length_append];omega
 have J:=congrArg (List.take (xa++cs).length) e1;have O:=congrArg (List.drop (xa++cs).length) e1;rw [List.take_left,List.take_append_of_le_length hle] at J;rw [List.drop_left,List.drop_append_of_le_length hle] at O;have V:=List.take_append_drop (xa++cs).length ys;rw [← J] at V;have ab:=elems.swap (x:=x) (V.symm ▸ E) hxa hcl (Tree.rp.mono (Tree.rp.ext hx (D.keepF hF)) fun b hb=>.inr hb);have hb:=C.grp 0 rfl (List.mem_append_left _ (List.mem_append_left _ (List.mem_singleton.2 rfl)));have hc:=cellsAt.of_blk hb (by rw [hlen];exact ht);rw [O,← List.append_assoc] at hc;rw [flL_len] at hlc;exact ⟨b,off,w1,_,eA,hU,⟨by rw [List.length_set];omega,hcm,_,ab,fun _=>⟨b',off',eA',.inl (by simp [keys]),cellsAt.pre hc⟩⟩,C⟩
mutual
def wt:Tree→Nat
 | ⟨_,nm,_,_,l⟩=>nm.length+500+wtL l
def wtL:List Tree→Nat
 | []=>0
 | t::l=>wt t+wtL l
end
theorem wtL_len (l:List Tree):l.length≤wtL l:=by
 induction l with
 | nil=>exact Nat.zero_le _
 | cons t l ih=>cases t;rw [wtL,wt,List.length_cons];omega
theorem wtL_mem:∀ {l:List Tree} {j:Nat} {x:Tree},l[j]? = some x→wt x≤wtL l
 | [],_,_,h=>nomatch h
 | y::l,0,x,h=>by cases h;rw [wtL];omega
 | y::l,j+1,x,h=>by have:=wtL_mem (l:=l) (j:=j) (x:=x) h;rw [wtL];omega
theorem wt_eq (t:Tree):wt t=t.Name.length+500+wtL t.Kids:=by cases t;rw [wt]
end
end Go.Proofs.YtnhifhlbelogcaaGreatDoor
set_option linter.unusedVariables false
namespace Go.Proofs.YtnhifhlbelogcaaGreatDoor
open Go Go.Eng
noncomputable abbrev TP:=Tryz.prog
abbrev I (x:Int):Value:=.int .i64 x
abbrev Pt (b:Nat):Value:=.pointer (some ⟨b,0,none⟩)
abbrev B (b:Nat) (cs:Array Value) (t:TypeId):Grp:=[(b,.cells cs t (0,0))]
abbrev tg (k:Int) (s:By) (n a:Int) (v:Value):Array Value:=#[.int .i64 k,.string (bs s),.int .i64 n,.int .i64 a,v]
abbrev tz:Array Value:=#[.int .i64 0,.string (bs []),.int .i64 0,.int .i64 0,.slice none 0 0]
abbrev tzl:List Value:=[.int .i64 0,.string (bs []),.int .i64 0,.int .i64 0,.slice none 0 0]
abbrev ta (t:Tree) (A:OA) (c:Nat):Array Value:=#[.int .i64 t.Kind,.string (bs t.Name),.int .i64 t.Number,.int .i64 t.At,.slice A t.Kids.length c]
abbrev tl (t:Tree) (A:OA) (c:Nat):List Value:=[.int .i64 t.Kind,.string (bs t.Name),.int .i64 t.Number,.int .i64 t.At,.slice A t.Kids.length c]
abbrev zs (L:List By):Array Value:=(L.map fun s=>Value.string (bs s)).toArray
def zv (L:List By):List (Nat×Value):=L.mapIdx fun i s=>(i,Value.string (bs s))
section
variable {P:Program} {N:FN} {Q:Exit→Act→World→Prop} {l:Fr} {w:World} {rest:List Oper} {ops:Array Oper} {d:Nat} {op:Op} {ty:TypeId} {pos:String} {aft:Array Edge}
theorem wof {j:Nat} {b q t:Bool} (hv:((ops[j]?).bind (·.dst)).bind (Go.Eng.look l)=some (.bool q)) (e:q=t) (hd:(t == b || !Nat.blt d N.n)=false) (h:WOps P N ops Q rest ((d,undef)::l) w):WOps P N ops Q (⟨some d,op,ty,pos,aft,some (j,b)⟩::rest) l w:=by
 subst e;obtain ⟨dj,C,D⟩:=Option.bind_eq_some_iff.1 hv;rw [Bool.or_eq_false_iff] at hd;exact WOps.off C D hd.1 (by simpa using hd.2) h
theorem won {j:Nat} {b q:Bool} (hv:((ops[j]?).bind (·.dst)).bind (Go.Eng.look l)=some (.bool q)) (e:q=b) (h:WOps P N ops Q (⟨some d,op,ty,pos,aft,none⟩::rest) l w):WOps P N ops Q (⟨some d,op,ty,pos,aft,some (j,b)⟩::rest) l w:=by
 subst e;obtain ⟨dj,C,D⟩:=Option.bind_eq_some_iff.1 hv;exact WOps.on C D h
theorem mv {x:Operand} {v:Value} (h:cond (Nat.blt d N.n) (ev l x) none=some v) (k:WOps P N ops Q rest ((d,v)::l) w):WOps P N ops Q (⟨some d,.move x,ty,pos,aft,none⟩::rest) l w:=by
 cases hd:Nat.blt d N.n with
 | false=>rw [hd] at h;cases h
 | true=>rw [hd] at h;exact WOps.p (G.move h) hd k
theorem av {x:Operand} {v:Value} (h:cond (Nat.blt d N.n) (ev l x) none=some v) (k:WOps P N ops Q rest ((d,v)::l) w):WOps P N ops Q (⟨some d,.assign x,ty,pos,aft,none⟩::rest) l w:=by
 cases hd:Nat.blt d N.n with
 | false=>rw [hd] at h;cases h
 | true=>rw [hd] at h;exact WOps.p (G.assign h) hd k
theorem scT {w0 w1:World} {K:Nat→Prop} {As As' Rs:List Grp} (T:St w (KS As) w1 As') (S:St w0 K w (As++Rs)):St w0 K w1 (As'++Rs):=S.callN T
theorem zs_own:∀ L:List By,elemsO Rp.str L (L.map fun s=>Value.string (bs s)) []
 | []=>⟨rfl,rfl⟩
 | s::L=>⟨[.string (bs s)],_,[],[],rfl,rfl,⟨rfl,rfl⟩,zs_own L⟩
theorem sls {w0:World} {K:Nat→Prop} {Gs:List Grp} (S:St w0 K w Gs) (L:List By) (h:(sliceLit TP 25 L.length (zv L)=some (9,zs L))∧0 < L.length∧L.length≤16777216):∃ b w1,
 (∀ {N:FN} {l:Fr} {ps:List (Nat×Operand)} {dst:Option Tmp} {ty:TypeId} {pos:String} {aft:Array Edge} {g:Option (Nat×Bool)},evp l ps (zv L)→GE TP N l w ⟨dst,.buildSlice 25 L.length ps.toArray,ty,pos,aft,g⟩ (.slice (some ⟨b,0,none⟩) L.length L.length) w1) ∧
 St w0 K w1 (B b (zs L) 9::Gs)∧SlO 9 Rp.str (.slice (some ⟨b,0,none⟩) L.length L.length) L (B b (zs L) 9):=by
 obtain ⟨b,w1,E,q,_,_⟩:=St.lit S h.1;refine ⟨b,w1,E,q,?_⟩;have:=SlO.lit (e:=9) (b:=b) (r:=Rp.str) (zs_own L) rfl h.2.1 h.2.2;rw [List.append_nil] at this;exact this
theorem lit1 {A:OA} {c:Nat} {G:Grp} (b:Nat) (t:Tree) (h:SlO 29 Tree.rp (.slice A t.Kids.length c) t.Kids G):SlO 29 Tree.rp (.slice (some ⟨b,0,none⟩) ([t]:List Tree).length 1) [t] (B b (ta t A c) 29++(G++[])) :=
 SlO.lit ⟨tl t A c,_,G,_,rfl,rfl,Tree.own_iff.2 ⟨A,c,G,rfl,h,rfl⟩,⟨rfl,rfl⟩⟩ rfl (Nat.le_of_ble_eq_true rfl) (Nat.le_of_ble_eq_true rfl)
theorem sw {w0:World} {K:Nat→Prop} {Gs:List Grp} (S:St w0 K w Gs) (k:Nat) (cs:Array Value) {T:TypeId} (hs:sizeT P T=some cs.size) {b:Nat} {cur:Array Value} {t:TypeId} (hk:Gs[k]? = some [(b,.cells cur t (0,0))])
 (hfit:Nat.ble (0+cs.size) cur.size=true) (q:cs.toList.all Value.oneCell'=true) (hc:over cur 0 cs.toList=cs):∃ w1,
 (∀ {N:FN} {l:Fr} {x y:Operand} {dst:Option Tmp} {ty:TypeId} {pos:String} {aft:Array Edge} {g:Option (Nat×Bool)},ev l x=some (.pointer (some ⟨b,0,none⟩))→ev l y=some (.agg cs)→GU P N l w ⟨dst,.store T x y,ty,pos,aft,g⟩ w1) ∧
 St w0 K w1 (Gs.set k [(b,.cells cs t (0,0))]):=St.store (P:=P) S k T (.agg cs) (off:=0) (cur':=cs) hk hs hfit q hc
theorem rdo {α:Type} {r:Rp α} {T:TypeId} {p:Nat} {x:α} {G:Grp} {w0:World} {K:Nat→Prop} {Gs:List Grp} (h:ObjO T r p x G) (S:St w0 K w Gs) (k:Nat) (hk:Gs[k]? = some G):PtR T r w (·∈keys G) p x:=h.rd (fun b o hb=>S.grp k hk hb)
theorem rds {α:Type} {r:Rp α} {e:TypeId} {A:OA} {c:Nat} {L:List α} {G:Grp} {w0:World} {K:Nat→Prop} {Gs:List Grp} (h:SlO e r (.slice A L.length c) L G) (S:St w0 K w Gs) (k:Nat) (hk:Gs[k]? = some G):SlR r w (·∈keys G) A c L:=h.rd (fun b o hb=>S.grp k hk hb)
theorem og {w0:World} {K:Nat→Prop} {Rs:List Grp} {G:Grp} (S:St w0 K w Rs) (j:Nat) (hj:Rs[j]? = some G):∀ b,b∈keys G→NK w [] b:=St.outG (Bs:=[]) S j hj
theorem ct {c:Operand} {x y:Code} {b:Bool} (hc:ev l c=some (.bool b)) (e:b=true) (h:WCode P N x Q l w):WCode P N (.cond c x y) Q l w:=WCode.cond_t (kb hc e) h
theorem cf {c:Operand} {x y:Code} {b:Bool} (hc:ev l c=some (.bool b)) (e:b=false) (h:WCode P N y Q l w):WCode P N (.cond c x y) Q l w:=WCode.cond_f (kb hc e) h
end
theorem wp:type_of% @WOps.p:=@WOps.p
theorem wr:type_of% @WCode.region:=@WCode.region
theorem we:type_of% @WEx.then_:=@WEx.then_
theorem wq:type_of% @WCode.seq:=@WCode.seq
theorem wn:type_of% @WOps.nil:=@WOps.nil
theorem wc:type_of% @WOps.call:=@WOps.call
theorem wcp:type_of% @WOps.callp:=@WOps.callp
theorem wrr:type_of% @WOps.r:=@WOps.r
theorem wee:type_of% @WOps.e:=@WOps.e
theorem wuu:type_of% @WOps.u:=@WOps.u
theorem gm:type_of% @G.move:=@G.move
theorem ga:type_of% @G.assign:=@G.assign
theorem ec:type_of% @evs_cons:=@evs_cons
theorem en:type_of% @evs_nil:=@evs_nil
theorem fc:type_of% @evp_cons:=@evp_cons
theorem fn_:type_of% @evp_nil:=@evp_nil
theorem fs_:type_of% @evp_spec:=@evp_spec
theorem bo:type_of% @bind_some:=@bind_some
theorem cb:type_of% @cellsAt.of_blk:=@cellsAt.of_blk
theorem sc:type_of% @St.callN:=@St.callN
theorem bf {a:Bool} (h:¬ a=true):a=false:=Bool.eq_false_iff.2 h
theorem wg:type_of% @WCode.forget:=@WCode.forget
theorem sk:type_of% @St.keep:=@St.keep
theorem wtp:type_of% @WEx.then_panic:=@WEx.then_panic
theorem wtr:type_of% @WEx.then_ret:=@WEx.then_ret
theorem io:type_of% @ite_some:=@ite_some
theorem se:type_of% @some_eq:=@some_eq
theorem wx:type_of% @WEx.cutend:=@WEx.cutend
theorem wqs:type_of% @WCode.cutseq:=@WCode.cutseq
theorem so:type_of% @St.store:=@St.store
theorem sl:type_of% @St.lit:=@St.lit
theorem wl:type_of% @WCode.loop:=@WCode.loop
theorem wrc:type_of% @WEx.retc:=@WEx.retc
theorem wpk:type_of% @WEx.panicked:=@WEx.panicked
theorem win:type_of% @WEx.in_normal:=@WEx.in_normal
theorem wsk:type_of% @WCode.skip:=@WCode.skip
theorem wrt:type_of% @WCode.ret:=@WCode.ret
theorem df:type_of% @decide_eq_false:=@decide_eq_false
theorem dt:type_of% @decide_eq_true:=@decide_eq_true
theorem nb:type_of% @Nat.le_of_ble_eq_true:=@Nat.le_of_ble_eq_true
theorem eps:type_of% @endP_some:=@endP_some
theorem epn:type_of% @endP_none:=@endP_none
theorem wag:type_of% @WEx.again:=@WEx.again
theorem hn:type_of% @St.hpN:=@St.hpN
theorem dp:type_of% @WD.p:=@WD.p
theorem hp:type_of% @WH.p:=@WH.p
theorem sv:type_of% @St.var:=@St.var
theorem sro:type_of% @St.reord:=@St.reord
theorem sbx:type_of% @St.box:=@St.box
theorem he_:type_of% @WH.e:=@WH.e
theorem hcp:type_of% @WH.callp:=@WH.callp
theorem sn:type_of% @SlO.nil:=@SlO.nil
theorem sat:type_of% @SlR.at_:=@SlR.at_
theorem nt {b:Bool} (h:b=false):(!b)=true:=by rw [h];rfl
theorem nf {b:Bool} (h:b=true):(!b)=false:=by rw [h];rfl
theorem nn {α:Type} {r:α} {p:Prop} (h:(none:Option α)=some r):p:=nomatch h
theorem cm {n : Nat} {f : Func} (h : TP.funcs[n]? = some f) (q : (f.name == "runtime.NumGoroutine") = false := by kernel_rfl) (C : f.body.isNone = false := by kernel_rfl) : Callable TP n := Callable.mk h q C
section
variable {P:Program} {N:FN} {Q:Exit→Act→World→Prop} {l:Fr} {w:World} {rest:List Oper} {ops:Array Oper} {d:Nat} {ty:TypeId} {pos:String} {aft:Array Edge}
theorem nw {y:Code} (h:WCode P N y Q l w):WOps P N ops (Exit.then (Code.wp P y Q) Q) [] l w:=wn (we h)
theorem q2 {id:Nat} {os:List Oper} {y:Code} (h:WOps P N os.toArray (Exit.then (Code.wp P y Q) Q) os l w):WCode P N ((Code.region id os.toArray false).seq y) Q l w:=wq (wr h)
theorem nq {id:Nat} {os:List Oper} {y:Code} (h:WOps P N os.toArray (Exit.then (Code.wp P y Q) Q) os l w):WOps P N ops (Exit.then (Code.wp P ((Code.region id os.toArray false).seq y) Q) Q) [] l w:=nw (q2 h)
theorem wk {f:FuncId} {xs:List Operand} {vs:List Value} {ts:Array TypeId} {R:Ending→World→Prop} (hf:Callable P f) (hc:Calls P f vs.toArray w R) (k:∀ e w',R e w'→∃ v,e=Ending.returned v∧WOps P N ops Q rest ((d,v)::l) w') (he:evs l xs vs:=by repeat' first | exact en | refine ec rfl ?_) (hd:d.blt N.n=true:=by rfl) :
 WOps P N ops Q (⟨some d,.call { callee:=.value (.func f),args:=xs.toArray,argTypes:=ts },ty,pos,aft,none⟩::rest) l w:=wc hf he hd (hc.mono k)
theorem wkp {f:FuncId} {xs:List Operand} {vs:List Value} {ts:Array TypeId} {R:Ending→World→Prop} (hf:Callable P f) (hc:Calls P f vs.toArray w R) (k:∀ e w',R e w'→(∃ v,e=Ending.returned v∧WOps P N ops Q rest ((d,v)::l) w')∨∃ c,e=Ending.panicked c∧WEx N Q (Exit.panic c) l w') (he:evs l xs vs:=by repeat' first | exact en | refine ec rfl ?_) (hd:d.blt N.n=true:=by rfl) :
 WOps P N ops Q (⟨some d,.call { callee:=.value (.func f),args:=xs.toArray,argTypes:=ts },ty,pos,aft,none⟩::rest) l w:=wcp hf he hd (hc.mono k)
end
theorem wo0:type_of% @WOps.off:=@WOps.off
theorem wo1:type_of% @WOps.on:=@WOps.on
theorem gf:type_of% @G.field:=@G.field
theorem gfv:type_of% @G.fieldv:=@G.fieldv
theorem gl:type_of% @G.load1:=@G.load1
theorem gla:type_of% @G.loada:=@G.loada
theorem gpt:type_of% @G.pick_t:=@G.pick_t
theorem gpf:type_of% @G.pick_f:=@G.pick_f
theorem cbk:type_of% @cell_blk:=@cell_blk
theorem wte:type_of% @WEx.then_exit:=@WEx.then_exit
theorem wr1:type_of% @WEx.ret1:=@WEx.ret1
theorem wr0:type_of% @WEx.ret0:=@WEx.ret0
theorem wbl:type_of% @WCode.block:=@WCode.block
theorem wip:type_of% @WEx.in_panic:=@WEx.in_panic
theorem wir:type_of% @WEx.in_ret:=@WEx.in_ret
theorem wie:type_of% @WEx.in_exit:=@WEx.in_exit
theorem wxt:type_of% @WCode.exit:=@WCode.exit
theorem gx:type_of% @G.extract:=@G.extract
theorem sof:type_of% @St.outF:=@St.outF
theorem sff:type_of% @St.ofFalse:=@St.ofFalse
theorem sap:type_of% @St.app:=@St.app
theorem geq:type_of% @G.eql:=@G.eql
theorem gnq:type_of% @G.neq:=@G.neq
theorem gn:type_of% @G.nilp:=@G.nilp
theorem gi:type_of% @G.idx:=@G.idx
theorem gln:type_of% @G.len:=@G.len
theorem gls:type_of% @G.lss:=@G.lss
theorem glq:type_of% @G.leq:=@G.leq
theorem gad:type_of% @G.add:=@G.add
theorem gsb:type_of% @G.sub:=@G.sub
theorem gnt:type_of% @G.not:=@G.not
theorem gb:type_of% @G.build:=@G.build
theorem toi:type_of% @Tree.own_iff:=@Tree.own_iff
theorem tri:type_of% @Tree.rd_iff:=@Tree.rd_iff
theorem sik:type_of% @St.initK:=@St.initK
theorem wdh:type_of% @WCode.drawH:=@WCode.drawH
theorem wdr:type_of% @WCode.draw:=@WCode.draw
theorem isp:type_of% @idx_spec:=@idx_spec
theorem ca0:type_of% @cellsAt.at0:=@cellsAt.at0
theorem cat_:type_of% @cellsAt.at:=@cellsAt.at
theorem wdR:type_of% @WD.r:=@WD.r
theorem r {α:Sort _} {a:α}:a=a:=rfl
end Go.Proofs.YtnhifhlbelogcaaGreatDoor
