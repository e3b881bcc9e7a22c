/- Trees: a thing with a list of things of its own kind. -/
import Derived.Test.YtnhifhlbelogcaaDoorYPtrs
set_option linter.unusedVariables false
namespace Go.Eng
open Go
section
variable {P:Program} {N:FN} {l:Fr} {w:World} {dst:Option Tmp} {ty:TypeId} {pos:String} {aft:Array Edge} {g:Option (Nat×Bool)} {T:TypeId} {x:Operand} {v u:Value} {fs:Array Field}
theorem G.mkif (hu:P.underlying T=some (.struct fs)) (hx:ev l x=some v):GP P N l ⟨dst,.makeInterface T x,ty,pos,aft,g⟩ (.iface T v):=fun w a ha=>by
 have hr:(Instr.makeInterface T v).run P w = .ok (.iface T v) w:=by unfold Instr.makeInterface;simp [go_sem,run_underlying hu]
 unfold execOp;simp only [ha.ev hx,Sem.run_bind,hr,Result.andThen_ok,Sem.run_pure]
variable {n d i f:Nat} {fn:Func} {R:Ending→World→Prop} {t s:Tmp} {ops:Array Oper} {Q:Exit→Act→World→Prop} {S:World→Prop} {o:Ord} {es:List En} {W:List Nat} {op:Op} {xs:List Operand} {vs:List Value} {ts:Array TypeId}
theorem WLv.ret2 (hres:fn.results = #[.tmp t,.tmp s]) (hv:look l t=some v) (hx:look l s=some u) (h:R (.returned (.tuple #[v,u])) w):WLv P n fn R [] .returning l w :=
 WLv.ret (fun N a ha=>by rw [results_tmp2 hres,ha.get hv,ha.get hx]) h
theorem calls_uponp {o:Oper} {a:Act} {K:Act→World→Prop} (h:Calls P f vs.toArray w fun e w'=>(∃ v,e = .returned v∧K (a.put o.dst v) w')∨∃ c,e = .panicked c∧Q (.panic c) a w'):o.upon P a K Q (.ok (.enter f vs.toArray) w):=by
 show Calls P f vs.toArray w _
 refine h.mono ?_;rintro e w' (⟨v,rfl,hk⟩|⟨c,rfl,hk⟩)
 · exact hk
 · exact hk
theorem WH.callp (hi:ops[i]? = some ⟨some d,.call { callee:=.value (.func f),args:=xs.toArray,argTypes:=ts },ty,pos,aft,g⟩)
 (hw:Wants N ops l ⟨some d,.call { callee:=.value (.func f),args:=xs.toArray,argTypes:=ts },ty,pos,aft,g⟩) (hf:Callable P f) (hargs:evs l xs vs) (hd:Nat.blt d N.n=true)
 (h:Calls P f vs.toArray w fun e w'=>(∃ v,e = .returned v∧S w'∧WH P N ops Q S o ((d,v)::l) w')∨∃ c,e = .panicked c∧WEx N Q (.panic c) l w'):WH P N ops Q S (.one i 2 o) l w:=fun a ha =>
 ⟨_,hi,by
  rw [if_pos (hw a ha)]
  show Oper.wp _ _ _ _ _ _
  unfold Oper.wp;rw [exec_call hf hargs ha];refine calls_uponp (h.mono ?_);rintro e w' (⟨v,rfl,hS,hk⟩|⟨c,rfl,hk⟩)
  · exact .inl ⟨v,rfl,hS,hk _ (ha.put hd v)⟩
  · exact .inr ⟨c,rfl,hk a ha⟩⟩
def fldOne (P:Program) (S:TypeId) (f:Nat):Option Nat :=
 match P.underlying S with
 | some (.struct fs)=>match fs[f]? with
  | some fd=>if isOneT P fd.type then some fd.offset else none
  | none=>none
 | _=>none
theorem G.fieldv {S:TypeId} {f off:Nat} {cs:Array Value} (hf:fldOne P S f=some off) (hx:ev l x=some (.agg cs)) (hv:cs[off]? = some v):GP P N l ⟨dst,.field S x f,ty,pos,aft,g⟩ v:=fun w a ha=>by
 unfold fldOne at hf
 split at hf
 · rename_i fs hS
   split at hf
   · rename_i fd hfd
     split at hf
     · rename_i q
       cases hf
       have hr:(Instr.field S (.agg cs) f).run P w = .ok v w:=by
        unfold Instr.field
        simp [go_sem,run_underlying hS,hfd,part,isOne_run q,hv,asAgg]
       unfold execOp;simp only [ha.ev hx,Sem.run_bind,hr,Result.andThen_ok,Sem.run_pure]
     · cases hf
   · cases hf
 · cases hf
theorem exec_pan {T:TypeId} {u:Value} (hx:ev l x=some (.iface T u)):∀ a,Has N l a→(execOp a.eval ⟨dst,.panic x,ty,pos,aft,none⟩).run P w = .halt (.panic (.iface T u)) w:=fun a ha=>by
 unfold execOp;simp only [ha.ev hx,Sem.run_bind,Instr.panic]
 rfl
end
end Go.Eng
namespace Go.Proofs.YtnhifhlbelogcaaDoor
open Go Go.Eng
structure Tree where
 Kind:Int
 Name:List UInt8
 Number:Int
 At:Int
 Kids:List Tree
section
variable {w w':World} {F F':Nat→Prop} {α:Type} {e:TypeId}
def Tree.no:Rp Tree where
 sz:=5
 rd:=fun _ _ _ _=>False
 own:=fun _ _ _=>False
 len:=fun h=>h.elim
 one:=fun h=>h.elim
 lenO:=fun h=>h.elim
 oneO:=fun h=>h.elim
 ext:=fun h _=>h
 mono:=fun h _=>h
 low:=fun h _=>h.elim
def Tree.node (r:Rp Tree):Rp Tree where
 sz:=5
 rd:=fun w F x cs=>∃ q:Option Addr,∃ c1:Nat,cs=[.int .i64 x.Kind,.string (bs x.Name),.int .i64 x.Number,.int .i64 x.At,.slice q (x.Kids).length c1]∧SlR r w F q c1 (x.Kids)
 own:=fun x cs G=>∃ q:Option Addr,∃ c1:Nat,∃ D:Grp,cs=[.int .i64 x.Kind,.string (bs x.Name),.int .i64 x.Number,.int .i64 x.At,.slice q (x.Kids).length c1]∧SlO 24 r (.slice q (x.Kids).length c1) (x.Kids) D∧G=D
 len:=by rintro _ _ _ _ ⟨_,_,rfl,_⟩;rfl
 one:=by rintro _ _ _ _ ⟨_,_,rfl,_⟩;exact one_of_all rfl
 lenO:=by rintro _ _ _ ⟨_,_,_,rfl,_⟩;rfl
 oneO:=by rintro _ _ _ ⟨_,_,_,rfl,_⟩;exact one_of_all rfl
 ext:=by rintro _ _ _ _ _ ⟨q,c1,rfl,C⟩ hE;exact ⟨q,c1,rfl,C.ext hE⟩
 mono:=by rintro _ _ _ _ _ ⟨q,c1,rfl,C⟩ hF;exact ⟨q,c1,rfl,C.mono hF⟩
 low:=by
  rintro w x cs G ⟨q,c1,D,rfl,C,rfl⟩ hG;exact ⟨q,c1,rfl,C.rd hG⟩
def Tree.rpN:Nat→Rp Tree
 | 0=>Tree.no
 | n+1=>Tree.node (Tree.rpN n)
theorem Tree.rpN_sz:∀ n,(Tree.rpN n).sz=5
 | 0=>rfl
 | n+1=>rfl
theorem elems.imp {r r':Rp α} (h:∀ x cs,r.rd w F x cs→r'.rd w F x cs):∀ {L:List α} {xs:List Value},elems r w F L xs→elems r' w F L xs
 | [],_,q=>q
 | x::L,_,⟨cs,ys,e1,q,C⟩=>⟨cs,ys,e1,h x cs q,elems.imp h C⟩
theorem elemsO.imp {r r':Rp α} (h:∀ x cs G,r.own x cs G→r'.own x cs G):∀ {L:List α} {xs:List Value} {G:Grp},elemsO r L xs G→elemsO r' L xs G
 | [],_,_,q=>q
 | x::L,_,_,⟨cs,ys,C,D,e1,E,q,J⟩=>⟨cs,ys,C,D,e1,E,h x cs C q,elemsO.imp h J⟩
theorem SlR.imp {r r':Rp α} {A:Option Addr} {c:Nat} {L:List α} (h:∀ x cs,r.rd w F x cs→r'.rd w F x cs) (q:SlR r w F A c L):SlR r' w F A c L:=by
 obtain ⟨C,k2,xs,D,E⟩:=q;exact ⟨C,k2,xs,elems.imp h D,E⟩
theorem SlO.imp {r r':Rp α} {v:Value} {L:List α} {G:Grp} (hs:r.sz=r'.sz) (h:∀ x cs G,r.own x cs G→r'.own x cs G) (q:SlO e r v L G):SlO e r' v L G:=by
 obtain ⟨xs,C,D,E,k2,J⟩:=q;exact ⟨xs,C,D,hs ▸ E,elemsO.imp h k2,J⟩
theorem Tree.rd_succ:∀ (n:Nat) (x:Tree) (cs:List Value),(Tree.rpN n).rd w F x cs→(Tree.rpN (n+1)).rd w F x cs
 | 0,_,_,h=>h.elim
 | n+1,x,cs,⟨q,c1,e1,C⟩=>⟨q,c1,e1,SlR.imp (Tree.rd_succ n) C⟩
theorem Tree.own_succ:∀ (n:Nat) (x:Tree) (cs:List Value) (G:Grp),(Tree.rpN n).own x cs G→(Tree.rpN (n+1)).own x cs G
 | 0,_,_,_,h=>h.elim
 | n+1,x,cs,G,⟨q,c1,C,e1,D,E⟩=>⟨q,c1,C,e1,SlO.imp ((Tree.rpN_sz n).trans (Tree.rpN_sz (n+1)).symm) (Tree.own_succ n) D,E⟩
theorem Tree.rd_le {n m:Nat} (h:n≤m) {x:Tree} {cs:List Value} (q:(Tree.rpN n).rd w F x cs):(Tree.rpN m).rd w F x cs:=by
 induction h with
 | refl=>exact q
 | step _ ih=>exact Tree.rd_succ _ _ _ ih
theorem Tree.own_le {n m:Nat} (h:n≤m) {x:Tree} {cs:List Value} {G:Grp} (q:(Tree.rpN n).own x cs G):(Tree.rpN m).own x cs G:=by
 induction h with
 | refl=>exact q
 | step _ ih=>exact Tree.own_succ _ _ _ _ ih
def Tree.rp:Rp Tree where
 sz:=5
 rd:=fun w F x cs=>∃ n,(Tree.rpN n).rd w F x cs
 own:=fun x cs G=>∃ n,(Tree.rpN n).own x cs G
 len:=by rintro _ _ _ _ ⟨n,h⟩;exact ((Tree.rpN n).len h).trans (Tree.rpN_sz n)
 one:=by rintro _ _ _ _ ⟨n,h⟩;exact (Tree.rpN n).one h
 lenO:=by rintro _ _ _ ⟨n,h⟩;exact ((Tree.rpN n).lenO h).trans (Tree.rpN_sz n)
 oneO:=by rintro _ _ _ ⟨n,h⟩;exact (Tree.rpN n).oneO h
 ext:=by rintro _ _ _ _ _ ⟨n,h⟩ hE;exact ⟨n,(Tree.rpN n).ext h hE⟩
 mono:=by rintro _ _ _ _ _ ⟨n,h⟩ hF;exact ⟨n,(Tree.rpN n).mono h hF⟩
 low:=by rintro _ _ _ _ ⟨n,h⟩ hG;exact ⟨n,(Tree.rpN n).low h hG⟩
theorem Tree.elems_ex:∀ {L:List Tree} {xs:List Value},elems Tree.rp w F L xs→∃ n,elems (Tree.rpN n) w F L xs
 | [],_,h=>⟨0,h⟩
 | x::L,_,⟨cs,ys,e1,⟨n,q⟩,C⟩=>by
  obtain ⟨m,D⟩:=Tree.elems_ex C;exact ⟨max n m,cs,ys,e1,Tree.rd_le (Nat.le_max_left _ _) q,elems.imp (fun _ _ h=>Tree.rd_le (Nat.le_max_right _ _) h) D⟩
theorem Tree.elemsO_ex:∀ {L:List Tree} {xs:List Value} {G:Grp},elemsO Tree.rp L xs G→∃ n,elemsO (Tree.rpN n) L xs G
 | [],_,_,h=>⟨0,h⟩
 | x::L,_,_,⟨cs,ys,q,C,e1,D,⟨n,E⟩,J⟩=>by
  obtain ⟨m,O⟩:=Tree.elemsO_ex J;exact ⟨max n m,cs,ys,q,C,e1,D,Tree.own_le (Nat.le_max_left _ _) E,elemsO.imp (fun _ _ _ h=>Tree.own_le (Nat.le_max_right _ _) h) O⟩
theorem Tree.rd_iff {x:Tree} {cs:List Value}:Tree.rp.rd w F x cs ↔ ∃ q:Option Addr,∃ c1:Nat,cs=[.int .i64 x.Kind,.string (bs x.Name),.int .i64 x.Number,.int .i64 x.At,.slice q (x.Kids).length c1]∧SlR Tree.rp w F q c1 (x.Kids):=by
 constructor
 · rintro ⟨n,h⟩
   cases n with
   | zero=>exact h.elim
   | succ n =>
    obtain ⟨q,c1,e1,C⟩:=h;exact ⟨q,c1,e1,SlR.imp (fun _ _ h=>⟨n,h⟩) C⟩
 · rintro ⟨q,c1,e1,D,k2,xs,E,J⟩
   obtain ⟨n,h⟩:=Tree.elems_ex E;exact ⟨n+1,q,c1,e1,D,k2,xs,h,J⟩
theorem Tree.own_iff {x:Tree} {cs:List Value} {G:Grp}:Tree.rp.own x cs G ↔ ∃ q:Option Addr,∃ c1:Nat,∃ C:Grp,cs=[.int .i64 x.Kind,.string (bs x.Name),.int .i64 x.Number,.int .i64 x.At,.slice q (x.Kids).length c1]∧SlO 24 Tree.rp (.slice q (x.Kids).length c1) (x.Kids) C∧G=C:=by
 constructor
 · rintro ⟨n,h⟩
   cases n with
   | zero=>exact h.elim
   | succ n =>
    obtain ⟨q,c1,C,e1,E,D⟩:=h;exact ⟨q,c1,C,e1,SlO.imp (Tree.rpN_sz n) (fun _ _ _ h=>⟨n,h⟩) E,D⟩
 · rintro ⟨q,c1,C,e1,⟨xs,J,O,V,k2,X⟩,D⟩
   obtain ⟨n,h⟩:=Tree.elemsO_ex k2;exact ⟨n+1,q,c1,C,e1,⟨xs,J,O,(Tree.rpN_sz n).symm ▸ V,h,X⟩,D⟩
end
def endP:Option Value→Value→Ending
 | none,v=>.returned v
 | some x,_=>.panicked [{ v:=x,recovered:=false }]
theorem endP_some {o:Option Value} (h:o.isSome=true):∃ x,∀ v,endP o v = .panicked [{ v:=x,recovered:=false }]:=by
 obtain ⟨x,rfl⟩:=Option.isSome_iff_exists.1 h;exact ⟨_,fun _=>rfl⟩
theorem endP_none {o:Option Value} (h:¬ o.isSome=true) (v:Value):endP o v = .returned v:=by
 cases o with
 | none=>rfl
 | some x=>exact absurd rfl h
end Go.Proofs.YtnhifhlbelogcaaDoor
