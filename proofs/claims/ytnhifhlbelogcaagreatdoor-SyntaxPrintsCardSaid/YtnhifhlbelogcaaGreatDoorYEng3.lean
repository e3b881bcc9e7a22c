/- AN ENGINE FOR WALKS: laws over any program: frames told by known slots, regions in one order, memory by groups of blocks. -/
import Derived.WalkKit
import Derived.OrdersHeld
import Derived.Deep.LoopGhost
import Derived.Deep.Draws
import Derived.Deep.RegionHeld3
import Derived.KernelRfl
import Derived.Laws.AppendOwn
import Derived.Below
import Derived.IntWalk
import Derived.WalkSpells
import Derived.Laws.Pointers
import Derived.Laws.StructEq
import Derived.Laws.Strings
import Derived.Laws.Strings2
import Derived.Laws.Concat
import Derived.Laws.IdiomStrings
import Derived.Lib.ConvBytes
import Derived.Laws.MakeOwn
import Derived.Laws.CopyRow
import Derived.Laws.IdiomCopy
import Derived.Defers
import Derived.Recover
import Derived.Laws.Panics
set_option linter.unusedVariables false
namespace Go.Eng
abbrev By:=List UInt8
abbrev OA:=Option Addr
abbrev OV:=Option Value
open Go
theorem beq_no {a b:Nat} (h:¬ a=b):Nat.beq a b=false:=by
 cases hb:Nat.beq a b
 · rfl
 · exact absurd (Nat.eq_of_beq_eq_true hb) h
theorem ne_of_beq_no {a b:Nat} (h:Nat.beq a b=false):¬ a=b:=fun e=>by subst e;simp at h
abbrev Fr:=List (Nat×Value)
def look:Fr→Nat→OV
 | [],_=>none
 | p::l,t=>bif Nat.beq p.1 t then some p.2 else look l t
structure FN where
 n:Nat
 ds:List Deferred
structure Has (N:FN) (l:Fr) (a:Act):Prop where
 size:a.tmps.size=N.n
 defers:a.defers=N.ds
 at_:∀ t v,look l t=some v→t < N.n∧a.tmps[t]? = some v
theorem Has.get {N:FN} {l:Fr} {a:Act} (h:Has N l a) {t:Nat} {v:Value} (hl:look l t=some v):a.tmps.getD t undef=v:=by
 have:=(h.at_ t v hl).2
 simp [this]
theorem Has.put {N:FN} {l:Fr} {a:Act} (h:Has N l a) {d:Nat} (hd:Nat.blt d N.n=true) (v:Value):Has N ((d,v)::l) (a.put (some d) v):=by
 have hd':d < N.n:=by simpa [Nat.blt_eq] using hd
 refine ⟨by simpa [Act.put] using h.size,h.defers,fun t u hu=>?_⟩;unfold look at hu;by_cases e:d=t
 · subst e
   have:Nat.beq d d=true:=by simp
   simp only [this,cond_true,Option.some.injEq] at hu;subst hu;refine ⟨hd',?_⟩
   show (a.tmps.setIfInBounds d v)[d]? = some v
   simp [h.size,hd']
 · have:Nat.beq d t=false:=beq_no e
   simp only [this,cond_false] at hu;obtain ⟨q,C⟩:=h.at_ t u hu;refine ⟨q,?_⟩
   show (a.tmps.setIfInBounds d v)[t]? = some u
   rw [Array.getElem?_setIfInBounds_ne e];exact C
def Sub:Fr→Fr→Prop
 | [],_=>True
 | p::l',l=>look l p.1=some p.2∧Sub l' l
theorem Sub.look {l' l:Fr} (h:Sub l' l):∀ t v,look l' t=some v→look l t=some v:=by
 induction l' with
 | nil=>intro t v hv;simp [Eng.look] at hv
 | cons p l' ih =>
  intro t v hv;unfold Eng.look at hv;by_cases e:p.1=t
  · have:Nat.beq p.1 t=true:=by simp [e]
    simp only [this,cond_true,Option.some.injEq] at hv;rw [← e,← hv];exact h.1
  · have:Nat.beq p.1 t=false:=beq_no e
    simp only [this,cond_false] at hv;exact ih h.2 t v hv
theorem Has.sub {N:FN} {l l':Fr} {a:Act} (h:Has N l a) (hs:Sub l' l):Has N l' a:=⟨h.size,h.defers,fun t v hv=>h.at_ t v (hs.look t v hv)⟩
def ev (l:Fr):Operand→OV
 | .tmp t=>look l t
 | .const v=>some v
 | .global g=>some (.pointer (some ⟨g,0,none⟩))
 | .func f=>some (.func (.func f) #[] #[])
theorem Has.ev {N:FN} {l:Fr} {a:Act} (h:Has N l a) {x:Operand} {v:Value} (hx:ev l x=some v):a.eval x=v:=by
 cases x with
 | tmp t=>exact h.get hx
 | const u=>exact Option.some.inj hx
 | global g=>exact Option.some.inj hx
 | func f=>exact Option.some.inj hx
def evs (l:Fr):List Operand→List Value→Prop
 | [],vs=>vs=[]
 | x::xs,vs=>∃ v r,vs=v::r∧ev l x=some v∧evs l xs r
theorem Has.evs {N:FN} {l:Fr} {a:Act} (h:Has N l a):∀ {xs:List Operand} {vs:List Value},evs l xs vs→xs.map a.eval=vs
 | [],_,hv=>by cases hv;rfl
 | x::xs,_,hv=>by
  obtain ⟨v,r,rfl,q,C⟩:=hv
  simp [h.ev q,h.evs C]
theorem evs_nil {l:Fr}:evs l [] []:=rfl
theorem evs_cons {l:Fr} {x:Operand} {xs:List Operand} {v:Value} {vs:List Value} (h:ev l x=some v) (hs:evs l xs vs):evs l (x::xs) (v::vs):=⟨v,vs,rfl,h,hs⟩
def wpS (P:Program) (ops:Array Oper) (Q:Exit→Act→World→Prop):List Oper→Act→World→Prop
 | [],a,w=>Q .normal a w
 | o::rest,a,w=>if Region.wanted o (yielded ops a.tmps) then o.wp P a w (wpS P ops Q rest) Q else wpS P ops Q rest (a.put o.dst undef) w
theorem wpS_list {P:Program} {ops:Array Oper} {Q:Exit→Act→World→Prop}:∀ (l:List Oper) (a:Act) (w:World),wpS P ops Q l a w→wpList P ops Q l a w
 | [],_,_,h=>h
 | o::rest,a,w,h=>by
  unfold wpS at h;unfold wpList
  split
  · rename_i hw
    rw [if_pos hw] at h;exact .inl (Oper.wp_mono (fun a w=>wpS_list rest a w) h)
  · rename_i hw
    rw [if_neg hw] at h;exact wpS_list rest _ _ h
def WOps (P:Program) (N:FN) (ops:Array Oper) (Q:Exit→Act→World→Prop) (rest:List Oper) (l:Fr) (w:World):Prop :=
 ∀ a,Has N l a→wpS P ops Q rest a w
def WCode (P:Program) (N:FN) (c:Code) (Q:Exit→Act→World→Prop) (l:Fr) (w:World):Prop:=∀ a,Has N l a→c.wp P Q a w
def WEx (N:FN) (Q:Exit→Act→World→Prop) (e:Exit) (l:Fr) (w:World):Prop:=∀ a,Has N l a→Q e a w
section
variable {P:Program} {N:FN} {ops:Array Oper} {Q:Exit→Act→World→Prop} {rest:List Oper} {l l':Fr} {w w':World} {d:Nat} {op:Op} {ty:TypeId} {pos:String} {aft:Array Edge}
theorem WCode.forget {c:Code} (hs:Sub l' l) (h:WCode P N c Q l' w):WCode P N c Q l w:=fun a ha=>h a (ha.sub hs)
theorem WOps.nil (h:WEx N Q .normal l w):WOps P N ops Q [] l w:=h
theorem WOps.val {v:Value} (hr:∀ a,Has N l a→(execOp a.eval ⟨some d,op,ty,pos,aft,none⟩).run P w = .ok (.value v) w') (hd:Nat.blt d N.n=true)
 (h:WOps P N ops Q rest ((d,v)::l) w'):WOps P N ops Q (⟨some d,op,ty,pos,aft,none⟩::rest) l w:=by
 intro a ha;unfold wpS;rw [if_pos (by rfl)];unfold Oper.wp;rw [hr a ha];exact h _ (ha.put hd v)
theorem WOps.skip (hr:∀ a,Has N l a→(execOp a.eval ⟨none,op,ty,pos,aft,none⟩).run P w = .ok .skip w') 
 (h:WOps P N ops Q rest l w'):WOps P N ops Q (⟨none,op,ty,pos,aft,none⟩::rest) l w:=by
 intro a ha;unfold wpS;rw [if_pos (by rfl)];unfold Oper.wp;rw [hr a ha];exact h _ ha
theorem guard_at {a:Act} (ha:Has N l a) {j dj:Nat} {v:Value} (hj:(ops[j]?).bind (·.dst)=some dj) (hv:look l dj=some v) (o:Oper) (b:Bool) (hg:o.guard=some (j,b)) :
 Region.wanted o (yielded ops a.tmps)=(match v with | .bool c=>c == b | _=>false):=by
 have q:=(ha.at_ dj v hv).2;unfold Region.wanted;rw [hg];simp only [yielded,hj,Option.bind_some,q];cases v <;> simp
theorem WOps.off {j dj:Nat} {b:Bool} {v:Value} (hj:(ops[j]?).bind (·.dst)=some dj) (hv:look l dj=some v) (hb:(match v with | .bool c=>c == b | _=>false)=false) (hd:Nat.blt d N.n=true)
 (h:WOps P N ops Q rest ((d,undef)::l) w):WOps P N ops Q (⟨some d,op,ty,pos,aft,some (j,b)⟩::rest) l w:=by
 intro a ha;unfold wpS;rw [if_neg (by rw [guard_at ha hj hv _ b rfl,hb];simp)];exact h _ (ha.put hd undef)
theorem WOps.on {j dj:Nat} {b:Bool} (hj:(ops[j]?).bind (·.dst)=some dj) (hv:look l dj=some (.bool b))
 (h:WOps P N ops Q (⟨some d,op,ty,pos,aft,none⟩::rest) l w):WOps P N ops Q (⟨some d,op,ty,pos,aft,some (j,b)⟩::rest) l w:=by
 intro a ha;have q:=h a ha;unfold wpS at q ⊢;rw [if_pos (by rfl)] at q;rw [if_pos (by rw [guard_at ha hj hv _ b rfl];simp)];exact q
end
section
variable {P:Program} {N:FN} {Q:Exit→Act→World→Prop} {l:Fr} {w:World}
theorem WCode.seq {x y:Code} (h:WCode P N x (Exit.then (y.wp P Q) Q) l w):WCode P N (.seq x y) Q l w:=fun a ha=>wp_seq (h a ha)
theorem WCode.skip (h:WEx N Q .normal l w):WCode P N .skip Q l w:=fun a ha=>wp_skip (h a ha)
theorem WCode.ret (h:WEx N Q .ret l w):WCode P N .ret Q l w:=fun a ha=>wp_ret (h a ha)
theorem WCode.exit {id:Nat} (h:WEx N Q (.exit id) l w):WCode P N (.exit id) Q l w:=fun a ha=>wp_exit (h a ha)
theorem WCode.block {id:Nat} {c:Code} (h:WCode P N c (Exit.inBlock id Q) l w):WCode P N (.block id c) Q l w:=fun a ha=>wp_block (h a ha)
theorem WCode.region {id:Nat} {os:List Oper} (h:WOps P N os.toArray Q os l w):WCode P N (.region id os.toArray false) Q l w:=fun a ha=>wp_region_lit (wpS_list _ _ _ (h a ha))
theorem WCode.cond_t {c:Operand} {x y:Code} (hc:ev l c=some (.bool true)) (h:WCode P N x Q l w):WCode P N (.cond c x y) Q l w:=fun a ha=>wp_cond_true (ha.ev hc) (h a ha)
theorem WCode.cond_f {c:Operand} {x y:Code} (hc:ev l c=some (.bool false)) (h:WCode P N y Q l w):WCode P N (.cond c x y) Q l w:=fun a ha=>wp_cond_false (ha.ev hc) (h a ha)
theorem WEx.then_ {y:Code} (h:WCode P N y Q l w):WEx N (Exit.then (y.wp P Q) Q) .normal l w:=h
theorem WEx.then_ret {K:Act→World→Prop} (h:WEx N Q .ret l w):WEx N (Exit.then K Q) .ret l w:=h
theorem WEx.then_exit {K:Act→World→Prop} {id:Nat} (h:WEx N Q (.exit id) l w):WEx N (Exit.then K Q) (.exit id) l w:=h
theorem WEx.in_normal {id:Nat} (h:WEx N Q .normal l w):WEx N (Exit.inBlock id Q) .normal l w:=h
theorem WEx.in_ret {id:Nat} (h:WEx N Q .ret l w):WEx N (Exit.inBlock id Q) .ret l w:=h
theorem WEx.in_exit {id:Nat} (h:WEx N Q .normal l w):WEx N (Exit.inBlock id Q) (.exit id) l w:=fun a ha=>by
 show (if id=id then _ else _)
 rw [if_pos rfl];exact h a ha
theorem WEx.in_other {id id':Nat} (hne:Nat.beq id' id=false) (h:WEx N Q (.exit id') l w):WEx N (Exit.inBlock id Q) (.exit id') l w:=fun a ha=>by
 show (if id'=id then _ else _)
 rw [if_neg (ne_of_beq_no hne)];exact h a ha
theorem WEx.no_normal {l:Fr} {w:World} (h:WEx N Q .normal l w):WEx N (NoPanic Q) .normal l w:=h
theorem WCode.loop {c:Code} (J:Nat→Fr→World→Prop) (n0:Nat) (q:J n0 l w)
 (round:∀ n l w,J n l w→WCode P N c (Exit.then (fun a' w'=>∃ n' l',n' < n∧Has N l' a'∧J n' l' w') Q) l w):WCode P N (.loop c) Q l w:=by
 intro a ha;refine wp_loop_ghost (fun n a w=>∃ l,Has N l a∧J n l w) n0 ⟨l,ha,q⟩ ?_;rintro n a w ⟨l,ha,hJ⟩;refine wp_mono (round n l w hJ a ha) ?_;intro e a' w' hq;cases e with
 | normal =>
  obtain ⟨n',l',C,D,E⟩:=hq;exact ⟨n',C,l',D,E⟩
 | exit id=>exact hq
 | goto l=>exact hq
 | ret=>exact hq
 | panic ch=>exact hq
 | outgrown=>exact hq
theorem WEx.again {J:Nat→Fr→World→Prop} {n:Nat} {l:Fr} {w:World} (n':Nat) (l':Fr) (hlt:n' < n) (hs:Sub l' l) (h:J n' l' w) :
 WEx N (Exit.then (fun a' w'=>∃ n' l',n' < n∧Has N l' a'∧J n' l' w') Q) .normal l w:=fun _ ha=>⟨n',l',hlt,ha.sub hs,h⟩
theorem has_enter {l:List Value} (n:Nat) (hn:n=l.length) (N:Nat) (hN:l.length≤N) :
 Has ⟨N,[]⟩ ((List.range n).zip l) { tmps:=l.toArray++Array.replicate (N - l.toArray.size) undef,defers:=[] }:=by
 subst hn;refine ⟨by simp;omega,rfl,fun t v hv=>?_⟩;have key:∀ (k:Nat) (xs:List Value),look ((List.range' k xs.length).zip xs) t=some v→k≤t∧xs[t - k]? = some v:=by
  intro k xs
  induction xs generalizing k with
  | nil=>intro h;simp [look] at h
  | cons x xs ih =>
   intro h;simp only [List.length_cons,List.range'_succ,List.zip_cons_cons] at h;unfold look at h;by_cases e:k=t
   · subst e
     have hb:Nat.beq k k=true:=by simp
     simp only [hb,cond_true,Option.some.injEq] at h
     simp [h]
   · have hb:Nat.beq k t=false:=beq_no e
     simp only [hb,cond_false] at h;obtain ⟨C,q⟩:=ih (k+1) h;refine ⟨by omega,?_⟩;rw [show t - k=(t - (k+1))+1 by omega]
     simpa using q
 rw [List.range_eq_range'] at hv;obtain ⟨_,q⟩:=key 0 l hv;simp only [Nat.sub_zero] at q;have hlt:t < l.length:=(List.getElem?_eq_some_iff.1 q).1;refine ⟨show t < N by omega,?_⟩;rw [Array.getElem?_append_left (by simpa using hlt)]
 simpa using q
theorem enter {f:FuncId} {fn:Func} {c:Code} {args:List Value} {w:World} {R:Ending→World→Prop} (N:Nat) (fr:Fr)
 (hf:P.funcs[f]? = some fn) (hb:fn.body=some c) (hN:fn.ntmps=N) (hfr:(List.range args.length).zip args=fr) (hle:Nat.ble args.length N=true)
 (h:WCode P ⟨N,[]⟩ c (bodyPost P fn R) fr w):Calls P f args.toArray w R:=by
 refine calls_of_wp hf hb (h _ ?_);subst hN;rw [← hfr];exact has_enter args.length rfl _ (by simpa [Nat.ble_eq] using hle)
theorem WEx.ret1 {n:Nat} {fn:Func} {R:Ending→World→Prop} {t:Tmp} {v:Value} (hres:fn.results = #[.tmp t]) (hv:look l t=some v) (h:R (.returned v) w):WEx ⟨n,[]⟩ (bodyPost P fn R) .ret l w :=
 fun a ha=>⟨ha.defers,v,by rw [results_tmp hres];rw [ha.get hv],h⟩
theorem WEx.ret2 {n:Nat} {fn:Func} {R:Ending→World→Prop} {t u:Tmp} {v x:Value} (hres:fn.results = #[.tmp t,.tmp u]) (hv:look l t=some v) (hx:look l u=some x) (h:R (.returned (.tuple #[v,x])) w):WEx ⟨n,[]⟩ (bodyPost P fn R) .ret l w :=
 fun a ha=>⟨ha.defers,_,by rw [results_tmp2 hres];rw [ha.get hv,ha.get hx],h⟩
theorem WEx.ret3 {n:Nat} {fn:Func} {R:Ending→World→Prop} {t u s:Tmp} {v x y:Value} (hres:fn.results = #[.tmp t,.tmp u,.tmp s]) (hv:look l t=some v) (hx:look l u=some x) (hy:look l s=some y) (h:R (.returned (.tuple #[v,x,y])) w):WEx ⟨n,[]⟩ (bodyPost P fn R) .ret l w :=
 fun a ha=>⟨ha.defers,_,by rw [results_tmp3 hres];rw [ha.get hv,ha.get hx,ha.get hy],h⟩
theorem WEx.ret0 {n:Nat} {fn:Func} {R:Ending→World→Prop} (hres:fn.results = #[]) (h:R (.returned (.tuple #[])) w):WEx ⟨n,[]⟩ (bodyPost P fn R) .ret l w :=
 fun a ha=>⟨ha.defers,_,by rw [results_none hres],h⟩
theorem WEx.end0 {n:Nat} {fn:Func} {R:Ending→World→Prop} (hres:fn.results = #[]) (h:R (.returned (.tuple #[])) w):WEx ⟨n,[]⟩ (bodyPost P fn R) .normal l w :=
 fun a ha=>⟨ha.defers,_,by rw [results_none hres],h⟩
end
end Go.Eng
namespace Go.Eng
open Go
def Ext (w w':World):Prop:=w.heap.size≤w'.heap.size∧∀ k,k < w.heap.size→w'.heap[k]? = w.heap[k]?
theorem Ext.refl (w:World):Ext w w:=⟨Nat.le_refl _,fun _ _=>rfl⟩
theorem Ext.trans {a b c:World} (h:Ext a b) (k:Ext b c):Ext a c:=⟨Nat.le_trans h.1 k.1,fun i hi=>(k.2 i (Nat.lt_of_lt_of_le hi h.1)).trans (h.2 i hi)⟩
theorem Ext.alloc (w:World) (o:Obj):Ext w (w.alloc o):=⟨by simp,fun k hk=>by
 show (w.heap.push o)[k]? = _
 rw [Array.getElem?_push,if_neg (by omega)]⟩
theorem Ext.drew (w:World):Ext w w.drew:=⟨Nat.le_refl _,fun _ _=>rfl⟩
theorem Ext.cell {w w':World} (h:Ext w w') {a:Addr} {v:Value} (hc:w.cell? a=some v):w'.cell? a=some v :=
 (World.cell?_of_block (h.2 _ (World.block_lt_of_cell? w a hc))).trans hc
inductive Tm {α:Type} (L:α→Prop):Sem α→Prop
 | pure (a:α):L a→Tm L (.pure a)
 | load (m:Mode) (a:Addr) (k:Value→Sem α):(∀ v,Tm L (k v))→Tm L (.load m a k)
 | new (o:Obj) (k:Nat→Sem α):(∀ r,Tm L (k r))→Tm L (.new o k)
 | shape (r:Nat) (k:Option (TypeId×Nat)→Sem α):(∀ x,Tm L (k x))→Tm L (.shape r k)
 | frozen (a:Addr) (k:Bool→Sem α):(∀ b,Tm L (k b))→Tm L (.frozen a k)
 | getObj (r:Nat) (k:Obj→Sem α):(∀ o,Tm L (k o))→Tm L (.getObj r k)
 | choose (q:Question) (k:Nat→Sem α):(∀ n,Tm L (k n))→Tm L (.choose q k)
 | program (k:Program→Sem α):(∀ p,Tm L (k p))→Tm L (.program k)
 | mark (m:Mark) (k:Sem α):Tm L k→Tm L (.mark m k)
 | halt (h:Halt):Tm L (.halt h)
theorem Tm.run {α:Type} {L:α→Prop} {P:Program} {e:Sem α} (h:Tm L e):∀ {w w':World} {x:α},e.run P w = .ok x w'→L x∧Ext w w':=by
 induction h with
 | pure a ha=>intro w w' x hr;simp only [Sem.run,Result.ok.injEq] at hr;obtain ⟨rfl,rfl⟩:=hr;exact ⟨ha,Ext.refl _⟩
 | load m a k _ ih =>
  intro w w' x hr;simp only [Sem.run] at hr
  split at hr
  · exact ih _ hr
  · split at hr
    · exact ih _ hr
    · cases hr
 | new o k _ ih=>intro w w' x hr;simp only [Sem.run] at hr;have:=ih _ hr;exact ⟨this.1,(Ext.alloc w o).trans this.2⟩
 | shape r k _ ih=>intro w w' x hr;simp only [Sem.run] at hr;exact ih _ hr
 | frozen a k _ ih=>intro w w' x hr;simp only [Sem.run] at hr;exact ih _ hr
 | getObj r k _ ih =>
  intro w w' x hr;simp only [Sem.run] at hr
  split at hr
  · cases hr
  · exact ih _ hr
  · cases hr
 | choose q k _ ih =>
  intro w w' x hr;simp only [Sem.run] at hr
  split at hr
  · exact ih _ hr
  · have:=ih _ hr;exact ⟨this.1,(Ext.drew w).trans this.2⟩
 | program k _ ih=>intro w w' x hr;simp only [Sem.run] at hr;exact ih _ hr
 | mark m k _ ih=>intro w w' x hr;simp only [Sem.run] at hr;exact ih hr
 | halt h=>intro w w' x hr;simp [Sem.run] at hr
theorem Tm.bind {α β:Type} {L:α→Prop} {L':β→Prop} {e:Sem α} {f:α→Sem β} (h:Tm L e) (hf:∀ a,L a→Tm L' (f a)):Tm L' (e.bind f):=by
 induction h with
 | pure a ha=>exact hf a ha
 | load m a k _ ih=>exact .load m a _ fun v=>ih v
 | new o k _ ih=>exact .new o _ fun v=>ih v
 | shape r k _ ih=>exact .shape r _ fun v=>ih v
 | frozen a k _ ih=>exact .frozen a _ fun v=>ih v
 | getObj r k _ ih=>exact .getObj r _ fun v=>ih v
 | choose q k _ ih=>exact .choose q _ fun v=>ih v
 | program k _ ih=>exact .program _ fun v=>ih v
 | mark m k _ ih=>exact .mark m _ ih
 | halt h=>exact .halt h
def Any {α:Type}:α→Prop:=fun _=>True
theorem Tm.bind' {α β:Type} {L':β→Prop} {e:Sem α} {f:α→Sem β} (h:Tm Any e) (hf:∀ a,Tm L' (f a)):Tm L' (e >>= f):=Tm.bind h fun a _=>hf a
theorem Tm.any {α:Type} (a:α):Tm Any (Pure.pure a:Sem α):=.pure a trivial
theorem Tm.ite {α:Type} {L:α→Prop} {c:Prop} [Decidable c] {x y:Sem α} (hx:Tm L x) (hy:Tm L y):Tm L (if c then x else y):=by split <;> assumption
theorem tm_stuck {α:Type} {L:α→Prop} (s:String):Tm L (stuck s:Sem α):=.halt _
theorem tm_unsupported {α:Type} {L:α→Prop} (s:Unsupported):Tm L (unsupported s:Sem α):=.halt _
theorem tm_program:Tm Any program:=.program _ fun p=>.pure p trivial
theorem tm_typeInfo (t:TypeId):Tm Any (typeInfo t):=Tm.bind' tm_program fun p=>by split <;> first | exact Tm.any _ | exact tm_stuck _
theorem tm_underlying (t:TypeId):Tm Any (underlying t):=Tm.bind' tm_program fun p=>by split <;> first | exact Tm.any _ | exact tm_stuck _
theorem tm_sizeOf (t:TypeId):Tm Any (sizeOf t):=Tm.bind' (tm_typeInfo t) fun _=>Tm.any _
theorem tm_zeroValue (t:TypeId):Tm Any (zeroValue t):=Tm.bind' (tm_typeInfo t) fun _=>by split <;> first | exact Tm.any _ | exact tm_unsupported _
theorem tm_isAgg (t:TypeId):Tm Any (isAgg t):=Tm.bind' (tm_underlying t) fun _=>by split <;> exact Tm.any _
theorem tm_load (a:Addr) (m:Mode):Tm Any (load a m):=.load m a _ fun v=>.pure v trivial
theorem tm_loadCellsFrom (a:Addr):∀ (n i:Nat) (acc:Array Value),Tm Any (loadCellsFrom a i n acc)
 | 0,_,_=>Tm.any _
 | n+1,_,_=>Tm.bind' (tm_load _ _) fun _=>tm_loadCellsFrom a n _ _
theorem tm_loadVar (t:TypeId) (a:Addr):Tm Any (loadVar t a):=Tm.bind' (tm_isAgg t) fun b=>by
 split
 · exact Tm.bind' (tm_sizeOf t) fun _=>Tm.bind' (tm_loadCellsFrom _ _ _ _) fun _=>Tm.any _
 · exact tm_load _ _
theorem tm_newVar (t:TypeId) (v:Value):Tm Any (newVar t v):=Tm.bind' (.new _ _ fun r=>.pure r trivial) fun _=>Tm.any _
theorem tm_sureAddr (v:Value):Tm Any (Instr.sureAddr v):=by unfold Instr.sureAddr;split <;> first | exact Tm.any _ | exact tm_stuck _
theorem tm_asBool (v:Value):Tm Any (asBool v):=by unfold asBool;split <;> first | exact Tm.any _ | exact tm_stuck _
theorem tm_runtimePanic {α:Type} {L:α→Prop} (h:RuntimeError) (hne:∀ i c a m,h≠.typeAssertion i c a m) (hn:h≠.panicNil):Tm L (runtimePanic h:Sem α):=by
 refine Tm.bind' tm_program fun p=>?_
 cases h with
 | typeAssertion i c a m=>exact absurd rfl (hne i c a m)
 | panicNil=>exact absurd rfl hn
 | _=>exact .halt _
theorem tm_boundsPanic {α:Type} {L:α→Prop} (k:IntKind) (x y:Int) (c:BoundsCode):Tm L (boundsPanic k x y c:Sem α):=by
 unfold boundsPanic
 dsimp only
 have hp:∀ s,Tm L (runtimePanic (.bounds (IntKind.i64.wrap x) y s c):Sem α):=fun s=>tm_runtimePanic _ (by intros;simp) (by simp)
 refine Tm.ite (Tm.bind' ?_ hp) (Tm.bind' (Tm.any _) hp);exact Tm.bind (L:=Any) (L':=Any) (.choose _ _ fun n=>.pure n trivial) fun a _=>.pure _ trivial
theorem tm_newObj (o:Obj):Tm Any (newObj o):=.new _ _ fun r=>.pure r trivial
theorem tm_mapML {α β:Type} {f:α→Sem β} (hf:∀ x,Tm Any (f x)):∀ xs:List α,Tm Any (xs.mapM f)
 | []=>by rw [List.mapM_nil];exact Tm.any _
 | x::xs=>by rw [List.mapM_cons];exact Tm.bind' (hf x) fun _=>Tm.bind' (tm_mapML hf xs) fun _=>Tm.any _
theorem tm_mapM {α β:Type} {f:α→Sem β} (hf:∀ x,Tm Any (f x)) (xs:Array α):Tm Any (xs.mapM f):=by
 rw [Array.mapM_eq_mapM_toList];exact Tm.bind (tm_mapML hf _) fun a _=>.pure _ trivial
theorem tm_asIntOf (v:Value):Tm Any (asIntOf v):=by unfold asIntOf;split <;> first | exact Tm.any _ | exact tm_stuck _ | exact tm_unsupported _
theorem tm_shape (r:Nat):Tm Any (shape r):=.shape _ _ fun x=>.pure x trivial
theorem tm_getObj (r:Nat):Tm Any (getObj r):=.getObj _ _ fun x=>.pure x trivial
theorem tm_part (t:TypeId) (cs:Array Value) (off:Nat):Tm Any (part t cs off):=by
 unfold part
 repeat' first
  | exact Tm.any _
  | exact tm_stuck _
  | exact tm_unsupported _
  | exact tm_underlying _
  | exact tm_typeInfo _
  | exact tm_sizeOf _
  | exact tm_zeroValue _
  | exact tm_sureAddr _
  | exact tm_program
  | exact tm_boundsPanic _ _ _ _
  | exact tm_newVar _ _
  | exact tm_asIntOf _
  | exact tm_loadVar _ _
  | exact tm_shape _
  | exact tm_getObj _
  | exact tm_isAgg _
  | refine Tm.ite ?_ ?_
  | refine Tm.bind' ?_ fun _=>?_
  | split
  | dsimp only
theorem tm_viewAt (r:Nat):Tm Any (viewAt r):=by
 unfold viewAt
 repeat' first
  | exact Tm.any _
  | exact tm_stuck _
  | exact tm_unsupported _
  | exact tm_underlying _
  | exact tm_typeInfo _
  | exact tm_sizeOf _
  | exact tm_zeroValue _
  | exact tm_sureAddr _
  | exact tm_program
  | exact tm_boundsPanic _ _ _ _
  | exact tm_newVar _ _
  | exact tm_asIntOf _
  | exact tm_loadVar _ _
  | exact tm_shape _
  | exact tm_getObj _
  | exact tm_part _ _ _
  | exact tm_isAgg _
  | refine Tm.ite ?_ ?_
  | refine Tm.bind' ?_ fun _=>?_
  | split
  | dsimp only
theorem tm_noView (a:Addr):Tm Any (noView a):=by
 unfold noView
 repeat' first
  | exact Tm.any _
  | exact tm_stuck _
  | exact tm_unsupported _
  | exact tm_underlying _
  | exact tm_typeInfo _
  | exact tm_sizeOf _
  | exact tm_zeroValue _
  | exact tm_sureAddr _
  | exact tm_program
  | exact tm_boundsPanic _ _ _ _
  | exact tm_newVar _ _
  | exact tm_asIntOf _
  | exact tm_loadVar _ _
  | exact tm_shape _
  | exact tm_getObj _
  | exact tm_part _ _ _
  | exact tm_isAgg _
  | exact tm_viewAt _
  | refine Tm.ite ?_ ?_
  | refine Tm.bind' ?_ fun _=>?_
  | split
  | dsimp only
theorem tm_byteOf (a:Addr):Tm Any (byteOf a):=by
 unfold byteOf
 repeat' first
  | exact Tm.any _
  | exact tm_stuck _
  | exact tm_unsupported _
  | exact tm_underlying _
  | exact tm_typeInfo _
  | exact tm_sizeOf _
  | exact tm_zeroValue _
  | exact tm_sureAddr _
  | exact tm_program
  | exact tm_boundsPanic _ _ _ _
  | exact tm_newVar _ _
  | exact tm_asIntOf _
  | exact tm_loadVar _ _
  | exact tm_shape _
  | exact tm_getObj _
  | exact tm_part _ _ _
  | exact tm_noView _
  | exact tm_isAgg _
  | exact tm_viewAt _
  | refine Tm.ite ?_ ?_
  | refine Tm.bind' ?_ fun _=>?_
  | split
  | dsimp only
theorem tm_partAt (a:Addr) (c b:Nat):Tm Any (partAt a c b):=by
 unfold partAt
 repeat' first
  | exact Tm.any _
  | exact tm_stuck _
  | exact tm_unsupported _
  | exact tm_underlying _
  | exact tm_typeInfo _
  | exact tm_sizeOf _
  | exact tm_zeroValue _
  | exact tm_sureAddr _
  | exact tm_program
  | exact tm_boundsPanic _ _ _ _
  | exact tm_newVar _ _
  | exact tm_asIntOf _
  | exact tm_loadVar _ _
  | exact tm_shape _
  | exact tm_getObj _
  | exact tm_part _ _ _
  | exact tm_noView _
  | exact tm_byteOf _
  | exact tm_isAgg _
  | exact tm_viewAt _
  | refine Tm.ite ?_ ?_
  | refine Tm.bind' ?_ fun _=>?_
  | split
  | dsimp only
theorem tm_fieldPlace (a:Addr) (f:Field):Tm Any (fieldPlace a f):=by
 unfold fieldPlace
 repeat' first
  | exact Tm.any _
  | exact tm_stuck _
  | exact tm_unsupported _
  | exact tm_underlying _
  | exact tm_typeInfo _
  | exact tm_sizeOf _
  | exact tm_zeroValue _
  | exact tm_sureAddr _
  | exact tm_program
  | exact tm_boundsPanic _ _ _ _
  | exact tm_newVar _ _
  | exact tm_asIntOf _
  | exact tm_loadVar _ _
  | exact tm_shape _
  | exact tm_getObj _
  | exact tm_part _ _ _
  | exact tm_noView _
  | exact tm_byteOf _
  | exact tm_isAgg _
  | exact tm_partAt _ _ _
  | exact tm_viewAt _
  | refine Tm.ite ?_ ?_
  | refine Tm.bind' ?_ fun _=>?_
  | split
  | dsimp only
theorem tm_fieldAt (s:TypeId) (v:Value) (f:Nat):Tm Any (Instr.fieldAt s v f):=by
 unfold Instr.fieldAt
 repeat' first
  | exact Tm.any _
  | exact tm_stuck _
  | exact tm_unsupported _
  | exact tm_underlying _
  | exact tm_typeInfo _
  | exact tm_sizeOf _
  | exact tm_zeroValue _
  | exact tm_sureAddr _
  | exact tm_program
  | exact tm_boundsPanic _ _ _ _
  | exact tm_newVar _ _
  | exact tm_asIntOf _
  | exact tm_loadVar _ _
  | exact tm_shape _
  | exact tm_getObj _
  | exact tm_part _ _ _
  | exact tm_fieldPlace _ _
  | exact tm_noView _
  | exact tm_byteOf _
  | exact tm_isAgg _
  | exact tm_partAt _ _ _
  | exact tm_viewAt _
  | refine Tm.ite ?_ ?_
  | refine Tm.bind' ?_ fun _=>?_
  | split
  | dsimp only
theorem tm_indexAt (t:TypeId) (x i:Value):Tm Any (Instr.indexAt t x i):=by
 unfold Instr.indexAt
 repeat' first
  | exact Tm.any _
  | exact tm_stuck _
  | exact tm_unsupported _
  | exact tm_underlying _
  | exact tm_typeInfo _
  | exact tm_sizeOf _
  | exact tm_zeroValue _
  | exact tm_sureAddr _
  | exact tm_program
  | exact tm_boundsPanic _ _ _ _
  | exact tm_newVar _ _
  | exact tm_asIntOf _
  | exact tm_loadVar _ _
  | exact tm_shape _
  | exact tm_getObj _
  | exact tm_part _ _ _
  | exact tm_fieldPlace _ _
  | exact tm_noView _
  | exact tm_byteOf _
  | exact tm_isAgg _
  | exact tm_partAt _ _ _
  | exact tm_viewAt _
  | refine Tm.ite ?_ ?_
  | refine Tm.bind' ?_ fun _=>?_
  | split
  | dsimp only
theorem tm_build (t:TypeId) (ps:Array (Nat×Value)):Tm Any (Instr.build t ps):=by
 unfold Instr.build
 repeat' first
  | exact Tm.any _
  | exact tm_stuck _
  | exact tm_unsupported _
  | exact tm_underlying _
  | exact tm_typeInfo _
  | exact tm_sizeOf _
  | exact tm_zeroValue _
  | exact tm_sureAddr _
  | exact tm_program
  | exact tm_newObj _
  | refine tm_mapM (fun _=>?_) _
  | exact tm_boundsPanic _ _ _ _
  | exact tm_newVar _ _
  | exact tm_asIntOf _
  | exact tm_loadVar _ _
  | exact tm_shape _
  | exact tm_getObj _
  | exact tm_part _ _ _
  | exact tm_fieldPlace _ _
  | exact tm_noView _
  | exact tm_byteOf _
  | exact tm_isAgg _
  | exact tm_partAt _ _ _
  | exact tm_viewAt _
  | refine Tm.ite ?_ ?_
  | refine Tm.bind' ?_ fun _=>?_
  | split
  | dsimp only
theorem tm_buildSlice (t:TypeId) (n:Nat) (ps:Array (Nat×Value)):Tm Any (Instr.buildSlice t n ps):=by
 unfold Instr.buildSlice
 repeat' first
  | exact Tm.any _
  | exact tm_stuck _
  | exact tm_unsupported _
  | exact tm_underlying _
  | exact tm_typeInfo _
  | exact tm_sizeOf _
  | exact tm_zeroValue _
  | exact tm_sureAddr _
  | exact tm_program
  | exact tm_newObj _
  | refine tm_mapM (fun _=>?_) _
  | exact tm_boundsPanic _ _ _ _
  | exact tm_newVar _ _
  | exact tm_asIntOf _
  | exact tm_loadVar _ _
  | exact tm_shape _
  | exact tm_getObj _
  | exact tm_part _ _ _
  | exact tm_fieldPlace _ _
  | exact tm_noView _
  | exact tm_byteOf _
  | exact tm_isAgg _
  | exact tm_partAt _ _ _
  | exact tm_viewAt _
  | refine Tm.ite ?_ ?_
  | refine Tm.bind' ?_ fun _=>?_
  | split
  | dsimp only
theorem tm_extract (v:Value) (n:Nat):Tm Any (Instr.extract v n):=by
 unfold Instr.extract
 repeat' first
  | exact Tm.any _
  | exact tm_stuck _
  | exact tm_unsupported _
  | exact tm_underlying _
  | exact tm_typeInfo _
  | exact tm_sizeOf _
  | exact tm_zeroValue _
  | exact tm_sureAddr _
  | exact tm_program
  | exact tm_newObj _
  | refine tm_mapM (fun _=>?_) _
  | exact tm_boundsPanic _ _ _ _
  | exact tm_newVar _ _
  | exact tm_asIntOf _
  | exact tm_loadVar _ _
  | exact tm_shape _
  | exact tm_getObj _
  | exact tm_part _ _ _
  | exact tm_fieldPlace _ _
  | exact tm_noView _
  | exact tm_byteOf _
  | exact tm_isAgg _
  | exact tm_partAt _ _ _
  | exact tm_viewAt _
  | refine Tm.ite ?_ ?_
  | refine Tm.bind' ?_ fun _=>?_
  | split
  | dsimp only
theorem tm_alloc (t:TypeId) :Tm Any (Instr.alloc t true (.tuple #[])):=by
 unfold Instr.alloc
 repeat' first
  | exact Tm.any _
  | exact tm_stuck _
  | exact tm_unsupported _
  | exact tm_underlying _
  | exact tm_typeInfo _
  | exact tm_sizeOf _
  | exact tm_zeroValue _
  | exact tm_sureAddr _
  | exact tm_program
  | exact tm_newObj _
  | refine tm_mapM (fun _=>?_) _
  | exact tm_boundsPanic _ _ _ _
  | exact tm_newVar _ _
  | exact tm_asIntOf _
  | exact tm_loadVar _ _
  | exact tm_shape _
  | exact tm_getObj _
  | exact tm_part _ _ _
  | exact tm_fieldPlace _ _
  | exact tm_noView _
  | exact tm_byteOf _
  | exact tm_isAgg _
  | exact tm_partAt _ _ _
  | exact tm_viewAt _
  | refine Tm.ite ?_ ?_
  | refine Tm.bind' ?_ fun _=>?_
  | split
  | dsimp only
theorem tm_len (ts:Array TypeId) (t:TypeId) (xs:Array Value):Tm Any (Builtin.len_ ts t xs):=by
 unfold Builtin.len_
 repeat' first
  | exact Tm.any _
  | exact tm_stuck _
  | exact tm_unsupported _
  | exact tm_underlying _
  | exact tm_typeInfo _
  | exact tm_sizeOf _
  | exact tm_zeroValue _
  | exact tm_sureAddr _
  | exact tm_program
  | exact tm_newObj _
  | refine tm_mapM (fun _=>?_) _
  | exact tm_boundsPanic _ _ _ _
  | exact tm_newVar _ _
  | exact tm_asIntOf _
  | exact tm_loadVar _ _
  | exact tm_shape _
  | exact tm_getObj _
  | exact tm_part _ _ _
  | exact tm_fieldPlace _ _
  | exact tm_noView _
  | exact tm_byteOf _
  | exact tm_isAgg _
  | exact tm_partAt _ _ _
  | exact tm_viewAt _
  | refine Tm.ite ?_ ?_
  | refine Tm.bind' ?_ fun _=>?_
  | split
  | dsimp only
def IsVal (n:Next):Prop:=∃ v,n = .value v
def tameOp:Op→Bool
 | .move _ | .assign _ | .pick .. | .alloc _ | .box .. | .build .. | .buildSlice .. | .load .. | .extract .. | .fieldAddr .. | .indexAddr .. | .slice ..=>true
 | .nilCheck _=>true
 | .call { callee:=.builtin .len,.. }=>true
 | _=>false
theorem tm_v {s:Sem Value} (h:Tm Any s):Tm IsVal (do pure (Next.value (← s))):=Tm.bind' h fun v=>.pure _ ⟨v,rfl⟩
theorem tm_sliceBound (x:Value) (y:Nat) (c:BoundsCode):Tm Any (Instr.sliceBound x y c):=by
 unfold Instr.sliceBound
 repeat' first
  | exact Tm.any _
  | exact tm_asIntOf _
  | exact tm_boundsPanic _ _ _ _
  | refine Tm.ite ?_ ?_
  | refine Tm.bind' ?_ fun _=>?_
  | split
  | dsimp only
theorem tm_sliceBounds (b:Bool) (n c:Nat) (lo hi mx:OV):Tm Any (Instr.sliceBounds b n c lo hi mx):=by
 unfold Instr.sliceBounds;cases lo <;> cases hi <;> cases mx <;> dsimp only <;>
 repeat' first
  | exact Tm.any _
  | exact tm_stuck _
  | exact tm_sliceBound _ _ _
  | refine Tm.bind' ?_ fun _=>?_
  | split
theorem tm_asAddr (v:Value):Tm Any (asAddr v):=by
 unfold asAddr
 split
 · exact Tm.any _
 · exact tm_runtimePanic _ (by intros;simp) (by simp)
 · exact tm_stuck _
theorem tm_slice (t:TypeId) (x:Value) (lo hi mx:OV):Tm Any (Instr.slice t x lo hi mx):=by
 unfold Instr.slice
 repeat' first
  | exact Tm.any _
  | exact tm_stuck _
  | exact tm_underlying _
  | exact tm_sizeOf _
  | exact tm_asAddr _
  | exact tm_sliceBounds _ _ _ _ _ _
  | refine Tm.ite ?_ ?_
  | refine Tm.bind' ?_ fun _=>?_
  | split
  | dsimp only
theorem tm_sliceAt (t:TypeId) (x:Value) (lo hi mx:OV):Tm Any (Instr.sliceAt t x lo hi mx):=by
 unfold Instr.sliceAt
 repeat' first
  | exact Tm.any _
  | exact tm_underlying _
  | exact tm_sizeOf _
  | exact tm_sureAddr _
  | exact tm_sliceBounds _ _ _ _ _ _
  | exact tm_slice _ _ _ _ _
  | refine Tm.ite ?_ ?_
  | refine Tm.bind' ?_ fun _=>?_
  | split
  | dsimp only
theorem tm_followBlind:∀ (l:List FieldStep) (t:TypeId) (x:OV),Tm Any (followBlind l t x)
 | [],_,_=>Tm.any _
 | s::rest,_,x=>by
  unfold followBlind
  repeat' first
   | exact Tm.any _
   | exact tm_stuck _
   | exact tm_underlying _
   | exact tm_part _ _ _
   | exact tm_followBlind rest _ _
   | refine Tm.bind' ?_ fun _=>?_
   | split
theorem tm_nilAhead:∀ (n:Nat) (t:TypeId) (v:Value) (s:String),Tm Any (nilAhead n t v s)
 | 0,_,_,_=>Tm.any _
 | n+1,_,_,s=>by
  unfold nilAhead
  repeat' first
   | exact Tm.any _
   | exact tm_stuck _
   | exact tm_underlying _
   | exact tm_typeInfo _
   | exact tm_followBlind _ _ _
   | exact tm_nilAhead n _ _ s
   | refine Tm.bind' ?_ fun _=>?_
   | split
theorem tm_execOp {ρ:Operand→Value} {o:Oper} (h:tameOp o.op=true):Tm IsVal (execOp ρ o):=by
 obtain ⟨dst,op,ty,pos,aft,g⟩:=o;unfold execOp
 dsimp only at h ⊢
 cases op with
 | move x=>exact .pure _ ⟨_,rfl⟩
 | assign x=>exact .pure _ ⟨_,rfl⟩
 | pick c a b=>exact Tm.bind' (tm_asBool _) fun b=>by split <;> exact .pure _ ⟨_,rfl⟩
 | alloc t=>exact tm_v (tm_alloc t)
 | box t x=>exact tm_v (Tm.bind' (tm_newVar t _) fun _=>Tm.any _)
 | build t ps=>exact tm_v (tm_build t _)
 | buildSlice t n ps=>exact tm_v (tm_buildSlice t n _)
 | load t a=>exact tm_v (Tm.bind' (tm_sureAddr _) fun _=>tm_loadVar t _)
 | extract t i=>exact tm_v (tm_extract _ i)
 | fieldAddr s x f=>exact tm_v (tm_fieldAt s _ f)
 | indexAddr t x i=>exact tm_v (tm_indexAt t _ _)
 | slice t x lo hi mx=>exact tm_v (tm_sliceAt t _ _ _ _)
 | nilCheck x =>
  dsimp only
  have hn:Tm IsVal (runtimePanic .nilDeref:Sem Next):=tm_runtimePanic _ (by intros;simp) (by simp);have hv:∀ v:Value,Tm IsVal (Pure.pure (Next.value v):Sem Next):=fun v=>.pure _ ⟨_,rfl⟩
  repeat' first
   | exact hn
   | exact hv _
   | exact tm_program
   | exact tm_nilAhead _ _ _ _
   | exact tm_unsupported _
   | refine Tm.ite ?_ ?_
   | refine Tm.bind' ?_ fun _=>?_
   | split
   | dsimp only
 | call c =>
  obtain ⟨cal,args,ats⟩:=c;cases cal with
  | builtin b =>
   cases b with
   | len =>
    show Tm IsVal (resolve ρ _ ty >>= fun d=>invoke d.target d.args)
    unfold resolve;simp only [pure_bind];exact tm_v (tm_len _ _ _)
   | _=>simp [tameOp] at h
  | _=>simp [tameOp] at h
 | _=>simp [tameOp] at h
end Go.Eng
namespace Go.Eng
open Go
structure En where
 i:Nat
 k:Nat
 W:List Nat:=[]
def enOk (ops:Array Oper) (e:En) (listed:Array Bool):Bool :=
 match e.k with
 | 0=>(Region.ready .any ops listed).contains e.i && Region.free .any ops listed e.i
 | 1=>(Region.ready .any ops listed).contains e.i && Region.free .any ops listed e.i &&
  e.W.all (fun j=>!listed.getD j false && match ops[j]? with | some oj=>oj.after.any (fun x=>Region.binds .any x && (x.on == e.i || e.W.contains x.on)) | none=>false) &&
  (List.range ops.size).all fun j=>j == e.i || listed.getD j true || e.W.contains j || match ops[j]? with | some oj=>tameOp oj.op | none=>true
 | _=>Region.ready .any ops listed == [e.i]
def orderOk (ops:Array Oper):List En→Array Bool→Bool
 | [],listed=>Region.ready .any ops listed == []
 | e::es,listed=>enOk ops e listed && orderOk ops es (listed.setIfInBounds e.i true)
section
variable {P:Program} {ops:Array Oper} {Q:Exit→Act→World→Prop}
def wpD (P:Program) (ops:Array Oper) (Q:Exit→Act→World→Prop):List En→Act→World→Prop
 | [],a,w=>Q .normal a w
 | e::es,a,w=>∃ o,ops[e.i]? = some o ∧
  if Region.wanted o (yielded ops a.tmps) then
   match e.k with
   | 0=>∃ v,(∀ w',(execOp a.eval o).run P w' = .ok (.value v) w')∧wpD P ops Q es (a.put o.dst v) w
   | 1=>∃ v,(∀ w',Ext w w'→(execOp a.eval o).run P w' = .ok (.value v) w')∧wpD P ops Q es (a.put o.dst v) w
   | _=>o.wp P a w (wpD P ops Q es) Q
  else wpD P ops Q es (a.put o.dst undef) w
theorem yif_mono {S S':World→Prop} {o:Oper} {v:Value} {a:Act} (h:YieldsIf P ops S o v a) (hs:∀ w,S' w→S w):YieldsIf P ops S' o v a :=
 h.imp (fun ⟨hw,hv⟩=>⟨hw,fun w hS=>hv w (hs w hS)⟩) id
theorem wpOp_putE {j:Nat} {oi oj:Oper} {v:Value} {w:World} (hj:ops[j]? = some oj) (hap:oi.apart ops oj=true)
 (hsi:∀ cs b,oi.op≠.select cs b) (hsj:∀ cs b,oj.op≠.select cs b) (ht:tameOp oj.op=true)
 (hQ:∀ c a w,Q (.panic c) (a.put oi.dst v) w→Q (.panic c) a w) {K:Act→World→Prop} {a:Act}
 (hy:YieldsIf P ops (Ext w) oi v a) (h:wpOp P ops Q j K (a.put oi.dst v) w) :
 wpOp P ops Q j (fun a' w'=>Ext w w'∧YieldsIf P ops (Ext w) oi v a'∧K (a'.put oi.dst v) w') a w:=by
 obtain ⟨q,C,D⟩:=Oper.apart_spec hap;have keep:∀ (a:Act),YieldsIf P ops (Ext w) oi v a→∀ u,YieldsIf P ops (Ext w) oi v (a.put oj.dst u):=fun a hy u =>
  hy.of_same (execOp_put oi hsi a oj.dst u D) (wanted_put oi a oj.dst u D)
 unfold wpOp at *;simp only [hj] at *;rw [wanted_put oj a oi.dst v q] at h
 split
 · rename_i hw
   simp only [hw,if_true] at h;rcases h with h | ⟨hasks,hlets⟩
   case inr=>exact .inr ⟨by unfold Oper.asks at *;rw [execOp_put oj hsj a oi.dst v q] at hasks;exact hasks,hlets⟩
   refine .inl ?_;unfold Oper.wp at *;rw [execOp_put oj hsj a oi.dst v q] at h;generalize hr:(execOp a.eval oj).run P w=r at *;cases r with
   | ok n w' =>
    obtain ⟨⟨u,rfl⟩,hE⟩:=(tm_execOp ht).run hr;simp only [Oper.upon] at h ⊢;exact ⟨hE,keep a hy u,by rw [← Act.put_comm a v u C];exact h⟩
   | halt x w' =>
    cases x <;> simp only [Oper.upon] at h ⊢
    case panic u=>exact hQ _ _ _ h
 · rename_i hw
   simp only [hw] at h;exact ⟨Ext.refl _,keep a hy _,by rw [← Act.put_comm a v undef C];exact h⟩
theorem take_read {i:Nat} {oi:Oper} {v:Value} (hi:ops[i]? = some oi) (hsel:∀ (j:Nat) (o:Oper) cs b,ops[j]? = some o→o.op≠.select cs b)
 (hQ:∀ c a w,Q (.panic c) (a.put oi.dst v) w→Q (.panic c) a w) (W:List Nat)
 (hW:∀ j,j∈W→∃ oj,ops[j]? = some oj∧∃ x∈oj.after,Region.binds .any x=true∧(x.on=i∨x.on∈W)) :
 ∀ (fuel:Nat) (listed:Array Bool) (a:Act) (w:World),
  (∀ j,j∈W→listed.getD j false=false) →
  (∀ j oj,ops[j]? = some oj→j≠i→listed.getD j true=false→j ∉ W→tameOp oj.op=true) →
  (∀ j oj,ops[j]? = some oj→j≠i→listed.getD j true=false→(∀ e∈oj.after,Region.binds .any e=true→e.on≠i)→oi.apart ops oj=true) →
  i∈Region.ready .any ops listed→YieldsIf P ops (Ext w) oi v a →
  wpAny P .any ops Q fuel (listed.setIfInBounds i true) (a.put oi.dst v) w→wpAny P .any ops Q (fuel+1) listed a w:=by
 have stays:∀ {a:Act} {w:World},YieldsIf P ops (Ext w) oi v a→∀ {K:Act→World→Prop},K (a.put oi.dst v) w→wpOp P ops Q i K a w:=fun hy _ h=>hy.wpOp hi (Ext.refl _) h
 intro fuel
 induction fuel with
 | zero =>
  intro listed a w _ _ _ hr hy H;refine ⟨fun h=>(by rw [h] at hr;cases hr),fun j hj=>?_⟩;by_cases hji:j=i
  · subst hji;exact stays hy H
  · have:=ready_mono hj hji
    rw [H.1] at this;cases this
 | succ fuel ih =>
  intro listed a w hWl htame hfree hr hy H;refine ⟨fun h=>(by rw [h] at hr;cases hr),fun j hj=>?_⟩;by_cases hji:j=i
  · subst hji;exact stays hy H
  · have q:=H.2 j (ready_mono hj hji)
    obtain ⟨hjun,oj,hoj,hall⟩:=mem_ready.1 hj;have C:listed.getD i false=false:=by
     have D:=(mem_ready.1 hr).1;rcases Nat.lt_or_ge i listed.size with h' | h'
     · simp [h'] at D ⊢;exact D
     · simp [Array.getElem?_eq_none h'] at D
    have hnot:∀ e∈oj.after,Region.binds .any e=true→e.on≠i:=fun e he hb heq=>by
     have q:=hall e he hb;rw [heq,C] at q;cases q
    have hjW:j ∉ W:=fun hm=>by
     obtain ⟨oj',ho',x,hx,hb,hor⟩:=hW j hm;obtain rfl:oj=oj':=Option.some.inj (hoj.symm.trans ho');have q:=hall x hx hb;rcases hor with hor | hor
     · rw [hor,C] at q;cases q
     · rw [hWl _ hor] at q;cases q
    have J:=wpOp_putE hoj (hfree j oj hoj hji hjun hnot) (fun cs b=>hsel i oi cs b hi) (fun cs b=>hsel j oj cs b hoj) (htame j oj hoj hji hjun hjW) hQ hy q;have un:∀ k,(listed.setIfInBounds j true).getD k true=false→listed.getD k true=false:=fun k hun=>by
     by_cases hjk:j=k
     · subst hjk;exact hjun
     · rw [getD_set_ne true hjk] at hun;exact hun
    refine wpOp_mono (fun a' w' E=>ih (listed.setIfInBounds j true) a' w' (fun k hk=>?_) (fun k ok hk hki hun hkW=>htame k ok hk hki (un k hun) hkW)
     (fun k ok hk hki hun hno=>hfree k ok hk hki (un k hun) hno) (ready_mono hr (Ne.symm hji)) (yif_mono E.2.1 fun O h=>E.1.trans h) ?_) J
    · have hne:j≠k:=fun e=>hjW (e ▸ hk)
      rw [getD_set_ne false hne];exact hWl k hk
    · rw [Array.setIfInBounds_comm _ _ hji]
      exact E.2.2
theorem any_of_D (hs:Region.noSelect ops=true) (hQ:∀ c a d v w,Q (.panic c) (a.put d v) w→Q (.panic c) a w) :
 ∀ (es:List En) (listed:Array Bool) (a:Act) (w:World),orderOk ops es listed=true→wpD P ops Q es a w→wpAny P .any ops Q es.length listed a w
 | [],listed,a,w,ho,h=>⟨by simpa [orderOk] using ho,h⟩
 | e::es,listed,a,w,ho,h=>by
  obtain ⟨o,hi,h⟩:=h;simp only [orderOk,Bool.and_eq_true] at ho;obtain ⟨he,ho⟩:=ho;have ih:=any_of_D hs hQ es (listed.setIfInBounds e.i true);obtain ⟨i,k,W⟩:=e
  dsimp only at *
  match k,h,he with
  | 0,h,he =>
   simp only [enOk,Bool.and_eq_true] at he
   split at h
   · rename_i hw
     obtain ⟨v,hv,h⟩:=h;exact wpAny_take hi hs he.2 he.1 (fun c a w=>hQ c a _ v w) (.inl ⟨hw,hv⟩) (ih _ _ ho h)
   · rename_i hw
     exact wpAny_take hi hs he.2 he.1 (fun c a w=>hQ c a _ undef w) (.inr ⟨by simpa using hw,rfl⟩) (ih _ _ ho h)
  | 1,h,he =>
   simp only [enOk,Bool.and_eq_true] at he;obtain ⟨⟨⟨q,C⟩,D⟩,E⟩:=he;have hW:∀ j,j∈W→listed.getD j false=false∧∃ oj,ops[j]? = some oj∧∃ x∈oj.after,Region.binds .any x=true∧(x.on=i∨x.on∈W):=by
    intro j hj;have:=List.all_eq_true.1 D j hj;simp only [Bool.and_eq_true,Bool.not_eq_true'] at this;refine ⟨this.1,?_⟩;cases hoj:ops[j]? with
    | none=>rw [hoj] at this;cases this.2
    | some oj =>
     rw [hoj] at this;obtain ⟨x,hx,hb⟩:=Array.any_eq_true'.1 this.2;simp only [Bool.and_eq_true,Bool.or_eq_true,beq_iff_eq,List.contains_iff_mem] at hb;exact ⟨oj,rfl,x,hx,hb.1,hb.2⟩
   have htame:∀ j oj,ops[j]? = some oj→j≠i→listed.getD j true=false→j ∉ W→tameOp oj.op=true:=by
    intro j oj hoj hne hun hjW;have hlt:j < ops.size:=(Array.getElem?_eq_some_iff.1 hoj).1;have:=List.all_eq_true.1 E j (List.mem_range.2 hlt);simp only [hoj,Bool.or_eq_true,beq_iff_eq,hne,hun,false_or,Bool.false_eq_true,List.contains_iff_mem,hjW] at this;exact this
   have go:∀ v,YieldsIf P ops (Ext w) o v a→wpD P ops Q es (a.put o.dst v) w→wpAny P .any ops Q (es.length+1) listed a w:=fun v hy h =>
    take_read hi (Region.noSelect_spec hs) (fun c a w=>hQ c a _ v w) W (fun j hj=>(hW j hj).2) es.length listed a w (fun j hj=>(hW j hj).1) htame (Region.free_spec hi C) (by simpa using q) hy (ih _ _ ho h)
   split at h
   · rename_i hw
     obtain ⟨v,hv,h⟩:=h;exact go v (.inl ⟨hw,hv⟩) h
   · rename_i hw
     exact go undef (.inr ⟨by simpa using hw,rfl⟩) h
  | k+2,h,he =>
   have he':Region.ready .any ops listed=[i]:=by simpa [enOk] using he
   refine wpAny_all he' (by simp) fun j hj=>?_
   obtain rfl:j=i:=by simpa using hj
   unfold wpOp;rw [hi]
   dsimp only
   split
   · rename_i hw
     rw [if_pos hw] at h;exact .inl (Oper.wp_mono (fun a w h=>ih a w ho h) h)
   · rename_i hw
     rw [if_neg hw] at h;exact ih _ _ ho h
def WD (P:Program) (N:FN) (ops:Array Oper) (Q:Exit→Act→World→Prop) (es:List En) (l:Fr) (w:World):Prop:=∀ a,Has N l a→wpD P ops Q es a w
theorem WCode.draw {N:FN} {id:Nat} {l:Fr} {w:World} (es:List En) (hm:P.follows .mixedOrders=true) (hs:Region.noSelect ops=true)
 (hQ:∀ c a d v w,Q (.panic c) (a.put d v) w→Q (.panic c) a w) (hn:Nat.beq es.length ops.size=true) (ho:orderOk ops es (Array.replicate ops.size false)=true)
 (h:WD P N ops Q es l w.drew):WCode P N (.region id ops true) Q l w:=fun a ha =>
 wp_region_any hm (by
  have:=any_of_D hs hQ es _ a w.drew ho (h a ha);rw [Nat.eq_of_beq_eq_true hn] at this;exact this)
section
variable {N:FN} {es:List En} {l l':Fr} {w w':World} {i d:Nat} {W:List Nat} {op:Op} {ty:TypeId} {pos:String} {aft:Array Edge}
theorem WD.nil (h:WEx N Q .normal l w):WD P N ops Q [] l w:=h
theorem WD.pure {v:Value} (hi:ops[i]? = some ⟨some d,op,ty,pos,aft,none⟩) (hr:∀ w,∀ a,Has N l a→(execOp a.eval ⟨some d,op,ty,pos,aft,none⟩).run P w = .ok (.value v) w) (hd:Nat.blt d N.n=true)
 (h:WD P N ops Q es ((d,v)::l) w):WD P N ops Q (⟨i,0,W⟩::es) l w:=fun a ha =>
 ⟨_,hi,by rw [if_pos (by rfl)];exact ⟨v,fun w=>hr w a ha,h _ (ha.put hd v)⟩⟩
theorem WD.read {v:Value} (hi:ops[i]? = some ⟨some d,op,ty,pos,aft,none⟩) (hr:∀ w',Ext w w'→∀ a,Has N l a→(execOp a.eval ⟨some d,op,ty,pos,aft,none⟩).run P w' = .ok (.value v) w') (hd:Nat.blt d N.n=true)
 (h:WD P N ops Q es ((d,v)::l) w):WD P N ops Q (⟨i,1,W⟩::es) l w:=fun a ha =>
 ⟨_,hi,by rw [if_pos (by rfl)];exact ⟨v,fun w' hE=>hr w' hE a ha,h _ (ha.put hd v)⟩⟩
theorem WD.act {v:Value} (hi:ops[i]? = some ⟨some d,op,ty,pos,aft,none⟩) (hr:∀ a,Has N l a→(execOp a.eval ⟨some d,op,ty,pos,aft,none⟩).run P w = .ok (.value v) w') (hd:Nat.blt d N.n=true)
 (h:WD P N ops Q es ((d,v)::l) w'):WD P N ops Q (⟨i,2,W⟩::es) l w:=fun a ha =>
 ⟨_,hi,by
  rw [if_pos (by rfl)]
  show Oper.wp _ _ _ _ _ _
  unfold Oper.wp;rw [hr a ha];exact h _ (ha.put hd v)⟩
theorem WD.act0 (hi:ops[i]? = some ⟨none,op,ty,pos,aft,none⟩) (hr:∀ a,Has N l a→(execOp a.eval ⟨none,op,ty,pos,aft,none⟩).run P w = .ok .skip w')
 (h:WD P N ops Q es l w'):WD P N ops Q (⟨i,2,W⟩::es) l w:=fun a ha =>
 ⟨_,hi,by
  rw [if_pos (by rfl)]
  show Oper.wp _ _ _ _ _ _
  unfold Oper.wp;rw [hr a ha];exact h _ ha⟩
end
end
end Go.Eng
namespace Go.Eng
open Go
abbrev Grp:=List (Nat×Obj)
def keys (G:Grp):List Nat:=G.map (·.1)
theorem keys_append (G H:Grp):keys (G++H)=keys G++keys H:=by simp [keys]
theorem mem_keys {G:Grp} {k:Nat} {o:Obj} (h:(k,o)∈G):k∈keys G:=List.mem_map.2 ⟨(k,o),h,rfl⟩
structure Hp (w:World) (G:Grp):Prop where
 at_:∀ k o,(k,o)∈G→w.heap[k]? = some o
 nd:(keys G).Nodup
theorem lt_of_blk {w:World} {k:Nat} {o:Obj} (h:w.heap[k]? = some o):k < w.heap.size:=(Array.getElem?_eq_some_iff.1 h).1
theorem Hp.lt {w:World} {G:Grp} (h:Hp w G) {k:Nat} (hk:k∈keys G):k < w.heap.size:=by
 obtain ⟨⟨k',o⟩,hm,rfl⟩:=List.mem_map.1 hk;exact lt_of_blk (h.at_ _ _ hm)
theorem Hp.move {w w':World} {G:Grp} (h:Hp w G) (hm:∀ k,k∈keys G→w'.heap[k]? = w.heap[k]?):Hp w' G :=
 ⟨fun k o hk=>(hm k (mem_keys hk)).trans (h.at_ k o hk),h.nd⟩
theorem Hp.perm {w:World} {G G':Grp} (h:Hp w G) (hp:G.Perm G'):Hp w G' :=
 ⟨fun k o hk=>h.at_ k o (hp.mem_iff.2 hk),((hp.map _).nodup_iff).1 h.nd⟩
structure Same (w w':World):Prop where
 os:w'.os=w.os
 tape:w'.tape=w.tape
 output:w'.output=w.output
theorem Same.refl (w:World):Same w w:=⟨rfl,rfl,rfl⟩
theorem Same.trans {a b c:World} (h:Same a b) (k:Same b c):Same a c:=⟨k.os.trans h.os,k.tape.trans h.tape,k.output.trans h.output⟩
structure St (w0:World) (K:Nat→Prop) (w:World) (Gs:List Grp):Prop where
 hp:Hp w Gs.flatten
 own:∀ k,k∈keys Gs.flatten→K k∨w0.heap.size≤k
 fr:∀ k,k < w0.heap.size→¬ K k→w.heap[k]? = w0.heap[k]?
 sz:w0.heap.size≤w.heap.size
 same:Same w0 w
theorem St.init {w:World} {Gs:List Grp} (h:Hp w Gs.flatten):St w (·∈keys Gs.flatten) w Gs:=⟨h,fun _ hk=>.inl hk,fun _ _ _=>rfl,Nat.le_refl _,Same.refl _⟩
theorem Hp.nil (w:World):Hp w []:=⟨fun _ _ h=>by simp at h,by simp [keys]⟩
theorem St.init0 (w:World):St w (fun _=>False) w []:=⟨Hp.nil w,fun _ hk=>by simp [keys] at hk,fun _ _ _=>rfl,Nat.le_refl _,Same.refl _⟩
section
variable {w0 w w1:World} {K:Nat→Prop} {Gs Gs':List Grp} {G G':Grp} {o:Obj} {b k:Nat}
theorem mem_at (hk:Gs[k]? = some G) {x:Nat×Obj} (hx:x∈G):x∈Gs.flatten:=List.mem_flatten.2 ⟨G,List.mem_of_getElem? hk,hx⟩
theorem St.blk (S:St w0 K w Gs) (k:Nat) (hk:Gs[k]? = some [(b,o)]):w.heap[b]? = some o:=S.hp.at_ b o (mem_at hk (by simp))
theorem St.grp (S:St w0 K w Gs) (k:Nat) (hk:Gs[k]? = some G) {b:Nat} {o:Obj} (hm:(b,o)∈G):w.heap[b]? = some o:=S.hp.at_ b o (mem_at hk hm)
theorem St.drew (S:St w0 K w Gs):St w0 K w.drew Gs:=⟨⟨S.hp.at_,S.hp.nd⟩,S.own,S.fr,S.sz,⟨S.same.os,S.same.tape,S.same.output⟩⟩
theorem St.ext (S:St w0 K w Gs) (hE:Ext w w1) (hs:Same w w1):St w0 K w1 Gs :=
 ⟨S.hp.move fun k hk=>hE.2 k (S.hp.lt hk),S.own,fun k hk hn=>(hE.2 k (Nat.lt_of_lt_of_le hk S.sz)).trans (S.fr k hk hn),Nat.le_trans S.sz hE.1,S.same.trans hs⟩
theorem same_alloc (w:World) (o:Obj):Same w (w.alloc o):=⟨rfl,rfl,rfl⟩
theorem St.alloc (S:St w0 K w Gs) (o:Obj):St w0 K (w.alloc o) ([(w.heap.size,o)]::Gs):=by
 have q:=S.ext (Ext.alloc w o) (same_alloc w o);refine ⟨⟨fun k x hk=>?_,?_⟩,fun k hk=>?_,q.fr,q.sz,q.same⟩
 · simp only [List.flatten_cons,List.cons_append,List.nil_append,List.mem_cons,Prod.mk.injEq] at hk
   rcases hk with ⟨rfl,rfl⟩ | hk
   · exact heap_alloc_new w _
   · exact q.hp.at_ k x hk
 · simp only [List.flatten_cons,List.cons_append,List.nil_append,keys,List.map_cons,List.nodup_cons]
   refine ⟨fun hm=>?_,q.hp.nd⟩;have:=S.hp.lt hm
   omega
 · simp only [List.flatten_cons,List.cons_append,List.nil_append,keys,List.map_cons,List.mem_cons] at hk
   rcases hk with rfl | hk
   · exact .inr S.sz
   · exact S.own k hk
theorem St.upd (S:St w0 K w (G::Gs)) (J:∀ b o,(b,o)∈G'→w1.heap[b]? = some o) (hnd:(keys G').Nodup) (hnew:∀ b,b∈keys G'→b∈keys G∨w.heap.size≤b)
 (hfr:∀ b,b < w.heap.size→b ∉ keys G→w1.heap[b]? = w.heap[b]?) (hsz:w.heap.size≤w1.heap.size) (hs:Same w w1):St w0 K w1 (G'::Gs):=by
 have q:=S.hp.nd;simp only [List.flatten_cons,keys_append] at q;rw [List.nodup_append] at q;obtain ⟨O,D,hdis⟩:=q;have hrest:∀ b,b∈keys Gs.flatten→b < w.heap.size∧b ∉ keys G:=fun b hb =>
  ⟨S.hp.lt (by simp [keys_append,hb]),fun hm=>hdis b hm b hb rfl⟩
 have hold:∀ b,b∈keys (G::Gs).flatten→K b∨w0.heap.size≤b:=S.own;refine ⟨⟨fun b o hb=>?_,?_⟩,fun b hb=>?_,fun b hb hn=>?_,Nat.le_trans S.sz hsz,S.same.trans hs⟩
 · simp only [List.flatten_cons,List.mem_append] at hb
   rcases hb with hb | hb
   · exact J b o hb
   · obtain ⟨E,C⟩:=hrest b (mem_keys hb)
     exact (hfr b E C).trans (S.hp.at_ b o (by simp [hb]))
 · simp only [List.flatten_cons,keys_append]
   rw [List.nodup_append];refine ⟨hnd,D,fun x hx y hy e=>?_⟩;subst e;obtain ⟨E,C⟩:=hrest x hy;rcases hnew x hx with h | h
   · exact C h
   · omega
 · simp only [List.flatten_cons,keys_append,List.mem_append] at hb
   rcases hb with hb | hb
   · rcases hnew b hb with h | h
     · exact hold b (by simp [keys_append,h])
     · exact .inr (Nat.le_trans S.sz h)
   · exact hold b (by simp [keys_append,hb])
 · by_cases hm:b∈keys G
   · rcases hold b (by simp [keys_append,hm]) with h | h
     · exact absurd h hn
     · omega
   · exact (hfr b (Nat.lt_of_lt_of_le hb S.sz) hm).trans (S.fr b hb hn)
theorem perm_erase {α:Type}:∀ (l:List α) (k:Nat) (x:α),l[k]? = some x→l.Perm (x::l.eraseIdx k)
 | [],k,x,h=>by simp at h
 | y::l,0,x,h=>by
  simp only [List.getElem?_cons_zero,Option.some.injEq] at h;subst h;exact List.Perm.refl _
 | y::l,k+1,x,h=>by
  simp only [List.getElem?_cons_succ] at h;exact ((perm_erase l k x h).cons y).trans (List.Perm.swap ..)
theorem St.perm (S:St w0 K w Gs) (hp:Gs.flatten.Perm Gs'.flatten):St w0 K w Gs' :=
 ⟨S.hp.perm hp,fun k hk=>S.own k (((hp.map _).mem_iff).2 hk),S.fr,S.sz,S.same⟩
theorem St.front (S:St w0 K w Gs) (k:Nat) (hk:Gs[k]? = some G):St w0 K w (G::Gs.eraseIdx k):=by
 refine S.perm ?_;exact (perm_erase Gs k G hk).flatten
theorem St.updAt (S:St w0 K w Gs) (k:Nat) (hk:Gs[k]? = some G) (q:∀ b o,(b,o)∈G'→w1.heap[b]? = some o) (hnd:(keys G').Nodup) (hnew:∀ b,b∈keys G'→b∈keys G∨w.heap.size≤b)
 (hfr:∀ b,b < w.heap.size→b ∉ keys G→w1.heap[b]? = w.heap[b]?) (hsz:w.heap.size≤w1.heap.size) (hs:Same w w1):St w0 K w1 (Gs.set k G'):=by
 have h:=(S.front k hk).upd q hnd hnew hfr hsz hs;refine h.perm ?_;have hlt:k < Gs.length:=(List.getElem?_eq_some_iff.1 hk).1;have hp:(G'::Gs.eraseIdx k).Perm (Gs.set k G'):=by
  have q:=perm_erase (Gs.set k G') k G' (by simp [hlt]);rw [List.eraseIdx_set_eq] at q;exact q.symm
 exact hp.flatten
theorem St.drop (S:St w0 K w (G::Gs)):St w0 K w Gs:=by
 have q:=S.hp.nd;simp only [List.flatten_cons,keys_append] at q;rw [List.nodup_append] at q;exact ⟨⟨fun k o h=>S.hp.at_ k o (by simp [h]),q.2.1⟩,fun k hk=>S.own k (by simp [keys_append,hk]),S.fr,S.sz,S.same⟩
theorem St.keep {As Rs:List Grp} (S:St w0 K w (As++Rs)):St w0 K w As:=by
 have hnd:=S.hp.nd;rw [List.flatten_append,keys_append,List.nodup_append] at hnd;exact ⟨⟨fun k o h=>S.hp.at_ k o (by simp [h]),hnd.1⟩,fun k hk=>S.own k (by simp [keys_append,hk]),S.fr,S.sz,S.same⟩
theorem St.split {q C:Grp} (S:St w0 K w ((q++C)::Gs)):St w0 K w (q::C::Gs):=S.perm (by simp)
theorem St.join {q C:Grp} (S:St w0 K w (q::C::Gs)):St w0 K w ((q++C)::Gs):=S.perm (by simp)
theorem St.emp (S:St w0 K w Gs):St w0 K w ([]::Gs):=S.perm (by simp)
theorem St.call {As As' Rs:List Grp} (S:St w0 K w (As++Rs)) (T:St w (·∈keys As.flatten) w1 As'):St w0 K w1 (As'++Rs):=by
 have S':St w0 K w (As.flatten::Rs):=S.perm (by simp);have h:=S'.upd (G':=As'.flatten) T.hp.at_ T.hp.nd (fun b hb=>T.own b hb) (fun b hb hn=>T.fr b hb hn) T.sz T.same;exact h.perm (by simp)
theorem St.sub {As Rs:List Grp} (S:St w0 K w (As++Rs)):Hp w As.flatten:=by
 have hnd:=S.hp.nd;rw [List.flatten_append,keys_append,List.nodup_append] at hnd;exact ⟨fun k o h=>S.hp.at_ k o (by simp [h]),hnd.1⟩
theorem St.toBelow (S:St w0 (fun _=>False) w Gs):RowKit.Below w0.heap.size w0 w:=⟨S.same.os,S.same.tape,S.same.output,S.sz,fun k hk=>S.fr k hk (fun h=>h)⟩
theorem St.weaken {K':Nat→Prop} (S:St w0 K w Gs) (h:∀ k,K k→K' k∨w0.heap.size≤k):St w0 K' w Gs :=
 ⟨S.hp,fun k hk=>(S.own k hk).elim (fun q=>h k q) .inr,fun k hk hn=>S.fr k hk (fun q=>(h k q).elim hn (fun C=>by omega)),S.sz,S.same⟩
end
def cellsAt (w:World) (b off:Nat) (cs:List Value):Prop:=∀ (j:Nat) (v:Value),cs[j]? = some v→w.cell? ⟨b,off+j,none⟩=some v
theorem cellsAt.of_blk {w:World} {b off:Nat} {cur:Array Value} {t:TypeId} {fr:Nat×Nat} {cs:List Value} (hb:w.heap[b]? = some (.cells cur t fr)) (h:(cur.toList.drop off).take cs.length=cs):cellsAt w b off cs:=by
 intro j v hj;rw [cell_of_row w b _ cur t fr hb];have hlt:j < cs.length:=(List.getElem?_eq_some_iff.1 hj).1;rw [← h,List.getElem?_take,if_pos hlt,List.getElem?_drop] at hj
 simpa using hj
theorem cellsAt.ext {w w':World} {b off:Nat} {cs:List Value} (h:cellsAt w b off cs) (hE:Ext w w'):cellsAt w' b off cs:=fun j v hj=>hE.cell (h j v hj)
end Go.Eng
namespace Go.Eng
open Go
section
variable {P:Program} {N:FN} {l:Fr} {dst:Option Tmp} {ty:TypeId} {pos:String} {aft:Array Edge} {g:Option (Nat×Bool)}
def GP (P:Program) (N:FN) (l:Fr) (o:Oper) (v:Value):Prop:=∀ w a,Has N l a→(execOp a.eval o).run P w = .ok (.value v) w
def GR (P:Program) (N:FN) (l:Fr) (w:World) (o:Oper) (v:Value):Prop:=∀ w',Ext w w'→∀ a,Has N l a→(execOp a.eval o).run P w' = .ok (.value v) w'
def GE (P:Program) (N:FN) (l:Fr) (w:World) (o:Oper) (v:Value) (w':World):Prop:=∀ a,Has N l a→(execOp a.eval o).run P w = .ok (.value v) w'
def GU (P:Program) (N:FN) (l:Fr) (w:World) (o:Oper) (w':World):Prop:=∀ a,Has N l a→(execOp a.eval o).run P w = .ok .skip w'
theorem GR.e {o:Oper} {v:Value} {w:World} (h:GR P N l w o v):GE P N l w o v w:=fun a ha=>h w (Ext.refl _) a ha
section
variable {ops:Array Oper} {Q:Exit→Act→World→Prop} {rest:List Oper} {w w':World} {d:Nat} {op:Op} {es:List En} {i:Nat} {W:List Nat} {v:Value}
theorem WOps.p (h:GP P N l ⟨some d,op,ty,pos,aft,none⟩ v) (hd:Nat.blt d N.n=true) (k:WOps P N ops Q rest ((d,v)::l) w):WOps P N ops Q (⟨some d,op,ty,pos,aft,none⟩::rest) l w:=WOps.val (fun a ha=>h w a ha) hd k
theorem WOps.r (h:GR P N l w ⟨some d,op,ty,pos,aft,none⟩ v) (hd:Nat.blt d N.n=true) (k:WOps P N ops Q rest ((d,v)::l) w):WOps P N ops Q (⟨some d,op,ty,pos,aft,none⟩::rest) l w:=WOps.val h.e hd k
theorem WOps.e (h:GE P N l w ⟨some d,op,ty,pos,aft,none⟩ v w') (hd:Nat.blt d N.n=true) (k:WOps P N ops Q rest ((d,v)::l) w'):WOps P N ops Q (⟨some d,op,ty,pos,aft,none⟩::rest) l w:=WOps.val h hd k
theorem WOps.u (h:GU P N l w ⟨none,op,ty,pos,aft,none⟩ w') (k:WOps P N ops Q rest l w'):WOps P N ops Q (⟨none,op,ty,pos,aft,none⟩::rest) l w:=WOps.skip h k
theorem WD.p (hi:ops[i]? = some ⟨some d,op,ty,pos,aft,none⟩) (h:GP P N l ⟨some d,op,ty,pos,aft,none⟩ v) (hd:Nat.blt d N.n=true) (k:WD P N ops Q es ((d,v)::l) w):WD P N ops Q (⟨i,0,W⟩::es) l w:=WD.pure hi (fun w a ha=>h w a ha) hd k
theorem WD.r (hi:ops[i]? = some ⟨some d,op,ty,pos,aft,none⟩) (h:GR P N l w ⟨some d,op,ty,pos,aft,none⟩ v) (hd:Nat.blt d N.n=true) (k:WD P N ops Q es ((d,v)::l) w):WD P N ops Q (⟨i,1,W⟩::es) l w:=WD.read hi h hd k
theorem WD.e (hi:ops[i]? = some ⟨some d,op,ty,pos,aft,none⟩) (h:GE P N l w ⟨some d,op,ty,pos,aft,none⟩ v w') (hd:Nat.blt d N.n=true) (k:WD P N ops Q es ((d,v)::l) w'):WD P N ops Q (⟨i,2,W⟩::es) l w:=WD.act hi h hd k
theorem WD.u (hi:ops[i]? = some ⟨none,op,ty,pos,aft,none⟩) (h:GU P N l w ⟨none,op,ty,pos,aft,none⟩ w') (k:WD P N ops Q es l w'):WD P N ops Q (⟨i,2,W⟩::es) l w:=WD.act0 hi h k
end
theorem G.move {x:Operand} {v:Value} (hx:ev l x=some v):GP P N l ⟨dst,.move x,ty,pos,aft,g⟩ v:=fun w a ha=>by
 show Result.ok (Next.value (a.eval x)) w=_
 rw [ha.ev hx]
theorem G.assign {x:Operand} {v:Value} (hx:ev l x=some v):GP P N l ⟨dst,.assign x,ty,pos,aft,g⟩ v:=fun w a ha=>by
 show Result.ok (Next.value (a.eval x)) w=_
 rw [ha.ev hx]
theorem G.pick_t {c x y:Operand} {v:Value} (hc:ev l c=some (.bool true)) (hx:ev l x=some v):GP P N l ⟨dst,.pick c x y,ty,pos,aft,g⟩ v:=fun w a ha=>by
 unfold execOp
 simp [ha.ev hc,ha.ev hx,asBool]
theorem G.pick_f {c x y:Operand} {v:Value} (hc:ev l c=some (.bool false)) (hy:ev l y=some v):GP P N l ⟨dst,.pick c x y,ty,pos,aft,g⟩ v:=fun w a ha=>by
 unfold execOp
 simp [ha.ev hc,ha.ev hy,asBool]
theorem G.extract {x:Operand} {n:Nat} {vs:Array Value} {v:Value} (hx:ev l x=some (.tuple vs)) (hv:vs[n]? = some v):GP P N l ⟨dst,.extract x n,ty,pos,aft,g⟩ v:=fun w a ha=>by
 unfold execOp
 simp [ha.ev hx,Instr.extract,hv]
theorem G.nilp {x:Operand} {p:Addr} (hx:ev l x=some (.pointer (some p))):GP P N l ⟨dst,.nilCheck x,ty,pos,aft,g⟩ (.pointer (some p)):=fun w a ha=>by
 unfold execOp
 simp [ha.ev hx]
def fldOff (P:Program) (S:TypeId) (f:Nat):Option Nat :=
 match P.underlying S with
 | some (.struct fs)=>match fs[f]? with
  | some fd=>match P.info? fd.type with
   | some i=>if i.size=0 then none else some fd.offset
   | none=>none
  | none=>none
 | _=>none
theorem G.field {S:TypeId} {x:Operand} {f off b o o':Nat} (hf:fldOff P S f=some off) (hx:ev l x=some (.pointer (some ⟨b,o,none⟩))) (he:o+off=o') :
 GP P N l ⟨dst,.fieldAddr S x f,ty,pos,aft,g⟩ (.pointer (some ⟨b,o',none⟩)):=fun w a ha=>by
 unfold fldOff at hf
 split at hf
 · rename_i fs hS
   split at hf
   · rename_i fd hfd
     split at hf
     · rename_i i hi
       split at hf
       · cases hf
       · rename_i hne
         cases hf
         unfold execOp
         simp [ha.ev hx,Instr.fieldAt,run_underlying hS,hfd,Instr.sureAddr,fieldPlace,sizeOf,typeInfo,hi,hne,Addr.add_lit,he]
     · cases hf
   · cases hf
 · cases hf
def slEl (P:Program) (t:TypeId):Option Nat :=
 match P.underlying t with
 | some (.slice e)=>(P.info? e).map (·.size)
 | _=>none
theorem slEl_spec {t:TypeId} {sz:Nat} (h:slEl P t=some sz):∃ e i,P.underlying t=some (.slice e)∧P.info? e=some i∧i.size=sz:=by
 unfold slEl at h
 split at h
 · rename_i e he
   obtain ⟨i,hi,hs⟩:=Option.map_eq_some_iff.1 h;exact ⟨e,i,he,hi,hs⟩
 · cases h
theorem G.index {t:TypeId} {sz:Nat} {x i:Operand} {b o n c j o':Nat} {k:IntKind} (hT:slEl P t=some sz) (hx:ev l x=some (.slice (some ⟨b,o,none⟩) n c)) (hi:ev l i=some (.int k (j:Int))) (hj:j < n) (he:o+j * sz=o') :
 GP P N l ⟨dst,.indexAddr t x i,ty,pos,aft,g⟩ (.pointer (some ⟨b,o',none⟩)):=fun w a ha=>by
 obtain ⟨e,ti,q,C,D⟩:=slEl_spec hT;unfold execOp
 simp [ha.ev hx,ha.ev hi,Instr.indexAt,run_underlying q,asIntOf,sizeOf,typeInfo,C,D,Addr.add_lit,he,hj]
theorem G.len {t:TypeId} {sz:Nat} {x:Operand} {A:OA} {n c:Nat} (hT:slEl P t=some sz) (hx:ev l x=some (.slice A n c)) :
 GP P N l ⟨dst,.call { callee:=.builtin .len,args:=#[x],argTypes:=#[t] },ty,pos,aft,g⟩ (.int .i64 (n:Int)):=fun w a ha=>by
 obtain ⟨e,ti,q,C,D⟩:=slEl_spec hT;unfold execOp
 simp [resolve,invoke,builtin,ha.ev hx,Builtin.len_,run_underlying q,goInt]
def isStr (P:Program) (t:TypeId):Bool:=match P.underlying t with | some .string=>true | _=>false
theorem isStr_spec {t:TypeId} (h:isStr P t=true):P.underlying t=some .string:=by
 unfold isStr at h
 split at h
 · assumption
 · cases h
theorem G.lens {t:TypeId} {x:Operand} {s:ByteArray} (hT:isStr P t=true) (hx:ev l x=some (.string s)) :
 GP P N l ⟨dst,.call { callee:=.builtin .len,args:=#[x],argTypes:=#[t] },ty,pos,aft,g⟩ (.int .i64 (s.size:Int)):=fun w a ha=>by
 unfold execOp
 simp [resolve,invoke,builtin,ha.ev hx,Builtin.len_,run_underlying (isStr_spec hT),goInt]
section
variable {t u:TypeId} {x y:Operand} {k k':IntKind} {m n r:Int} {b:Bool}
theorem G.add (hx:ev l x=some (.int k m)) (hy:ev l y=some (.int k n)) (hr:k.wrap (m+n)=r):GP P N l ⟨dst,.binOp .add t x y u,ty,pos,aft,g⟩ (.int k r):=fun w a ha=>by
 unfold execOp;simp [ha.ev hx,ha.ev hy,eqGuard_at_int,binOp_add,Op.intArith,hr]
theorem G.sub (hx:ev l x=some (.int k m)) (hy:ev l y=some (.int k n)) (hr:k.wrap (m - n)=r):GP P N l ⟨dst,.binOp .sub t x y u,ty,pos,aft,g⟩ (.int k r):=fun w a ha=>by
 unfold execOp;simp [ha.ev hx,ha.ev hy,eqGuard_at_int,binOp_sub,Op.intArith,hr]
theorem G.mul (hx:ev l x=some (.int k m)) (hy:ev l y=some (.int k n)) (hr:k.wrap (m * n)=r):GP P N l ⟨dst,.binOp .mul t x y u,ty,pos,aft,g⟩ (.int k r):=fun w a ha=>by
 unfold execOp;simp [ha.ev hx,ha.ev hy,eqGuard_at_int,binOp_mul,Op.intArith,hr]
theorem G.quo (hx:ev l x=some (.int k m)) (hy:ev l y=some (.int k n)) (q:n≠0) (hr:k.wrap (m.tdiv n)=r):GP P N l ⟨dst,.binOp .quo t x y u,ty,pos,aft,g⟩ (.int k r):=fun w a ha=>by
 unfold execOp;simp [ha.ev hx,ha.ev hy,eqGuard_at_int,binOp_quo,Op.intDiv,q,hr]
theorem G.rem (hx:ev l x=some (.int k m)) (hy:ev l y=some (.int k n)) (q:n≠0) (hr:m.tmod n=r):GP P N l ⟨dst,.binOp .rem t x y u,ty,pos,aft,g⟩ (.int k r):=fun w a ha=>by
 unfold execOp;simp [ha.ev hx,ha.ev hy,eqGuard_at_int,binOp_rem,Op.intDiv,q,hr]
theorem G.neg (hx:ev l x=some (.int k m)) (hr:k.wrap (-m)=r):GP P N l ⟨dst,.unOp .neg t x,ty,pos,aft,g⟩ (.int k r):=fun w a ha=>by
 unfold execOp;simp [ha.ev hx,Op.unary,Op.intArith,hr]
theorem G.lss (hx:ev l x=some (.int k m)) (hy:ev l y=some (.int k n)) (hr:decide (m < n)=b):GP P N l ⟨dst,.binOp .lss t x y u,ty,pos,aft,g⟩ (.bool b):=fun w a ha=>by
 subst hr;unfold execOp;simp [ha.ev hx,ha.ev hy,eqGuard_at_int,binOp_lss]
theorem G.leq (hx:ev l x=some (.int k m)) (hy:ev l y=some (.int k n)) (hr:decide (m≤n)=b):GP P N l ⟨dst,.binOp .leq t x y u,ty,pos,aft,g⟩ (.bool b):=fun w a ha=>by
 subst hr;unfold execOp;simp [ha.ev hx,ha.ev hy,eqGuard_at_int,binOp_leq]
theorem G.gtr (hx:ev l x=some (.int k m)) (hy:ev l y=some (.int k n)) (hr:decide (n < m)=b):GP P N l ⟨dst,.binOp .gtr t x y u,ty,pos,aft,g⟩ (.bool b):=fun w a ha=>by
 subst hr;unfold execOp;simp [ha.ev hx,ha.ev hy,eqGuard_at_int,binOp_gtr]
theorem G.geq (hx:ev l x=some (.int k m)) (hy:ev l y=some (.int k n)) (hr:decide (n≤m)=b):GP P N l ⟨dst,.binOp .geq t x y u,ty,pos,aft,g⟩ (.bool b):=fun w a ha=>by
 subst hr;unfold execOp;simp [ha.ev hx,ha.ev hy,eqGuard_at_int,binOp_geq]
theorem G.eql (hx:ev l x=some (.int k m)) (hy:ev l y=some (.int k n)) (hr:decide (m=n)=b):GP P N l ⟨dst,.binOp .eql t x y u,ty,pos,aft,g⟩ (.bool b):=fun w a ha=>by
 subst hr;unfold execOp;simp [ha.ev hx,ha.ev hy,eqGuard_at_int,binOp_eql];rfl
theorem G.neq (hx:ev l x=some (.int k m)) (hy:ev l y=some (.int k n)) (hr:(!decide (m=n))=b):GP P N l ⟨dst,.binOp .neq t x y u,ty,pos,aft,g⟩ (.bool b):=fun w a ha=>by
 subst hr;unfold execOp;simp [ha.ev hx,ha.ev hy,eqGuard_at_int,binOp_neq];rfl
theorem G.not {c:Bool} (hx:ev l x=some (.bool c)) (hr:(!c)=b):GP P N l ⟨dst,.unOp .not t x,ty,pos,aft,g⟩ (.bool b):=fun w a ha=>by
 subst hr;unfold execOp;simp [ha.ev hx,Op.unary]
theorem G.min (hx:ev l x=some (.int k m)) (hy:ev l y=some (.int k' n)) (hr:(if n < m then n else m)=r) :
 GP P N l ⟨dst,.call { callee:=.builtin .min,args:=#[x,y],argTypes:=#[t,u] },ty,pos,aft,g⟩ (.int k r):=fun w a ha=>by
 subst hr;unfold execOp;simp [resolve,invoke,builtin,ha.ev hx,ha.ev hy,run_min_int2]
theorem G.max (hx:ev l x=some (.int k m)) (hy:ev l y=some (.int k' n)) (hr:(if n > m then n else m)=r) :
 GP P N l ⟨dst,.call { callee:=.builtin .max,args:=#[x,y],argTypes:=#[t,u] },ty,pos,aft,g⟩ (.int k r):=fun w a ha=>by
 subst hr;unfold execOp;simp [resolve,invoke,builtin,ha.ev hx,ha.ev hy,run_max_int2]
theorem beq_toList (a b:ByteArray):(a.toList == b.toList)=decide (a=b):=by
 rw [ByteArray.toList_eq,ByteArray.toList_eq,Bool.eq_iff_iff];obtain ⟨⟨x⟩⟩:=a;obtain ⟨⟨y⟩⟩:=b
 simp
theorem G.eqs {s s':ByteArray} (hx:ev l x=some (.string s)) (hy:ev l y=some (.string s')) (hr:decide (s=s')=b):GP P N l ⟨dst,.binOp .eql t x y u,ty,pos,aft,g⟩ (.bool b):=fun w a ha=>by
 subst hr;unfold execOp;simp [ha.ev hx,ha.ev hy,eqGuard_at_string,binOp_string_eql,beq_toList]
theorem G.neqs {s s':ByteArray} (hx:ev l x=some (.string s)) (hy:ev l y=some (.string s')) (hr:(!decide (s=s'))=b):GP P N l ⟨dst,.binOp .neq t x y u,ty,pos,aft,g⟩ (.bool b):=fun w a ha=>by
 subst hr;unfold execOp;simp [ha.ev hx,ha.ev hy,eqGuard_at_string,binOp_string_neq,beq_toList]
theorem G.bin {op:BinOp} {q C v:Value} (hx:ev l x=some q) (hy:ev l y=some C) (hg:∀ w,(eqGuard op t x y q C).run P w = .ok () w) (hr:∀ w,(binOp op t q C).run P w = .ok v w):GP P N l ⟨dst,.binOp op t x y u,ty,pos,aft,g⟩ v:=fun w a ha=>by
 unfold execOp;simp [ha.ev hx,ha.ev hy,hg,hr]
end
def isAggT (P:Program) (t:TypeId) (n:Nat):Bool:=match P.underlying t,P.info? t with
 | some (.struct _),some i=>i.size == n
 | some (.array ..),some i=>i.size == n
 | _,_=>false
theorem isAgg_run {t:TypeId} {n:Nat} (h:isAggT P t n=true) (w:World):(isAgg t).run P w = .ok true w∧(sizeOf t).run P w = .ok n w:=by
 unfold isAggT at h
 split at h
 · rename_i hu hi
   simp only [beq_iff_eq] at h;exact ⟨by simp [isAgg,run_underlying hu],by simp [sizeOf,typeInfo,hi,h]⟩
 · rename_i hu hi
   simp only [beq_iff_eq] at h;exact ⟨by simp [isAgg,run_underlying hu],by simp [sizeOf,typeInfo,hi,h]⟩
 · cases h
theorem run_loadAgg {w:World} {t:TypeId} {b off:Nat} {cs:List Value} (h:isAggT P t cs.length=true) (hc:cellsAt w b off cs):(loadVar t ⟨b,off,none⟩).run P w = .ok (.agg cs.toArray) w:=by
 obtain ⟨q,C⟩:=isAgg_run h w;have D:=run_loadCells_list (P:=P) w ⟨b,off,none⟩ cs (fun j v hj=>by rw [Addr.add_lit];exact hc j v hj)
 simp [loadVar,q,C,D]
theorem G.loada {w:World} {t:TypeId} {x:Operand} {b off:Nat} {cs:List Value} (h:isAggT P t cs.length=true) (hx:ev l x=some (.pointer (some ⟨b,off,none⟩))) (hc:cellsAt w b off cs) :
 GR P N l w ⟨dst,.load t x,ty,pos,aft,g⟩ (.agg cs.toArray):=fun w' hE a ha=>by
 unfold execOp;simp [ha.ev hx,Instr.loadAt,Instr.sureAddr,run_loadAgg h (hc.ext hE)]
def isOneT (P:Program) (t:TypeId):Bool:=match P.underlying t with
 | some (.struct _)=>false
 | some (.array ..)=>false
 | some _=>true
 | none=>false
theorem isOne_run {t:TypeId} (h:isOneT P t=true) (w:World):(isAgg t).run P w = .ok false w:=by
 unfold isOneT at h
 split at h
 · cases h
 · cases h
 · rename_i d _ _ hu
   unfold isAgg;cases d <;> simp_all [run_underlying]
 · cases h
theorem G.load1 {w:World} {t:TypeId} {x:Operand} {p:Addr} {v:Value} (h:isOneT P t=true) (hx:ev l x=some (.pointer (some p))) (hc:w.cell? p=some v) :
 GR P N l w ⟨dst,.load t x,ty,pos,aft,g⟩ v:=fun w' hE a ha=>by
 unfold execOp;simp [ha.ev hx,Instr.loadAt,Instr.sureAddr,loadVar,isOne_run h,hE.cell hc]
theorem G.build {t:TypeId} {ps:Array (Nat×Operand)} {vs:List (Nat×Value)} {cells:Array Value} (hv:∀ a,Has N l a→(ps.map fun (i,x)=>(i,a.eval x)).toList=vs) (hb:P.built t vs=some cells) :
 GP P N l ⟨dst,.build t ps,ty,pos,aft,g⟩ (.agg cells):=fun w a ha=>by
 unfold execOp;have:=run_build (P:=P) w t (ps.map fun (i,x)=>(i,a.eval x)) cells (by rw [hv a ha];exact hb);simp only [Sem.run_bind,this,Result.andThen_ok,Sem.run_pure]
def evp (l:Fr):List (Nat×Operand)→List (Nat×Value)→Prop
 | [],vs=>vs=[]
 | (i,x)::ps,vs=>∃ v r,vs=(i,v)::r∧ev l x=some v∧evp l ps r
theorem evp_nil:evp l [] []:=rfl
theorem evp_cons {i:Nat} {x:Operand} {ps:List (Nat×Operand)} {v:Value} {vs:List (Nat×Value)} (h:ev l x=some v) (hs:evp l ps vs):evp l ((i,x)::ps) ((i,v)::vs):=⟨v,vs,rfl,h,hs⟩
theorem evp_spec:∀ {ps:List (Nat×Operand)} {vs:List (Nat×Value)},evp l ps vs→∀ a,Has N l a→(ps.toArray.map fun (i,x)=>(i,a.eval x)).toList=vs
 | [],_,hv,a,_=>by cases hv;simp
 | (i,x)::ps,_,hv,a,ha=>by
  obtain ⟨v,r,rfl,q,C⟩:=hv;have:=evp_spec C a ha;simp only [List.map_toArray] at this ⊢
  simp [ha.ev q,this]
end
end Go.Eng
namespace Go.Eng
open Go
def Rd (w:World) (A:OA) (n sz:Nat) (xs:List Value):Prop:=xs.length=n * sz∧(0 < n→∃ b off,A=some ⟨b,off,none⟩∧cellsAt w b off xs)
theorem Rd.ext {w w':World} {A:OA} {n sz:Nat} {xs:List Value} (h:Rd w A n sz xs) (hE:Ext w w'):Rd w' A n sz xs :=
 ⟨h.1,fun hn=>by obtain ⟨b,off,e,hc⟩:=h.2 hn;exact ⟨b,off,e,hc.ext hE⟩⟩
theorem Rd.empty {w:World} {A:OA} {sz:Nat} {xs:List Value} (h:Rd w A 0 sz xs):xs=[]:=List.eq_nil_of_length_eq_zero (by simpa using h.1)
theorem cellsAt.sub {w:World} {b off:Nat} {xs:List Value} (h:cellsAt w b off xs) (i n:Nat):cellsAt w b (off+i) ((xs.drop i).take n):=by
 intro j v hj;rw [List.getElem?_take] at hj
 split at hj
 · rw [List.getElem?_drop] at hj
   rw [Nat.add_assoc];exact h _ v hj
 · cases hj
theorem run_firstRd {P:Program} {w:World} {A:OA} {n sz c:Nat} {xs:List Value} (h:Rd w A n sz xs):(Builtin.firstCells sz n (.slice A n c)).run P w = .ok xs.toArray w:=by
 rcases Nat.eq_zero_or_pos n with q | q
 · subst q
   have:=h.empty;subst this;cases A with
   | none=>simp [Builtin.firstCells]
   | some a =>
    have:=run_firstCells_some (P:=P) w sz 0 a 0 c [] (by simp) (by simp)
    simpa using this
 · obtain ⟨b,off,rfl,hc⟩:=h.2 q
   exact run_firstCells_some (P:=P) w sz n ⟨b,off,none⟩ n c xs h.1 (fun j v hj=>by rw [Addr.add_lit];exact hc j v hj)
section
variable {P:Program} {w0 w:World} {K:Nat→Prop} {Gs:List Grp} {G:Grp}
theorem St.box (S:St w0 K w Gs) (P:Program) (T:TypeId) (v:Value):∃ b w1,
 (∀ {N:FN} {l:Fr} {x:Operand} {dst:Option Tmp} {ty:TypeId} {pos:String} {aft:Array Edge} {g:Option (Nat×Bool)},ev l x=some v→GE P N l w ⟨dst,.box T x,ty,pos,aft,g⟩ (.pointer (some ⟨b,0,none⟩)) w1) ∧
 St w0 K w1 ([(b,.cells v.cells T)]::Gs)∧Ext w w1∧w.heap.size≤b:=by
 refine ⟨w.heap.size,w.alloc (.cells v.cells T),fun hx a ha=>?_,S.alloc _,Ext.alloc _ _,Nat.le_refl _⟩;unfold execOp
 simp [ha.ev hx,Instr.box,newVar,newRow]
def zeroOf (P:Program) (T:TypeId):OV:=(P.info? T).bind (·.zero)
theorem run_zero {T:TypeId} {z:Value} (h:zeroOf P T=some z) (w:World):(zeroValue T).run P w = .ok z w:=by
 obtain ⟨i,hi,hz⟩:=Option.bind_eq_some_iff.1 h
 simp [zeroValue,typeInfo,hi,hz]
theorem St.var (S:St w0 K w Gs) {T:TypeId} {z:Value} (hz:zeroOf P T=some z):∃ b w1,
 (∀ {N:FN} {l:Fr} {dst:Option Tmp} {ty:TypeId} {pos:String} {aft:Array Edge} {g:Option (Nat×Bool)},GE P N l w ⟨dst,.alloc T,ty,pos,aft,g⟩ (.pointer (some ⟨b,0,none⟩)) w1) ∧
 St w0 K w1 ([(b,.cells z.cells T)]::Gs)∧Ext w w1∧w.heap.size≤b:=by
 refine ⟨w.heap.size,w.alloc (.cells z.cells T),fun a ha=>?_,S.alloc _,Ext.alloc _ _,Nat.le_refl _⟩;unfold execOp
 simp [Instr.alloc,run_zero hz,newVar,newRow]
theorem same_setRow (w:World) (g:Nat) (cs:Array Value):Same w (w.setRow g cs):=⟨rfl,rfl,rfl⟩
theorem St.setRow (S:St w0 K w Gs) (k:Nat) {b:Nat} {cur:Array Value} {t:TypeId} (hk:Gs[k]? = some [(b,.cells cur t (0,0))]) (cur':Array Value) :
 St w0 K (w.setRow b cur') (Gs.set k [(b,.cells cur' t (0,0))]):=by
 refine S.updAt k hk (fun c o hc=>?_) (by simp [keys]) (fun c hc=>.inl (by simpa [keys] using hc)) (fun c _ hn=>setRow_other w b c cur' (fun e=>hn (by simp [keys,e]))) (by simp) (same_setRow _ _ _);simp only [List.mem_singleton,Prod.mk.injEq] at hc;obtain ⟨rfl,rfl⟩:=hc;exact setRow_heap w c cur cur' t (0,0) (S.blk k hk)
def sizeT (P:Program) (T:TypeId):Option Nat:=(P.info? T).map (·.size)
theorem sizeT_run {T:TypeId} {n:Nat} (h:sizeT P T=some n) (w:World):(sizeOf T).run P w = .ok n w:=by
 obtain ⟨i,hi,hs⟩:=Option.map_eq_some_iff.1 h
 simp [sizeOf,typeInfo,hi,hs]
def over (cur:Array Value) (off:Nat) (cs:List Value):Array Value:=(cur.toList.take off++cs++cur.toList.drop (off+cs.length)).toArray
theorem run_storeOver {w:World} {T:TypeId} {v:Value} {b off:Nat} {cur:Array Value} {t:TypeId} (hb:w.heap[b]? = some (.cells cur t (0,0))) (hs:sizeT P T=some v.cells.size) (hfit:off+v.cells.size≤cur.size) (q:∀ u∈v.cells.toList,u.oneCell'=true) :
 (storeVar T ⟨b,off,none⟩ v).run P w = .ok () (w.setRow b (over cur off v.cells.toList)):=by
 have h:=run_storeCells_at P b off t v.cells.toList 0 cur w hb (by simpa using hfit) q;simp only [Nat.add_zero] at h;simp only [storeVar,Sem.run_bind,sizeT_run hs,Result.andThen_ok,ne_eq,not_true,if_false,h]
 rfl
theorem St.store (S:St w0 K w Gs) (k:Nat) (T:TypeId) (v:Value) {b off:Nat} {cur cur':Array Value} {t:TypeId} (hk:Gs[k]? = some [(b,.cells cur t (0,0))]) (hs:sizeT P T=some v.cells.size)
 (hfit':Nat.ble (off+v.cells.size) cur.size=true) (q:v.cells.toList.all Value.oneCell'=true) (hc:over cur off v.cells.toList=cur'):∃ w1,
 (∀ {N:FN} {l:Fr} {x y:Operand} {dst:Option Tmp} {ty:TypeId} {pos:String} {aft:Array Edge} {g:Option (Nat×Bool)},ev l x=some (.pointer (some ⟨b,off,none⟩))→ev l y=some v→GU P N l w ⟨dst,.store T x y,ty,pos,aft,g⟩ w1) ∧
 St w0 K w1 (Gs.set k [(b,.cells cur' t (0,0))]):=by
 subst hc;have hfit:off+v.cells.size≤cur.size:=by simpa [Nat.ble_eq] using hfit'
 have C:∀ u∈v.cells.toList,u.oneCell'=true:=List.all_eq_true.1 q;refine ⟨_,fun hx hy a ha=>?_,S.setRow k hk _⟩;unfold execOp
 simp [ha.ev hx,ha.ev hy,Instr.storeAt,Instr.sureAddr,run_storeOver (S.blk k hk) hs hfit C]
def sliceLit (P:Program) (t:TypeId) (n:Nat) (vs:List (Nat×Value)):Option (TypeId×Array Value) :=
 match P.underlying t with
 | some (.slice e)=>match P.info? e with
  | some i=>if n * i.size > 2 ^ 24 then none else
   match (if n * i.size=0 then some #[] else i.zero.map (·.cells)) with
   | some z=>(Instr.fill (fun k=>some (k * i.size,i.size)) ((Array.range (n * i.size)).map (z[· % z.size]!)) vs).map fun cs=>(e,cs)
   | none=>none
  | none=>none
 | _=>none
theorem run_sliceLit {t e:TypeId} {n:Nat} {vs:List (Nat×Value)} {cs:Array Value} (h:sliceLit P t n vs=some (e,cs)) (w:World) (ps:Array (Nat×Value)) (hp:ps.toList=vs) :
 (Instr.buildSlice t n ps).run P w = .ok (.slice (some ⟨w.heap.size,0,none⟩) n n) (w.alloc (.cells cs e)):=by
 unfold sliceLit at h
 split at h
 · rename_i e' hu
   split at h
   · rename_i i hi
     split at h
     · cases h
     · rename_i C
       split at h
       · rename_i z hz
         obtain ⟨cs',hf,he⟩:=Option.map_eq_some_iff.1 h;cases he;subst hp;unfold Instr.buildSlice;by_cases q:n * i.size=0
         · rw [if_pos q] at hz
           cases hz
           simp [run_underlying hu,sizeOf,typeInfo,hi,q,newRow] at hf ⊢
           simp [hf]
         · rw [if_neg q] at hz
           obtain ⟨zv,hzv,rfl⟩:=Option.map_eq_some_iff.1 hz
           simp [run_underlying hu,sizeOf,typeInfo,hi,C,q,zeroValue,hzv,hf,newRow]
       · cases h
   · cases h
 · cases h
theorem St.lit (S:St w0 K w Gs) {t e:TypeId} {n:Nat} {vs:List (Nat×Value)} {cs:Array Value} (h:sliceLit P t n vs=some (e,cs)):∃ b w1,
 (∀ {N:FN} {l:Fr} {ps:List (Nat×Operand)} {dst:Option Tmp} {ty:TypeId} {pos:String} {aft:Array Edge} {g:Option (Nat×Bool)},evp l ps vs→GE P N l w ⟨dst,.buildSlice t n ps.toArray,ty,pos,aft,g⟩ (.slice (some ⟨b,0,none⟩) n n) w1) ∧
 St w0 K w1 ([(b,.cells cs e)]::Gs)∧Ext w w1∧w.heap.size≤b:=by
 refine ⟨w.heap.size,w.alloc (.cells cs e),fun hx a ha=>?_,S.alloc _,Ext.alloc _ _,Nat.le_refl _⟩;unfold execOp;have:=run_sliceLit (P:=P) h w (List.toArray _ |>.map fun (i,x)=>(i,a.eval x)) (evp_spec hx a ha)
 dsimp only
 simp only [Sem.run_bind,this,Result.andThen_ok,Sem.run_pure]
def RowG (e:TypeId) (sz:Nat) (v:Value) (n:Nat) (xs:List Value) (G:Grp):Prop :=
 xs.length=n * sz ∧
 ((∃ A,v = .slice A 0 0∧n=0∧G=[]) ∨
  ∃ b off cap cur,v = .slice (some ⟨b,off,none⟩) n cap∧0 < cap∧G=[(b,.cells cur e (0,0))]∧n≤cap∧cap≤maxLen∧off+cap * sz≤cur.size∧(cur.toList.drop off).take (n * sz)=xs)
theorem RowG.nil (e:TypeId) (sz:Nat):RowG e sz (.slice none 0 0) 0 [] []:=⟨by simp,.inl ⟨none,rfl,rfl,rfl⟩⟩
theorem RowG.rd {e:TypeId} {sz n:Nat} {A:OA} {m c:Nat} {xs:List Value} {G:Grp} (h:RowG e sz (.slice A m c) n xs G) {w:World} (hG:∀ b o,(b,o)∈G→w.heap[b]? = some o):m=n∧Rd w A n sz xs:=by
 obtain ⟨hl,q⟩:=h;rcases q with ⟨A',hv,rfl,_⟩|⟨b,off,cap,cur,hv,_,rfl,_,_,_,ht⟩
 · cases hv
   exact ⟨rfl,hl,fun h=>absurd h (by omega)⟩
 · cases hv
   exact ⟨rfl,hl,fun _=>⟨b,off,rfl,cellsAt.of_blk (hG b _ (List.mem_singleton.2 rfl)) (by rw [hl];exact ht)⟩⟩
structure Elt (P:Program) (t e:TypeId) (sz bytes:Nat):Prop where
 u:P.underlying t=some (.slice e)
 i:∃ i z,P.info? e=some i∧i.zero=some z∧i.size=sz∧i.bytes=bytes∧z.cells.size=sz
theorem run_append_row {t e ty:TypeId} {sz bytes:Nat} (hT:Elt P t e sz bytes) {A B:OA} {n cap m c:Nat} {xs news:List Value} {G:Grp}
 (h:RowG e sz (.slice A n cap) n xs G) (hG:∀ b o,(b,o)∈G→w.heap[b]? = some o) (hr:Rd w B m sz news) (E:∀ u∈news,u.oneCell'=true)
 (q:n+m≤maxLen) (hbytes:(n+m) * bytes≤140737488355328) :
 ∃ A' cap' G' w1,(Builtin.append_ #[t,t] ty #[.slice A n cap,.slice B m c]).run P w = .ok (.slice A' (n+m) cap') w1∧RowG e sz (.slice A' (n+m) cap') (n+m) (xs++news) G' ∧
  (∀ b o,(b,o)∈G'→w1.heap[b]? = some o)∧(keys G').Nodup∧(∀ b,b∈keys G'→b∈keys G∨w.heap.size≤b) ∧
  (∀ b,b < w.heap.size→b ∉ keys G→w1.heap[b]? = w.heap[b]?)∧w.heap.size≤w1.heap.size∧Same w w1:=by
 obtain ⟨hu,i,z,hi,hz,hsz,hby,hzs⟩:=hT;have hrd:=(h.rd hG).2;have hlen:(xs++news).length=(n+m) * sz:=by rw [List.length_append,h.1,hr.1,Nat.add_mul]
 have hsmall:n+m≤9223372036854775807:=by simp only [maxLen] at q;omega
 by_cases hroom:n+m≤cap
 · -- in place
   obtain ⟨hxl,J⟩:=h;rcases J with ⟨A',hv,rfl,rfl⟩|⟨b,off,cap',cur,hv,hpos,rfl,hnc,hcm,hfit,ht⟩
   · cases hv
     have hm:m=0:=by omega
     subst hm;have hx:xs=[]:=hrd.empty;have hn:news=[]:=hr.empty;subst hx hn;have hf:=run_firstRd (P:=P) (c:=c) hr;refine ⟨A,0,[],w,?_,⟨by simp,.inl ⟨A,rfl,rfl,rfl⟩⟩,by simp,by simp [keys],by simp [keys],fun _ _ _=>rfl,Nat.le_refl _,Same.refl _⟩;cases A <;> simp [Builtin.append_,run_underlying hu,sizeOf,typeInfo,hi,hsz,Builtin.lenOf,hf,storeCells]
   · cases hv
     have hb:=hG b _ (List.mem_singleton.2 rfl);have hf:=run_firstRd (P:=P) (c:=c) hr;have hle:off+n * sz+news.length≤cur.size:=by
      rw [hr.1,Nat.add_assoc,← Nat.add_mul];exact Nat.le_trans (Nat.add_le_add_left (Nat.mul_le_mul_right _ hroom) _) hfit
     have hst:=run_storeCells_at P b (off+n * sz) e news 0 cur w hb (by simpa using hle) E;simp only [Nat.add_zero] at hst;refine ⟨some ⟨b,off,none⟩,cap,[(b,.cells (over cur (off+n * sz) news) e (0,0))],w.setRow b (over cur (off+n * sz) news),?_,?_,?_,by simp [keys],fun b' hb'=>.inl (by simpa [keys] using hb'),?_,by simp,same_setRow _ _ _⟩
     · simp [Builtin.append_,run_underlying hu,sizeOf,typeInfo,hi,hsz,Builtin.lenOf,hroom,hf,Addr.add_lit,hst,over]
     · refine ⟨hlen,.inr ⟨b,off,cap,_,rfl,hpos,rfl,hroom,hcm,?_,?_⟩⟩
       · have:(over cur (off+n * sz) news).size=cur.size:=by
          simp [over];omega
         rw [this];exact hfit
       · have hnl:n * sz=xs.length:=hxl.symm
         have hcl:off+n * sz≤cur.toList.length:=by simp;omega
         simp only [over,List.append_assoc];rw [List.drop_append_of_le_length (by simp;omega),List.drop_take,show off+n * sz - off=n * sz by omega,ht,← hlen,← List.append_assoc];exact List.take_left
     · intro b' o hb'
       simp only [List.mem_singleton,Prod.mk.injEq] at hb';obtain ⟨rfl,rfl⟩:=hb';exact setRow_heap w b' cur _ e (0,0) hb
     · intro b' _ hn
       exact setRow_other w b b' _ (fun he=>hn (by simp [keys,he]))
 · have hg:cap < n+m:=by omega
   have hfo:=run_firstRd (P:=P) (w:=w.drew) (c:=cap) (hrd.ext (Ext.drew w));have hfn:=run_firstRd (P:=P) (w:=w.drew) (c:=c) (hr.ext (Ext.drew w));have hge:=grownCap_ge w (n+m) cap e;have hcm:=grownCap_le_maxLen w (n+m) cap e q;have O:Builtin.nextslicecap (n+m) cap * bytes≤281474976710656:=growslice_fits hg hbytes;have hn:¬ (n+m≤cap):=by omega
   have C:¬ (9223372036854775807 < ((n:Int)+(m:Int))):=by omega
   have D:¬ (281474976710656 < Builtin.nextslicecap (n+m) cap * bytes):=by omega
   refine ⟨some ⟨w.heap.size,0,none⟩,grownCap w (n+m) cap e,[(w.heap.size,.cells (xs.toArray++news.toArray++Builtin.zeroCells z.cells (grownCap w (n+m) cap e - (n+m))) e (0,0))],
    w.drew.alloc (.cells (xs.toArray++news.toArray++Builtin.zeroCells z.cells (grownCap w (n+m) cap e - (n+m))) e),?_,?_,?_,by simp [keys],fun b hb=>.inr (by simp [keys] at hb;omega),?_,by simp,⟨rfl,rfl,rfl⟩⟩
   · simp [Builtin.append_,run_underlying hu,sizeOf,typeInfo,zeroValue,hi,hz,hsz,hby,Builtin.lenOf,hn,C,D,Question.forced,hfo,hfn,newRow,grownCap]
     simp only [← List.append_toArray,Array.append_assoc]
   · refine ⟨hlen,.inr ⟨w.heap.size,0,_,_,rfl,by omega,rfl,hge,hcm,?_,?_⟩⟩
     · simp only [Array.size_append,List.size_toArray,size_zeroCells,hzs,h.1,hr.1,← Nat.add_mul]
       rw [show n+m+(grownCap w (n+m) cap e - (n+m))=grownCap w (n+m) cap e by omega]
       omega
     · simp only [List.drop_zero,Array.toList_append,List.append_assoc]
       rw [← List.append_assoc,← hlen];exact List.take_left
   · intro b o hb
     simp only [List.mem_singleton,Prod.mk.injEq] at hb;obtain ⟨rfl,rfl⟩:=hb;exact heap_alloc_new w.drew _
   · intro b hb _
     exact (Ext.alloc w.drew _).2 b hb
end
end Go.Eng
namespace Go.Eng
open Go
section
variable {P:Program} {N:FN} {l:Fr} {dst:Option Tmp} {ty:TypeId} {pos:String} {aft:Array Edge} {g:Option (Nat×Bool)}
theorem slEl_size {e:TypeId} {i:TypeInfo} {sz:Nat} (q:P.info? e=some i) (C:i.size=sz) (w:World):(sizeOf e).run P w = .ok sz w:=by simp [sizeOf,typeInfo,q,C]
theorem map_add_zero (A:OA) (sz:Nat):A.map (·.add (0 * sz))=A:=by cases A <;> simp [Addr.add]
section
variable {t:TypeId} {sz:Nat} {x y z y2:Operand} {A:OA} {n c h lo m:Nat} {k k' k2:IntKind}
theorem elem_of {e:TypeId} (q:P.underlying t=some (.slice e)):P.underlying t=some (.slice (P.elem t))∧P.elem t=e:=by
 have:P.elem t=e:=by simp [Program.elem,q]
 exact ⟨by rw [this];exact q,this⟩
theorem G.slice_h (hT:slEl P t=some sz) (hx:ev l x=some (.slice A n c)) (hy:ev l y=some (.int k (h:Int))) (hle:h≤c) :
 GP P N l ⟨dst,.slice t x none (some y) none,ty,pos,aft,g⟩ (.slice A h c):=fun w a ha=>by
 obtain ⟨e,ti,q,C,D⟩:=slEl_spec hT;obtain ⟨hu,he⟩:=elem_of q;have hr:=run_slice_h (P:=P) w t A n c hu k (h:Int) (by omega) (by omega);rw [he,slEl_size C D] at hr;unfold execOp;simp only [ha.ev hx,ha.ev hy,Option.map_some,Option.map_none,run_sliceAt_slice (P:=P) w t _ _ _ _ hu,Sem.run_bind,hr,Result.andThen_ok,Sem.run_pure,sliced,Int.toNat_natCast,map_add_zero,ite_self,Nat.sub_zero]
theorem G.slice_l (hT:slEl P t=some sz) (hx:ev l x=some (.slice A n c)) (hy:ev l y=some (.int k (lo:Int))) (hle:lo≤n) :
 GP P N l ⟨dst,.slice t x (some y) none none,ty,pos,aft,g⟩ (.slice (if c=lo then A else A.map (·.add (lo * sz))) (n - lo) (c - lo)):=fun w a ha=>by
 obtain ⟨e,ti,q,C,D⟩:=slEl_spec hT;obtain ⟨hu,he⟩:=elem_of q;have hr:=run_slice_l (P:=P) w t A n c hu k (lo:Int) (by omega) (by omega);rw [he,slEl_size C D] at hr;unfold execOp;simp only [ha.ev hx,ha.ev hy,Option.map_some,Option.map_none,run_sliceAt_slice (P:=P) w t _ _ _ _ hu,Sem.run_bind,hr,Result.andThen_ok,Sem.run_pure,sliced,Int.toNat_natCast]
end
end
def Callable (P : Program) (f : FuncId) : Prop := ∃ fn, P.funcs[f]? = some fn ∧ (fn.name == "runtime.NumGoroutine") = false ∧ fn.body.isNone = false
theorem Callable.mk {P : Program} {f : FuncId} {fn : Func} (h : P.funcs[f]? = some fn) (q : (fn.name == "runtime.NumGoroutine") = false) (C : fn.body.isNone = false) : Callable P f := ⟨fn, h, q, C⟩
theorem run_call {P:Program} {f:FuncId} (hf:Callable P f) (args:Array Value) (w:World):(callFunc f args).run P w = .ok (.enter f args) w:=by
 obtain ⟨fn,q,C,D⟩:=hf;simp only [callFunc,Sem.run_bind,run_program,Result.andThen_ok,q,C,D,Bool.false_eq_true,if_false,Sem.run_pure]
section
variable {P:Program} {N:FN} {l:Fr} {ty:TypeId} {pos:String} {aft:Array Edge} {ops:Array Oper} {Q:Exit→Act→World→Prop} {rest:List Oper} {w:World} {f:FuncId} {xs:List Operand} {vs:List Value} {ts:Array TypeId} {d:Nat} {es:List En} {i:Nat} {W:List Nat}
theorem exec_call (hf:Callable P f) (hargs:evs l xs vs) {a:Act} (ha:Has N l a) (dst:Option Tmp) (g:Option (Nat×Bool)) :
 (execOp a.eval ⟨dst,.call { callee:=.value (.func f),args:=xs.toArray,argTypes:=ts },ty,pos,aft,g⟩).run P w = .ok (.enter f vs.toArray) w:=by
 rw [execOp_call_go];have:(xs.toArray.map a.eval)=vs.toArray:=by rw [List.map_toArray,ha.evs hargs]
 rw [this]
 simp [run_call hf]
theorem calls_upon {o:Oper} {a:Act} {K:Act→World→Prop} (h:Calls P f vs.toArray w fun e w'=>∃ v,e = .returned v∧K (a.put o.dst v) w'):o.upon P a K Q (.ok (.enter f vs.toArray) w):=by
 show Calls P f vs.toArray w _
 refine h.mono ?_;rintro e w' ⟨v,rfl,hk⟩;exact hk
theorem WOps.call (hf:Callable P f) (hargs:evs l xs vs) (hd:Nat.blt d N.n=true)
 (h:Calls P f vs.toArray w fun e w'=>∃ v,e = .returned v∧WOps P N ops Q rest ((d,v)::l) w') :
 WOps P N ops Q (⟨some d,.call { callee:=.value (.func f),args:=xs.toArray,argTypes:=ts },ty,pos,aft,none⟩::rest) l w:=fun a ha=>by
 unfold wpS;rw [if_pos (by rfl)];unfold Oper.wp;rw [exec_call hf hargs ha];refine calls_upon (h.mono ?_);rintro e w' ⟨v,rfl,hk⟩;exact ⟨v,rfl,hk _ (ha.put hd v)⟩
theorem WD.call (hi:ops[i]? = some ⟨some d,.call { callee:=.value (.func f),args:=xs.toArray,argTypes:=ts },ty,pos,aft,none⟩) (hf:Callable P f) (hargs:evs l xs vs) (hd:Nat.blt d N.n=true)
 (h:Calls P f vs.toArray w fun e w'=>∃ v,e = .returned v∧WD P N ops Q es ((d,v)::l) w'):WD P N ops Q (⟨i,2,W⟩::es) l w:=fun a ha =>
 ⟨_,hi,by
  rw [if_pos (by rfl)]
  show Oper.wp _ _ _ _ _ _
  unfold Oper.wp;rw [exec_call hf hargs ha];refine calls_upon (h.mono ?_);rintro e w' ⟨v,rfl,hk⟩;exact ⟨v,rfl,hk _ (ha.put hd v)⟩⟩
end
end Go.Eng
namespace Go.Eng
open Go
theorem cell_blk {w:World} {b off:Nat} {cur:Array Value} {t:TypeId} {fr:Nat×Nat} {v:Value} (hb:w.heap[b]? = some (.cells cur t fr)) (hc:cur[off]? = some v):w.cell? ⟨b,off,none⟩=some v:=by
 rw [cell_of_row w b off cur t fr hb];exact hc
theorem cellsAt.at0 {w:World} {b off:Nat} {v:Value} {cs:List Value} (h:cellsAt w b off (v::cs)):w.cell? ⟨b,off,none⟩=some v:=h 0 v rfl
theorem cellsAt.at {w:World} {b off:Nat} {v:Value} {cs:List Value} (h:cellsAt w b off cs) (j:Nat) (hj:cs[j]? = some v):w.cell? ⟨b,off+j,none⟩=some v:=h j v hj
theorem cellsAt.part {w:World} {b off:Nat} {cs ds:List Value} (h:cellsAt w b off cs) (j:Nat) (hp:(cs.drop j).take ds.length=ds):cellsAt w b (off+j) ds:=by
 rw [← hp];exact h.sub j _
theorem elt_mk {P:Program} {t e:TypeId} {sz bytes:Nat} {z:Value} (hu:P.underlying t=some (.slice e)) (h:(P.info? e).map (fun i=>(i.zero,i.size,i.bytes))=some (some z,sz,bytes)) (hz:z.cells.size=sz):Elt P t e sz bytes:=by
 obtain ⟨i,hi,q,C,D⟩:=info_parts h;exact ⟨hu,i,z,hi,q,C,D,hz⟩
end Go.Eng
namespace Go.Eng
open Go
theorem Rd.of_blk {w:World} {b:Nat} {cur:Array Value} {t:TypeId} {fr:Nat×Nat} {n sz:Nat} (hb:w.heap[b]? = some (.cells cur t fr)) (hn:cur.toList.length=n * sz):Rd w (some ⟨b,0,none⟩) n sz cur.toList :=
 ⟨hn,fun _=>⟨b,0,rfl,cellsAt.of_blk hb (by rw [List.drop_zero,List.take_length])⟩⟩
theorem one_of_all {cs:List Value} (h:cs.all Value.oneCell'=true):∀ u∈cs,u.oneCell'=true:=List.all_eq_true.1 h
end Go.Eng
namespace Go.Eng
open Go
section
variable {P:Program} {N:FN} {l:Fr} {w:World}
theorem WEx.retc {n:Nat} {fn:Func} {R:Ending→World→Prop} {t:Tmp} {T:TypeId} {b off:Nat} {cs:List Value} (hres:fn.results = #[.cell t T]) (hv:look l t=some (.pointer (some ⟨b,off,none⟩))) (hT:isAggT P T cs.length=true) (hc:cellsAt w b off cs)
 (h:R (.returned (.agg cs.toArray)) w):WEx ⟨n,[]⟩ (bodyPost P fn R) .ret l w:=fun a ha=>by
 have q:=(ha.at_ t _ hv).2;exact ⟨ha.defers,_,by simp [results,hres,q,run_loadAgg hT hc,asAddr],h⟩
end
end Go.Eng
set_option linter.unusedVariables false
namespace Go.Eng
open Go
inductive Ord where
 | nil
 | one (i k:Nat) (o:Ord)
 | fork (i:Nat) (o:Ord) (j:Nat) (o':Ord)
def ordOk (ops:Array Oper):Ord→Array Bool→Bool
 | .nil,listed=>Region.ready .any ops listed == []
 | .one i k o,listed=>(if k < 2 then (Region.ready .any ops listed).contains i && Region.free .any ops listed i else Region.ready .any ops listed == [i]) && ordOk ops o (listed.setIfInBounds i true)
 | .fork i o j o',listed=>Region.ready .any ops listed == [i,j] && ordOk ops o (listed.setIfInBounds i true) && ordOk ops o' (listed.setIfInBounds j true)
def ordLen:Ord→Nat
 | .nil=>0
 | .one _ _ o=>ordLen o+1
 | .fork _ o _ _=>ordLen o+1
def ordEven:Ord→Bool
 | .nil=>true
 | .one _ _ o=>ordEven o
 | .fork _ o _ o'=>ordEven o && ordEven o' && Nat.beq (ordLen o') (ordLen o)
section
variable {P:Program} {ops:Array Oper} {Q:Exit→Act→World→Prop} {S:World→Prop}
def actH (P:Program) (ops:Array Oper) (Q:Exit→Act→World→Prop) (S:World→Prop) (i:Nat) (K:Act→World→Prop) (a:Act) (w:World):Prop :=
 ∃ o,ops[i]? = some o∧if Region.wanted o (yielded ops a.tmps) then o.wp P a w (fun a' w'=>S w'∧K a' w') Q else S w∧K (a.put o.dst undef) w
def takeH (P:Program) (ops:Array Oper) (S:World→Prop) (i:Nat) (K:Act→World→Prop) (a:Act) (w:World):Prop :=
 ∃ o,ops[i]? = some o∧if Region.wanted o (yielded ops a.tmps) then ∃ v,(∀ w',S w'→(execOp a.eval o).run P w' = .ok (.value v) w')∧K (a.put o.dst v) w else K (a.put o.dst undef) w
def wpH (P:Program) (ops:Array Oper) (Q:Exit→Act→World→Prop) (S:World→Prop):Ord→Act→World→Prop
 | .nil,a,w=>Q .normal a w
 | .one i k o,a,w=>if k < 2 then takeH P ops S i (wpH P ops Q S o) a w else actH P ops Q S i (wpH P ops Q S o) a w
 | .fork i o j o',a,w=>actH P ops Q S i (wpH P ops Q S o) a w∧actH P ops Q S j (wpH P ops Q S o') a w
theorem wpOp_act {i:Nat} {K K':Act→World→Prop} {a:Act} {w:World} (hS:S w) (h:actH P ops Q S i K a w) (hK:∀ a w,S w→K a w→K' a w):wpOp P ops Q i (fun a' w'=>S w'∧K' a' w') a w:=by
 obtain ⟨o,hi,h⟩:=h;unfold wpOp;rw [hi]
 dsimp only
 split
 · rename_i hw
   rw [if_pos hw] at h;exact .inl (Oper.wp_mono (fun a w h=>⟨h.1,hK _ _ h.1 h.2⟩) h)
 · rename_i hw
   rw [if_neg hw] at h;exact ⟨h.1,hK _ _ h.1 h.2⟩
theorem any_of_H (hs:Region.noSelect ops=true) (hQ:∀ c a d v w,Q (.panic c) (a.put d v) w→Q (.panic c) a w) :
 ∀ (o:Ord) (listed:Array Bool) (a:Act) (w:World),ordEven o=true→ordOk ops o listed=true→S w→wpH P ops Q S o a w→wpAnyH P .any ops Q S (ordLen o) listed a w
 | .nil,listed,a,w,_,ho,_,h=>wpAnyH_done (by simpa [ordOk] using ho) h _
 | .one i k o,listed,a,w,hev,ho,hS,h=>by
  simp only [ordOk,Bool.and_eq_true] at ho;simp only [ordEven] at hev;have ih:=any_of_H hs hQ o (listed.setIfInBounds i true);simp only [wpH] at h;simp only [ordLen]
  split at h
  · rename_i hk
    rw [if_pos hk,Bool.and_eq_true] at ho;obtain ⟨oi,hi,h⟩:=h
    split at h
    · rename_i hw
      obtain ⟨v,hv,h⟩:=h;exact wpAnyH_take hi hs ho.1.2 ho.1.1 (fun c a w=>hQ c a _ v w) (.inl ⟨hw,hv⟩) hS (ih _ _ hev ho.2 hS h)
    · rename_i hw
      exact wpAnyH_take hi hs ho.1.2 ho.1.1 (fun c a w=>hQ c a _ undef w) (.inr ⟨by simpa using hw,rfl⟩) hS (ih _ _ hev ho.2 hS h)
  · rename_i hk
    rw [if_neg hk] at ho;refine wpAnyH_all (rs:=[i]) (by simpa using ho.1) (by simp) fun j hj=>?_
    obtain rfl:j=i:=by simpa using hj
    exact wpOp_act hS h fun a w hS h=>ih a w hev ho.2 hS h
 | .fork i o j o',listed,a,w,hev,ho,hS,h=>by
  simp only [ordOk,Bool.and_eq_true] at ho;simp only [ordEven,Bool.and_eq_true] at hev;obtain ⟨⟨hr,q⟩,C⟩:=ho;obtain ⟨⟨e1,D⟩,E⟩:=hev;have ih:=any_of_H hs hQ o (listed.setIfInBounds i true);have ih':=any_of_H hs hQ o' (listed.setIfInBounds j true);rw [Nat.eq_of_beq_eq_true E] at ih';simp only [ordLen];refine wpAnyH_all (rs:=[i,j]) (by simpa using hr) (by simp) fun x hx=>?_
  rcases (by simpa using hx:x=i∨x=j) with rfl | rfl
  · exact wpOp_act hS h.1 fun a w hS h=>ih a w e1 q hS h
  · exact wpOp_act hS h.2 fun a w hS h=>ih' a w D C hS h
def WH (P:Program) (N:FN) (ops:Array Oper) (Q:Exit→Act→World→Prop) (S:World→Prop) (o:Ord) (l:Fr) (w:World):Prop:=∀ a,Has N l a→wpH P ops Q S o a w
theorem WCode.drawH {N:FN} {id:Nat} {l:Fr} {w:World} (o:Ord) (S:World→Prop) (hm:P.follows .mixedOrders=true) (hs:Region.noSelect ops=true)
 (hQ:∀ c a d v w,Q (.panic c) (a.put d v) w→Q (.panic c) a w) (hn:Nat.beq (ordLen o) ops.size=true) (he:ordEven o=true) (ho:ordOk ops o (Array.replicate ops.size false)=true)
 (hS:S w.drew) (h:WH P N ops Q S o l w.drew):WCode P N (.region id ops true) Q l w:=fun a ha =>
 wp_region_held (S:=S) hm (by
  have:=any_of_H hs hQ o _ a w.drew he ho hS (h a ha);rw [Nat.eq_of_beq_eq_true hn] at this;exact this)
section
variable {N:FN} {o o':Ord} {l l':Fr} {w w':World} {i d:Nat} {op:Op} {ty:TypeId} {pos:String} {aft:Array Edge} {v:Value}
theorem WH.nil (h:WEx N Q .normal l w):WH P N ops Q S .nil l w:=h
theorem WH.fork {i j:Nat} (h:WH P N ops Q S (.one i 2 o) l w) (h':WH P N ops Q S (.one j 2 o') l w):WH P N ops Q S (.fork i o j o') l w:=fun a ha=>⟨h a ha,h' a ha⟩
def gHit:Value→Bool→Bool
 | .bool c,b=>c == b
 | _,_=>false
theorem guard_hit {dst:Option Tmp} {a:Act} (ha:Has N l a) {j dj:Nat} {b:Bool} (hj:(ops[j]?).bind (·.dst)=some dj) (hv:look l dj=some v):Region.wanted (⟨dst,op,ty,pos,aft,some (j,b)⟩:Oper) (yielded ops a.tmps)=gHit v b:=by
 rw [guard_at ha hj hv _ b rfl];cases v <;> rfl
def Wants (N:FN) (ops:Array Oper) (l:Fr) (o:Oper):Prop:=∀ a,Has N l a→Region.wanted o (yielded ops a.tmps)=true
theorem wants {dst:Option Tmp}:Wants N ops l ⟨dst,op,ty,pos,aft,none⟩:=fun _ _=>rfl
theorem wants_on {dst:Option Tmp} {j dj:Nat} {b:Bool} (hj:(ops[j]?).bind (·.dst)=some dj) (hv:look l dj=some (.bool b)):Wants N ops l ⟨dst,op,ty,pos,aft,some (j,b)⟩:=fun a ha=>by
 rw [guard_at ha hj hv _ b rfl];simp
section
variable {g:Option (Nat×Bool)}
theorem WH.off {j dj k:Nat} {b:Bool} (hi:ops[i]? = some ⟨some d,op,ty,pos,aft,some (j,b)⟩) (hj:(ops[j]?).bind (·.dst)=some dj) (hv:look l dj=some v) (hb:gHit v b=false) (hd:Nat.blt d N.n=true)
 (hk:Nat.blt k 2=true) (h:WH P N ops Q S o ((d,undef)::l) w):WH P N ops Q S (.one i k o) l w:=fun a ha=>by
 unfold wpH;rw [if_pos (by simpa using hk)];exact ⟨_,hi,by rw [if_neg (by rw [guard_hit ha hj hv,hb];simp)];exact h _ (ha.put hd undef)⟩
theorem WH.off2 {j dj:Nat} {b:Bool} (hi:ops[i]? = some ⟨some d,op,ty,pos,aft,some (j,b)⟩) (hj:(ops[j]?).bind (·.dst)=some dj) (hv:look l dj=some v) (hb:gHit v b=false) (hd:Nat.blt d N.n=true)
 (hS:S w) (h:WH P N ops Q S o ((d,undef)::l) w):WH P N ops Q S (.one i 2 o) l w:=fun a ha=>
 ⟨_,hi,by rw [if_neg (by rw [guard_hit ha hj hv,hb];simp)];exact ⟨hS,h _ (ha.put hd undef)⟩⟩
theorem WH.p (hi:ops[i]? = some ⟨some d,op,ty,pos,aft,g⟩) (hw:Wants N ops l ⟨some d,op,ty,pos,aft,g⟩) (h:GP P N l ⟨some d,op,ty,pos,aft,g⟩ v) (hd:Nat.blt d N.n=true) (k:WH P N ops Q S o ((d,v)::l) w):WH P N ops Q S (.one i 0 o) l w:=fun a ha =>
 ⟨_,hi,by rw [if_pos (hw a ha)];exact ⟨v,fun w _=>h w a ha,k _ (ha.put hd v)⟩⟩
theorem WH.r (hi:ops[i]? = some ⟨some d,op,ty,pos,aft,g⟩) (hw:Wants N ops l ⟨some d,op,ty,pos,aft,g⟩) (h:∀ w',S w'→GR P N l w' ⟨some d,op,ty,pos,aft,g⟩ v) (hd:Nat.blt d N.n=true) (k:WH P N ops Q S o ((d,v)::l) w):WH P N ops Q S (.one i 1 o) l w:=fun a ha =>
 ⟨_,hi,by rw [if_pos (hw a ha)];exact ⟨v,fun w' hw=>h w' hw w' (Ext.refl _) a ha,k _ (ha.put hd v)⟩⟩
theorem WH.e (hi:ops[i]? = some ⟨some d,op,ty,pos,aft,g⟩) (hw:Wants N ops l ⟨some d,op,ty,pos,aft,g⟩) (h:GE P N l w ⟨some d,op,ty,pos,aft,g⟩ v w') (hd:Nat.blt d N.n=true) (hS:S w') (k:WH P N ops Q S o ((d,v)::l) w'):WH P N ops Q S (.one i 2 o) l w:=fun a ha =>
 ⟨_,hi,by
  rw [if_pos (hw a ha)]
  show Oper.wp _ _ _ _ _ _
  unfold Oper.wp;rw [h a ha];exact ⟨hS,k _ (ha.put hd v)⟩⟩
theorem WH.u (hi:ops[i]? = some ⟨none,op,ty,pos,aft,g⟩) (hw:Wants N ops l ⟨none,op,ty,pos,aft,g⟩) (h:GU P N l w ⟨none,op,ty,pos,aft,g⟩ w') (hS:S w') (k:WH P N ops Q S o l w'):WH P N ops Q S (.one i 2 o) l w:=fun a ha =>
 ⟨_,hi,by
  rw [if_pos (hw a ha)]
  show Oper.wp _ _ _ _ _ _
  unfold Oper.wp;rw [h a ha];exact ⟨hS,k _ ha⟩⟩
theorem WH.call {f:FuncId} {xs:List Operand} {vs:List Value} {ts:Array TypeId} (hi:ops[i]? = some ⟨some d,.call { callee:=.value (.func f),args:=xs.toArray,argTypes:=ts },ty,pos,aft,g⟩)
 (hw:Wants N ops l ⟨some d,.call { callee:=.value (.func f),args:=xs.toArray,argTypes:=ts },ty,pos,aft,g⟩) (hf:Callable P f) (hargs:evs l xs vs) (hd:Nat.blt d N.n=true)
 (h:Calls P f vs.toArray w fun e w'=>∃ v,e = .returned v∧S w'∧WH P N ops Q S o ((d,v)::l) w'):WH P N ops Q S (.one i 2 o) l w:=fun a ha =>
 ⟨_,hi,by
  rw [if_pos (hw a ha)]
  show Oper.wp _ _ _ _ _ _
  unfold Oper.wp;rw [exec_call hf hargs ha];refine calls_upon (h.mono ?_);rintro e w' ⟨v,rfl,hS,hk⟩;exact ⟨v,rfl,hS,hk _ (ha.put hd v)⟩⟩
end
end
end
section
variable {P:Program} {N:FN} {l:Fr} {dst:Option Tmp} {ty:TypeId} {pos:String} {aft:Array Edge} {g:Option (Nat×Bool)} {t u:TypeId} {x y:Operand} {xs ys:Array Value} {b b':Bool}
end
section
variable {P:Program} {N:FN} {l:Fr} {dst:Option Tmp} {ty:TypeId} {pos:String} {aft:Array Edge} {g:Option (Nat×Bool)} {t u e:TypeId} {x y:Operand} {p:OA} {b:Bool}
end
theorem WCode.cutseq {P:Program} {N:FN} {x y:Code} {Q:Exit→Act→World→Prop} {l:Fr} {w:World} (J:Fr→World→Prop)
 (h:WCode P N x (Exit.then (fun a w'=>∃ l',Has N l' a∧J l' w') Q) l w) (hk:∀ l' w',J l' w'→WCode P N y Q l' w'):WCode P N (.seq x y) Q l w :=
 WCode.seq fun a ha=>wp_mono (h a ha) fun e a w' hq=>by
  cases e with
  | normal =>
   obtain ⟨l',hl,hj⟩:=hq;exact hk l' w' hj a hl
  | exit id=>exact hq
  | goto l=>exact hq
  | ret=>exact hq
  | panic ch=>exact hq
  | outgrown=>exact hq
theorem WEx.cutend {N:FN} {Q:Exit→Act→World→Prop} {l:Fr} {w:World} {J:Fr→World→Prop} (l':Fr) (hs:Sub l' l) (h:J l' w) :
 WEx N (Exit.then (fun a w'=>∃ l',Has N l' a∧J l' w') Q) .normal l w:=fun _ ha=>⟨l',ha.sub hs,h⟩
section
variable {P:Program} {N:FN} {l:Fr} {dst:Option Tmp} {ty:TypeId} {pos:String} {aft:Array Edge} {g:Option (Nat×Bool)} {t u:TypeId} {x y:Operand} {c d b:Bool}
theorem G.eqlb (hu:P.underlying t=some .bool) (hx:ev l x=some (.bool c)) (hy:ev l y=some (.bool d)) (hb:(c == d)=b):GP P N l ⟨dst,.binOp .eql t x y u,ty,pos,aft,g⟩ (.bool b) :=
 G.bin hx hy (fun w=>by rw [eqGuard_at_bool];rfl) fun w=>by
  have h:(Op.equal t (.bool c) (.bool d)).run P w = .ok (c == d) w:=run_equalIn_bool w 9999 t c d hu;subst hb;simp only [binOp];simp only [Sem.run_bind,h,Result.andThen_ok,Sem.run_pure]
end
end Go.Eng
set_option linter.unusedVariables false
namespace Go.Eng
open Go
theorem bind_some {α β:Type} {x:Option α} {f:α→Option β} {r:β} (h:x.bind f=some r):∃ t,x=some t∧f t=some r:=by
 cases x with
 | none=>cases h
 | some t=>exact ⟨t,rfl,h⟩
theorem ite_some {c:Prop} [Decidable c] {α:Type} {a b:Option α} {r:α} (h:(if c then a else b)=some r):(c∧a=some r)∨(¬ c∧b=some r):=by
 by_cases e:c
 · rw [if_pos e] at h;exact .inl ⟨e,h⟩
 · rw [if_neg e] at h;exact .inr ⟨e,h⟩
theorem guard_some {c:Prop} [Decidable c] {α:Type} {a:Option α} {r:α} (h:(if c then a else none)=some r):c∧a=some r:=by
 rcases ite_some h with h | ⟨_,h⟩
 · exact h
 · cases h
theorem nguard_some {c:Prop} [Decidable c] {α:Type} {a:Option α} {r:α} (h:(if c then none else a)=some r):¬ c∧a=some r:=by
 rcases ite_some h with ⟨_,h⟩ | h
 · cases h
 · exact h
theorem some_eq {α:Type} {a r:α} (h:some a=some r):a=r:=Option.some.inj h
def idx {α:Type} (L:List α) (i:Int):Option α:=if 0≤i then L[i.toNat]? else none
theorem idx_spec {α:Type} {L:List α} {i:Int} {x:α} (h:idx L i=some x):∃ j:Nat,i=(j:Int)∧L[j]? = some x∧j < L.length:=by
 unfold idx at h;obtain ⟨C,q⟩:=guard_some h;refine ⟨i.toNat,by omega,q,(List.getElem?_eq_some_iff.1 q).1⟩
def cut {α:Type} (L:List α) (i j:Int):Option (List α):=if 0≤i∧i≤j∧j≤L.length then some ((L.take j.toNat).drop i.toNat) else none
theorem cut_spec {α:Type} {L M:List α} {i j:Int} (h:cut L i j=some M):∃ a b:Nat,i=a∧j=b∧a≤b∧b≤L.length∧M=(L.take b).drop a:=by
 unfold cut at h;obtain ⟨⟨C,D,E⟩,q⟩:=guard_some h;exact ⟨i.toNat,j.toNat,by omega,by omega,by omega,by omega,(some_eq q).symm⟩
def catN {α:Type} (n:Nat) (L M:List α):Option (List α):=if L.length+M.length≤n then some (L++M) else none
abbrev cat {α:Type} (L M:List α):Option (List α):=catN 68719476736 L M
theorem cat_spec {α:Type} {n:Nat} {L M N:List α} (h:catN n L M=some N):L.length+M.length≤n∧N=L++M:=by
 unfold catN at h;obtain ⟨q,C⟩:=guard_some h;exact ⟨q,(some_eq C).symm⟩
def bs (l:By):ByteArray:=⟨l.toArray⟩
theorem bs_size (l:By):(bs l).size=l.length:=by simp [bs,ByteArray.size]
theorem bs_ex (b:ByteArray):∃ l,b=bs l:=⟨b.data.toList,by cases b;simp [bs]⟩
theorem bs_inj {l m:By}:bs l=bs m ↔ l=m:=by simp [bs]
theorem bs_get (l:By) (i:Nat) (h:i < (bs l).size):(bs l)[i]=l[i]'(by rw [bs_size] at h;exact h):=by
 rw [ByteArray.getElem_eq_getElem_data]
 simp [bs]
theorem bs_extract (l:By) (i j:Nat):(bs l).extract i j=bs ((l.take j).drop i):=by
 apply ByteArray.ext
 simp only [ByteArray.data_extract,bs]
 simp [List.drop_take]
theorem bs_append (l m:By):bs l++bs m=bs (l++m):=by
 apply ByteArray.ext
 rw [ByteArray.data_append]
 simp [bs]
section
variable {P:Program} {N:FN} {l:Fr} {dst:Option Tmp} {ty:TypeId} {pos:String} {aft:Array Edge} {g:Option (Nat×Bool)} {t u:TypeId} {x y z:Operand} {s s' m:By} {k k':IntKind} {i j:Int} {b:Bool}
theorem G.lenb (hT:isStr P t=true) (hx:ev l x=some (.string (bs s))) :
 GP P N l ⟨dst,.call { callee:=.builtin .len,args:=#[x],argTypes:=#[t] },ty,pos,aft,g⟩ (.int .i64 (s.length:Int)):=by
 rw [← bs_size];exact G.lens hT hx
theorem G.idxb {c:UInt8} (hT:isStr P t=true) (hx:ev l x=some (.string (bs s))) (hi:ev l y=some (.int k i)) (h:idx s i=some c) :
 GP P N l ⟨dst,.index t x y,ty,pos,aft,g⟩ (.int .u8 (c.toNat:Int)):=fun w a ha=>by
 obtain ⟨j,rfl,q,C⟩:=idx_spec h;unfold execOp;have hr:=run_index_string (P:=P) w t (bs s) k (j:Int) (isStr_spec hT);have hb:0≤(j:Int)∧(j:Int) < (bs s).size:=⟨by omega,by rw [bs_size];omega⟩;rw [dif_pos hb] at hr;have e:((bs s)[(j:Int).toNat]'(by omega))=c:=by
  rw [bs_get];have:=(List.getElem?_eq_some_iff.1 q).2
  simpa using this
 rw [e] at hr;simp only [ha.ev hx,ha.ev hi,Sem.run_bind,hr,Result.andThen_ok,Sem.run_pure]
theorem G.cutb_lh (hT:isStr P t=true) (hx:ev l x=some (.string (bs s))) (hy:ev l y=some (.int k i)) (hz:ev l z=some (.int k' j)) (h:cut s i j=some m) :
 GP P N l ⟨dst,.slice t x (some y) (some z) none,ty,pos,aft,g⟩ (.string (bs m)):=fun w a ha=>by
 obtain ⟨c,d,rfl,rfl,q,C,rfl⟩:=cut_spec h;have hr:=run_slice_string (P:=P) w t (bs s) k k' (c:Int) (d:Int) (isStr_spec hT) (by omega) (by omega) (by rw [bs_size];omega);simp only [Int.toNat_natCast,bs_extract] at hr;unfold execOp;simp only [ha.ev hx,ha.ev hy,ha.ev hz,Option.map_some,Option.map_none,run_sliceAt_string (P:=P) w t _ _ _ _ (isStr_spec hT),Sem.run_bind,hr,Result.andThen_ok,Sem.run_pure]
theorem G.cutb_l (hT:isStr P t=true) (hx:ev l x=some (.string (bs s))) (hy:ev l y=some (.int k i)) (h:cut s i (s.length:Int)=some m) :
 GP P N l ⟨dst,.slice t x (some y) none none,ty,pos,aft,g⟩ (.string (bs m)):=fun w a ha=>by
 obtain ⟨c,d,rfl,hd,q,C,rfl⟩:=cut_spec h;have hr:=run_slice_string_l (P:=P) w t (bs s) (isStr_spec hT) k (c:Int) (by omega) (by rw [bs_size];omega);obtain rfl:s.length=d:=by omega
 simp only [Int.toNat_natCast,bs_extract,bs_size] at hr;unfold execOp;simp only [ha.ev hx,ha.ev hy,Option.map_some,Option.map_none,run_sliceAt_string (P:=P) w t _ _ _ _ (isStr_spec hT),Sem.run_bind,hr,Result.andThen_ok,Sem.run_pure]
theorem G.cutb_h (hT:isStr P t=true) (hx:ev l x=some (.string (bs s))) (hy:ev l y=some (.int k j)) (h:cut s 0 j=some m) :
 GP P N l ⟨dst,.slice t x none (some y) none,ty,pos,aft,g⟩ (.string (bs m)):=fun w a ha=>by
 obtain ⟨c,d,hc,rfl,q,C,rfl⟩:=cut_spec h;obtain rfl:c=0:=by omega
 have hr:=run_slice_string_h (P:=P) w t (bs s) (isStr_spec hT) k (d:Int) (by omega) (by rw [bs_size];omega);simp only [Int.toNat_natCast,bs_extract] at hr;unfold execOp;simp only [ha.ev hx,ha.ev hy,Option.map_some,Option.map_none,run_sliceAt_string (P:=P) w t _ _ _ _ (isStr_spec hT),Sem.run_bind,hr,Result.andThen_ok,Sem.run_pure]
theorem G.catb {n:Nat} (hx:ev l x=some (.string (bs s))) (hy:ev l y=some (.string (bs s'))) (h:catN n s s'=some m) (hn:Nat.ble n 140737488355328=true:=by rfl) :
 GP P N l ⟨dst,.binOp .add t x y u,ty,pos,aft,g⟩ (.string (bs m)):=by
 obtain ⟨q,rfl⟩:=cat_spec h;have hn':n≤140737488355328:=by simpa [Nat.ble_eq] using hn
 refine G.bin hx hy (fun w=>by rw [eqGuard_at_string];rfl) fun w=>?_
 have:=run_string_add_sum (P:=P) w (bs s) (bs s') (by rw [bs_size,bs_size];omega);rw [bs_append] at this;exact this
theorem G.eqlb' (hx:ev l x=some (.string (bs s))) (hy:ev l y=some (.string (bs s'))) (hr:decide (s=s')=b):GP P N l ⟨dst,.binOp .eql t x y u,ty,pos,aft,g⟩ (.bool b) :=
 G.eqs hx hy (by rw [← hr];simp only [bs_inj])
theorem G.neqlb' (hx:ev l x=some (.string (bs s))) (hy:ev l y=some (.string (bs s'))) (hr:(!decide (s=s'))=b):GP P N l ⟨dst,.binOp .neq t x y u,ty,pos,aft,g⟩ (.bool b) :=
 G.neqs hx hy (by rw [← hr];simp only [bs_inj])
end
end Go.Eng
set_option linter.unusedVariables false
namespace Go.Eng
open Go
def KS (As:List Grp):Nat→Prop:=fun k=>k∈keys As.flatten
def NK (w:World) (As:List Grp):Nat→Prop:=fun b=>b ∉ keys As.flatten∧b < w.heap.size
structure Rp (α:Type) where
 sz:Nat
 rd:World→(Nat→Prop)→α→List Value→Prop
 own:α→List Value→Grp→Prop
 len:∀ {w F x cs},rd w F x cs→cs.length=sz
 one:∀ {w F x cs},rd w F x cs→∀ u∈cs,u.oneCell'=true
 lenO:∀ {x cs G},own x cs G→cs.length=sz
 oneO:∀ {x cs G},own x cs G→∀ u∈cs,u.oneCell'=true
 ext:∀ {w w':World} {F x cs},rd w F x cs→(∀ b,F b→w'.heap[b]? = w.heap[b]?)→rd w' F x cs
 mono:∀ {w F F' x cs},rd w F x cs→(∀ b,F b→F' b)→rd w F' x cs
 low:∀ {w:World} {x cs G},own x cs G→(∀ b o,(b,o)∈G→w.heap[b]? = some o)→rd w (·∈keys G) x cs
def Rp.plain {α:Type} (c:α→List Value) (sz:Nat) (h:∀ x,(c x).length=sz) (q:∀ x,(c x).all Value.oneCell'=true):Rp α where
 sz:=sz
 rd:=fun _ _ x cs=>cs=c x
 own:=fun x cs G=>cs=c x∧G=[]
 len:=by rintro _ _ x _ rfl;exact h x
 one:=by rintro _ _ x _ rfl;exact one_of_all (q x)
 lenO:=by rintro x _ _ ⟨rfl,_⟩;exact h x
 oneO:=by rintro x _ _ ⟨rfl,_⟩;exact one_of_all (q x)
 ext:=fun h _=>h
 mono:=fun h _=>h
 low:=fun h _=>h.1
section
variable {α:Type} {r:Rp α} {w w':World} {F F':Nat→Prop}
def elems (r:Rp α) (w:World) (F:Nat→Prop):List α→List Value→Prop
 | [],xs=>xs=[]
 | x::L,xs=>∃ cs ys,xs=cs++ys∧r.rd w F x cs∧elems r w F L ys
def elemsO (r:Rp α):List α→List Value→Grp→Prop
 | [],xs,G=>xs=[]∧G=[]
 | x::L,xs,G=>∃ cs ys q C,xs=cs++ys∧G=q++C∧r.own x cs q∧elemsO r L ys C
theorem elems.len:∀ {L:List α} {xs:List Value},elems r w F L xs→xs.length=L.length * r.sz
 | [],_,h=>by cases h;simp
 | x::L,_,⟨cs,ys,e,q,C⟩=>by
  rw [e,List.length_append,r.len q,elems.len C,List.length_cons,Nat.add_mul,Nat.one_mul,Nat.add_comm]
theorem elemsO.len:∀ {L:List α} {xs:List Value} {G:Grp},elemsO r L xs G→xs.length=L.length * r.sz
 | [],_,_,h=>by rw [h.1];simp
 | x::L,_,_,⟨cs,ys,_,_,e,_,q,C⟩=>by
  rw [e,List.length_append,r.lenO q,elemsO.len C,List.length_cons,Nat.add_mul,Nat.one_mul,Nat.add_comm]
theorem elemsO.one:∀ {L:List α} {xs:List Value} {G:Grp},elemsO r L xs G→∀ u∈xs,u.oneCell'=true
 | [],_,_,h=>by rw [h.1];simp
 | x::L,_,_,⟨cs,ys,_,_,e,_,q,C⟩=>by
  intro u hu;rw [e] at hu;rcases List.mem_append.1 hu with hu | hu
  · exact r.oneO q u hu
  · exact elemsO.one C u hu
theorem elems.ext (hE:∀ b,F b→w'.heap[b]? = w.heap[b]?):∀ {L:List α} {xs:List Value},elems r w F L xs→elems r w' F L xs
 | [],_,h=>h
 | x::L,_,⟨cs,ys,e,q,C⟩=>⟨cs,ys,e,r.ext q hE,elems.ext hE C⟩
theorem elems.mono (hF:∀ b,F b→F' b):∀ {L:List α} {xs:List Value},elems r w F L xs→elems r w F' L xs
 | [],_,h=>h
 | x::L,_,⟨cs,ys,e,q,C⟩=>⟨cs,ys,e,r.mono q hF,elems.mono hF C⟩
theorem elemsO.low:∀ {L:List α} {xs:List Value} {G:Grp},elemsO r L xs G→(∀ b o,(b,o)∈G→w.heap[b]? = some o)→elems r w (·∈keys G) L xs
 | [],_,_,h,_=>h.1
 | x::L,_,_,⟨cs,ys,D,E,e,eG,q,C⟩,hG=>by
  subst eG;refine ⟨cs,ys,e,r.mono (r.low q fun b o hb=>hG b o (List.mem_append_left _ hb)) ?_,elems.mono ?_ (elemsO.low C fun b o hb=>hG b o (List.mem_append_right _ hb))⟩
  · intro b hb;rw [keys_append];exact List.mem_append_left _ hb
  · intro b hb;rw [keys_append];exact List.mem_append_right _ hb
theorem elems.at_:∀ {L:List α} {xs:List Value},elems r w F L xs→∀ {j:Nat} {x:α},L[j]? = some x→∃ cs,r.rd w F x cs∧(xs.drop (j * r.sz)).take r.sz=cs
 | [],_,_,j,x,hj=>by simp at hj
 | y::L,_,⟨cs,ys,e,q,C⟩,0,x,hj=>by
  simp only [List.getElem?_cons_zero,Option.some.injEq] at hj;subst hj;refine ⟨cs,q,?_⟩;rw [e,Nat.zero_mul,List.drop_zero,← r.len q,List.take_left]
 | y::L,_,⟨cs,ys,e,q,C⟩,j+1,x,hj=>by
  simp only [List.getElem?_cons_succ] at hj;obtain ⟨ds,D,E⟩:=elems.at_ C hj;refine ⟨ds,D,?_⟩;rw [e,Nat.add_mul,Nat.one_mul,Nat.add_comm,← r.len q,← List.drop_drop,List.drop_left,r.len q,E]
theorem elems.drop:∀ {L:List α} {xs:List Value},elems r w F L xs→∀ i:Nat,elems r w F (L.drop i) (xs.drop (i * r.sz))
 | L,xs,h,0=>by simpa using h
 | [],_,h,i+1=>by cases h;simp [elems]
 | y::L,_,⟨cs,ys,e,q,C⟩,i+1=>by
  have e1:(cs++ys).drop ((i+1) * r.sz)=ys.drop (i * r.sz):=by
   rw [Nat.add_mul,Nat.one_mul,Nat.add_comm (i * r.sz),← List.drop_drop,← r.len q,List.drop_left]
  rw [e,e1,List.drop_succ_cons];exact elems.drop C i
theorem elems.take:∀ {L:List α} {xs:List Value},elems r w F L xs→∀ i:Nat,elems r w F (L.take i) (xs.take (i * r.sz))
 | L,xs,h,0=>by simp [elems]
 | [],_,h,i+1=>by cases h;simp [elems]
 | y::L,_,⟨cs,ys,e,q,C⟩,i+1=>by
  refine ⟨cs,ys.take (i * r.sz),?_,q,elems.take C i⟩;rw [e,Nat.add_mul,Nat.one_mul,Nat.add_comm,← r.len q,List.take_length_add_append]
theorem elemsO.append:∀ {L M:List α} {xs ys:List Value} {G H:Grp},elemsO r L xs G→elemsO r M ys H→elemsO r (L++M) (xs++ys) (G++H)
 | [],_,_,_,_,_,h,k=>by obtain ⟨rfl,rfl⟩:=h;exact k
 | x::L,M,_,ys,_,H,⟨cs,zs,q,C,e,eG,D,E⟩,k=>by
  subst e;subst eG;exact ⟨cs,zs++ys,q,C++H,by simp,by simp,D,elemsO.append E k⟩
structure SlR (r:Rp α) (w:World) (F:Nat→Prop) (A:OA) (c:Nat) (L:List α):Prop where
 cap:L.length≤c
 max:c≤maxLen
 ex:∃ xs,elems r w F L xs∧(0 < L.length→∃ b off,A=some ⟨b,off,none⟩∧F b∧cellsAt w b off xs)
theorem cellsAt.move {b off:Nat} {xs:List Value} (h:cellsAt w b off xs) (hb:w'.heap[b]? = w.heap[b]?):cellsAt w' b off xs:=by
 intro j v hj;have:=h j v hj;unfold World.cell? at this ⊢;simp only [hb] at this ⊢;exact this
theorem SlR.ext {A:OA} {c:Nat} {L:List α} (h:SlR r w F A c L) (hE:∀ b,F b→w'.heap[b]? = w.heap[b]?):SlR r w' F A c L:=by
 obtain ⟨q,C,xs,D,E⟩:=h;exact ⟨q,C,xs,D.ext hE,fun hp=>by obtain ⟨b,off,e,hb,hc⟩:=E hp;exact ⟨b,off,e,hb,hc.move (hE b hb)⟩⟩
theorem SlR.mono {A:OA} {c:Nat} {L:List α} (h:SlR r w F A c L) (hF:∀ b,F b→F' b):SlR r w F' A c L:=by
 obtain ⟨q,C,xs,D,E⟩:=h;exact ⟨q,C,xs,D.mono hF,fun hp=>by obtain ⟨b,off,e,hb,hc⟩:=E hp;exact ⟨b,off,e,hF b hb,hc⟩⟩
theorem SlR.nil (r:Rp α) (w:World) (F:Nat→Prop) (A:OA):SlR r w F A 0 ([]:List α):=⟨Nat.le_refl _,by simp [maxLen],[],rfl,fun h=>absurd h (by simp)⟩
theorem SlR.at_ {A:OA} {c:Nat} {L:List α} (h:SlR r w F A c L) {j:Nat} {x:α} (hj:L[j]? = some x) :
 ∃ b off cs,A=some ⟨b,off,none⟩∧F b∧cellsAt w b (off+j * r.sz) cs∧r.rd w F x cs:=by
 obtain ⟨J,O,xs,q,C⟩:=h;have hlt:j < L.length:=(List.getElem?_eq_some_iff.1 hj).1;obtain ⟨b,off,e,hb,hc⟩:=C (by omega);obtain ⟨cs,D,E⟩:=q.at_ hj;refine ⟨b,off,cs,e,hb,?_,D⟩;rw [← E];exact hc.sub _ _
theorem SlR.drop {A:OA} {c:Nat} {L:List α} (h:SlR r w F A c L) {i:Nat} (hi:i≤L.length):SlR r w F (if c=i then A else A.map (·.add (i * r.sz))) (c - i) (L.drop i):=by
 obtain ⟨D,E,xs,q,C⟩:=h;refine ⟨by rw [List.length_drop];omega,by omega,xs.drop (i * r.sz),q.drop i,fun hp=>?_⟩;rw [List.length_drop] at hp;obtain ⟨b,off,rfl,hb,hc⟩:=C (by omega);rw [if_neg (by omega)];refine ⟨b,off+i * r.sz,by simp [Addr.add_lit],hb,fun j v hj=>?_⟩;rw [List.getElem?_drop] at hj;rw [Nat.add_assoc];exact hc _ v hj
theorem SlR.take {A:OA} {c:Nat} {L:List α} (h:SlR r w F A c L) {i:Nat} (hi:i≤L.length) {c':Nat} (D:i≤c') (h':c'≤c):SlR r w F A c' (L.take i):=by
 obtain ⟨E,J,xs,q,C⟩:=h;refine ⟨by rw [List.length_take];omega,by omega,xs.take (i * r.sz),q.take i,fun hp=>?_⟩;rw [List.length_take] at hp;obtain ⟨b,off,e,hb,hc⟩:=C (by omega);refine ⟨b,off,e,hb,fun j v hj=>?_⟩;rw [List.getElem?_take] at hj
 split at hj
 · exact hc j v hj
 · cases hj
def SlO (e:TypeId) (r:Rp α) (v:Value) (L:List α) (G:Grp):Prop:=∃ xs q C,RowG e r.sz v L.length xs q∧elemsO r L xs C∧G=q++C
theorem SlO.nil (e:TypeId) (r:Rp α):SlO e r (.slice none 0 0) ([]:List α) []:=⟨[],[],[],RowG.nil e r.sz,⟨rfl,rfl⟩,rfl⟩
theorem SlO.zero (e:TypeId) (r:Rp α) (A:OA):SlO e r (.slice A 0 0) ([]:List α) []:=⟨[],[],[],⟨by simp,.inl ⟨A,rfl,rfl,rfl⟩⟩,⟨rfl,rfl⟩,rfl⟩
theorem SlO.rd {e:TypeId} {A:OA} {c:Nat} {L:List α} {G:Grp} (h:SlO e r (.slice A L.length c) L G) (hG:∀ b o,(b,o)∈G→w.heap[b]? = some o):SlR r w (·∈keys G) A c L:=by
 obtain ⟨xs,C,D,E,J,rfl⟩:=h;have q:elems r w (·∈keys (C++D)) L xs:=elems.mono (fun b hb=>by rw [keys_append];exact List.mem_append_right _ hb) (J.low fun b o hb=>hG b o (List.mem_append_right _ hb));obtain ⟨hl,O⟩:=E;rcases O with ⟨A',hv,V,_⟩|⟨b,off,cap,cur,hv,hpos,rfl,hnc,hcm,hfit,ht⟩
 · obtain rfl:L=[]:=List.eq_nil_of_length_eq_zero V
   cases hv
   exact ⟨Nat.le_refl _,by simp [maxLen],xs,q,fun hp=>absurd hp (by simp)⟩
 · cases hv
   refine ⟨hnc,hcm,xs,q,fun _=>⟨b,off,rfl,?_,cellsAt.of_blk (hG b (.cells cur e (0,0)) (List.mem_append_left _ (List.mem_singleton.2 rfl))) (by rw [hl];exact ht)⟩⟩
   simp [keys]
end
section
variable {P:Program} {w0 w:World} {K:Nat→Prop} {Gs:List Grp} {G GM:Grp} {α:Type} {r:Rp α}
theorem St.app (S:St w0 K w (G::GM::Gs)) {t e:TypeId} {bytes n:Nat} (hT:Elt P t e r.sz bytes) (hb:(Nat.ble (n * bytes) 140737488355328 && Nat.ble n 140737488355328)=true) {A B:OA} {c d m:Nat} {L M LM:List α} {news:List Value}
 (h:SlO e r (.slice A L.length c) L G) (hr:Rd w B m r.sz news) (hM:elemsO r M news GM) (hm:M.length=m) (hc:catN n L M=some LM) :
 ∃ A' c' G' w1,(∀ {N:FN} {l:Fr} {x y:Operand} {dst:Option Tmp} {ty:TypeId} {pos:String} {aft:Array Edge} {g:Option (Nat×Bool)},ev l x=some (.slice A L.length c)→ev l y=some (.slice B m d) →
  GE P N l w ⟨dst,.call { callee:=.builtin .append,args:=#[x,y],argTypes:=#[t,t] },ty,pos,aft,g⟩ (.slice A' LM.length c') w1) ∧
  SlO e r (.slice A' LM.length c') LM G'∧St w0 K w1 (G'::Gs)∧(∀ b,b < w.heap.size→b ∉ keys G→w1.heap[b]? = w.heap[b]?):=by
 obtain ⟨xs,D,q,E,J,rfl⟩:=h;obtain ⟨hle,rfl⟩:=cat_spec hc;subst hm;have hb':n * bytes≤140737488355328∧n≤140737488355328:=by simpa [Nat.ble_eq] using hb
 have hbytes:(L.length+M.length) * bytes≤140737488355328:=Nat.le_trans (Nat.mul_le_mul_right _ hle) hb'.1;have key:=fun ty=>run_append_row (P:=P) (w:=w) (ty:=ty) (c:=d) hT E (fun b o hb=>S.grp 0 rfl (List.mem_append_left _ hb)) hr hM.one (by simp only [maxLen];omega) hbytes
 obtain ⟨A',c',G',w1,hrun,hrow,k2,O,V,C,X,Y⟩:=key 0;have Z:St w0 K w (D::q::GM::Gs):=S.split;have aa:St w0 K w1 (G'::q::GM::Gs):=Z.updAt 0 rfl k2 O V C X Y;have hl:(L++M).length=L.length+M.length:=List.length_append;refine ⟨A',c',G'++(q++GM),w1,fun hx hy a ha=>?_,⟨xs++news,G',q++GM,by rw [hl];exact hrow,J.append hM,rfl⟩,aa.perm (by simp),fun b hlt hn=>C b hlt (fun hk=>hn (by rw [keys_append];exact List.mem_append_left _ hk))⟩;unfold execOp;simp only [resolve,invoke,builtin,List.map_toArray,List.map_cons,List.map_nil,ha.ev hx,ha.ev hy,hl];have hrun':∀ ty,(Builtin.append_ #[t,t] ty #[.slice A L.length c,.slice B M.length d]).run P w = .ok (.slice A' (L.length+M.length) c') w1:=fun ty=>by
  rw [show (Builtin.append_ #[t,t] ty #[.slice A L.length c,.slice B M.length d])=Builtin.append_ #[t,t] 0 #[.slice A L.length c,.slice B M.length d] from rfl];exact hrun
 simp [hrun']
theorem St.callN {As As' Rs:List Grp} {w1:World} (S:St w0 K w (As++Rs)) (T:St w (KS As) w1 As'):St w0 K w1 (As'++Rs):=S.call T
theorem St.keepF {As:List Grp} {F:Nat→Prop} (S:St w0 (KS As) w Gs) (hF:∀ b,F b→NK w0 As b):∀ b,F b→w.heap[b]? = w0.heap[b]?:=fun b hb=>S.fr b (hF b hb).2 (hF b hb).1
theorem St.outF {As Bs Rs:List Grp} {F:Nat→Prop} (S:St w0 (KS As) w (Bs++Rs)) (hF:∀ b,F b→NK w0 As b):∀ b,F b→NK w Bs b:=fun b hb=>by
 obtain ⟨q,C⟩:=hF b hb;refine ⟨fun hk=>?_,Nat.lt_of_lt_of_le C S.sz⟩;rcases S.own b (by rw [List.flatten_append,keys_append];exact List.mem_append_left _ hk) with h | h
 · exact q h
 · omega
theorem St.outG {Bs Rs:List Grp} (S:St w0 K w (Bs++Rs)) (j:Nat) (hj:Rs[j]? = some G):∀ b,b∈keys G→NK w Bs b:=fun b hb=>by
 have hm:b∈keys Rs.flatten:=by
  obtain ⟨⟨k,o⟩,hko,rfl⟩:=List.mem_map.1 hb;exact mem_keys (mem_at hj hko)
 refine ⟨fun hk=>?_,?_⟩
 · have hnd:=S.hp.nd
   rw [List.flatten_append,keys_append,List.nodup_append] at hnd;exact hnd.2.2 b hk b hm rfl
 · exact S.hp.lt (by rw [List.flatten_append,keys_append];exact List.mem_append_right _ hm)
theorem St.initK {w:World} (As:List Grp) (h:Hp w As.flatten):St w (KS As) w As:=St.init h
theorem St.hpN {As Rs:List Grp} (S:St w0 K w (As++Rs)):Hp w As.flatten:=S.sub
theorem St.toFalse {w1:World} (S:St w (KS []) w1 Gs):St w (fun _=>False) w1 Gs:=S.weaken fun k hk=>by simp [KS,keys] at hk
theorem St.ofFalse {As:List Grp} {w1:World} (S:St w (fun _=>False) w1 Gs):St w (KS As) w1 Gs:=S.weaken fun k hk=>hk.elim
end
end Go.Eng
set_option linter.unusedVariables false
namespace Go.Eng
open Go
def Rp.u8:Rp UInt8:=.plain (fun c=>[.int .u8 (c.toNat:Int)]) 1 (fun _=>rfl) (fun _=>rfl)
def Rp.str:Rp By:=.plain (fun s=>[.string (bs s)]) 1 (fun _=>rfl) (fun _=>rfl)
def SlG {α:Type} (r:Rp α) (A:OA) (c:Nat) (L:List α) (G:Grp):Prop:=∀ w:World,(∀ b o,(b,o)∈G→w.heap[b]? = some o)→SlR r w (·∈keys G) A c L
section
variable {P:Program} {N:FN} {l:Fr} {w:World} {dst:Option Tmp} {ty:TypeId} {pos:String} {aft:Array Edge} {g:Option (Nat×Bool)} {t u:TypeId} {x y z:Operand} {k k':IntKind} {i n r:Int}
theorem G.convi (hs:(P.underlying t).isSome=true) (hd:P.underlying u=some (.int k')) (hx:ev l x=some (.int k n)) (hr:k'.wrap n=r) :
 GP P N l ⟨dst,.convert t u x,ty,pos,aft,g⟩ (.int k' r):=fun w a ha=>by
 have hk:P.intKind u=k':=by unfold Program.intKind;rw [hd]
 have h:=run_convert_int (P:=P) w t u k n hs (by rw [hd,hk]);rw [hk,hr] at h;unfold execOp;simp only [ha.ev hx,Sem.run_bind,h,Result.andThen_ok,Sem.run_pure]
theorem G.idx {sz b o c j m:Nat} {A:OA} (hT:slEl P t=some sz) (hx:ev l x=some (.slice A m c)) (hA:A=some ⟨b,o,none⟩) (hi:ev l y=some (.int k i)) (hij:i=(j:Int)) (hj:j < m) :
 GP P N l ⟨dst,.indexAddr t x y,ty,pos,aft,g⟩ (.pointer (some ⟨b,o+j * sz,none⟩)):=by
 subst hA;subst hij;exact G.index hT hx hi hj rfl
theorem G.remk (hx:ev l x=some (.int k i)) (hy:ev l y=some (.int k n)) (q:¬ n=0):GP P N l ⟨dst,.binOp .rem t x y u,ty,pos,aft,g⟩ (.int k (i.tmod n)):=G.rem hx hy q rfl
theorem G.quok (hx:ev l x=some (.int k i)) (hy:ev l y=some (.int k n)) (q:¬ n=0):GP P N l ⟨dst,.binOp .quo t x y u,ty,pos,aft,g⟩ (.int k (k.wrap (i.tdiv n))):=G.quo hx hy q rfl
theorem G.strb {F:Nat→Prop} {A:OA} {c:Nat} {s:By} {e:TypeId} (hs:P.underlying t=some (.slice e)) (he:P.underlying e=some (.int .u8)) (hd:P.underlying u=some .string) (hx:ev l x=some (.slice A s.length c)) (h:SlR Rp.u8 w F A c s) :
 GR P N l w ⟨dst,.convert t u x,ty,pos,aft,g⟩ (.string (bs s)):=fun w' hE a ha=>by
 unfold execOp;have key:(convert t u (.slice A s.length c)).run P w' = .ok (.string (bs s)) w':=by
  rcases Nat.eq_zero_or_pos s.length with q | q
  · obtain rfl:s=[]:=List.eq_nil_of_length_eq_zero q
    rw [run_convert_bytes_string w' t u e A _ c hs he hd];cases A with
    | none=>simp [Conv.bytesToString,bs];rfl
    | some p =>
     have:=run_bytesToString (P:=P) w' p 0 c [] (by simpa using run_loadCells_list (P:=P) w' p [] (by simp));exact this
  · obtain ⟨Y,Z,xs,E,J⟩:=h
    obtain ⟨b,off,rfl,_,hc⟩:=J q;refine run_convert_bytes_back w' t u e ⟨b,off,none⟩ c s hs he hd fun j hj=>?_
    have hjs:s[j]? = some s[j]:=List.getElem?_eq_getElem hj;obtain ⟨cs,O,V⟩:=E.at_ hjs;have C:cs=[.int .u8 (s[j].toNat:Int)]:=O;subst C;have X:xs[j]? = some (.int .u8 (s[j].toNat:Int)):=by
     have D:((xs.drop j).take 1)[0]? = some (.int .u8 (s[j].toNat:Int)):=by
      have:((xs.drop (j * 1)).take 1)=[.int .u8 (s[j].toNat:Int)]:=V;rw [Nat.mul_one] at this;rw [this];rfl
     rw [List.getElem?_take,if_pos (by omega),List.getElem?_drop] at D
     simpa using D
    rw [Addr.add_lit];exact hE.cell (hc j _ X)
 simp only [ha.ev hx,Sem.run_bind,key,Result.andThen_ok,Sem.run_pure]
end
section
variable {P:Program} {w0 w:World} {K:Nat→Prop} {Gs:List Grp} {G GM:Grp} {α:Type} {r:Rp α}
theorem elems_u8 (w:World) (F:Nat→Prop):∀ s:By,elems Rp.u8 w F s (s.map fun c=>Value.int .u8 (c.toNat:Int))
 | []=>rfl
 | c::s=>⟨[.int .u8 (c.toNat:Int)],_,rfl,rfl,elems_u8 w F s⟩
theorem St.bytes (S:St w0 K w Gs) {t u e:TypeId} (hs:P.underlying t=some .string) (hd:P.underlying u=some (.slice e)) (he:P.underlying e=some (.int .u8)) (s:By) (hl:s.length≤68719476736):∃ A c G w1,
 (∀ {N:FN} {l:Fr} {x:Operand} {dst:Option Tmp} {ty:TypeId} {pos:String} {aft:Array Edge} {g:Option (Nat×Bool)},ev l x=some (.string (bs s))→GE P N l w ⟨dst,.convert t u x,ty,pos,aft,g⟩ (.slice A s.length c) w1) ∧
 SlG Rp.u8 A c s G∧St w0 K w1 (G::Gs)∧Ext w w1:=by
 have hE:Ext w (Lib.bytesWorld w e (bs s)):=⟨by rw [Lib.bytesWorld_size];omega,fun b hb=>Lib.bytesWorld_at_old w e (bs s) b hb⟩;refine ⟨some ⟨w.heap.size,0,none⟩,grownCap w s.length 0 e,[(w.heap.size,.cells (Lib.bytesCells w e (bs s)) e ((Lib.bytesCells w e (bs s)).size,(Lib.bytesCells w e (bs s)).size+1))],Lib.bytesWorld w e (bs s),fun hx a ha=>?_,fun w' hG=>?_,?_,hE⟩
 · have h:=Lib.run_convert_string_bytes (P:=P) w t u e (bs s) hs hd he
   rw [bs_size] at h;unfold execOp;simp only [ha.ev hx,Sem.run_bind,h,Result.andThen_ok,Sem.run_pure]
 · have hb:=hG w.heap.size _ (List.mem_singleton.2 rfl)
   have hsz:(bs s).data.toList=s:=by simp [bs]
   refine ⟨?_,?_,s.map fun c=>Value.int .u8 (c.toNat:Int),elems_u8 _ _ s,fun _=>⟨w.heap.size,0,rfl,by simp [keys],?_⟩⟩
   · have:=grownCap_ge w s.length 0 e;omega
   · exact grownCap_le_maxLen w s.length 0 e (by simp only [maxLen];omega)
   · refine cellsAt.of_blk hb ?_
     simp only [Lib.bytesCells,Array.toList_append,Array.toList_map,hsz,List.drop_zero,List.length_map];rw [← List.length_map (f:=fun c:UInt8=>Value.int .u8 (c.toNat:Int)) (as:=s)];exact List.take_left
 · refine S.emp.upd (G:=[]) ?_ (by simp [keys]) (fun b hb=>.inr (by simp [keys] at hb;omega)) (fun b hb _=>hE.2 b hb) hE.1 ?_
   · intro b o hm
     simp only [List.mem_singleton,Prod.mk.injEq] at hm;obtain ⟨rfl,rfl⟩:=hm;exact Lib.bytesWorld_at_new w e (bs s)
   · exact ⟨rfl,rfl,rfl⟩
theorem St.appP (S:St w0 K w (G::Gs)) {t e:TypeId} {bytes n:Nat} (hT:Elt P t e r.sz bytes) (hb:(Nat.ble (n * bytes) 140737488355328 && Nat.ble n 140737488355328)=true) {A B:OA} {c d m:Nat} {L M LM:List α} {news:List Value}
 (h:SlO e r (.slice A L.length c) L G) (hr:Rd w B m r.sz news) (hM:elemsO r M news []) (hm:M.length=m) (hc:catN n L M=some LM) :
 ∃ A' c' G' w1,(∀ {N:FN} {l:Fr} {x y:Operand} {dst:Option Tmp} {ty:TypeId} {pos:String} {aft:Array Edge} {g:Option (Nat×Bool)},ev l x=some (.slice A L.length c)→ev l y=some (.slice B m d) →
  GE P N l w ⟨dst,.call { callee:=.builtin .append,args:=#[x,y],argTypes:=#[t,t] },ty,pos,aft,g⟩ (.slice A' LM.length c') w1) ∧
  SlO e r (.slice A' LM.length c') LM G'∧St w0 K w1 (G'::Gs)∧(∀ b,b < w.heap.size→b ∉ keys G→w1.heap[b]? = w.heap[b]?):=by
 have q:St w0 K w (G::[]::Gs):=S.perm (by simp);exact St.app q hT hb h hr hM hm hc
theorem SlO.lit {e:TypeId} {b:Nat} {cs:List Value} {n:Nat} {M:List α} {GM:Grp} (hM:elemsO r M cs GM) (hn:M.length=n) (q:0 < n) (hm:n≤16777216):SlO e r (.slice (some ⟨b,0,none⟩) n n) M ([(b,.cells cs.toArray e (0,0))]++GM):=by
 subst hn;refine ⟨cs,[(b,.cells cs.toArray e (0,0))],GM,⟨hM.len,.inr ⟨b,0,M.length,cs.toArray,rfl,q,rfl,Nat.le_refl _,by simp only [maxLen];omega,?_,?_⟩⟩,hM,rfl⟩
 · rw [Nat.zero_add,List.size_toArray,hM.len];exact Nat.le_refl _
 · simp only [List.drop_zero]
   rw [← hM.len,List.take_length]
end
end Go.Eng
set_option linter.unusedVariables false
namespace Go.Eng
open Go
abbrev w64 (n:Int):Int:=IntKind.i64.wrap n
theorem w64_of {n:Int} (q:-9223372036854775808≤n) (C:n≤9223372036854775807):w64 n=n:=IntWalk.i64_in _ (by omega)
theorem kb {l:Fr} {c:Operand} {b t:Bool} (h:ev l c=some (.bool b)) (e:b=t):ev l c=some (.bool t):=by rw [h,e]
theorem kbl {l:Fr} {c:Nat} {b t:Bool} (h:look l c=some (.bool b)) (e:b=t):look l c=some (.bool t):=by rw [h,e]
theorem u8_lt (c:UInt8):(c.toNat:Int) < 256:=by have:=c.toNat_lt;omega
theorem int_min (m n:Int):(if n < m then n else m)=min m n:=by rw [Int.min_def];split <;> split <;> omega
theorem int_max (m n:Int):(if n > m then n else m)=max m n:=by rw [Int.max_def];split <;> split <;> omega
end Go.Eng
namespace Go.Eng
section
variable {P:Program} {N:FN} {l:Fr} {w:World} {Q:Exit→Act→World→Prop}
theorem WEx.retc2 {n:Nat} {fn:Func} {R:Ending→World→Prop} {t u s:Tmp} {T:TypeId} {b off:Nat} {cs:List Value} {x y:Value} (hres:fn.results = #[.cell t T,.tmp u,.tmp s]) (hv:look l t=some (.pointer (some ⟨b,off,none⟩))) (hT:isAggT P T cs.length=true) (hc:cellsAt w b off cs) (hx:look l u=some x) (hy:look l s=some y)
 (h:R (.returned (.tuple #[.agg cs.toArray,x,y])) w):WEx ⟨n,[]⟩ (bodyPost P fn R) .ret l w:=fun a ha=>by
 have q:=(ha.at_ t _ hv).2;have C:=(ha.at_ u _ hx).2;have D:=(ha.at_ s _ hy).2;exact ⟨ha.defers,_,by simp [results,hres,q,C,D,run_loadAgg hT hc,asAddr],h⟩
end
end Go.Eng
namespace Go.Eng
theorem SlR.cellsP {α:Type} {c:α→List Value} {sz:Nat} {q:∀ x,(c x).length=sz} {C:∀ x,(c x).all Value.oneCell'=true} {w:World} {F:Nat→Prop} {A:OA} {cap:Nat} {L:List α} (h:SlR (Rp.plain c sz q C) w F A cap L)
 {j:Nat} {x:α} (hj:L[j]? = some x) {b off:Nat} (eA:A=some ⟨b,off,none⟩):cellsAt w b (off+j * sz) (c x):=by
 obtain ⟨b',off',cs,e,_,D,E⟩:=SlR.at_ h hj;rw [eA] at e;cases e;have J:cs=c x:=E;subst J;exact D
end Go.Eng
set_option linter.unusedVariables false
namespace Go.Eng
def Ev {α:Type} (f:Nat→Option α) (r:α):Prop:=∃ K,∀ k,K≤k→f k=some r
section
variable {α β:Type} {r:α} {s:β}
theorem Ev.all {f:Nat→Option α} (h:∀ k,f k=some r):Ev f r:=⟨0,fun k _=>h k⟩
theorem Ev.ret:Ev (fun _=>some r) r:=⟨0,fun _ _=>rfl⟩
theorem Ev.cast {f:Nat→Option α} {r':α} (h:Ev f r) (e:r=r'):Ev f r':=e ▸ h
theorem Ev.fn {f g:Nat→Option α} (h:Ev f r) (e:∀ k,g k=f k):Ev g r:=by obtain ⟨K,h⟩:=h;exact ⟨K,fun k hk=>(e k).trans (h k hk)⟩
theorem Ev.bind {f:Nat→Option α} {g:Nat→α→Option β} (h:Ev f r) (k:Ev (fun k=>g k r) s):Ev (fun k=>Option.bind (f k) (g k)) s:=by
 obtain ⟨K,h⟩:=h;obtain ⟨K',k⟩:=k;refine ⟨max K K',fun n hn=>?_⟩;have q:=h n (Nat.le_trans (Nat.le_max_left _ _) hn);have C:=k n (Nat.le_trans (Nat.le_max_right _ _) hn)
 show Option.bind (f n) (g n)=some s
 rw [q];exact C
theorem Ev.bindc {x:Option α} {g:Nat→α→Option β} (h:x=some r) (k:Ev (fun k=>g k r) s):Ev (fun k=>Option.bind x (g k)) s:=by subst h;exact k
theorem Ev.pos {c:Prop} [Decidable c] {f g:Nat→Option α} (hc:c) (h:Ev f r):Ev (fun k=>if c then f k else g k) r:=by simp only [if_pos hc];exact h
theorem Ev.neg {c:Prop} [Decidable c] {f g:Nat→Option α} (hc:¬ c) (h:Ev g r):Ev (fun k=>if c then f k else g k) r:=by simp only [if_neg hc];exact h
theorem Ev.step {f g:Nat→Option α} (h:Ev g r) (e:∀ k,f (k+1)=g k):Ev f r:=by
 obtain ⟨K,h⟩:=h;refine ⟨K+1,fun k hk=>?_⟩;obtain ⟨m,rfl⟩:∃ m,k=m+1:=⟨k - 1,by omega⟩;rw [e];exact h m (by omega)
theorem Ev.get {f:Nat→Option α} (h:Ev f r):∃ k,f k=some r:=by obtain ⟨K,h⟩:=h;exact ⟨K,h K (Nat.le_refl _)⟩
end
theorem idx_at {α:Type} {L:List α} {i:Int} {j:Nat} (hi:i=(j:Int)) (h:j < L.length):idx L i=some L[j]:=by
 subst hi;unfold idx;rw [if_pos (by omega),Int.toNat_natCast,List.getElem?_eq_getElem h]
theorem cut_at {α:Type} {L:List α} {i j:Int} {a b:Nat} (hi:i=(a:Int)) (hj:j=(b:Int)) (h:a≤b) (h':b≤L.length):cut L i j=some ((L.take b).drop a):=by
 subst hi;subst hj;unfold cut;rw [if_pos ⟨by omega,by omega,by omega⟩,Int.toNat_natCast,Int.toNat_natCast]
theorem cut_from {α:Type} {L:List α} {i:Int} {a:Nat} (hi:i=(a:Int)) (h:a≤L.length):cut L i (L.length:Int)=some (L.drop a):=by
 rw [cut_at hi rfl h (Nat.le_refl _),List.take_length]
theorem cut_to {α:Type} {L:List α} {j:Int} {b:Nat} (hj:j=(b:Int)) (h:b≤L.length):cut L 0 j=some (L.take b):=by
 have q:=cut_at (L:=L) (i:=0) (j:=j) (a:=0) (b:=b) rfl hj (Nat.zero_le _) h;rw [List.drop_zero] at q;exact q
theorem cat_at {α:Type} {n:Nat} {L M:List α} (h:L.length+M.length≤n):catN n L M=some (L++M):=by unfold catN;rw [if_pos h]
theorem w64_succ {j:Nat} (h:j < 9223372036854775807):w64 ((j:Int)+1)=((j+1:Nat):Int):=by rw [w64_of (by omega) (by omega)];rfl
end Go.Eng
set_option linter.unusedVariables false
namespace Go.Eng
open Go
section
variable {α:Type} (r:Rp α) (e:TypeId)
variable {r:Rp α} {e:TypeId} {M M':Grp}
end
section
variable {P:Program} {w w0 w1:World} {K:Nat→Prop} {Gs:List Grp} {α:Type} {r:Rp α}
end
end Go.Eng
set_option linter.unusedVariables false
namespace Go.Eng
open Go
section
variable {α:Type} {r:Rp α}
theorem elemsO.at:∀ {L:List α} {xs:List Value} {G:Grp} {j:Nat} {x:α},elemsO r L xs G→L[j]? = some x →
 ∃ xa cs xb Ga Gn Gb,xs=xa++cs++xb∧xa.length=j * r.sz∧G=Ga++Gn++Gb∧r.own x cs Gn∧∀ x' cs' Gn',r.own x' cs' Gn'→elemsO r (L.set j x') (xa++cs'++xb) (Ga++Gn'++Gb)
 | [],_,_,j,x,_,hj=>by simp at hj
 | y::L,_,_,0,x,⟨cs,ys,q,D,e,eG,C,E⟩,hj=>by
  simp only [List.getElem?_cons_zero,Option.some.injEq] at hj;subst hj;subst e;subst eG;exact ⟨[],cs,ys,[],q,D,rfl,by simp,rfl,C,fun x' cs' Gn' h=>⟨cs',ys,Gn',D,rfl,rfl,h,E⟩⟩
 | y::L,_,_,j+1,x,⟨cs,ys,q,D,e,eG,C,E⟩,hj=>by
  simp only [List.getElem?_cons_succ] at hj;subst e;subst eG;obtain ⟨xa,ds,xb,Ga,Gn,Gb,rfl,hl,rfl,J,k2⟩:=elemsO.at E hj;refine ⟨cs++xa,ds,xb,q++Ga,Gn,Gb,by simp,by rw [List.length_append,r.lenO C,hl,Nat.add_mul,Nat.one_mul,Nat.add_comm],by simp,J,fun x' cs' Gn' h=>?_⟩;exact ⟨cs,xa++cs'++xb,q,Ga++Gn'++Gb,by simp,by simp,C,k2 x' cs' Gn' h⟩
variable {P:Program} {w w0:World} {K:Nat→Prop} {Gs:List Grp} {G:Grp}
end
end Go.Eng
namespace Go.Eng
def ObjO {α:Type} (T:TypeId) (r:Rp α) (p:Nat) (x:α) (G:Grp):Prop:=∃ cs Gf,r.own x cs Gf∧G=[(p,.cells cs.toArray T (0,0))]++Gf
theorem St.objs {w0 w:World} {K:Nat→Prop} {Gs Gs':List Grp} (S:St w0 K w Gs) (h:Gs.flatten=Gs'.flatten):St w0 K w Gs':=S.perm (h ▸ List.Perm.refl _)
end Go.Eng
set_option linter.unusedVariables false
set_option linter.unusedSimpArgs false
namespace Go.Eng
open Go
section
variable {α:Type}
variable {e e':TypeId} {r:Rp α} {A:OA} {c:Nat} {LL:List (List α)} {G M:Grp} {n:Nat}
variable {P:Program} {w w0:World} {K:Nat→Prop} {Gs:List Grp}
end
end Go.Eng
set_option linter.unusedVariables false
namespace Go.Eng
open Go
theorem cut_nat {α:Type} {L M:List α} {i j:Int} (h:cut L i j=some M):∃ a b:Nat,i=(a:Int)∧j=(b:Int)∧a≤b∧b≤L.length∧M=(L.take b).drop a∧M.length=b - a:=by
 unfold cut at h;obtain ⟨C,q⟩:=guard_some h;obtain ⟨D,k2,E⟩:=C;refine ⟨i.toNat,j.toNat,by omega,by omega,by omega,by omega,(some_eq q).symm,?_⟩;rw [← some_eq q,List.length_drop,List.length_take]
 omega
def subA (A:OA) (c:Nat) (i:Int) (sz:Nat):OA:=if c=i.toNat then A else A.map (·.add (i.toNat * sz))
section
variable {P:Program} {N:FN} {l:Fr} {w:World} {dst:Option Tmp} {ty:TypeId} {pos:String} {aft:Array Edge} {g:Option (Nat×Bool)} {t:TypeId} {x y z:Operand} {k k':IntKind} {i j:Int} {sz c:Nat} {A:OA} {α:Type} {L M:List α}
theorem G.cut_h (hT:slEl P t=some sz) (hx:ev l x=some (.slice A L.length c)) (hy:ev l y=some (.int k j)) (hc:cut L 0 j=some M) (hLc:L.length≤c):GP P N l ⟨dst,.slice t x none (some y) none,ty,pos,aft,g⟩ (.slice A M.length c):=by
 obtain ⟨a,b,ea,rfl,hab,hb,_,hl⟩:=cut_nat hc;have ha:a=0:=by omega
 have:=G.slice_h (dst:=dst) (ty:=ty) (pos:=pos) (aft:=aft) (g:=g) (N:=N) hT hx hy (show b≤c by omega);rw [hl,ha,Nat.sub_zero];exact this
theorem G.cut_l (hT:slEl P t=some sz) (hx:ev l x=some (.slice A L.length c)) (hy:ev l y=some (.int k i)) (hc:cut L i (L.length:Int)=some M):GP P N l ⟨dst,.slice t x (some y) none none,ty,pos,aft,g⟩ (.slice (subA A c i sz) M.length (c - i.toNat)):=by
 obtain ⟨a,b,rfl,eb,hab,hb,_,hl⟩:=cut_nat hc;have hb':b=L.length:=by omega
 have:=G.slice_l (dst:=dst) (ty:=ty) (pos:=pos) (aft:=aft) (g:=g) (N:=N) hT hx hy (show a≤L.length by omega);rw [hl,hb'];exact this
end
section
variable {α:Type} {r:Rp α} {w:World} {F:Nat→Prop} {A:OA} {c:Nat} {L M:List α} {i j:Int} {G:Grp}
theorem SlR.cut_h (h:SlR r w F A c L) (hc:cut L 0 j=some M):SlR r w F A c M:=by
 obtain ⟨a,b,ea,rfl,hab,hb,hM,hl⟩:=cut_nat hc;have ha:a=0:=by omega
 subst ha;rw [hM,List.drop_zero];exact h.take hb (Nat.le_trans hb h.cap) (Nat.le_refl _)
theorem SlR.cut_lh (h:SlR r w F A c L) (hc:cut L i j=some M):SlR r w F (subA A c i r.sz) (c - i.toNat) M:=by
 obtain ⟨a,b,rfl,rfl,hab,hb,hM,hl⟩:=cut_nat hc;have q:=h.take hb (Nat.le_trans hb h.cap) (Nat.le_refl c);have C:=q.drop (i:=a) (by rw [List.length_take];omega);rw [hM];exact C
end
end Go.Eng
set_option linter.unusedVariables false
namespace Go.Eng
open Go
section
variable {P:Program} {N:FN} {l:Fr} {ty:TypeId} {pos:String} {aft:Array Edge} {ops:Array Oper} {Q:Exit→Act→World→Prop} {rest:List Oper} {w:World} {f:FuncId} {xs:List Operand} {vs caps:List Value} {ts:Array TypeId} {d:Tmp} {x:Operand} {g:Option (Nat×Bool)}
theorem exec_callv (hf:Callable P f) (hx:ev l x=some (.func (.func f) #[] caps.toArray)) (hargs:evs l xs vs) {a:Act} (ha:Has N l a) (dst:Option Tmp) (g:Option (Nat×Bool)) :
 (execOp a.eval ⟨dst,.call { callee:=.value x,args:=xs.toArray,argTypes:=ts },ty,pos,aft,g⟩).run P w = .ok (.enter f (vs++caps).toArray) w:=by
 have q:(xs.toArray.map a.eval)=vs.toArray:=by rw [List.map_toArray,ha.evs hargs]
 unfold execOp;simp only [resolve,ha.ev hx,q]
 simp [Deferred.ofValue,invoke,run_call hf]
theorem callv_upon {o:Oper} {a:Act} {K:Act→World→Prop} {us:Array Value} (h:Calls P f us w fun e w'=>∃ v,e = .returned v∧K (a.put o.dst v) w'):o.upon P a K Q (.ok (.enter f us) w):=by
 show Calls P f us w _
 refine h.mono ?_;rintro e w' ⟨v,rfl,hk⟩;exact hk
theorem WOps.callv (hf:Callable P f) (hx:ev l x=some (.func (.func f) #[] caps.toArray)) (hargs:evs l xs vs) (hd:Nat.blt d N.n=true)
 (h:Calls P f (vs++caps).toArray w fun e w'=>∃ v,e = .returned v∧WOps P N ops Q rest ((d,v)::l) w') :
 WOps P N ops Q (⟨some d,.call { callee:=.value x,args:=xs.toArray,argTypes:=ts },ty,pos,aft,none⟩::rest) l w:=fun a ha=>by
 unfold wpS;rw [if_pos (by rfl)];unfold Oper.wp;rw [exec_callv hf hx hargs ha];refine callv_upon (h.mono ?_);rintro e w' ⟨v,rfl,hk⟩;exact ⟨v,rfl,hk _ (ha.put hd v)⟩
theorem G.makeFunc {ys:List Operand} (hc:evs l ys caps):GP P N l ⟨some d,.makeFunc (.func f) #[] ys.toArray,ty,pos,aft,g⟩ (.func (.func f) #[] caps.toArray):=fun w a ha=>by
 have q:(ys.toArray.map a.eval)=caps.toArray:=by rw [List.map_toArray,ha.evs hc]
 unfold execOp;simp only [q]
 simp [Instr.makeFunc]
end
end Go.Eng
namespace Go.Eng
section
variable {P:Program} {w0 w:World} {K:Nat→Prop} {Gs:List Grp} {α:Type} {r:Rp α}
end
end Go.Eng
set_option linter.unusedVariables false
namespace Go.Eng
open Go
section
variable {P:Program} {w0 w:World} {K:Nat→Prop} {Gs:List Grp} {G:Grp} {α:Type}
end
end Go.Eng
namespace Go.Eng
section
variable {P:Program} {N:FN} {l:Fr} {w:World} {dst:Option Tmp} {ty:TypeId} {pos:String} {aft:Array Edge} {g:Option (Nat×Bool)} {t:TypeId} {x y z u:Operand} {k k' k'':IntKind} {i j:Int} {sz c:Nat} {A:OA} {α:Type} {L M:List α}
end
end Go.Eng
namespace Go.Eng
end Go.Eng
namespace Go.Eng
section
variable {P:Program} {N:FN} {l:Fr} {dst:Option Tmp} {ty:TypeId} {pos:String} {aft:Array Edge} {g:Option (Nat×Bool)} {t u e:TypeId} {x y:Operand} {p:OA} {b:Bool}
end
end Go.Eng
namespace Go.Eng
open Go
end Go.Eng
set_option linter.unusedVariables false
set_option linter.unusedSimpArgs false
namespace Go.Eng
open Go
def heapOf (G:Grp):Array Obj:=Array.ofFn (n:=(keys G).foldr Nat.max 0+1) fun i=>((G.find? fun p=>p.1 == i.val).map (·.2)).getD (.cells #[] 0 (0,0))
def wOf (u:World) (G:Grp):World:={ u with heap:=heapOf G }
theorem key_le {G:Grp} {b:Nat} (h:b∈keys G):b < (keys G).foldr Nat.max 0+1:=by
 have:∀ (l:List Nat) (b:Nat),b∈l→b≤l.foldr Nat.max 0:=by
  intro l
  induction l with
  | nil=>intro b h;cases h
  | cons x l ih =>
   intro b h;rw [List.foldr_cons];rcases List.mem_cons.1 h with rfl | h
   · exact Nat.le_max_left _ _
   · exact Nat.le_trans (ih b h) (Nat.le_max_right _ _)
 have:=this _ _ h
 omega
theorem find_key:∀ {G:Grp},(keys G).Nodup→∀ {b:Nat} {o:Obj},(b,o)∈G→G.find? (fun p=>p.1 == b)=some (b,o)
 | p::G,hn,b,o,h=>by
  have hn':p.1 ∉ keys G∧(keys G).Nodup:=List.nodup_cons.1 hn;rcases List.mem_cons.1 h with rfl | h
  · simp
  · have:(p.1 == b)=false:=by
     cases hc:p.1 == b with
     | false=>rfl
     | true=>exact absurd (by rw [beq_iff_eq.1 hc];exact mem_keys h) hn'.1
    rw [List.find?_cons,this];exact find_key hn'.2 h
theorem wOf_at {u:World} {G:Grp} (hn:(keys G).Nodup):∀ b o,(b,o)∈G→(wOf u G).heap[b]? = some o:=fun b o h=>by
 show (heapOf G)[b]? = some o
 unfold heapOf;rw [Array.getElem?_ofFn,dif_pos (key_le (mem_keys h)),find_key hn h]
 rfl
section
variable {w0 w u:World} {K:Nat→Prop} {Gs:List Grp} {G:Grp} {k:Nat}
theorem St.nd (S:St w0 K w Gs) (k:Nat) (hk:Gs[k]? = some G):(keys G).Nodup:=by
 have q:=S.front k hk;have:=q.hp.nd;rw [List.flatten_cons,keys_append] at this;exact (List.nodup_append.1 this).1
theorem St.vw (S:St w0 K w Gs) (k:Nat) (hk:Gs[k]? = some G):∀ b,b∈keys G→w.heap[b]? = (wOf u G).heap[b]?:=fun b hb=>by
 obtain ⟨⟨b',o⟩,hm,rfl⟩:=List.mem_map.1 hb;rw [wOf_at (S.nd k hk) _ _ hm];exact S.grp k hk hm
end
section
variable {α:Type} {r:Rp α} {u:World} {G:Grp} {A:OA} {c:Nat} {L:List α}
theorem SlO.toV {e:TypeId} (h:SlO e r (.slice A L.length c) L G) (hn:(keys G).Nodup):SlR r (wOf u G) (·∈keys G) A c L:=h.rd (wOf_at hn)
theorem SlG.toV (h:SlG r A c L G) (hn:(keys G).Nodup):SlR r (wOf u G) (·∈keys G) A c L:=h _ (wOf_at hn)
end
end Go.Eng
namespace Go.Eng
open Go
section
variable {P:Program} {N:FN} {l:Fr} {dst:Option Tmp} {ty:TypeId} {pos:String} {aft:Array Edge} {g:Option (Nat×Bool)} {t u:TypeId} {x y:Operand} {k:FuncId} {b:Bool} {ps rs:Array TypeId} {v:Bool}
end
end Go.Eng
namespace Go.Eng
open Go
section
variable {P:Program} {w0 w:World} {K:Nat→Prop} {Gs:List Grp} {α:Type} {r:Rp α} {G:Grp}
theorem madeCells_rep {zs:List Value} {sz:Nat} (hz:zs.length=sz) (C:0 < sz) (n:Nat):(madeCells zs.toArray (n * sz)).toList=(List.replicate n zs).flatten:=by
 have h:∀ n:Nat,(List.range (n * sz)).map (fun i=>zs.toArray[i % zs.toArray.size]!)=(List.replicate n zs).flatten:=by
  intro n
  induction n with
  | zero=>simp
  | succ n ih =>
   rw [Nat.add_mul,Nat.one_mul,List.range_add,List.map_append,ih,List.replicate_succ',List.flatten_append,List.flatten_singleton]
   congr 1
   apply List.ext_getElem (by simp [hz])
   intro i q D;simp only [List.length_map,List.length_range] at q;simp only [List.getElem_map,List.getElem_range,List.size_toArray,hz];rw [Nat.add_comm,Nat.mul_comm n sz,Nat.add_mul_mod_self_left,Nat.mod_eq_of_lt q]
   simp [getElem!_pos,hz,q]
 have:=h n
 simpa [madeCells] using this
theorem elemsO_rep {x0:α} {zs:List Value} (h:r.own x0 zs []):∀ n:Nat,elemsO r (List.replicate n x0) (List.replicate n zs).flatten []
 | 0=>⟨rfl,rfl⟩
 | n+1=>⟨zs,(List.replicate n zs).flatten,[],[],by rw [List.replicate_succ,List.flatten_cons],rfl,h,elemsO_rep h n⟩
theorem St.makeN (S:St w0 K w Gs) {t e:TypeId} {bytes n:Nat} (hT:Elt P t e r.sz bytes) (hb:(Nat.ble (n * bytes) 140737488355328 && Nat.ble n 140737488355328)=true) {x0:α} {z:Value} (hz:zeroOf P e=some z) (q:r.own x0 z.cells.toList []) (hsz:0 < r.sz) {c:Int} (D:0≤c) (hc:c≤(n:Int)):∃ A G w1,
 (∀ {N:FN} {l:Fr} {x y:Operand} {k k':IntKind} {dst:Option Tmp} {ty:TypeId} {pos:String} {aft:Array Edge} {g:Option (Nat×Bool)},ev l x=some (.int k c)→ev l y=some (.int k' c)→GE P N l w ⟨dst,.makeSlice t x y,ty,pos,aft,g⟩ (.slice A (List.replicate c.toNat x0).length c.toNat) w1) ∧
 SlO e r (.slice A (List.replicate c.toNat x0).length c.toNat) (List.replicate c.toNat x0) G∧St w0 K w1 (G::Gs)∧Ext w w1:=by
 obtain ⟨hu,i,z',hi,hz',hsz',hby,hzs⟩:=hT;have hzz:z'=z:=by unfold zeroOf at hz;rw [hi] at hz;simp only [Option.bind_some] at hz;rw [hz'] at hz;exact Option.some.inj hz
 subst hzz;have hb':n * bytes≤140737488355328∧n≤140737488355328:=by simpa [Nat.ble_eq] using hb
 have hbytes:(i.bytes:Int) * c≤281474976710656:=by
  rw [hby];have E:(bytes:Int) * c≤(bytes:Int) * (n:Int):=Int.mul_le_mul_of_nonneg_left hc (by omega);have J:(bytes:Int) * (n:Int)=((n * bytes:Nat):Int):=by rw [Int.natCast_mul,Int.mul_comm]
  omega
 have hrun:=fun kl kc=>run_make (P:=P) w t e i z' hu hi hz' kl kc c c D (Int.le_refl c) hbytes (by omega)
 have hE:Ext w (w.alloc (.cells (madeCells z'.cells (c.toNat * i.size)) e)):=Ext.alloc w _;have hexec:∀ {N:FN} {l:Fr} {x y:Operand} {k k':IntKind} {dst:Option Tmp} {ty:TypeId} {pos:String} {aft:Array Edge} {g:Option (Nat×Bool)},ev l x=some (.int k c)→ev l y=some (.int k' c)→GE P N l w ⟨dst,.makeSlice t x y,ty,pos,aft,g⟩ (.slice (some ⟨w.heap.size,0,none⟩) (List.replicate c.toNat x0).length c.toNat) (w.alloc (.cells (madeCells z'.cells (c.toNat * i.size)) e)):=by
  intro N l x y k k' dst ty pos aft g hx hy a ha;unfold execOp;simp only [ha.ev hx,ha.ev hy,List.length_replicate]
  simp [hrun k k']
 rcases Nat.eq_zero_or_pos c.toNat with C | hp
 · refine ⟨some ⟨w.heap.size,0,none⟩,[],_,hexec,?_,S.emp.ext hE ⟨rfl,rfl,rfl⟩,hE⟩
   rw [C];exact SlO.zero e r _
 · have hcells:(madeCells z'.cells (c.toNat * i.size)).toList=(List.replicate c.toNat z'.cells.toList).flatten:=by
    have:=madeCells_rep (zs:=z'.cells.toList) (sz:=r.sz) (by rw [Array.length_toList,hzs]) hsz c.toNat;rw [hsz']
    simpa using this
   have hO:=elemsO_rep (r:=r) q c.toNat;refine ⟨some ⟨w.heap.size,0,none⟩,[(w.heap.size,.cells (madeCells z'.cells (c.toNat * i.size)) e (0,0))],_,hexec,⟨(List.replicate c.toNat z'.cells.toList).flatten,[(w.heap.size,.cells (madeCells z'.cells (c.toNat * i.size)) e (0,0))],[],⟨hO.len,.inr ⟨w.heap.size,0,c.toNat,_,rfl,hp,rfl,by simp,by simp only [maxLen];omega,?_,?_⟩⟩,hO,rfl⟩,?_,hE⟩
   · rw [size_madeCells,hsz'];omega
   · rw [List.drop_zero,hcells,← hO.len,List.take_length]
   · refine S.emp.upd (G:=[]) ?_ (by simp [keys]) (fun b hb=>.inr (by simp [keys] at hb;omega)) (fun b hb _=>hE.2 b hb) hE.1 ⟨rfl,rfl,rfl⟩
     intro b o hm;simp only [List.mem_singleton,Prod.mk.injEq] at hm;obtain ⟨rfl,rfl⟩:=hm;exact heap_alloc_new w _
end
end Go.Eng
namespace Go.Eng
open Go
end Go.Eng
namespace Go.Eng
open Go
def PtR {α:Type} (T:TypeId) (r:Rp α) (w:World) (F:Nat→Prop) (p:Nat) (x:α):Prop:=∃ cs,w.heap[p]? = some (.cells cs.toArray T (0,0))∧F p∧r.rd w F x cs
section
variable {α:Type} {T:TypeId} {r:Rp α} {w w' w0:World} {F F':Nat→Prop} {p:Nat} {x:α} {K:Nat→Prop} {G:Grp}
theorem PtR.ext (h:PtR T r w F p x) (hE:∀ b,F b→w'.heap[b]? = w.heap[b]?):PtR T r w' F p x:=by
 obtain ⟨cs,C,q,D⟩:=h;exact ⟨cs,(hE p q).trans C,q,r.ext D hE⟩
theorem ObjO.rd (h:ObjO T r p x G) (hG:∀ b o,(b,o)∈G→w.heap[b]? = some o):PtR T r w (·∈keys G) p x:=by
 obtain ⟨cs,Gf,q,rfl⟩:=h;exact ⟨cs,hG _ _ (by simp),by simp [keys],r.mono (r.low q fun b o hb=>hG b o (by simp [hb])) (fun b hb=>by simp only [keys_append];exact List.mem_append_right _ hb)⟩
theorem St.outN {As Bs Rs:List Grp} (S:St w0 K w (Bs++(As++Rs))):∀ b,KS As b→NK w Bs b:=fun b hb=>by
 have hm:b∈keys (As++Rs).flatten:=by rw [List.flatten_append,keys_append];exact List.mem_append_left _ hb
 refine ⟨fun hk=>?_,S.hp.lt (by rw [List.flatten_append,keys_append];exact List.mem_append_right _ hm)⟩;have hnd:=S.hp.nd;rw [List.flatten_append,keys_append,List.nodup_append] at hnd;exact hnd.2.2 b hk b hm rfl
theorem KS_at {As:List Grp} (i:Nat) {G:Grp} (h:As[i]? = some G) {b:Nat} (hb:b∈keys G):KS As b:=by
 unfold KS;obtain ⟨⟨k,o⟩,hm,rfl⟩:=List.mem_map.1 hb;exact mem_keys (mem_at h hm)
end
end Go.Eng
namespace Go.Eng
open Go
section
variable {w w':World} {F:Nat→Prop} {As Gs:List Grp} {G:Grp} {k:Nat} {α:Type} {r:Rp α} {A:OA} {c:Nat} {L:List α}
end
end Go.Eng
set_option linter.unusedVariables false
namespace Go.Eng
open Go
section
variable {P:Program} {N:FN} {n:Nat} {ops:Array Oper} {Q:Exit→Act→World→Prop} {rest:List Oper} {l l':Fr} {w w':World} {d:Nat} {op:Op} {ty:TypeId} {pos:String} {aft:Array Edge} {ds:List Deferred}
theorem WEx.then_panic {K:Act→World→Prop} {c:List PanicEntry} (h:WEx N Q (.panic c) l w):WEx N (Exit.then K Q) (.panic c) l w:=h
theorem WEx.in_panic {id:Nat} {c:List PanicEntry} (h:WEx N Q (.panic c) l w):WEx N (Exit.inBlock id Q) (.panic c) l w:=h
theorem WCode.noPanic {id:Nat} {b:Bool} (h:WCode P N (.region id ops b) (NoPanic Q) l w):WCode P N (.region id ops b) Q l w:=fun a ha=>wp_region_noPanic (h a ha)
theorem WOps.pan {v:Value} {dst:Option Tmp} (hr:∀ a,Has N l a→(execOp a.eval ⟨dst,op,ty,pos,aft,none⟩).run P w = .halt (.panic v) w')
 (h:WEx N Q (.panic [{ v,recovered:=false }]) l w'):WOps P N ops Q (⟨dst,op,ty,pos,aft,none⟩::rest) l w:=by
 intro a ha;unfold wpS;rw [if_pos (by rfl)];unfold Oper.wp;rw [hr a ha];exact h a ha
theorem WOps.defer {D:Deferred} (hr:∀ a,Has N l a→(execOp a.eval ⟨none,op,ty,pos,aft,none⟩).run P w = .ok (.defer D) w)
 (h:WOps P ⟨N.n,D::N.ds⟩ ops Q rest l w):WOps P N ops Q (⟨none,op,ty,pos,aft,none⟩::rest) l w:=by
 intro a ha;unfold wpS;rw [if_pos (by rfl)];unfold Oper.wp;rw [hr a ha];refine h _ ⟨by simpa [Act.put] using ha.size,?_,fun t v hv=>?_⟩
 · show D::a.defers=D::N.ds
   rw [ha.defers]
 · have:=ha.at_ t v hv
   simpa [Act.put] using this
theorem exec_defer {x:Operand} {xs:List Operand} {vs caps:List Value} {f:FuncId} {ts:Array TypeId} (hx:ev l x=some (.func (.func f) #[] caps.toArray)) (hargs:evs l xs vs) :
 ∀ a,Has N l a→(execOp a.eval ⟨none,.defer { callee:=.value x,args:=xs.toArray,argTypes:=ts },ty,pos,aft,none⟩).run P w = .ok (.defer { target:=.fn (.func f) caps.toArray,args:=vs.toArray }) w:=fun a ha=>by
 have q:(xs.toArray.map a.eval)=vs.toArray:=by rw [List.map_toArray,ha.evs hargs]
 unfold execOp
 simp [resolve,q,ha.ev hx,Deferred.ofValue]
theorem WOps.callp {f:FuncId} {xs:List Operand} {vs:List Value} {ts:Array TypeId} (hf:Callable P f) (hargs:evs l xs vs) (hd:Nat.blt d N.n=true)
 (h:Calls P f vs.toArray w fun e w'=>(∃ v,e = .returned v∧WOps P N ops Q rest ((d,v)::l) w')∨∃ c,e = .panicked c∧WEx N Q (.panic c) l w') :
 WOps P N ops Q (⟨some d,.call { callee:=.value (.func f),args:=xs.toArray,argTypes:=ts },ty,pos,aft,none⟩::rest) l w:=by
 intro a ha;unfold wpS;rw [if_pos (by rfl)];unfold Oper.wp;rw [exec_call hf hargs ha]
 show Calls P f vs.toArray w _
 refine h.mono fun e w' he=>?_
 rcases he with ⟨v,rfl,k⟩|⟨c,rfl,k⟩
 · exact k _ (ha.put hd v)
 · exact k a ha
theorem WEx.panicked {fn:Func} {R:Ending→World→Prop} {c:List PanicEntry} (h:R (.panicked c) w):WEx ⟨n,[]⟩ (bodyPost P fn R) (.panic c) l w:=fun a ha=>⟨ha.defers,h⟩
def WLv (P:Program) (n:Nat) (fn:Func) (R:Ending→World→Prop) (ds:List Deferred) (u:FrameMode) (l:Fr) (w:World):Prop:=∀ (N:FN) a,N.n=n→Has N l a→Leaves P fn a.tmps R ds u w
theorem enterD {f:FuncId} {fn:Func} {c:Code} {args:List Value} {w:World} {R:Ending→World→Prop} (N:Nat) (fr:Fr)
 (hf:P.funcs[f]? = some fn) (hb:fn.body=some c) (hN:fn.ntmps=N) (hfr:(List.range args.length).zip args=fr) (hle:Nat.ble args.length N=true)
 (h:WCode P ⟨N,[]⟩ c (bodyPostD P fn R) fr w):Calls P f args.toArray w R:=by
 refine calls_of_wp_defers hf hb (h _ ?_);subst hN;rw [← hfr];exact has_enter args.length rfl _ (by simpa [Nat.ble_eq] using hle)
theorem WEx.retD {fn:Func} {R:Ending→World→Prop} (h:WLv P n fn R ds .returning l w):WEx ⟨n,ds⟩ (bodyPostD P fn R) .ret l w:=fun a ha=>by
 show Leaves P fn a.tmps R a.defers .returning w
 rw [ha.defers];exact h _ a rfl ha
theorem WEx.panicD {fn:Func} {R:Ending→World→Prop} {c:List PanicEntry} (h:WLv P n fn R ds (.panicking c) l w):WEx ⟨n,ds⟩ (bodyPostD P fn R) (.panic c) l w:=fun a ha=>by
 show Leaves P fn a.tmps R a.defers (.panicking c) w
 rw [ha.defers];exact h _ a rfl ha
theorem WLv.cons {fn:Func} {R:Ending→World→Prop} {f:FuncId} {caps vs:Array Value} {u:FrameMode} (hu:u≠.run) (hf:Callable P f)
 (h:CallsD P f (vs++caps) u w fun e u' w'=>(∃ v,e = .returned v∧WLv P n fn R ds (settle u') l w')∨∃ c,e = .panicked c∧WLv P n fn R ds (raised u' c) l w') :
 WLv P n fn R ({ target:=.fn (.func f) caps,args:=vs }::ds) u l w:=fun N a hN ha=>by
 refine leaves_cons (f:=f) (args:=vs++caps) hu (by unfold invoke;exact run_call hf _ w) ?_;refine h.mono fun e u' w' he=>?_
 rcases he with ⟨v,rfl,k⟩|⟨c,rfl,k⟩
 · exact k N a hN ha
 · exact k N a hN ha
theorem WLv.ret {fn:Func} {R:Ending→World→Prop} {v:Value} (hr:∀ (N:FN) a,Has N l a→(results fn a.tmps).run P w = .ok v w) (h:R (.returned v) w):WLv P n fn R [] .returning l w:=fun N a hN ha=>⟨v,hr N a ha,h⟩
theorem WLv.panic {fn:Func} {R:Ending→World→Prop} {c:List PanicEntry} (h:R (.panicked c) w):WLv P n fn R [] (.panicking c) l w:=fun N a hN ha=>h
theorem enterS {f:FuncId} {fn:Func} {c:Code} {args:List Value} {u:FrameMode} {w:World} {R:Ending→FrameMode→World→Prop} (N:Nat) (fr:Fr)
 (hf:P.funcs[f]? = some fn) (hb:fn.body=some c) (hN:fn.ntmps=N) (hfr:(List.range args.length).zip args=fr) (hle:Nat.ble args.length N=true)
 (h:∀ (c₀:Frame) (cs:List Frame) (a:Act),c₀.mode=u→Has ⟨N,[]⟩ fr a→c.wpS P (bodyPostS P fn c₀ cs R) a (c₀::cs) w):CallsD P f args.toArray u w R:=by
 refine callsD_of_wpS hf hb fun c₀ cs hu=>?_
 refine h c₀ cs _ hu ?_;subst hN;rw [← hfr];exact has_enter args.length rfl _ (by simpa [Nat.ble_eq] using hle)
theorem recoverD_panicking {c₀:Frame} {cs:List Frame} {v:Value} {older:List PanicEntry} (h:c₀.mode = .panicking ({ v,recovered:=false }::older)):recoverD (c₀::cs)=some (v,{ c₀ with mode:=.panicking ({ v,recovered:=true }::older) }::cs):=by
 simp only [recoverD,h]
theorem recoverD_returning {c₀:Frame} {cs:List Frame} (h:c₀.mode = .returning):recoverD (c₀::cs)=none:=by
 simp only [recoverD,h]
theorem WEx.endS {fn:Func} {R:Ending→FrameMode→World→Prop} {c₀:Frame} {cs:List Frame} {u':FrameMode} (hres:fn.results = #[]) (h:R (.returned (.tuple #[])) u' w):WEx ⟨n,[]⟩ (fun e a' w'=>bodyPostS P fn c₀ cs R e a' ({ c₀ with mode:=u' }::cs) w') .normal l w :=
 fun a ha=>⟨ha.defers,u',rfl,_,by rw [results_none hres],h⟩
theorem WEx.endS0 {fn:Func} {R:Ending→FrameMode→World→Prop} {c₀:Frame} {cs:List Frame} (hres:fn.results = #[]) (h:R (.returned (.tuple #[])) c₀.mode w):WEx ⟨n,[]⟩ (fun e a' w'=>bodyPostS P fn c₀ cs R e a' (c₀::cs) w') .normal l w :=
 fun a ha=>⟨ha.defers,c₀.mode,rfl,_,by rw [results_none hres],h⟩
end
end Go.Eng
namespace Go.Eng
theorem eb:type_of% @Ev.bind:=@Ev.bind
theorem ebc:type_of% @Ev.bindc:=@Ev.bindc
theorem ep:type_of% @Ev.pos:=@Ev.pos
theorem eg:type_of% @Ev.neg:=@Ev.neg
theorem et:type_of% @Ev.ret:=@Ev.ret
theorem ea:type_of% @Ev.all:=@Ev.all
theorem ecs:type_of% @Ev.cast:=@Ev.cast
end Go.Eng
