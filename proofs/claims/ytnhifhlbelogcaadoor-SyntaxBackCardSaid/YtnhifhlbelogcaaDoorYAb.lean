/- Short words for the walks. -/
import Derived.Test.YtnhifhlbelogcaaDoorProg
import Derived.Test.YtnhifhlbelogcaaDoorYTree
set_option linter.unusedVariables false
namespace Go.Proofs.YtnhifhlbelogcaaDoor
open Go Go.Eng
noncomputable abbrev TP:=Tryd.prog
abbrev I (x:Int):Value:=.int .i64 x
abbrev Pt (b:Nat):Value:=.pointer (some ⟨b,0,none⟩)
abbrev B (b:Nat) (cs:Array Value) (t:TypeId):Grp:=[(b,.cells cs t (0,0))]
abbrev tg (k:Int) (s:List UInt8) (n a:Int) (v:Value):Array Value:=#[.int .i64 k,.string (bs s),.int .i64 n,.int .i64 a,v]
abbrev tz:Array Value:=#[.int .i64 0,.string (bs []),.int .i64 0,.int .i64 0,.slice none 0 0]
abbrev tzl:List Value:=[.int .i64 0,.string (bs []),.int .i64 0,.int .i64 0,.slice none 0 0]
abbrev ta (t:Tree) (A:Option Addr) (c:Nat):Array Value:=#[.int .i64 t.Kind,.string (bs t.Name),.int .i64 t.Number,.int .i64 t.At,.slice A t.Kids.length c]
abbrev tl (t:Tree) (A:Option Addr) (c:Nat):List Value:=[.int .i64 t.Kind,.string (bs t.Name),.int .i64 t.Number,.int .i64 t.At,.slice A t.Kids.length c]
abbrev zs (L:List (List UInt8)):Array Value:=(L.map fun s=>Value.string (bs s)).toArray
def zv (L:List (List UInt8)):List (Nat×Value):=L.mapIdx fun i s=>(i,Value.string (bs s))
section
variable {P:Program} {N:FN} {Q:Exit→Act→World→Prop} {l:Fr} {w:World} {rest:List Oper} {ops:Array Oper} {d:Nat} {op:Op} {ty:TypeId} {pos:String} {aft:Array Edge}
theorem wof {j:Nat} {b q t:Bool} (hv:((ops[j]?).bind (·.dst)).bind (Go.Eng.look l)=some (.bool q)) (e:q=t) (hd:(t == b || !Nat.blt d N.n)=false) (h:WOps P N ops Q rest ((d,undef)::l) w):WOps P N ops Q (⟨some d,op,ty,pos,aft,some (j,b)⟩::rest) l w:=by
 subst e;obtain ⟨dj,C,D⟩:=Option.bind_eq_some_iff.1 hv;rw [Bool.or_eq_false_iff] at hd;exact WOps.off C D hd.1 (by simpa using hd.2) h
theorem won {j:Nat} {b q:Bool} (hv:((ops[j]?).bind (·.dst)).bind (Go.Eng.look l)=some (.bool q)) (e:q=b) (h:WOps P N ops Q (⟨some d,op,ty,pos,aft,none⟩::rest) l w):WOps P N ops Q (⟨some d,op,ty,pos,aft,some (j,b)⟩::rest) l w:=by
 subst e;obtain ⟨dj,C,D⟩:=Option.bind_eq_some_iff.1 hv;exact WOps.on C D h
theorem mv {x:Operand} {v:Value} (h:cond (Nat.blt d N.n) (ev l x) none=some v) (k:WOps P N ops Q rest ((d,v)::l) w):WOps P N ops Q (⟨some d,.move x,ty,pos,aft,none⟩::rest) l w:=by
 cases hd:Nat.blt d N.n with
 | false=>rw [hd] at h;cases h
 | true=>rw [hd] at h;exact WOps.p (G.move h) hd k
theorem av {x:Operand} {v:Value} (h:cond (Nat.blt d N.n) (ev l x) none=some v) (k:WOps P N ops Q rest ((d,v)::l) w):WOps P N ops Q (⟨some d,.assign x,ty,pos,aft,none⟩::rest) l w:=by
 cases hd:Nat.blt d N.n with
 | false=>rw [hd] at h;cases h
 | true=>rw [hd] at h;exact WOps.p (G.assign h) hd k
theorem scT {w0 w1:World} {K:Nat→Prop} {As As' Rs:List Grp} (T:St w (KS As) w1 As') (S:St w0 K w (As++Rs)):St w0 K w1 (As'++Rs):=S.callN T
theorem zs_own:∀ L:List (List UInt8),elemsO Rp.str L (L.map fun s=>Value.string (bs s)) []
 | []=>⟨rfl,rfl⟩
 | s::L=>⟨[.string (bs s)],_,[],[],rfl,rfl,⟨rfl,rfl⟩,zs_own L⟩
theorem sls {w0:World} {K:Nat→Prop} {Gs:List Grp} (S:St w0 K w Gs) (L:List (List UInt8)) (h:(sliceLit TP 70 L.length (zv L)=some (9,zs L))∧0 < L.length∧L.length≤16777216):∃ b w1,
 (∀ {N:FN} {l:Fr} {ps:List (Nat×Operand)} {dst:Option Tmp} {ty:TypeId} {pos:String} {aft:Array Edge} {g:Option (Nat×Bool)},evp l ps (zv L)→GE TP N l w ⟨dst,.buildSlice 70 L.length ps.toArray,ty,pos,aft,g⟩ (.slice (some ⟨b,0,none⟩) L.length L.length) w1) ∧
 St w0 K w1 (B b (zs L) 9::Gs)∧SlO 9 Rp.str (.slice (some ⟨b,0,none⟩) L.length L.length) L (B b (zs L) 9):=by
 obtain ⟨b,w1,E,q,_,_⟩:=St.lit S h.1;refine ⟨b,w1,E,q,?_⟩;have:=SlO.lit (e:=9) (b:=b) (r:=Rp.str) (zs_own L) rfl h.2.1 h.2.2;rw [List.append_nil] at this;exact this
theorem lit1 {A:Option Addr} {c:Nat} {G:Grp} (b:Nat) (t:Tree) (h:SlO 24 Tree.rp (.slice A t.Kids.length c) t.Kids G):SlO 24 Tree.rp (.slice (some ⟨b,0,none⟩) ([t]:List Tree).length 1) [t] (B b (ta t A c) 24++(G++[])) :=
 SlO.lit ⟨tl t A c,_,G,_,rfl,rfl,Tree.own_iff.2 ⟨A,c,G,rfl,h,rfl⟩,⟨rfl,rfl⟩⟩ rfl (Nat.le_of_ble_eq_true rfl) (Nat.le_of_ble_eq_true rfl)
theorem sw {w0:World} {K:Nat→Prop} {Gs:List Grp} (S:St w0 K w Gs) (k:Nat) (cs:Array Value) {T:TypeId} (hs:sizeT P T=some cs.size) {b:Nat} {cur:Array Value} {t:TypeId} (hk:Gs[k]? = some [(b,.cells cur t (0,0))])
 (hfit:Nat.ble (0+cs.size) cur.size=true) (q:cs.toList.all Value.oneCell'=true) (hc:over cur 0 cs.toList=cs):∃ w1,
 (∀ {N:FN} {l:Fr} {x y:Operand} {dst:Option Tmp} {ty:TypeId} {pos:String} {aft:Array Edge} {g:Option (Nat×Bool)},ev l x=some (.pointer (some ⟨b,0,none⟩))→ev l y=some (.agg cs)→GU P N l w ⟨dst,.store T x y,ty,pos,aft,g⟩ w1) ∧
 St w0 K w1 (Gs.set k [(b,.cells cs t (0,0))]):=St.store (P:=P) S k T (.agg cs) (off:=0) (cur':=cs) hk hs hfit q hc
theorem rdo {α:Type} {r:Rp α} {T:TypeId} {p:Nat} {x:α} {G:Grp} {w0:World} {K:Nat→Prop} {Gs:List Grp} (h:ObjO T r p x G) (S:St w0 K w Gs) (k:Nat) (hk:Gs[k]? = some G):PtR T r w (·∈keys G) p x:=h.rd (fun b o hb=>S.grp k hk hb)
theorem rds {α:Type} {r:Rp α} {e:TypeId} {A:Option Addr} {c:Nat} {L:List α} {G:Grp} {w0:World} {K:Nat→Prop} {Gs:List Grp} (h:SlO e r (.slice A L.length c) L G) (S:St w0 K w Gs) (k:Nat) (hk:Gs[k]? = some G):SlR r w (·∈keys G) A c L:=h.rd (fun b o hb=>S.grp k hk hb)
theorem og {w0:World} {K:Nat→Prop} {Rs:List Grp} {G:Grp} (S:St w0 K w Rs) (j:Nat) (hj:Rs[j]? = some G):∀ b,b∈keys G→NK w [] b:=St.outG (Bs:=[]) S j hj
theorem ct {c:Operand} {x y:Code} {b:Bool} (hc:ev l c=some (.bool b)) (e:b=true) (h:WCode P N x Q l w):WCode P N (.cond c x y) Q l w:=WCode.cond_t (kb hc e) h
theorem cf {c:Operand} {x y:Code} {b:Bool} (hc:ev l c=some (.bool b)) (e:b=false) (h:WCode P N y Q l w):WCode P N (.cond c x y) Q l w:=WCode.cond_f (kb hc e) h
end
theorem wp:type_of% @WOps.p:=@WOps.p
theorem wr:type_of% @WCode.region:=@WCode.region
theorem we:type_of% @WEx.then_:=@WEx.then_
theorem wq:type_of% @WCode.seq:=@WCode.seq
theorem wn:type_of% @WOps.nil:=@WOps.nil
theorem wc:type_of% @WOps.call:=@WOps.call
theorem wcp:type_of% @WOps.callp:=@WOps.callp
theorem wrr:type_of% @WOps.r:=@WOps.r
theorem wee:type_of% @WOps.e:=@WOps.e
theorem wuu:type_of% @WOps.u:=@WOps.u
theorem gm:type_of% @G.move:=@G.move
theorem ga:type_of% @G.assign:=@G.assign
theorem ec:type_of% @evs_cons:=@evs_cons
theorem en:type_of% @evs_nil:=@evs_nil
theorem fc:type_of% @evp_cons:=@evp_cons
theorem fn_:type_of% @evp_nil:=@evp_nil
theorem fs_:type_of% @evp_spec:=@evp_spec
theorem bo:type_of% @bind_some:=@bind_some
theorem cb:type_of% @cellsAt.of_blk:=@cellsAt.of_blk
theorem sc:type_of% @St.callN:=@St.callN
theorem bf {a:Bool} (h:¬ a=true):a=false:=Bool.eq_false_iff.2 h
theorem wg:type_of% @WCode.forget:=@WCode.forget
theorem sk:type_of% @St.keep:=@St.keep
theorem wtp:type_of% @WEx.then_panic:=@WEx.then_panic
theorem wtr:type_of% @WEx.then_ret:=@WEx.then_ret
theorem io:type_of% @ite_some:=@ite_some
theorem se:type_of% @some_eq:=@some_eq
theorem wx:type_of% @WEx.cutend:=@WEx.cutend
theorem wqs:type_of% @WCode.cutseq:=@WCode.cutseq
theorem so:type_of% @St.store:=@St.store
theorem sl:type_of% @St.lit:=@St.lit
theorem wl:type_of% @WCode.loop:=@WCode.loop
theorem wrc:type_of% @WEx.retc:=@WEx.retc
theorem wpk:type_of% @WEx.panicked:=@WEx.panicked
theorem win:type_of% @WEx.in_normal:=@WEx.in_normal
theorem wsk:type_of% @WCode.skip:=@WCode.skip
theorem wrt:type_of% @WCode.ret:=@WCode.ret
theorem df:type_of% @decide_eq_false:=@decide_eq_false
theorem dt:type_of% @decide_eq_true:=@decide_eq_true
theorem nb:type_of% @Nat.le_of_ble_eq_true:=@Nat.le_of_ble_eq_true
theorem eps:type_of% @endP_some:=@endP_some
theorem epn:type_of% @endP_none:=@endP_none
theorem wag:type_of% @WEx.again:=@WEx.again
theorem hn:type_of% @St.hpN:=@St.hpN
theorem dp:type_of% @WD.p:=@WD.p
theorem hp:type_of% @WH.p:=@WH.p
theorem sv:type_of% @St.var:=@St.var
theorem sro:type_of% @St.reord:=@St.reord
theorem sbx:type_of% @St.box:=@St.box
theorem he_:type_of% @WH.e:=@WH.e
theorem hcp:type_of% @WH.callp:=@WH.callp
theorem sn:type_of% @SlO.nil:=@SlO.nil
theorem sat:type_of% @SlR.at_:=@SlR.at_
theorem nt {b:Bool} (h:b=false):(!b)=true:=by rw [h];rfl
theorem nf {b:Bool} (h:b=true):(!b)=false:=by rw [h];rfl
theorem nn {α:Type} {r:α} {p:Prop} (h:(none:Option α)=some r):p:=nomatch h
theorem cm {n : Nat} {f : Func} (h : TP.funcs[n]? = some f) (q : (f.name == "runtime.NumGoroutine") = false := by kernel_rfl) (C : f.body.isNone = false := by kernel_rfl) : Callable TP n := Callable.mk h q C
end Go.Proofs.YtnhifhlbelogcaaDoor
