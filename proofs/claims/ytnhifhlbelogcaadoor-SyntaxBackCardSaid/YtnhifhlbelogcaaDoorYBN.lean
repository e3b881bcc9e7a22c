/- SyntaxBack: what is handed in: a tree, its variables, a world for the witness. -/
import Derived.Test.YtnhifhlbelogcaaDoorCards
import Derived.Test.YtnhifhlbelogcaaDoorTie
import Derived.Test.YtnhifhlbelogcaaDoorYBL
import Derived.Test.YtnhifhlbelogcaaDoorYRow3
import Derived.SizedLaws
import Derived.WalkKit
import Derived.ProofKit
import Derived.OpenShut
import Derived.ChangeMaps5
import Derived.Deep.DeepHandedRow
import Derived.Deep.DeepWitnessRowRef
import Derived.Lib.LaidTab
import Derived.Lib.LaidU8
set_option linter.unusedVariables false
namespace Go.Eng
open Go Go.RowKit Go.WideShapes Go.ChangeShapes Go.Deep
section
variable {H:Type} {enc:TypeId×Value→H} {P:Program} {α:Type} {r:Rp α} {w:World} {F:Nat→Prop}
theorem elems.snoc {x:α} {cs:List Value} (h:r.rd w F x cs):∀ {L:List α} {xs:List Value},elems r w F L xs→elems r w F (L++[x]) (xs++cs)
 | [],_,q=>by cases q;exact ⟨cs,[],by simp,h,rfl⟩
 | y::L,_,⟨ds,ys,e,C,D⟩=>by subst e;exact ⟨ds,ys++cs,by simp,C,elems.snoc h D⟩
theorem cell_none {a:Addr} {v:Value} (h:w.cell? a=some v):a.spot=none∧a.block < w.heap.size:=by
 obtain ⟨b,o,sp⟩:=a;have hsp:sp=none:=by
  unfold World.cell? at h;cases sp with
  | none=>rfl
  | some q=>split at h <;> simp at h
 refine ⟨hsp,?_⟩;rcases Nat.lt_or_ge b w.heap.size with hl | hl
 · exact hl
 · unfold World.cell? at h
   simp [Array.getElem?_eq_none hl] at h
def Old (w:World):Nat→Prop:=fun b=>b < w.heap.size
theorem Old.nk {w:World}:∀ b,Old w b→NK w [] b:=fun b h=>⟨by simp [keys],h⟩
theorem fld {base:Nat} {spare:Nat→Bool} {held:Bool} {fs:Array Field} {m:Nat} {cs:List Value} {xs:List (DataW H×List MemPlace)} (hf:∀ (i:Nat) (f:Field),fs[i]? = some f→DataW.trod enc P w base spare held m f.type ((cs.drop f.offset).take (P.cellsOf f.type))=xs[i]?)
 (i t o k:Nat) (q:(fs[i]?).map (fun f=>(f.type,f.offset))=some (t,o)) (hk:P.cellsOf t=k) {x:DataW H×List MemPlace} (hx:xs[i]? = some x):DataW.trod enc P w base spare held m t ((cs.drop o).take k)=some x:=by
 cases hi:fs[i]? with
 | none=>rw [hi] at q;cases q
 | some f =>
  rw [hi] at q;simp only [Option.map_some,Option.some.injEq,Prod.mk.injEq] at q;have:=hf i f hi;rw [q.1,q.2,hk,hx] at this;exact this
def Light (P:Program) (t:TypeId) (d:DataW H):Prop:=∀ n∈d.weights P t,n≤reachBytes
theorem weightsAll_mem {e:TypeId}:∀ {ds:List (DataW H)} {d:DataW H},d∈ds→∀ n∈d.weights P e,n∈DataW.weightsAll P e ds
 | x::ds,d,h,n,hn=>by
  simp only [DataW.weightsAll,List.mem_append];rcases List.mem_cons.1 h with rfl | h
  · exact .inl hn
  · exact .inr (weightsAll_mem h n hn)
theorem Light.slice {t e:TypeId} {els sp:List (DataW H)} (ht:P.underlying t=some (.slice e)) (h:Light P t (.slice els sp)):(els.length+sp.length) * P.bytesOf e≤reachBytes∧∀ d∈els,Light P e d:=by
 refine ⟨h _ (by unfold DataW.weights;rw [ht];exact List.mem_cons_self),fun d hd n hn=>h n ?_⟩;unfold DataW.weights;rw [ht];exact List.mem_cons_of_mem _ (List.mem_append_left _ (weightsAll_mem hd n hn))
theorem Light.field {t:TypeId} {fs:Array Field} {ds:List (DataW H)} (ht:P.underlying t=some (.struct fs)) (h:Light P t (.agg ds)) {i:Nat} {f:Field} {d:DataW H} (hf:fs[i]? = some f) (hd:ds[i]? = some d):Light P f.type d:=fun n hn=>h n (by
 unfold DataW.weights;rw [ht];exact DataW.weights_mem_each (j:=i) (by rw [List.getElem?_map,Array.getElem?_toList,hf];rfl) hd n hn)
theorem fldL {fs:Array Field} {xs:List (DataW H×List MemPlace)} {T:TypeId} (hT:P.underlying T=some (.struct fs)) (hL:Light P T (.agg (xs.map (·.1))))
 (i t o:Nat) (q:(fs[i]?).map (fun f=>(f.type,f.offset))=some (t,o)) {x:DataW H×List MemPlace} (hx:xs[i]? = some x):Light P t x.1:=by
 cases hi:fs[i]? with
 | none=>rw [hi] at q;cases q
 | some f =>
  rw [hi] at q;simp only [Option.map_some,Option.some.injEq,Prod.mk.injEq] at q;have:=hL.field hT (i:=i) (d:=x.1) hi (by rw [List.getElem?_map,hx];rfl);rw [q.1] at this;exact this
theorem str_trod {base:Nat} {spare:Nat→Bool} {held:Bool} {t:TypeId} (ht:P.underlying t=some .string) {n:Nat} {cs:List Value} {y:DataW H×List MemPlace} (h:DataW.trod enc P w base spare held n t cs=some y) (hL:Light P t y.1):∃ s:List UInt8,cs=[.string (bs s)]∧s.length≤reachBytes:=by
 obtain ⟨s,rfl,hy,_⟩:=DataW.trod_string ht h;obtain ⟨l,rfl⟩:=bs_ex s;rw [hy] at hL;have q:Light P t (DataW.lit (.string (bs l).data.toList):DataW H):=hL;have C:(bs l).data.toList.length≤reachBytes:=q _ (by unfold DataW.weights;exact List.mem_singleton_self _);exact ⟨l,rfl,by simpa [bs] using C⟩
theorem int_trod {base:Nat} {spare:Nat→Bool} {held:Bool} {t:TypeId} (ht:P.underlying t=some (.int .i64)) {n:Nat} {cs:List Value} {y:DataW H×List MemPlace} (h:DataW.trod enc P w base spare held n t cs=some y):∃ z:Int,(-9223372036854775808≤z∧z≤9223372036854775807)∧cs=[.int .i64 z]:=by
 obtain ⟨q,C,_,w0⟩:=DataW.trod_int ht h;refine ⟨q,?_,C⟩;simp only [Lit.wf,Bool.and_eq_true,decide_eq_true_eq] at w0;have D:IntKind.i64.min = -9223372036854775808:=rfl;have E:IntKind.i64.max=9223372036854775807:=rfl;rw [D,E] at w0;exact w0
theorem slr_part {t e:TypeId} (ht:P.underlying t=some (.slice e)) (r:Rp α) (hsz:P.cellsOf e=r.sz) (J:0 < r.sz) (OK:α→Prop) {n:Nat} {cs:List Value} {Y:DataW H×List MemPlace}
 (hel:∀ n cs y els sp,Y.1 = .slice els sp→y.1∈els→DataW.trod enc P w 0 (fun _=>true) true n e cs=some y→Light P e y.1→∃ x,OK x∧r.rd w (Old w) x cs)
 (h:DataW.trod enc P w 0 (fun _=>true) true n t cs=some Y) (hL:Light P t Y.1) :
 ∃ (A:Option Addr) (cap:Nat) (L:List α),cs=[.slice A L.length cap]∧SlR r w (Old w) A cap L∧(∀ x∈L,OK x)∧L.length * P.bytesOf e≤reachBytes:=by
 rcases open_slice ht h with ⟨rfl,_⟩|⟨a',len,cap,m,n,D,Pl,rfl,_,hlc,hcm,hm,hyy,hx⟩
 · exact ⟨none,0,[],rfl,SlR.nil _ _ _ _,by simp,by simp [reachBytes]⟩
 · simp only [if_true] at hm
   subst hm;rw [hyy] at hL;obtain ⟨hw,hel'⟩:=hL.slice ht;have key:∀ k,k≤len→∃ (L:List α) (xs:List Value),L.length=k∧(∀ x∈L,OK x)∧elems r w (Old w) L xs∧∀ j v,xs[j]? = some v→w.cell? (a'.add j)=some v:=by
    intro k
    induction k with
    | zero=>intro _;exact ⟨[],[],rfl,by simp,rfl,by simp⟩
    | succ k ih =>
     intro hk;obtain ⟨L,xs,hL,hok,he,hcell⟩:=ih (by omega);obtain ⟨cs',C,O⟩:=hx k (by omega);have hmem:D k∈(List.range len).map D:=List.mem_map.2 ⟨k,List.mem_range.2 (by omega),rfl⟩;obtain ⟨x,hxo,hrd⟩:=hel _ _ _ _ _ (by rw [hyy]) hmem O (hel' _ hmem);rw [hsz] at C;obtain ⟨_,hlen,hat⟩:=World.cells?_some C;refine ⟨L++[x],xs++cs',by simp [hL],?_,he.snoc hrd,?_⟩
     · intro y hy
       rcases List.mem_append.1 hy with hy | hy
       · exact hok y hy
       · obtain rfl:y=x:=by simpa using hy
         exact hxo
     · intro j v hj
       have hll:xs.length=k * r.sz:=by rw [he.len,hL]
       rcases Nat.lt_or_ge j (k * r.sz) with hlt | hge
       · rw [List.getElem?_append_left (by omega)] at hj
         exact hcell j v hj
       · rw [List.getElem?_append_right (by omega),hll] at hj
         have hjl:j - k * r.sz < r.sz:=by
          have:=(List.getElem?_eq_some_iff.1 hj).1;rw [r.len hrd] at this;exact this
         have:=hat (j - k * r.sz) hjl;rw [add_add,show k * r.sz+(j - k * r.sz)=j by omega] at this;rw [this,hj]
   obtain ⟨L,xs,hL,hok,he,hcell⟩:=key len (Nat.le_refl _);subst hL;have hw':L.length * P.bytesOf e≤reachBytes:=Nat.le_trans (Nat.mul_le_mul_right _ (by simp)) hw;refine ⟨some a',_,L,rfl,⟨hlc,hcm,xs,he,fun hpos=>?_⟩,hok,hw'⟩;have hll:xs.length=L.length * r.sz:=he.len;have hpos':0 < L.length * r.sz:=Nat.mul_pos hpos J;have q:=hcell 0 _ (List.getElem?_eq_getElem (by omega));have E:a'.add 0=a':=by simp [Addr.add]
   rw [E] at q;obtain ⟨V,X⟩:=cell_none q;obtain ⟨b,off,sp⟩:=a';subst V;refine ⟨b,off,rfl,X,fun j v hj=>?_⟩;have:=hcell j v hj
   rwa [Addr.add_lit] at this
end
end Go.Eng
namespace Go.Proofs.YtnhifhlbelogcaaDoor
open Go Go.Eng Go.ChangeShapes Go.WideShapes Go.ChangeAt Go.RowKit
section
variable {H:Type} {enc:TypeId×Value→H} {w:World}
theorem len5 {α:Type}:∀ {l:List α},l.length=5→∃ a b c d e,l=[a,b,c,d,e]
 | [a,b,c,d,e],_=>⟨a,b,c,d,e,rfl⟩
theorem k24:Tryd.prog.cellsOf 24=5:=by kernel_rfl
theorem b24:Tryd.prog.bytesOf 24=64:=by kernel_rfl
set_option maxRecDepth 100000 in
theorem tree_of_trod:∀ (N n:Nat) (cs:List Value) (y:DataW H×List MemPlace),SizeOf.sizeOf y.1 < N→DataW.trod enc Tryd.prog w 0 (fun _=>true) true n 24 cs=some y→Light Tryd.prog 24 y.1→∃ x:Tree,OkT x∧Tree.rp.rd w (Old w) x cs:=by
 intro N
 induction N with
 | zero=>intro n cs y h;omega
 | succ N ih =>
  intro n cs y hN h hL;obtain ⟨xs,n',_,hy,hl,hxl,hg⟩:=DataW.trod_struct Tryd.underlying24 h;rw [hy] at hL hN;have hL':Light Tryd.prog 24 (.agg (xs.map (·.1))):=hL;rw [k24] at hl;obtain ⟨c0,c1,c2,c3,c4,rfl⟩:=len5 hl;obtain ⟨E,J,y2,O,q,rfl⟩:=len5 hxl;have V:=fld hg 0 3 0 1 rfl (by kernel_rfl) rfl;have X:=fld hg 1 9 1 1 rfl (by kernel_rfl) rfl;have Y:=fld hg 2 3 2 1 rfl (by kernel_rfl) rfl;have aa:=fld hg 3 3 3 1 rfl (by kernel_rfl) rfl;have ab:=fld hg 4 22 4 1 rfl (by kernel_rfl) rfl;have l1:=fldL Tryd.underlying24 hL' 1 9 1 rfl rfl;have ad:=fldL Tryd.underlying24 hL' 4 22 4 rfl rfl;obtain ⟨ae,_,af⟩:=int_trod Tryd.underlying3 V;obtain ⟨s,e1,ag⟩:=str_trod Tryd.underlying9 X l1;obtain ⟨ah,C,ai⟩:=int_trod Tryd.underlying3 Y;obtain ⟨aj,_,ak⟩:=int_trod Tryd.underlying3 aa;obtain ⟨A,cap,L,al,hR,hok,hlen⟩:=slr_part Tryd.underlying22 Tree.rp k24 (by decide) OkT (fun n cs y els sp e hm ht hl=>ih n cs y (by
   have ag:=List.sizeOf_lt_of_mem hm;have C:SizeOf.sizeOf q.1=1+SizeOf.sizeOf els+SizeOf.sizeOf sp:=by rw [e];exact DataW.slice.sizeOf_spec els sp
   have D:SizeOf.sizeOf (DataW.agg [E.1,J.1,y2.1,O.1,q.1]) < N+1:=hN;rw [DataW.agg.sizeOf_spec] at D;simp only [List.cons.sizeOf_spec] at D
   omega) ht hl) ab ad
  cases af;cases e1;cases ai;cases ak;cases al
  rw [b24] at hlen;have hr:reachBytes=140737488351232:=rfl;exact ⟨⟨ae,s,ah,aj,L⟩,.mk (by omega) (by omega) C hok,Tree.rd_iff.2 ⟨A,cap,rfl,hR⟩⟩
set_option maxRecDepth 100000 in
theorem open_tree {q:Go.Reach} {C:Nat} {v:Value} {d:DataW H} {ps:List MemPlace} (hval:Value.okWide Tryd.prog w q C 24 v) (hd:DataW.Trod enc Tryd.prog w 0 (fun _=>true) true 24 v d ps) (hL:Light Tryd.prog 24 d) :
 ∃ (x:Tree) (A:Option Addr) (c:Nat),OkT x∧v = .agg #[.int .i64 x.Kind,.string (bs x.Name),.int .i64 x.Number,.int .i64 x.At,.slice A x.Kids.length c]∧SlR Tree.rp w (Old w) A c x.Kids:=by
 obtain ⟨cs,rfl,hsz⟩:=okWide_struct Tryd.underlying24 hval;obtain ⟨fuel,hf⟩:=hd;have hf':DataW.trod enc Tryd.prog w 0 (fun _=>true) true fuel 24 cs.toList=some (d,ps):=hf;obtain ⟨x,hok,hrd⟩:=tree_of_trod _ fuel cs.toList (d,ps) (Nat.lt_succ_self _) hf' hL;obtain ⟨A,c,e,hR⟩:=Tree.rd_iff.1 hrd;refine ⟨x,A,c,hok,?_,hR⟩
 congr 1
 rw [← e]
end
theorem own:ownKnob Tryd.prog.godebug=none:=by kernel_rfl
theorem laidOut:laidOutB Tryd.prog=true:=by kernel_rfl
theorem gAType:(Tryd.prog.globals[1]?).map (·.type)=some 89:=by kernel_rfl
theorem cells5:Tryd.prog.cellsOf 5=1:=by kernel_rfl
theorem cells89:Tryd.prog.cellsOf 89=256:=by kernel_rfl
theorem gPType:(Tryd.prog.globals[3]?).map (·.type)=some 119:=by kernel_rfl
theorem cells102:Tryd.prog.cellsOf 102=1:=by kernel_rfl
theorem cells119:Tryd.prog.cellsOf 119=20:=by kernel_rfl
theorem powData_eq:(Rows.laid_internal_strconv_uint64pow10:DataW Unit)=Lib.tabData .u64 Lib.pow10Tab:=by kernel_rfl
theorem tabData_eq:(Rows.laid_strings_asciiSpace:DataW Unit)=Lib.tabData .u8 Lib.asciiSpaceTab:=by kernel_rfl
theorem int_of_shape {P:Program} {w:World} {g:Nat} {t:TypeId} {zero:Array Value} (h:w.ShapedOpen P) (hg:g < P.globals.size)
 (C:((begin P (fun _ _=>0) default).world.heap[g]?).bind Obj.row? = some (zero,t)) (hz:zero.size=1)
 (hb:P.buildable t=true) (hc:P.cellTypes P.depth t=some [t]) (hu:P.underlying t=some (.int .i64)):∃ m,w.cell? ⟨g,0,none⟩=some (.int .i64 m):=by
 obtain ⟨cs,hh,hs,hr⟩:=h.1 g zero t hg C;obtain ⟨ts,hts,_,hall⟩:=hr hb;rw [hc] at hts;cases hts;have q:0 < cs.size:=by omega
 obtain ⟨u,hu',hok⟩:=hall 0 cs[0] (by simp [q]);have:u=t:=by simpa using hu'.symm
 subst this;have hcell:w.cell? ⟨g,0,none⟩=some cs[0]:=by simp [World.cell?,hh,q]
 rw [hcell];unfold Cell.ok at hok;rw [hu] at hok;cases hv:cs[0] <;> rw [hv] at hok <;> first | (simp at hok;done) | skip
 rename_i k m
 have hk:k = .i64:=by cases k <;> simp at hok <;> first | rfl | exact absurd hok (by simp)
 subst hk;exact ⟨m,rfl⟩
theorem max_cell {w:World} (h:w.ShapedOpen Tryd.prog):∃ m,w.cell? ⟨0,0,none⟩=some (.int .i64 m) :=
 int_of_shape (t:=3) (zero:=#[.int .i64 0]) h (of_decide_eq_true (by kernel_rfl)) (by kernel_rfl) rfl (by kernel_rfl) (by kernel_rfl) Tryd.underlying3
def FGl:Nat→Prop:=fun b=>b=1∨b=0∨b=3
theorem globs {W:World} (hL:laidMet Tryd.prog Rows.syntaxBackRow.laid W) (hsh:W.ShapedOpen Tryd.prog):Glob FGl W∧∀ b,FGl b→Go.Eng.NK W [] b:=by
 have J : Lib.TabIs Tryd.prog W "strings.asciiSpace" .u8 Lib.asciiSpaceTab := by
  obtain ⟨g,t,cs,fuel,p,E,q,C,D⟩:=Lib.laidMet.reads hL (.tail _ (.tail _ (.tail _ (.tail _ (.head _)))));obtain rfl:=Option.some.inj (gA.symm.trans E);obtain rfl:=Option.some.inj (gAType.symm.trans q);rw [tabData_eq] at D;unfold Lib.TabIs;rw [C,← Lib.cells_of_tab Tryd.underlying89 Tryd.underlying5 cells5 cells89 D]
 have C : Lib.TabIs Tryd.prog W "internal/strconv.uint64pow10" .u64 Lib.pow10Tab := by
  obtain ⟨g,t,cs,fuel,p,E,q,C,D⟩:=Lib.laidMet.reads hL (.tail _ (.tail _ (.head _)));obtain rfl:=Option.some.inj (gP.symm.trans E);obtain rfl:=Option.some.inj (gPType.symm.trans q);rw [powData_eq] at D;unfold Lib.TabIs;rw [C,← Lib.cells_of_tab Tryd.underlying119 Tryd.underlying102 cells102 cells119 D]
 have q:∃ m,W.cell? ⟨0,0,none⟩=some (.int .i64 m):=max_cell hsh;refine ⟨⟨.inl rfl,.inr (.inl rfl),.inr (.inr rfl),q,J,C⟩,?_⟩;have c0:=J.cell gA 0 (by rw [Lib.asciiSpaceTab_length];decide);have c3:=C.cell gP 0 (by rw [Lib.pow10Tab_length];decide);have lt:∀ {b o:Nat} {v:Value},W.cell? ⟨b,o,none⟩=some v→b < W.heap.size:=by
  intro b o v h;rcases Nat.lt_or_ge b W.heap.size with hl | hl
  · exact hl
  · unfold World.cell? at h
    simp [Array.getElem?_eq_none hl] at h
 obtain ⟨m,hm⟩:=q;rintro b (rfl | rfl | rfl)
 · exact ⟨by simp [keys],lt c0⟩
 · exact ⟨by simp [keys],lt hm⟩
 · exact ⟨by simp [keys],lt c3⟩
noncomputable def laidWorld (os:Os):World :=
 let N:=(World.settled Tryd.prog os).heap.size
 let w0:=World.holding Tryd.prog os ⟨#[
  .cells #[.int .u16 9,.int .u16 13,.int .u16 1,.int .u16 32,.int .u16 133,.int .u16 101,.int .u16 160,.int .u16 5760,.int .u16 5600,.int .u16 8192,.int .u16 8202,.int .u16 1,.int .u16 8232,.int .u16 8233,.int .u16 1,.int .u16 8239,.int .u16 8287,.int .u16 48,.int .u16 12288,.int .u16 12288,.int .u16 1] 113,
  .cells #[.slice (some ⟨N,0,none⟩) 7 7,.slice none 0 0,.int .i64 2] 110],#[],[]⟩
 let put (h:Array Obj) (g:Nat) (cs:Array Value):Array Obj:=h.modify g fun
  | .cells _ t frozen=>.cells cs t frozen
  | o=>o
 let q:=put w0.heap 1 (Lib.asciiSpaceTab.map fun z=>Value.int .u8 z).toArray
 let C:=put q 2 #[.pointer (some ⟨N+1,0,none⟩)]
 let D:=put C 3 #[.int .u64 1,.int .u64 10,.int .u64 100,.int .u64 1000,.int .u64 10000,.int .u64 100000,.int .u64 1000000,.int .u64 10000000,.int .u64 100000000,.int .u64 1000000000,.int .u64 10000000000,.int .u64 100000000000,.int .u64 1000000000000,.int .u64 10000000000000,.int .u64 100000000000000,.int .u64 1000000000000000,.int .u64 10000000000000000,.int .u64 100000000000000000,.int .u64 1000000000000000000,.int .u64 10000000000000000000]
 let E:=put D 4 #[.int .u8 0,.int .u8 1,.int .u8 28,.int .u8 2,.int .u8 29,.int .u8 14,.int .u8 24,.int .u8 3,.int .u8 30,.int .u8 22,.int .u8 20,.int .u8 15,.int .u8 25,.int .u8 17,.int .u8 4,.int .u8 8,.int .u8 31,.int .u8 27,.int .u8 13,.int .u8 23,.int .u8 21,.int .u8 19,.int .u8 16,.int .u8 7,.int .u8 26,.int .u8 12,.int .u8 18,.int .u8 6,.int .u8 11,.int .u8 5,.int .u8 10,.int .u8 9]
 let J:=put E 5 #[.int .u8 0,.int .u8 1,.int .u8 56,.int .u8 2,.int .u8 57,.int .u8 49,.int .u8 28,.int .u8 3,.int .u8 61,.int .u8 58,.int .u8 42,.int .u8 50,.int .u8 38,.int .u8 29,.int .u8 17,.int .u8 4,.int .u8 62,.int .u8 47,.int .u8 59,.int .u8 36,.int .u8 45,.int .u8 43,.int .u8 51,.int .u8 22,.int .u8 53,.int .u8 39,.int .u8 33,.int .u8 30,.int .u8 24,.int .u8 18,.int .u8 12,.int .u8 5,.int .u8 63,.int .u8 55,.int .u8 48,.int .u8 27,.int .u8 60,.int .u8 41,.int .u8 37,.int .u8 16,.int .u8 46,.int .u8 35,.int .u8 44,.int .u8 21,.int .u8 52,.int .u8 32,.int .u8 23,.int .u8 11,.int .u8 54,.int .u8 26,.int .u8 40,.int .u8 15,.int .u8 34,.int .u8 20,.int .u8 31,.int .u8 10,.int .u8 25,.int .u8 14,.int .u8 19,.int .u8 9,.int .u8 13,.int .u8 8,.int .u8 7,.int .u8 6]
 { w0 with heap:=J }
end Go.Proofs.YtnhifhlbelogcaaDoor
