/- Appending a text onto a list of bytes. -/
import Derived.Test.YtnhifhlbelogcaaDoorYAb
import Derived.Test.YtnhifhlbelogcaaDoorYPK
set_option linter.unusedVariables false
set_option linter.unusedSimpArgs false
set_option maxRecDepth 100000
set_option maxHeartbeats 1000000
namespace Go.Eng
open Go
section
variable {P:Program} {w w0:World} {K:Nat→Prop} {Gs:List Grp}
theorem run_append_str {t e ty u:TypeId} {sz bytes:Nat} (hT:Elt P t e sz bytes) {A:Option Addr} {n cap m:Nat} {xs news:List Value} {G:Grp} {s:ByteArray} (q:P.underlying u=some .string) (hm:s.size=m)
    (h:RowG e sz (.slice A n cap) n xs G) (hG:∀ b o,(b,o)∈G→w.heap[b]? = some o) (hl:news.length=m * sz) (hfs:∀ w,(Builtin.firstCells sz m (.string s)).run P w = .ok news.toArray w) (O:∀ u∈news,u.oneCell'=true)
    (C:n+m≤maxLen) (hbytes:(n+m) * bytes≤140737488355328) :
    ∃ A' cap' G' w1,(Builtin.append_ #[t,u] ty #[.slice A n cap,.string s]).run P w = .ok (.slice A' (n+m) cap') w1∧RowG e sz (.slice A' (n+m) cap') (n+m) (xs++news) G' ∧
      (∀ b o,(b,o)∈G'→w1.heap[b]? = some o)∧(keys G').Nodup∧(∀ b,b∈keys G'→b∈keys G∨w.heap.size≤b) ∧
      (∀ b,b < w.heap.size→b ∉ keys G→w1.heap[b]? = w.heap[b]?)∧w.heap.size≤w1.heap.size∧Same w w1:=by
  obtain ⟨hu,i,z,hi,hz,hsz,hby,hzs⟩:=hT;have hrd:=(h.rd hG).2;have hlen:(xs++news).length=(n+m) * sz:=by rw [List.length_append,h.1,hl,Nat.add_mul]
  have hsmall:n+m≤9223372036854775807:=by simp only [maxLen] at C;omega
  by_cases hroom:n+m≤cap
  · -- in place
    obtain ⟨hxl,V⟩:=h;rcases V with ⟨A',hv,rfl,rfl⟩|⟨b,off,cap',cur,hv,hpos,rfl,hnc,hcm,hfit,ht⟩
    · cases hv
      have J:m=0:=by omega
      subst J;have hx:xs=[]:=hrd.empty;have hn:news=[]:=List.eq_nil_of_length_eq_zero (by rw [hl];simp);subst hx hn;have hf:=hfs w;refine ⟨A,0,[],w,?_,⟨by simp,.inl ⟨A,rfl,rfl,rfl⟩⟩,by simp,by simp [keys],by simp [keys],fun _ _ _=>rfl,Nat.le_refl _,Same.refl _⟩;cases A <;> simp [Builtin.append_,run_underlying hu,run_underlying q,hm,sizeOf,typeInfo,hi,hsz,Builtin.lenOf,hf,storeCells]
    · cases hv
      have hb:=hG b _ (List.mem_singleton.2 rfl);have hf:=hfs w;have hle:off+n * sz+news.length≤cur.size:=by
        rw [hl,Nat.add_assoc,← Nat.add_mul];exact Nat.le_trans (Nat.add_le_add_left (Nat.mul_le_mul_right _ hroom) _) hfit
      have hst:=run_storeCells_at P b (off+n * sz) e news 0 cur w hb (by simpa using hle) O;simp only [Nat.add_zero] at hst;refine ⟨some ⟨b,off,none⟩,cap,[(b,.cells (over cur (off+n * sz) news) e (0,0))],w.setRow b (over cur (off+n * sz) news),?_,?_,?_,by simp [keys],fun b' hb'=>.inl (by simpa [keys] using hb'),?_,by simp,same_setRow _ _ _⟩
      · simp [Builtin.append_,run_underlying hu,run_underlying q,hm,sizeOf,typeInfo,hi,hsz,Builtin.lenOf,hroom,hf,Addr.add_lit,hst,over]
      · refine ⟨hlen,.inr ⟨b,off,cap,_,rfl,hpos,rfl,hroom,hcm,?_,?_⟩⟩
        · have:(over cur (off+n * sz) news).size=cur.size:=by
            simp [over];omega
          rw [this];exact hfit
        · have hnl:n * sz=xs.length:=hxl.symm
          have hcl:off+n * sz≤cur.toList.length:=by simp;omega
          simp only [over,List.append_assoc];rw [List.drop_append_of_le_length (by simp;omega),List.drop_take,show off+n * sz - off=n * sz by omega,ht,← hlen,← List.append_assoc];exact List.take_left
      · intro b' o hb'
        simp only [List.mem_singleton,Prod.mk.injEq] at hb';obtain ⟨rfl,rfl⟩:=hb';exact setRow_heap w b' cur _ e (0,0) hb
      · intro b' _ hn
        exact setRow_other w b b' _ (fun he=>hn (by simp [keys,he]))
  · have hg:cap < n+m:=by omega
    have hfo:=run_firstRd (P:=P) (w:=w.drew) (c:=cap) (hrd.ext (Ext.drew w));have hfn:=hfs w.drew;have hge:=grownCap_ge w (n+m) cap e;have hcm:=grownCap_le_maxLen w (n+m) cap e C;have X:Builtin.nextslicecap (n+m) cap * bytes≤281474976710656:=growslice_fits hg hbytes;have hn:¬ (n+m≤cap):=by omega
    have D:¬ (9223372036854775807 < ((n:Int)+(m:Int))):=by omega
    have E:¬ (281474976710656 < Builtin.nextslicecap (n+m) cap * bytes):=by omega
    refine ⟨some ⟨w.heap.size,0,none⟩,grownCap w (n+m) cap e,[(w.heap.size,.cells (xs.toArray++news.toArray++Builtin.zeroCells z.cells (grownCap w (n+m) cap e - (n+m))) e (0,0))],
      w.drew.alloc (.cells (xs.toArray++news.toArray++Builtin.zeroCells z.cells (grownCap w (n+m) cap e - (n+m))) e),?_,?_,?_,by simp [keys],fun b hb=>.inr (by simp [keys] at hb;omega),?_,by simp,⟨rfl,rfl,rfl⟩⟩
    · simp [Builtin.append_,run_underlying hu,run_underlying q,hm,sizeOf,typeInfo,zeroValue,hi,hz,hsz,hby,Builtin.lenOf,hn,D,E,Question.forced,hfo,hfn,newRow,grownCap]
      simp only [← List.append_toArray,Array.append_assoc]
    · refine ⟨hlen,.inr ⟨w.heap.size,0,_,_,rfl,by omega,rfl,hge,hcm,?_,?_⟩⟩
      · simp only [Array.size_append,List.size_toArray,size_zeroCells,hzs,h.1,hl,← Nat.add_mul]
        rw [show n+m+(grownCap w (n+m) cap e - (n+m))=grownCap w (n+m) cap e by omega]
        omega
      · simp only [List.drop_zero,Array.toList_append,List.append_assoc]
        rw [← List.append_assoc,← hlen];exact List.take_left
    · intro b o hb
      simp only [List.mem_singleton,Prod.mk.injEq] at hb;obtain ⟨rfl,rfl⟩:=hb;exact heap_alloc_new w.drew _
    · intro b hb _
      exact (Ext.alloc w.drew _).2 b hb
theorem elemsO_u8:∀ s:List UInt8,elemsO Rp.u8 s (s.map fun c=>Value.int .u8 (c.toNat:Int)) []
  | []=>⟨rfl,rfl⟩
  | c::s=>⟨[.int .u8 (c.toNat:Int)],s.map fun c=>Value.int .u8 (c.toNat:Int),[],[],rfl,rfl,⟨rfl,rfl⟩,elemsO_u8 s⟩
theorem firstCells_bs (s:List UInt8) (w:World):(Builtin.firstCells 1 s.length (.string (bs s))).run P w = .ok (s.map fun c=>Value.int .u8 (c.toNat:Int)).toArray w:=by
  have hx:((bs s).extract 0 s.length)=bs s:=by
    have:(bs s).size=s.length:=bs_size s;rw [← this];exact ByteArray.extract_zero_size
  have q:Builtin.firstCells 1 s.length (.string (bs s))=pure (((bs s).extract 0 s.length).data.map fun b=>Value.int .u8 b.toNat):=rfl;rw [q,hx]
  simp [bs]
theorem St.appS {G:Grp} (S:St w0 K w (G::Gs)) {t e u:TypeId} {bytes n:Nat} (hT:Elt P t e 1 bytes) (C:P.underlying u=some .string) (hb:(Nat.ble (n * bytes) 140737488355328 && Nat.ble n 140737488355328)=true) {A:Option Addr} {c:Nat} {L s LM:List UInt8}
    (h:SlO e Rp.u8 (.slice A L.length c) L G) (hc:catN n L s=some LM) :
    ∃ A' c' G' w1,(∀ {N:FN} {l:Fr} {x y:Operand} {dst:Option Tmp} {ty:TypeId} {pos:String} {aft:Array Edge} {g:Option (Nat×Bool)},ev l x=some (.slice A L.length c)→ev l y=some (.string (bs s)) →
        GE P N l w ⟨dst,.call { callee:=.builtin .append,args:=#[x,y],argTypes:=#[t,u] },ty,pos,aft,g⟩ (.slice A' LM.length c') w1) ∧
      SlO e Rp.u8 (.slice A' LM.length c') LM G'∧St w0 K w1 (G'::Gs):=by
  obtain ⟨xs,D,q,E,J,rfl⟩:=h;obtain ⟨hle,rfl⟩:=cat_spec hc;have hb':n * bytes≤140737488355328∧n≤140737488355328:=by simpa [Nat.ble_eq] using hb
  have hbytes:(L.length+s.length) * bytes≤140737488355328:=Nat.le_trans (Nat.mul_le_mul_right _ hle) hb'.1;have hM:=elemsO_u8 s;have key:=fun ty=>run_append_str (P:=P) (w:=w) (ty:=ty) (news:=s.map fun c=>Value.int .u8 (c.toNat:Int)) hT C (bs_size s) E (fun b o hb=>S.grp 0 rfl (List.mem_append_left _ hb)) (by simp) (firstCells_bs s) hM.one (by simp only [maxLen];omega) hbytes
  obtain ⟨A',c',G',w1,hrun,hrow,k2,O,V,X,Y,aa⟩:=key 0;have ab:St w0 K w (D::q::Gs):=S.split;have ad:St w0 K w1 (G'::q::Gs):=ab.updAt 0 rfl k2 O V X Y aa;have hl:(L++s).length=L.length+s.length:=List.length_append;refine ⟨A',c',G'++q,w1,fun hx hy a ha=>?_,⟨xs++s.map fun c=>Value.int .u8 (c.toNat:Int),G',q,by rw [hl];exact hrow,by have:=J.append hM;simpa using this,rfl⟩,ad.join⟩;unfold execOp;simp only [resolve,invoke,builtin,List.map_toArray,List.map_cons,List.map_nil,ha.ev hx,ha.ev hy,hl];have hrun':∀ ty,(Builtin.append_ #[t,u] ty #[.slice A L.length c,.string (bs s)]).run P w = .ok (.slice A' (L.length+s.length) c') w1:=fun ty=>by
    rw [show (Builtin.append_ #[t,u] ty #[.slice A L.length c,.string (bs s)])=Builtin.append_ #[t,u] 0 #[.slice A L.length c,.string (bs s)] from rfl];exact hrun
  simp [hrun']
end
end Go.Eng
