/- The library's functions that the scanner calls, as plain functions with their contracts; the package-level variables that they read. -/
import Derived.Test.YtnhifhlbelogcaaGreatDoorYPtrs
import Derived.Test.YtnhifhlbelogcaaGreatDoorYPA
import Derived.Test.YtnhifhlbelogcaaGreatDoorYShelf
import Derived.Lib.LaidTab
set_option linter.unusedVariables false
namespace Go.Proofs.YtnhifhlbelogcaaGreatDoor
open Go Go.Eng
theorem gP : Tryz.prog.globalNamed "internal/strconv.uint64pow10" = some 3 := by kernel_rfl
theorem gA : Tryz.prog.globalNamed "strings.asciiSpace" = some 1 := by kernel_rfl
structure Glob (F:Nat→Prop) (w:World):Prop where
 f0:F 1
 f2:F 0
 f3:F 3
 max:∃ m,w.cell? ⟨0,0,none⟩=some (.int .i64 m)
 tab : Lib.TabIs Tryz.prog w "strings.asciiSpace" .u8 Lib.asciiSpaceTab
 pow : Lib.TabIs Tryz.prog w "internal/strconv.uint64pow10" .u64 Lib.pow10Tab
theorem Glob.ext {F:Nat→Prop} {w w':World} (h:Glob F w) (hE:∀ b,F b→w'.heap[b]? = w.heap[b]?):Glob F w':=by
 obtain ⟨q,C,D,⟨m,hm⟩,ht,hp⟩:=h;refine ⟨q,C,D,⟨m,?_⟩,?_,?_⟩
 · unfold World.cell? at hm ⊢
   simp only [hE 0 C] at hm ⊢;exact hm
 · unfold Lib.TabIs World.var? at ht ⊢
   rw [gA] at ht ⊢;simp only [Option.bind_some,hE 1 q] at ht ⊢;exact ht
 · unfold Lib.TabIs World.var? at hp ⊢
   rw [gP] at hp ⊢;simp only [Option.bind_some,hE 3 D] at hp ⊢;exact hp
theorem bs_toList (s:By):(bs s).data.toList=s:=by simp [bs]
theorem st_same (w:World):St w (KS []) w []:=St.ofFalse (St.init0 w)
def gv_IndexByte (k:Nat) (s:By) (c:Int):Option Int:=some (Lib.indexByte s c.toNat.toUInt8)
theorem gv_IndexByte_calls (k:Nat) (q:By) (C:Int) {w:World} {r_:Int} (h_:gv_IndexByte k q C=some r_) :
 Calls Tryz.prog 95 [.string (bs q),.int .u8 C].toArray w fun e w'=>e = .returned (.int .i64 r_)∧St w (KS []) w' []:=by
 obtain rfl:=some_eq h_;refine (Tryz.strings_IndexByte (bs q) C w).mono ?_;rintro e w' ⟨rfl,rfl⟩;rw [bs_toList];exact ⟨rfl,st_same _⟩
def gv_Index (k:Nat) (s sub:By):Option Int:=if s.length < 4294967281 then some (Lib.index s sub) else none
theorem gv_Index_calls (k:Nat) (q C:By) {w:World} {FG:Nat→Prop} (hGl:Glob FG w) (hFG:∀ b,FG b→NK w [] b) {r_:Int} (h_:gv_Index k q C=some r_) :
 Calls Tryz.prog 52 [.string (bs q),.string (bs C)].toArray w fun e w'=>e = .returned (.int .i64 r_)∧St w (KS []) w' []:=by
 unfold gv_Index at h_;obtain ⟨hl,h_⟩:=guard_some h_;obtain rfl:=some_eq h_;obtain ⟨m,hm⟩:=hGl.max;refine (Tryz.strings_Index (bs q) (bs C) m w (by rw [bs_size];exact hl) hm).mono ?_;rintro e w' ⟨rfl,rfl⟩;rw [bs_toList,bs_toList];exact ⟨rfl,st_same _⟩
def gv_Fields (k:Nat) (s:By):Option (List By):=if s.length < 4294967281∧(s.all fun b=>decide (b.toNat < 128))=true then some (Lib.fields s) else none
theorem elemsO_str:∀ L:List By,elemsO Rp.str L (L.map fun s=>Value.string (bs s)) []
 | []=>⟨rfl,rfl⟩
 | s::L=>⟨[.string (bs s)],_,[],[],rfl,rfl,⟨rfl,rfl⟩,elemsO_str L⟩
theorem gv_Fields_calls (k:Nat) (q:By) {w:World} {FG:Nat→Prop} (hGl:Glob FG w) (hFG:∀ b,FG b→NK w [] b) {r_:List By} (h_:gv_Fields k q=some r_) :
 Calls Tryz.prog 98 [.string (bs q)].toArray w fun e w'=>∃ C:OA,∃ D:Nat,∃ E:Grp,e = .returned (.slice C r_.length D)∧SlO 9 Rp.str (.slice C r_.length D) r_ E∧St w (KS []) w' [E]:=by
 unfold gv_Fields at h_;obtain ⟨⟨hl,ha⟩,h_⟩:=guard_some h_;obtain rfl:=some_eq h_;refine (Tryz.strings_Fields_laid (bs q) w (by rw [bs_size];exact hl) ?_ hGl.tab).mono ?_
 · intro j b hb
   rw [bs_toList] at hb;have:=List.all_eq_true.1 ha b (List.mem_of_getElem? hb)
   simpa using this
 rintro e w' ⟨rfl,rfl⟩;rw [bs_toList];have hS:=(St.ofFalse (As:=[]) (St.init0 w)).alloc (.cells ((Lib.fields q).map fun l=>Value.string ⟨l.toArray⟩).toArray 9);have hlen:(Lib.fields q).length≤q.length:=by
  have O:=Lib.fieldsGo_length q [];have V:∀ (b:Bool) (l:By),Lib.cntF b l≤l.length:=by
   intro b l
   induction l generalizing b with
   | nil=>simp [Lib.cntF]
   | cons c l ih=>unfold Lib.cntF;have:=ih (Lib.isSp c);simp only [List.length_cons];split <;> omega
  have X:=V true q;unfold Lib.fields;rw [O]
  simpa using X
 rcases Nat.eq_zero_or_pos (Lib.fields q).length with J | J
 · have Y:Lib.fields q=[]:=List.eq_nil_of_length_eq_zero J
   rw [Y] at hS ⊢;exact ⟨_,_,_,rfl,SlO.zero 9 Rp.str _,St.emp (St.drop hS)⟩
 · refine ⟨_,_,_,rfl,⟨_,_,[],⟨?_,?_⟩,elemsO_str _,(List.append_nil _).symm⟩,hS⟩
   · simp [Rp.str,Rp.plain]
   · refine .inr ⟨w.heap.size,0,_,_,rfl,J,rfl,Nat.le_refl _,by simp only [maxLen];omega,?_,?_⟩
     · simp [Rp.str,Rp.plain]
     · simp [Rp.str,Rp.plain,bs]
       exact List.take_of_length_le (by simp)
def gv_Itoa (k:Nat) (n:Int):Option By:=if -9223372036854775808≤n∧n≤9223372036854775807 then some (Lib.itoa n) else none
theorem st_grow (w:World) (k:Nat) (os:Array Obj):St w (KS []) (Go.Sort.grow (w.drewN k) os) []:=by
 refine ⟨Hp.nil _,fun _ hk=>by simp [keys] at hk,fun b hb _=>?_,?_,⟨rfl,rfl,rfl⟩⟩
 · show (w.heap++os)[b]? = _
   rw [Array.getElem?_append_left hb]
 · show w.heap.size≤(w.heap++os).size
   rw [Array.size_append];omega
theorem gv_Itoa_calls (k:Nat) (q:Int) {w:World} {FG:Nat→Prop} (hGl:Glob FG w) (hFG:∀ b,FG b→NK w [] b) {r_:By} (h_:gv_Itoa k q=some r_) :
 Calls Tryz.prog 102 [.int .i64 q].toArray w fun e w'=>e = .returned (.string (bs r_))∧St w (KS []) w' []:=by
 unfold gv_Itoa at h_;obtain ⟨⟨C,D⟩,h_⟩:=guard_some h_;obtain rfl:=some_eq h_;refine (Tryz.strconv_Itoa q C D w hGl.pow).mono ?_;rintro e w' ⟨rfl,n,os,rfl⟩;exact ⟨rfl,st_grow w n os⟩
end Go.Proofs.YtnhifhlbelogcaaGreatDoor
