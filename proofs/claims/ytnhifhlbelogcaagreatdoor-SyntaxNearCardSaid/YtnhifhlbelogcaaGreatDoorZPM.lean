/- Functions and their walks (printed by auto.py over the engine). -/
import Derived.Test.YtnhifhlbelogcaaGreatDoorZAb
import Derived.Test.YtnhifhlbelogcaaGreatDoorProg
import Derived.Test.YtnhifhlbelogcaaGreatDoorZPL
set_option maxRecDepth 100000
set_option maxHeartbeats 1000000
namespace Go.Proofs.YtnhifhlbelogcaaGreatDoor
open Go Go.Eng
set_option linter.unusedSimpArgs false
set_option linter.unusedVariables false

theorem T.call101 : Callable TP 101 := Callable.mk Tryz.func101 (by kernel_rfl) (by kernel_rfl)
theorem T.call102 : Callable TP 102 := Callable.mk Tryz.func102 (by kernel_rfl) (by kernel_rfl)
theorem T.call103 : Callable TP 103 := Callable.mk Tryz.func103 (by kernel_rfl) (by kernel_rfl)
theorem T.call32 : Callable TP 32 := Callable.mk Tryz.func32 (by kernel_rfl) (by kernel_rfl)
theorem T.call56 : Callable TP 56 := Callable.mk Tryz.func56 (by kernel_rfl) (by kernel_rfl)
theorem T.call57 : Callable TP 57 := Callable.mk Tryz.func57 (by kernel_rfl) (by kernel_rfl)
theorem T.call60 : Callable TP 60 := Callable.mk Tryz.func60 (by kernel_rfl) (by kernel_rfl)
theorem T.call63 : Callable TP 63 := Callable.mk Tryz.func63 (by kernel_rfl) (by kernel_rfl)
theorem T.elt64 : Elt TP 64 5 1 1 := elt_mk (z := .int .u8 0) Tryz.underlying64 (by kernel_rfl) rfl
theorem T.fld66_0 : fldOff TP 66 0 = some 0 := by kernel_rfl
theorem T.one64 : isOneT TP 64 = true := by kernel_rfl
theorem T.size64_1 : sizeT TP 64 = some 1 := by kernel_rfl
structure WriK where
  out : List UInt8
  deriving DecidableEq
def WriK.rp : Rp WriK where
  sz := 1
  rd := fun w F x cs => ∃ A1 : Option Addr, ∃ c1 : Nat, cs = [.slice A1 (x.out).length c1] ∧ SlR Rp.u8 w F A1 c1 (x.out)
  own := fun x cs G => ∃ A1 : Option Addr, ∃ c1 : Nat, ∃ G1 : Grp, cs = [.slice A1 (x.out).length c1] ∧ SlO 5 Rp.u8 (.slice A1 (x.out).length c1) (x.out) G1 ∧ G = G1
  len := by rintro _ _ _ _ ⟨_, _, rfl, _⟩; rfl
  one := by rintro _ _ _ _ ⟨_, _, rfl, _⟩; exact one_of_all rfl
  lenO := by rintro _ _ _ ⟨_, _, _, rfl, _⟩; rfl
  oneO := by rintro _ _ _ ⟨_, _, _, rfl, _⟩; exact one_of_all rfl
  ext := by rintro _ _ _ _ _ ⟨A1, c1, rfl, h1⟩ hE; exact ⟨A1, c1, rfl, h1.ext hE⟩
  mono := by rintro _ _ _ _ _ ⟨A1, c1, rfl, h1⟩ hF; exact ⟨A1, c1, rfl, h1.mono hF⟩
  low := by
    rintro w x cs G ⟨A1, c1, G1, rfl, h1, hGe⟩ hG;exact ⟨A1, c1, rfl, (h1.rd (fun b o hb => hG b o (by rw [hGe]; simp [hb]))).mono (fun b (hb : b ∈ keys G1) => show b ∈ keys G by rw [hGe]; simp [keys_append, hb])⟩


mutual
def ps_put.j1 : Nat → List (List UInt8) → Int → List UInt8 → WriK → Option WriK
  | 0, _, _, _, _ => none
  | k122 + 1, a1, x4, x11, a27 => (Option.bind (catN 68719476736 a27.out x11) fun l133 => (ps_put.l1 k122 a1 (⟨l133⟩ : WriK) (w64 (x4 + 1))))
def ps_put.j2 : Nat → List (List UInt8) → WriK → Int → List UInt8 → Bool → Option WriK
  | 0, _, _, _, _, _ => none
  | k86 + 1, a1, a3, x4, x11, b44 => (if b44 = true then (Option.bind (cat a3.out ([(32 : UInt8)] : List UInt8)) fun l104 => (ps_put.j1 k86 a1 x4 x11 (⟨l104⟩ : WriK))) else (ps_put.j1 k86 a1 x4 x11 a3))
def ps_put.l1 : Nat → List (List UInt8) → WriK → Int → Option WriK
  | 0, _, _, _ => none
  | k7 + 1, a1, a3, x4 => (if x4 < (a1.length : Int) then (Option.bind (idx a1 x4) fun x11 => (if 0 < (a3.out.length : Int) then (if x11 = [] then (ps_put.j2 k7 a1 a3 x4 x11 false) else (Option.bind (idx a3.out (w64 ((a3.out.length : Int) - 1))) fun x53 => (Option.bind (ps_inRun k7 ((x53).toNat : Int)) fun t67 => (if t67 = true then (Option.bind (idx x11 0) fun c73 => (Option.bind (ps_inRun k7 ((c73).toNat : Int)) fun t75 => (ps_put.j2 k7 a1 a3 x4 x11 t75))) else (ps_put.j2 k7 a1 a3 x4 x11 false))))) else (ps_put.j2 k7 a1 a3 x4 x11 false))) else (some a3))
end
def ps_put (k : Nat) (a0 : WriK) (a1 : List (List UInt8)) : Option WriK := (ps_put.l1 k a1 a0 0)
theorem ps_put_calls (k : Nat) (a0 : WriK) {p0 : Nat} {G0 : Grp} (a1 : List (List UInt8)) {A1 : Option Addr} {c1 : Nat} {F1 : Nat → Prop} {w : World} (hO0 : ObjO 66 WriK.rp p0 a0 G0) (hR1 : SlR Rp.str w F1 A1 c1 a1) (hF1 : ∀ b, F1 b → NK w [G0] b) {r_ : WriK} (h_ : ps_put k a0 a1 = some r_) (hp_ : Hp w ([G0]).flatten) :
    Calls TP 57 [(Pt p0), .slice A1 a1.length c1].toArray w fun e w' => ∃ Go0' : Grp, e = .returned (.tuple #[]) ∧ ObjO 66 WriK.rp p0 (r_) Go0' ∧ St w (KS [G0]) w' [Go0'] := by
 have hF := h_;clear h_;unfold ps_put at hF;have S := St.initK [G0] hp_;refine enter 59 [(0, (Pt p0)), (1, .slice A1 a1.length c1)] Tryz.func57 rfl rfl rfl rfl ?_;refine wq (wr (mv rfl (wp (G.len T.el25 rfl) rfl (mv rfl (wn (we ?_))))));refine WCode.block ?_;refine wg (l' := [(0, (Pt p0)), (7, .slice A1 a1.length c1), (8, I (a1.length : Int)), (9, I 0)]) ⟨rfl, rfl, rfl, rfl, trivial⟩ ?_;refine wl (fun n_ l_ w_ => ∃ a3 : WriK, ∃ G1 : Grp, ∃ x4 : Int, l_ = [(0, (Pt p0)), (7, .slice A1 a1.length c1), (8, I (a1.length : Int)), (9, I x4)] ∧ ps_put.l1 n_ a1 a3 x4 = some r_ ∧ (ObjO 66 WriK.rp p0 a3 G1) ∧ St w (KS [G0]) w_ [G1]) k ⟨a0, G0, 0, rfl, hF, hO0, S⟩ ?_;rintro n8 _ w5 ⟨a3, G1, x4, rfl, hF, hO2, S6⟩;obtain _ | k7 := n8
 · exact nomatch (show (none : Option WriK) = some r_ from hF)
 rw [ps_put.l1] at hF;refine wq (wr (wp (G.lss rfl rfl rfl) rfl (wn (we (wq ?_)))));rcases io hF with ⟨h10, hF⟩ | ⟨h10, hF⟩
 ·
  refine ct rfl (dt h10) (wsk (we (wq ?_)));refine WCode.block ?_;refine wq (wr ?_);obtain ⟨x11, hc12, hF⟩ := bo hF;obtain ⟨j13, ej14, hj15, hl16⟩ := idx_spec hc12;obtain ⟨b17, o18, cs19, eA20, hf21, hc22, hr23⟩ := sat (hR1.ext (S6.keepF hF1)) hj15;have hq24 : cs19 = [.string (bs x11)] := hr23;subst hq24;change cellsAt _ _ (o18 + j13 * 1) [.string (bs x11)] at hc22;refine wp (G.idx T.el25 rfl eA20 rfl ej14 hl16) rfl ?_;refine wrr (G.load1 T.one9 rfl (cellsAt.at0 hc22)) rfl ?_;refine av rfl (wn (we ?_));refine wqs (fun l_ w_ => ∃ q30 : Nat, ∃ a27 : WriK, ∃ G25 : Grp, l_ = [(0, (Pt p0)), (5, .string (bs x11)), (7, .slice A1 a1.length c1), (8, I (a1.length : Int)), (9, I x4)] ∧ ps_put.j1 q30 a1 x4 x11 a27 = some r_ ∧ q30 ≤ k7 ∧ (ObjO 66 WriK.rp p0 a27 G25) ∧ St w (KS [G0]) w_ [G25]) ?_ ?_
  ·
   refine wq ?_;obtain ⟨cs32, G33, ho34, hg35⟩ := hO2;obtain ⟨A36, c37, G38, rfl, hO39, hq40⟩ := ho34;have S41 : St _ _ _ [(B p0 #[.slice A36 a3.out.length c37] 66), G38] := S6.objs (by rw [hg35, hq40]; simp [Value.cells]);refine wr (mv rfl (wp (G.nilp rfl) rfl (wp (G.field T.fld66_0 rfl (show 0 + 0 = 0 from rfl)) rfl ?_)));refine wrr (G.load1 T.one64 rfl (cell_blk (S41.blk 0 rfl) rfl)) rfl ?_;refine wp (G.len T.el64 rfl) rfl (av rfl (wn (we ?_)));refine wqs (fun l_ w_ => ∃ q47 : Nat, ∃ G42 : Grp, ∃ b44 : Bool, l_ = [(0, (Pt p0)), (5, .string (bs x11)), (7, .slice A1 a1.length c1), (8, I (a1.length : Int)), (9, I x4), (39, .bool b44)] ∧ ps_put.j2 q47 a1 a3 x4 x11 b44 = some r_ ∧ q47 ≤ k7 ∧ (ObjO 66 WriK.rp p0 a3 G42) ∧ St w (KS [G0]) w_ [G42]) ?_ ?_
   ·
    refine wr (mv rfl (wp (G.gtr rfl rfl rfl) rfl (mv rfl ?_)));rcases io hF with ⟨h49, hF⟩ | ⟨h49, hF⟩
    ·
     refine won rfl (dt h49) (mv rfl (won rfl (dt h49) (wp (G.neqlb' rfl rfl rfl) rfl (wp (G.pick_t (kb rfl (dt h49)) rfl) rfl (mv rfl ?_)))));rcases io hF with ⟨h50, hF⟩ | ⟨h50, hF⟩
     ·
      refine WOps.off rfl (kbl rfl (show (!(decide (x11 = []))) = false from by rw [(dt h50)]; rfl)) rfl rfl ?_;refine WOps.off rfl (kbl rfl (show (!(decide (x11 = []))) = false from by rw [(dt h50)]; rfl)) rfl rfl ?_;refine WOps.off rfl (kbl rfl (show (!(decide (x11 = []))) = false from by rw [(dt h50)]; rfl)) rfl rfl ?_;refine WOps.off rfl (kbl rfl (show (!(decide (x11 = []))) = false from by rw [(dt h50)]; rfl)) rfl rfl ?_;refine WOps.off rfl (kbl rfl (show (!(decide (x11 = []))) = false from by rw [(dt h50)]; rfl)) rfl rfl ?_;refine WOps.off rfl (kbl rfl (show (!(decide (x11 = []))) = false from by rw [(dt h50)]; rfl)) rfl rfl ?_;refine WOps.off rfl (kbl rfl (show (!(decide (x11 = []))) = false from by rw [(dt h50)]; rfl)) rfl rfl ?_;refine WOps.off rfl (kbl rfl (show (!(decide (x11 = []))) = false from by rw [(dt h50)]; rfl)) rfl rfl ?_;refine WOps.off rfl (kbl rfl (show (!(decide (x11 = []))) = false from by rw [(dt h50)]; rfl)) rfl rfl ?_;refine wp (G.pick_f (kb rfl (show (!(decide (x11 = []))) = false from by rw [(dt h50)]; rfl)) rfl) rfl (mv rfl ?_);refine WOps.off rfl rfl rfl rfl ?_;refine WOps.off rfl rfl rfl rfl ?_;refine WOps.off rfl rfl rfl rfl ?_;refine wp (G.pick_f rfl rfl) rfl (wn ?_);have hO51 : ObjO 66 WriK.rp p0 a3 ((B p0 #[.slice A36 a3.out.length c37] 66) ++ (G38)) := ⟨_, _, ⟨A36, c37, G38, rfl, hO39, rfl⟩, rfl⟩;have S52 : St _ _ _ [(B p0 #[.slice A36 a3.out.length c37] 66) ++ (G38)] := S41.objs (by simp [Value.cells]);refine wx _ ?_ ⟨k7, (B p0 #[.slice A36 a3.out.length c37] 66) ++ (G38), false, rfl, hF, (by omega), hO51, S52⟩;exact ⟨rfl, rfl, rfl, rfl, rfl, rfl, trivial⟩
     ·
      refine WOps.on rfl (kbl rfl (show (!(decide (x11 = []))) = true from by rw [(df h50)]; rfl)) ?_;refine mv rfl ?_;refine WOps.on rfl (kbl rfl (show (!(decide (x11 = []))) = true from by rw [(df h50)]; rfl)) ?_;refine wp (G.nilp rfl) rfl ?_;refine WOps.on rfl (kbl rfl (show (!(decide (x11 = []))) = true from by rw [(df h50)]; rfl)) ?_;refine wp (G.field T.fld66_0 rfl (show 0 + 0 = 0 from rfl)) rfl ?_;refine WOps.on rfl (kbl rfl (show (!(decide (x11 = []))) = true from by rw [(df h50)]; rfl)) ?_;refine wrr (G.load1 T.one64 rfl (cell_blk (S41.blk 0 rfl) rfl)) rfl ?_;refine WOps.on rfl (kbl rfl (show (!(decide (x11 = []))) = true from by rw [(df h50)]; rfl)) ?_;refine mv rfl ?_;refine WOps.on rfl (kbl rfl (show (!(decide (x11 = []))) = true from by rw [(df h50)]; rfl)) ?_;refine wp (G.sub rfl rfl (r := (w64 ((a3.out.length : Int) - 1))) rfl) rfl ?_;refine WOps.on rfl (kbl rfl (show (!(decide (x11 = []))) = true from by rw [(df h50)]; rfl)) ?_;obtain ⟨x53, hc54, hF⟩ := bo hF;obtain ⟨j55, ej56, hj57, hl58⟩ := idx_spec hc54;obtain ⟨b59, o60, cs61, eA62, hf63, hc64, hr65⟩ := sat (rds hO39 S41 1 rfl) hj57;have hq66 : cs61 = [.int .u8 ((x53).toNat : Int)] := hr65;subst hq66;change cellsAt _ _ (o60 + j55 * 1) [.int .u8 ((x53).toNat : Int)] at hc64;refine wp (G.idx T.el64 rfl eA62 rfl ej56 hl58) rfl ?_;refine WOps.on rfl (kbl rfl (show (!(decide (x11 = []))) = true from by rw [(df h50)]; rfl)) ?_;refine wrr (G.load1 T.one5 rfl (cellsAt.at0 hc64)) rfl ?_;refine WOps.on rfl (kbl rfl (show (!(decide (x11 = []))) = true from by rw [(df h50)]; rfl)) ?_;obtain ⟨t67, hc68, hF⟩ := bo hF;refine wc T.call101 (ec rfl en) rfl ?_;refine (ps_inRun_calls k7 ((x53).toNat : Int) hc68).mono ?_;rintro _ w69 ⟨rfl, T70⟩;have S71 := scT T70 S41;refine ⟨_, rfl, ?_⟩;refine wp (G.pick_t (kb rfl (show (!(decide (x11 = []))) = true from by rw [(df h50)]; rfl)) rfl) rfl (mv rfl ?_);rcases io hF with ⟨h72, hF⟩ | ⟨h72, hF⟩
      ·
       refine won rfl h72 (mv rfl (won rfl h72 ?_));obtain ⟨c73, hc74, hF⟩ := bo hF;refine wp (G.idxb T.str9 rfl rfl hc74) rfl (won rfl h72 ?_);obtain ⟨t75, hc76, hF⟩ := bo hF;refine wc T.call101 (ec rfl en) rfl ?_;refine (ps_inRun_calls k7 ((c73).toNat : Int) hc76).mono ?_;rintro _ w77 ⟨rfl, T78⟩;have S79 := scT T78 S71;refine ⟨_, rfl, ?_⟩;refine wp (G.pick_t (kb rfl h72) rfl) rfl (wn ?_);have hO80 : ObjO 66 WriK.rp p0 a3 ((B p0 #[.slice A36 a3.out.length c37] 66) ++ (G38)) := ⟨_, _, ⟨A36, c37, G38, rfl, hO39, rfl⟩, rfl⟩;have S81 : St _ _ _ [(B p0 #[.slice A36 a3.out.length c37] 66) ++ (G38)] := S79.objs (by simp [Value.cells]);refine wx _ ?_ ⟨k7, (B p0 #[.slice A36 a3.out.length c37] 66) ++ (G38), t75, rfl, hF, (by omega), hO80, S81⟩;exact ⟨rfl, rfl, rfl, rfl, rfl, rfl, trivial⟩
      ·
       refine wof rfl (bf h72) rfl (wof rfl (bf h72) rfl (wof rfl (bf h72) rfl (wp (G.pick_f (kb rfl (bf h72)) rfl) rfl (wn ?_))));have hO82 : ObjO 66 WriK.rp p0 a3 ((B p0 #[.slice A36 a3.out.length c37] 66) ++ (G38)) := ⟨_, _, ⟨A36, c37, G38, rfl, hO39, rfl⟩, rfl⟩;have S83 : St _ _ _ [(B p0 #[.slice A36 a3.out.length c37] 66) ++ (G38)] := S71.objs (by simp [Value.cells]);refine wx _ ?_ ⟨k7, (B p0 #[.slice A36 a3.out.length c37] 66) ++ (G38), false, rfl, hF, (by omega), hO82, S83⟩;exact ⟨rfl, rfl, rfl, rfl, rfl, rfl, trivial⟩
    ·
     refine wof rfl (df h49) rfl (wof rfl (df h49) rfl (wp (G.pick_f (kb rfl (df h49)) rfl) rfl (mv rfl ?_)));refine WOps.off rfl rfl rfl rfl ?_;refine WOps.off rfl rfl rfl rfl ?_;refine WOps.off rfl rfl rfl rfl ?_;refine WOps.off rfl rfl rfl rfl ?_;refine WOps.off rfl rfl rfl rfl ?_;refine WOps.off rfl rfl rfl rfl ?_;refine WOps.off rfl rfl rfl rfl ?_;refine WOps.off rfl rfl rfl rfl ?_;refine WOps.off rfl rfl rfl rfl ?_;refine wp (G.pick_f rfl rfl) rfl (mv rfl ?_);refine WOps.off rfl rfl rfl rfl ?_;refine WOps.off rfl rfl rfl rfl ?_;refine WOps.off rfl rfl rfl rfl ?_;refine wp (G.pick_f rfl rfl) rfl (wn ?_);have hO84 : ObjO 66 WriK.rp p0 a3 ((B p0 #[.slice A36 a3.out.length c37] 66) ++ (G38)) := ⟨_, _, ⟨A36, c37, G38, rfl, hO39, rfl⟩, rfl⟩;have S85 : St _ _ _ [(B p0 #[.slice A36 a3.out.length c37] 66) ++ (G38)] := S41.objs (by simp [Value.cells]);refine wx _ ?_ ⟨k7, (B p0 #[.slice A36 a3.out.length c37] 66) ++ (G38), false, rfl, hF, (by omega), hO84, S85⟩;exact ⟨rfl, rfl, rfl, rfl, rfl, rfl, trivial⟩
   ·
    rintro _ w45 ⟨q47, G42, b44, rfl, hF, hq48, hO43, S46⟩;obtain _ | k86 := q47
    · exact nomatch (show (none : Option WriK) = some r_ from hF)
    rw [ps_put.j2] at hF;rcases io hF with ⟨h87, hF⟩ | ⟨h87, hF⟩
    ·
     refine ct rfl h87 ?_;obtain ⟨cs88, G89, ho90, hg91⟩ := hO43;obtain ⟨A92, c93, G94, rfl, hO95, hq96⟩ := ho90;have S97 : St _ _ _ [(B p0 #[.slice A92 a3.out.length c93] 66), G94] := S46.objs (by rw [hg91, hq96]; simp [Value.cells]);refine wr (mv rfl (mv rfl (wp (G.nilp rfl) rfl (wp (G.field T.fld66_0 rfl (show 0 + 0 = 0 from rfl)) rfl ?_))));refine wrr (G.load1 T.one64 rfl (cell_blk (S97.blk 0 rfl) rfl)) rfl ?_;obtain ⟨b98, w99, E100, S101, X102, L103⟩ := sl S97 (P := TP) (t := 64) (e := 5) (n := 1) (vs := [(0, .int .u8 32)]) (cs := #[.int .u8 32]) (by kernel_rfl);refine wee (E100 (fc rfl fn_)) rfl ?_;obtain ⟨l104, hc105, hF⟩ := bo hF;have S106 := S101.front 2 rfl;obtain ⟨A107, c108, G109, w110, E111, hO112, S113, hk114⟩ := St.appP (P := TP) (r := Rp.u8) (M := ([(32 : UInt8)] : List UInt8)) S106 T.elt64 rfl hO95 (Rd.of_blk (S106.blk 1 rfl) (n := 1) (sz := 1) rfl) ⟨_, _, [], [], rfl, rfl, ⟨rfl, rfl⟩, ⟨rfl, rfl⟩⟩ rfl hc105;refine wee (E111 rfl rfl) rfl ?_;refine wp (G.nilp rfl) rfl (wp (G.field T.fld66_0 rfl (show 0 + 0 = 0 from rfl)) rfl ?_);obtain ⟨w115, E116, S117⟩ := so (P := TP) S113 2 64 (.slice A107 l104.length c108) (off := 0) (cur' := #[.slice A107 l104.length c108]) rfl T.size64_1 rfl rfl rfl;refine wuu (E116 rfl rfl) ?_;refine wn ?_;have S118 := S117.front 2 rfl;have hO119 : ObjO 66 WriK.rp p0 (⟨l104⟩ : WriK) ((B p0 #[.slice A107 l104.length c108] 66) ++ (G109)) := ⟨_, _, ⟨A107, c108, G109, rfl, hO112, rfl⟩, rfl⟩;have S120 : St _ _ _ [(B p0 #[.slice A107 l104.length c108] 66) ++ (G109), (B b98 #[.int .u8 32] 5)] := S118.objs (by simp [Value.cells]);refine wx _ ?_ ⟨k86, (⟨l104⟩ : WriK), (B p0 #[.slice A107 l104.length c108] 66) ++ (G109), rfl, hF, (by omega), hO119, (sk S120)⟩;exact ⟨rfl, rfl, rfl, rfl, rfl, trivial⟩
    ·
     refine cf rfl (bf h87) (wsk ?_);refine wx _ ?_ ⟨k86, a3, G42, rfl, hF, (by omega), hO43, S46⟩;exact ⟨rfl, rfl, rfl, rfl, rfl, trivial⟩
  ·
   rintro _ w28 ⟨q30, a27, G25, rfl, hF, hq31, hO26, S29⟩;obtain _ | k122 := q30
   · exact nomatch (show (none : Option WriK) = some r_ from hF)
   rw [ps_put.j1] at hF;obtain ⟨cs123, G124, ho125, hg126⟩ := hO26;obtain ⟨A127, c128, G129, rfl, hO130, hq131⟩ := ho125;have S132 : St _ _ _ [(B p0 #[.slice A127 a27.out.length c128] 66), G129] := S29.objs (by rw [hg126, hq131]; simp [Value.cells]);refine wr (mv rfl (mv rfl (wp (G.nilp rfl) rfl (wp (G.field T.fld66_0 rfl (show 0 + 0 = 0 from rfl)) rfl ?_))));refine wrr (G.load1 T.one64 rfl (cell_blk (S132.blk 0 rfl) rfl)) rfl ?_;refine mv rfl ?_;obtain ⟨l133, hc134, hF⟩ := bo hF;have S135 := S132.front 1 rfl;obtain ⟨A136, c137, G138, w139, E140, hO141, S142⟩ := St.appS (P := TP) (n := 68719476736) S135 T.elt64 Tryz.underlying9 rfl hO130 hc134;refine wee (E140 rfl rfl) rfl ?_;refine wp (G.nilp rfl) rfl (wp (G.field T.fld66_0 rfl (show 0 + 0 = 0 from rfl)) rfl ?_);obtain ⟨w143, E144, S145⟩ := so (P := TP) S142 1 64 (.slice A136 l133.length c137) (off := 0) (cur' := #[.slice A136 l133.length c137]) rfl T.size64_1 rfl rfl rfl;refine wuu (E144 rfl rfl) ?_;refine wn (win (we (wg (l' := [(0, (Pt p0)), (7, .slice A1 a1.length c1), (8, I (a1.length : Int)), (9, I x4)]) ⟨rfl, rfl, rfl, rfl, trivial⟩ (wr (wp (G.add rfl rfl (r := (w64 (x4 + 1))) rfl) rfl (mv rfl (wn ?_)))))));have S146 := S145.front 1 rfl;have hO147 : ObjO 66 WriK.rp p0 (⟨l133⟩ : WriK) ((B p0 #[.slice A136 l133.length c137] 66) ++ (G138)) := ⟨_, _, ⟨A136, c137, G138, rfl, hO141, rfl⟩, rfl⟩;have S148 : St _ _ _ [(B p0 #[.slice A136 l133.length c137] 66) ++ (G138)] := S146.objs (by simp [Value.cells]);refine wag _ _ (by omega) ?_ ⟨(⟨l133⟩ : WriK), (B p0 #[.slice A136 l133.length c137] 66) ++ (G138), w64 (x4 + 1), rfl, hF, hO147, S148⟩;exact ⟨rfl, rfl, rfl, rfl, trivial⟩
 ·
  refine cf rfl (df h10) ?_;refine WCode.exit ?_;refine WEx.then_exit ?_;refine WEx.then_exit ?_;refine WEx.in_exit ?_;obtain rfl := se hF;refine WEx.end0 rfl ?_;exact ⟨G1, rfl, hO2, sk S6⟩

mutual
def ps_node.l1 : Nat → Tree → WriK → Int → Option WriK
  | 0, _, _, _ => none
  | k14 + 1, a1, a10, x11 => (if x11 < (a1.Kids.length : Int) then (Option.bind (idx a1.Kids x11) fun x20 => (Option.bind (ps_wdef k14 a10 x20) fun t47 => (ps_node.l1 k14 a1 t47 (w64 (x11 + 1))))) else (some a10))
def ps_node : Nat → WriK → Tree → Option WriK
  | 0, _, _ => none
  | k_ + 1, a0, a1 => (if a1.Kind = 1 then (ps_node.l1 k_ a1 a0 0) else (if a1.Kind = 4 then none else (if a1.Kind = 6 then none else (if a1.Kind = 7 then none else (if a1.Kind = 5 then none else (if a1.Kind = 8 then none else (if a1.Kind = 9 then none else (if a1.Kind = 10 then none else (if a1.Kind = 11 then none else (if a1.Kind = 12 then none else (Option.bind (ps_small k_ a0 a1) fun t65 => (some t65))))))))))))
def ps_wdef : Nat → WriK → Tree → Option WriK
  | 0, _, _ => none
  | k_ + 1, a0, a1 => (if a1.Kind = 2 then (Option.bind (ps_put k_ a0 ([[99, 111, 110, 115, 116], a1.Name, [61]] : List (List UInt8))) fun t15 => (Option.bind (ps_kid k_ a1 0) fun t23 => (Option.bind (ps_node k_ t15 t23) fun t32 => (Option.bind (ps_put k_ t32 ([[59]] : List (List UInt8))) fun t46 => (some t46))))) else (if a1.Kind = 3 then none else (Option.bind (ps_node k_ a0 a1) fun t55 => (Option.bind (ps_put k_ t55 ([[59]] : List (List UInt8))) fun t71 => (some t71)))))
def ps_small : Nat → WriK → Tree → Option WriK
  | 0, _, _ => none
  | k_ + 1, a0, a1 => (if a1.Kind = 14 then none else (if a1.Kind = 15 then none else (if a1.Kind = 16 then none else (if a1.Kind = 17 then none else (if a1.Kind = 27 then none else (if a1.Kind = 28 then (Option.bind (gv_Itoa k_ a1.Number) fun t13 => (Option.bind (ps_put k_ a0 ([t13] : List (List UInt8))) fun t25 => (some t25))) else (Option.bind (ps_plain k_ a1.Kind) fun t33 => (Option.bind (ps_put k_ a0 (t33)) fun t42 => (some t42)))))))))
end
def ps_node_C (k : Nat) : Prop := ∀ (a0 : WriK) {p0 : Nat} {G0 : Grp} (a1 : Tree) {A1_1 : Option Addr} {c1_1 : Nat} {F1_1 : Nat → Prop} {w : World} (hO0 : ObjO 66 WriK.rp p0 a0 G0) (hR1_1 : SlR Tree.rp w F1_1 A1_1 c1_1 a1.Kids) (hF1_1 : ∀ b, F1_1 b → NK w [G0] b) {r_ : WriK} (h_ : ps_node k a0 a1 = some r_) (hp_ : Hp w ([G0]).flatten), Calls TP 32 [(Pt p0), .agg (ta a1 A1_1 c1_1)].toArray w fun e w' => ∃ Go0' : Grp, e = .returned (.tuple #[]) ∧ ObjO 66 WriK.rp p0 (r_) Go0' ∧ St w (KS [G0]) w' [Go0']
def ps_wdef_C (k : Nat) : Prop := ∀ (a0 : WriK) {p0 : Nat} {G0 : Grp} (a1 : Tree) {A1_1 : Option Addr} {c1_1 : Nat} {F1_1 : Nat → Prop} {w : World} (hO0 : ObjO 66 WriK.rp p0 a0 G0) (hR1_1 : SlR Tree.rp w F1_1 A1_1 c1_1 a1.Kids) (hF1_1 : ∀ b, F1_1 b → NK w [G0] b) {r_ : WriK} (h_ : ps_wdef k a0 a1 = some r_) (hp_ : Hp w ([G0]).flatten), Calls TP 56 [(Pt p0), .agg (ta a1 A1_1 c1_1)].toArray w fun e w' => ∃ Go0' : Grp, e = .returned (.tuple #[]) ∧ ObjO 66 WriK.rp p0 (r_) Go0' ∧ St w (KS [G0]) w' [Go0']
def ps_small_C (k : Nat) : Prop := ∀ (a0 : WriK) {p0 : Nat} {G0 : Grp} (a1 : Tree) {A1_1 : Option Addr} {c1_1 : Nat} {F1_1 : Nat → Prop} {w : World} (hO0 : ObjO 66 WriK.rp p0 a0 G0) (hR1_1 : SlR Tree.rp w F1_1 A1_1 c1_1 a1.Kids) (hF1_1 : ∀ b, F1_1 b → NK w [G0] b) {r_ : WriK} (h_ : ps_small k a0 a1 = some r_) (hp_ : Hp w ([G0]).flatten), Calls TP 63 [(Pt p0), .agg (ta a1 A1_1 c1_1)].toArray w fun e w' => ∃ Go0' : Grp, e = .returned (.tuple #[]) ∧ ObjO 66 WriK.rp p0 (r_) Go0' ∧ St w (KS [G0]) w' [Go0']
def WrG (k : Nat) : Prop := ps_node_C k ∧ ps_wdef_C k ∧ ps_small_C k
theorem ps_node_R (k : Nat) (HG : ∀ j_, j_ < k → WrG j_) (a0 : WriK) {p0 : Nat} {G0 : Grp} (a1 : Tree) {A1_1 : Option Addr} {c1_1 : Nat} {F1_1 : Nat → Prop} {w : World} (hO0 : ObjO 66 WriK.rp p0 a0 G0) (hR1_1 : SlR Tree.rp w F1_1 A1_1 c1_1 a1.Kids) (hF1_1 : ∀ b, F1_1 b → NK w [G0] b) {r_ : WriK} (hF : ps_node k a0 a1 = some r_) (hp_ : Hp w ([G0]).flatten) :
    Calls TP 32 [(Pt p0), .agg (ta a1 A1_1 c1_1)].toArray w fun e w' => ∃ Go0' : Grp, e = .returned (.tuple #[]) ∧ ObjO 66 WriK.rp p0 (r_) Go0' ∧ St w (KS [G0]) w' [Go0'] := by
 obtain _ | k_ := k
 · exact nomatch (show (none : Option WriK) = some r_ from hF)
 rw [ps_node] at hF;have S := St.initK [G0] hp_;refine enter 189 [(0, (Pt p0)), (1, .agg (ta a1 A1_1 c1_1))] Tryz.func32 rfl rfl rfl rfl ?_;refine wq (wr ?_);obtain ⟨b1, w2, E3, S4, X5, L6⟩ := sbx S TP 29 (.agg (ta a1 A1_1 c1_1));refine wee (E3 rfl) rfl ?_;refine wn (we (wq (wr (wp (G.field T.fld29_0 rfl (show 0 + 0 = 0 from rfl)) rfl ?_))));refine wrr (G.load1 T.one3 rfl (cell_blk (S4.blk 0 rfl) rfl)) rfl ?_;refine wn (we ?_);refine WCode.block ?_;refine wq (wr (wp (G.eql rfl rfl rfl) rfl (av rfl (wn (we ?_)))));rcases io hF with ⟨h7, hF⟩ | ⟨h7, hF⟩
 ·
  refine ct rfl (dt h7) (wq (wr (wp (G.field T.fld29_4 rfl (show 0 + 4 = 4 from rfl)) rfl ?_)));refine wrr (G.load1 T.one27 rfl (cell_blk (S4.blk 0 rfl) rfl)) rfl ?_;refine wp (G.len T.el27 rfl) rfl (mv rfl (wn (we ?_)));refine WCode.block ?_;have S16 := S4.front 1 rfl;refine wg (l' := [(0, (Pt p0)), (16, .slice A1_1 a1.Kids.length c1_1), (17, I (a1.Kids.length : Int)), (18, I 0)]) ⟨rfl, rfl, rfl, rfl, trivial⟩ ?_;refine wl (fun n_ l_ w_ => ∃ a10 : WriK, ∃ G8 : Grp, ∃ x11 : Int, l_ = [(0, (Pt p0)), (16, .slice A1_1 a1.Kids.length c1_1), (17, I (a1.Kids.length : Int)), (18, I x11)] ∧ ps_node.l1 n_ a1 a10 x11 = some r_ ∧ n_ ≤ k_ ∧ (ObjO 66 WriK.rp p0 a10 G8) ∧ St w (KS [G0]) w_ [G8]) k_ ⟨a0, G0, 0, rfl, hF, Nat.le_refl _, hO0, (sk S16)⟩ ?_;rintro n15 _ w12 ⟨a10, G8, x11, rfl, hF, hle18, hO9, S13⟩;obtain _ | k14 := n15
  · exact nomatch (show (none : Option WriK) = some r_ from hF)
  rw [ps_node.l1] at hF;refine wq (wr (wp (G.lss rfl rfl rfl) rfl (wn (we (wq ?_)))));rcases io hF with ⟨h19, hF⟩ | ⟨h19, hF⟩
  ·
   refine ct rfl (dt h19) (wsk (we (wq ?_)));refine WCode.block ?_;refine wq (wr ?_);obtain ⟨x20, hc21, hF⟩ := bo hF;obtain ⟨j22, ej23, hj24, hl25⟩ := idx_spec hc21;obtain ⟨b26, o27, cs28, eA29, hf30, hc31, hr32⟩ := sat hR1_1 hj24;obtain ⟨A33, c34, hq36, hR35⟩ := (Tree.rd_iff.1 hr32);subst hq36;have hc31 := hc31.move ((S13.keepF hF1_1) _ hf30);change cellsAt _ _ (o27 + j22 * 5) (tl x20 A33 c34) at hc31;refine wp (G.idx T.el27 rfl eA29 rfl ej23 hl25) rfl ?_;refine wrr (G.loada T.agg29_5 rfl (cs := (tl x20 A33 c34)) hc31) rfl ?_;obtain ⟨b37, w38, E39, S40, X41, L42⟩ := sv S13 (z := .agg tz) T.zero29;have c43 := hc31.ext X41;refine wee E39 rfl ?_;obtain ⟨w44, E45, S46⟩ := sw S40 0 (ta x20 A33 c34) T.size29_5 rfl rfl rfl rfl;refine wuu (E45 rfl rfl) ?_;refine wn (we (wr (mv rfl ?_)));refine wrr (G.loada T.agg29_5 rfl (cs := (tl x20 A33 c34)) (cb (S46.blk 0 rfl) rfl)) rfl ?_;obtain ⟨t47, hc48, hF⟩ := bo hF;have S49 := S46.front 1 rfl;refine wc T.call56 (ec rfl (ec rfl en)) rfl ?_;refine (((HG k14 (by omega)).2.1) a10 x20 hO9 (hR35.ext (S49.keepF hF1_1)) (St.outF (Bs := [G8]) S49 hF1_1) hc48 (hn S49)).mono ?_;rintro _ w50 ⟨G53, rfl, hO54, T51⟩;have S52 := scT T51 S49;refine ⟨_, rfl, ?_⟩;refine wn (win (we (wr (wp (G.add rfl rfl (r := (w64 (x11 + 1))) rfl) rfl (mv rfl (wn ?_))))));refine wag _ _ (by omega) ?_ ⟨t47, G53, w64 (x11 + 1), rfl, hF, (by omega), hO54, (sk S52)⟩;exact ⟨rfl, rfl, rfl, rfl, trivial⟩
  ·
   refine cf rfl (df h19) ?_;refine WCode.exit ?_;refine WEx.then_exit ?_;refine WEx.then_exit ?_;refine WEx.in_exit ?_;refine win ?_;obtain rfl := se hF;refine WEx.end0 rfl ?_;exact ⟨G8, rfl, hO9, sk S13⟩
 ·
  refine cf rfl (df h7) (wq (wr (wp (G.eql rfl rfl rfl) rfl (av rfl (wn (we ?_))))));rcases io hF with ⟨h56, hF⟩ | ⟨h56, hF⟩
  ·
   exact nomatch (show (none : Option WriK) = some r_ from hF)
  ·
   refine cf rfl (df h56) (wq (wr (wp (G.eql rfl rfl rfl) rfl (av rfl (wn (we ?_))))));rcases io hF with ⟨h57, hF⟩ | ⟨h57, hF⟩
   ·
    exact nomatch (show (none : Option WriK) = some r_ from hF)
   ·
    refine cf rfl (df h57) (wq (wr (wp (G.eql rfl rfl rfl) rfl (av rfl (wn (we ?_))))));rcases io hF with ⟨h58, hF⟩ | ⟨h58, hF⟩
    ·
     exact nomatch (show (none : Option WriK) = some r_ from hF)
    ·
     refine cf rfl (df h58) (wq (wr (wp (G.eql rfl rfl rfl) rfl (av rfl (wn (we (wg (l' := [(0, (Pt p0)), (3, (Pt b1)), (9, I a1.Kind), (77, .bool (decide (a1.Kind = 5)))]) ⟨rfl, rfl, rfl, rfl, trivial⟩ ?_)))))));rcases io hF with ⟨h59, hF⟩ | ⟨h59, hF⟩
     ·
      exact nomatch (show (none : Option WriK) = some r_ from hF)
     ·
      refine cf rfl (df h59) (wq (wr (wp (G.eql rfl rfl rfl) rfl (av rfl (wn (we ?_))))));rcases io hF with ⟨h60, hF⟩ | ⟨h60, hF⟩
      ·
       exact nomatch (show (none : Option WriK) = some r_ from hF)
      ·
       refine cf rfl (df h60) (wq (wr (wp (G.eql rfl rfl rfl) rfl (av rfl (wn (we ?_))))));rcases io hF with ⟨h61, hF⟩ | ⟨h61, hF⟩
       ·
        exact nomatch (show (none : Option WriK) = some r_ from hF)
       ·
        refine cf rfl (df h61) (wq (wr (wp (G.eql rfl rfl rfl) rfl (av rfl (wn (we ?_))))));rcases io hF with ⟨h62, hF⟩ | ⟨h62, hF⟩
        ·
         exact nomatch (show (none : Option WriK) = some r_ from hF)
        ·
         refine cf rfl (df h62) (wq (wr (wp (G.eql rfl rfl rfl) rfl (av rfl (wn (we ?_))))));rcases io hF with ⟨h63, hF⟩ | ⟨h63, hF⟩
         ·
          exact nomatch (show (none : Option WriK) = some r_ from hF)
         ·
          refine cf rfl (df h63) (wq (wr (wp (G.eql rfl rfl rfl) rfl (av rfl (wn (we (wg (l' := [(0, (Pt p0)), (3, (Pt b1)), (164, .bool (decide (a1.Kind = 12)))]) ⟨rfl, rfl, rfl, trivial⟩ ?_)))))));rcases io hF with ⟨h64, hF⟩ | ⟨h64, hF⟩
          ·
           exact nomatch (show (none : Option WriK) = some r_ from hF)
          ·
           refine cf rfl (df h64) (wr (mv rfl ?_));refine wrr (G.loada T.agg29_5 rfl (cs := (tl a1 A1_1 c1_1)) (cb (S4.blk 0 rfl) rfl)) rfl ?_;obtain ⟨t65, hc66, hF⟩ := bo hF;have S67 := S4.front 1 rfl;refine wc T.call63 (ec rfl (ec rfl en)) rfl ?_;refine (((HG k_ (by omega)).2.2) a0 a1 hO0 (hR1_1.ext (S67.keepF hF1_1)) (St.outF (Bs := [G0]) S67 hF1_1) hc66 (hn S67)).mono ?_;rintro _ w68 ⟨G71, rfl, hO72, T69⟩;have S70 := scT T69 S67;refine ⟨_, rfl, ?_⟩;refine wn (win ?_);obtain rfl := se hF;refine WEx.end0 rfl ?_;exact ⟨G71, rfl, hO72, sk S70⟩

theorem ps_wdef_R (k : Nat) (HG : ∀ j_, j_ < k → WrG j_) (a0 : WriK) {p0 : Nat} {G0 : Grp} (a1 : Tree) {A1_1 : Option Addr} {c1_1 : Nat} {F1_1 : Nat → Prop} {w : World} (hO0 : ObjO 66 WriK.rp p0 a0 G0) (hR1_1 : SlR Tree.rp w F1_1 A1_1 c1_1 a1.Kids) (hF1_1 : ∀ b, F1_1 b → NK w [G0] b) {r_ : WriK} (hF : ps_wdef k a0 a1 = some r_) (hp_ : Hp w ([G0]).flatten) :
    Calls TP 56 [(Pt p0), .agg (ta a1 A1_1 c1_1)].toArray w fun e w' => ∃ Go0' : Grp, e = .returned (.tuple #[]) ∧ ObjO 66 WriK.rp p0 (r_) Go0' ∧ St w (KS [G0]) w' [Go0'] := by
 obtain _ | k_ := k
 · exact nomatch (show (none : Option WriK) = some r_ from hF)
 rw [ps_wdef] at hF;have S := St.initK [G0] hp_;refine enter 32 [(0, (Pt p0)), (1, .agg (ta a1 A1_1 c1_1))] Tryz.func56 rfl rfl rfl rfl ?_;refine wq (wr ?_);obtain ⟨b1, w2, E3, S4, X5, L6⟩ := sbx S TP 29 (.agg (ta a1 A1_1 c1_1));refine wee (E3 rfl) rfl ?_;refine wn (we (wq (wq (wr (wp (G.field T.fld29_0 rfl (show 0 + 0 = 0 from rfl)) rfl ?_)))));refine wrr (G.load1 T.one3 rfl (cell_blk (S4.blk 0 rfl) rfl)) rfl ?_;refine wn (we ?_);refine WCode.block ?_;refine wq (wr (wp (G.eql rfl rfl rfl) rfl (av rfl (wn (we ?_)))));rcases io hF with ⟨h7, hF⟩ | ⟨h7, hF⟩
 ·
  refine ct rfl (dt h7) (wq (wr (mv rfl (wp (G.field T.fld29_1 rfl (show 0 + 1 = 1 from rfl)) rfl ?_))));refine wrr (G.load1 T.one9 rfl (cell_blk (S4.blk 0 rfl) rfl)) rfl ?_;obtain ⟨b8, w9, E10, S11, hO14⟩ := sls S4 [[99, 111, 110, 115, 116], a1.Name, [61]] ⟨by kernel_rfl, nb rfl, nb rfl⟩;refine wee (E10 (fc rfl (fc rfl (fc rfl fn_)))) rfl ?_;obtain ⟨t15, hc16, hF⟩ := bo hF;have S17 := S11.front 2 rfl;refine wc T.call57 (ec rfl (ec rfl en)) rfl ?_;refine (ps_put_calls k_ a0 ([[99, 111, 110, 115, 116], a1.Name, [61]] : List (List UInt8)) hO0 (rds hO14 S17 1 rfl) (St.outG (Bs := [G0]) S17 0 rfl) hc16 (hn S17)).mono ?_;rintro _ w18 ⟨G21, rfl, hO22, T19⟩;have S20 := scT T19 S17;refine ⟨_, rfl, ?_⟩;refine wn (we (wg (l' := [(0, (Pt p0)), (3, (Pt b1))]) ⟨rfl, rfl, trivial⟩ (wr (mv rfl ?_))));refine wrr (G.loada T.agg29_5 rfl (cs := (tl a1 A1_1 c1_1)) (cb (S20.blk 2 rfl) rfl)) rfl ?_;obtain ⟨t23, hc24, hF⟩ := bo hF;refine wc T.call60 (ec rfl (ec rfl en)) rfl ?_;refine (ps_kid_calls k_ a1 0 (hR1_1.ext (S20.keepF hF1_1)) (St.outF (Bs := []) S20 hF1_1) hc24).mono ?_;rintro _ w25 ⟨A28, c29, rfl, hV30, T26⟩;have S27 := scT T26 S20;have hR31 := SlR.ext hV30 (fun b hb => (S27.keepF hF1_1 b hb).symm);refine ⟨_, rfl, ?_⟩;obtain ⟨t32, hc33, hF⟩ := bo hF;refine wc T.call32 (ec rfl (ec rfl en)) rfl ?_;refine (((HG k_ (by omega)).1) t15 t23 hO22 (hR31.ext (S27.keepF hF1_1)) (St.outF (Bs := [G21]) S27 hF1_1) hc33 (hn S27)).mono ?_;rintro _ w34 ⟨G37, rfl, hO38, T35⟩;have S36 := scT T35 S27;refine ⟨_, rfl, ?_⟩;refine wn (win (we (wr (mv rfl ?_))));obtain ⟨b39, w40, E41, S42, hO45⟩ := sls S36 [[59]] ⟨by kernel_rfl, nb rfl, nb rfl⟩;refine wee (E41 (fc rfl fn_)) rfl ?_;obtain ⟨t46, hc47, hF⟩ := bo hF;have S48 := S42.front 1 rfl;refine wc T.call57 (ec rfl (ec rfl en)) rfl ?_;refine (ps_put_calls k_ t32 ([[59]] : List (List UInt8)) hO38 (rds hO45 S48 1 rfl) (St.outG (Bs := [G37]) S48 0 rfl) hc47 (hn S48)).mono ?_;rintro _ w49 ⟨G52, rfl, hO53, T50⟩;have S51 := scT T50 S48;refine ⟨_, rfl, ?_⟩;refine wn ?_;obtain rfl := se hF;refine WEx.end0 rfl ?_;exact ⟨G52, rfl, hO53, sk S51⟩
 ·
  refine cf rfl (df h7) (wq (wr (wp (G.eql rfl rfl rfl) rfl (av rfl (wn (we ?_))))));rcases io hF with ⟨h54, hF⟩ | ⟨h54, hF⟩
  ·
   exact nomatch (show (none : Option WriK) = some r_ from hF)
  ·
   refine cf rfl (df h54) (wr (mv rfl ?_));refine wrr (G.loada T.agg29_5 rfl (cs := (tl a1 A1_1 c1_1)) (cb (S4.blk 0 rfl) rfl)) rfl ?_;obtain ⟨t55, hc56, hF⟩ := bo hF;have S57 := S4.front 1 rfl;refine wc T.call32 (ec rfl (ec rfl en)) rfl ?_;refine (((HG k_ (by omega)).1) a0 a1 hO0 (hR1_1.ext (S57.keepF hF1_1)) (St.outF (Bs := [G0]) S57 hF1_1) hc56 (hn S57)).mono ?_;rintro _ w58 ⟨G61, rfl, hO62, T59⟩;have S60 := scT T59 S57;refine ⟨_, rfl, ?_⟩;refine wn (win (we (wg (l' := [(0, (Pt p0))]) ⟨rfl, trivial⟩ (wr (mv rfl ?_)))));obtain ⟨b63, w65, E66, S67, hO70⟩ := sls S60 [[59]] ⟨by kernel_rfl, nb rfl, nb rfl⟩;refine wee (E66 (fc rfl fn_)) rfl ?_;obtain ⟨t71, hc72, hF⟩ := bo hF;have S73 := S67.front 1 rfl;refine wc T.call57 (ec rfl (ec rfl en)) rfl ?_;refine (ps_put_calls k_ t55 ([[59]] : List (List UInt8)) hO62 (rds hO70 S73 1 rfl) (St.outG (Bs := [G61]) S73 0 rfl) hc72 (hn S73)).mono ?_;rintro _ w74 ⟨G77, rfl, hO78, T75⟩;have S76 := scT T75 S73;refine ⟨_, rfl, ?_⟩;refine wn ?_;obtain rfl := se hF;refine WEx.end0 rfl ?_;exact ⟨G77, rfl, hO78, sk S76⟩

theorem ps_small_R (k : Nat) (HG : ∀ j_, j_ < k → WrG j_) (a0 : WriK) {p0 : Nat} {G0 : Grp} (a1 : Tree) {A1_1 : Option Addr} {c1_1 : Nat} {F1_1 : Nat → Prop} {w : World} (hO0 : ObjO 66 WriK.rp p0 a0 G0) (hR1_1 : SlR Tree.rp w F1_1 A1_1 c1_1 a1.Kids) (hF1_1 : ∀ b, F1_1 b → NK w [G0] b) {r_ : WriK} (hF : ps_small k a0 a1 = some r_) (hp_ : Hp w ([G0]).flatten) :
    Calls TP 63 [(Pt p0), .agg (ta a1 A1_1 c1_1)].toArray w fun e w' => ∃ Go0' : Grp, e = .returned (.tuple #[]) ∧ ObjO 66 WriK.rp p0 (r_) Go0' ∧ St w (KS [G0]) w' [Go0'] := by
 obtain _ | k_ := k
 · exact nomatch (show (none : Option WriK) = some r_ from hF)
 rw [ps_small] at hF;have S := St.initK [G0] hp_;refine enter 84 [(0, (Pt p0)), (1, .agg (ta a1 A1_1 c1_1))] Tryz.func63 rfl rfl rfl rfl ?_;refine wq (wr ?_);obtain ⟨b1, w2, E3, S4, X5, L6⟩ := sbx S TP 29 (.agg (ta a1 A1_1 c1_1));refine wee (E3 rfl) rfl ?_;refine wn (we (wq (wr (wp (G.field T.fld29_0 rfl (show 0 + 0 = 0 from rfl)) rfl ?_))));refine wrr (G.load1 T.one3 rfl (cell_blk (S4.blk 0 rfl) rfl)) rfl ?_;refine wn (we ?_);refine WCode.block ?_;refine wq (wr (wp (G.eql rfl rfl rfl) rfl (av rfl (wn (we ?_)))));rcases io hF with ⟨h7, hF⟩ | ⟨h7, hF⟩
 ·
  exact nomatch (show (none : Option WriK) = some r_ from hF)
 ·
  refine cf rfl (df h7) (wq (wr (wp (G.eql rfl rfl rfl) rfl (av rfl (wn (we ?_))))));rcases io hF with ⟨h8, hF⟩ | ⟨h8, hF⟩
  ·
   exact nomatch (show (none : Option WriK) = some r_ from hF)
  ·
   refine cf rfl (df h8) (wq (wr (wp (G.eql rfl rfl rfl) rfl (av rfl (wn (we ?_))))));rcases io hF with ⟨h9, hF⟩ | ⟨h9, hF⟩
   ·
    exact nomatch (show (none : Option WriK) = some r_ from hF)
   ·
    refine cf rfl (df h9) (wq (wr (wp (G.eql rfl rfl rfl) rfl (av rfl (wn (we ?_))))));rcases io hF with ⟨h10, hF⟩ | ⟨h10, hF⟩
    ·
     exact nomatch (show (none : Option WriK) = some r_ from hF)
    ·
     refine cf rfl (df h10) (wq (wr (wp (G.eql rfl rfl rfl) rfl (av rfl (wn (we (wg (l' := [(0, (Pt p0)), (3, (Pt b1)), (5, I a1.Kind), (69, .bool (decide (a1.Kind = 27)))]) ⟨rfl, rfl, rfl, rfl, trivial⟩ ?_)))))));rcases io hF with ⟨h11, hF⟩ | ⟨h11, hF⟩
     ·
      exact nomatch (show (none : Option WriK) = some r_ from hF)
     ·
      refine cf rfl (df h11) (wq (wr (wp (G.eql rfl rfl rfl) rfl (av rfl (wn (we ?_))))));rcases io hF with ⟨h12, hF⟩ | ⟨h12, hF⟩
      ·
       refine ct rfl (dt h12) (wr (mv rfl (wp (G.field T.fld29_2 rfl (show 0 + 2 = 2 from rfl)) rfl ?_)));refine wrr (G.load1 T.one3 rfl (cell_blk (S4.blk 0 rfl) rfl)) rfl ?_;obtain ⟨t13, hc14, hF⟩ := bo hF;refine wc T.call102 (ec rfl en) rfl ?_;refine (gv_Itoa_calls k_ a1.Number hc14).mono ?_;rintro _ w15 ⟨rfl, T16⟩;have S17 := scT T16 S4;refine ⟨_, rfl, ?_⟩;obtain ⟨b18, w19, E20, S21, hO24⟩ := sls S17 [t13] ⟨by kernel_rfl, nb rfl, nb rfl⟩;refine wee (E20 (fc rfl fn_)) rfl ?_;obtain ⟨t25, hc26, hF⟩ := bo hF;have S27 := S21.front 2 rfl;refine wc T.call57 (ec rfl (ec rfl en)) rfl ?_;refine (ps_put_calls k_ a0 ([t13] : List (List UInt8)) hO0 (rds hO24 S27 1 rfl) (St.outG (Bs := [G0]) S27 0 rfl) hc26 (hn S27)).mono ?_;rintro _ w28 ⟨G31, rfl, hO32, T29⟩;have S30 := scT T29 S27;refine ⟨_, rfl, ?_⟩;refine wn (win ?_);obtain rfl := se hF;refine WEx.end0 rfl ?_;exact ⟨G31, rfl, hO32, sk S30⟩
      ·
       refine cf rfl (df h12) (wr (mv rfl (wp (G.field T.fld29_0 rfl (show 0 + 0 = 0 from rfl)) rfl ?_)));refine wrr (G.load1 T.one3 rfl (cell_blk (S4.blk 0 rfl) rfl)) rfl ?_;obtain ⟨t33, hc34, hF⟩ := bo hF;refine wc T.call103 (ec rfl en) rfl ?_;refine (ps_plain_calls k_ a1.Kind hc34).mono ?_;rintro _ w35 ⟨A38, c39, G40, rfl, hO41, T36⟩;have S37 := scT T36 S4;refine ⟨_, rfl, ?_⟩;obtain ⟨t42, hc43, hF⟩ := bo hF;have S44 := S37.front 2 rfl;refine wc T.call57 (ec rfl (ec rfl en)) rfl ?_;refine (ps_put_calls k_ a0 (t33) hO0 (rds hO41 S44 1 rfl) (St.outG (Bs := [G0]) S44 0 rfl) hc43 (hn S44)).mono ?_;rintro _ w45 ⟨G48, rfl, hO49, T46⟩;have S47 := scT T46 S44;refine ⟨_, rfl, ?_⟩;refine wn (win ?_);obtain rfl := se hF;refine WEx.end0 rfl ?_;exact ⟨G48, rfl, hO49, sk S47⟩

theorem WrG_all : ∀ k, WrG k := fun k => Nat.strongRecOn k fun k HG => ⟨@ps_node_R k HG, @ps_wdef_R k HG, @ps_small_R k HG⟩
theorem ps_node_calls (k : Nat) : ps_node_C k := (WrG_all k).1
end Go.Proofs.YtnhifhlbelogcaaGreatDoor
