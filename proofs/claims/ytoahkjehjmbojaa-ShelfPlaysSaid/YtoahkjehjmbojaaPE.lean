/- Functions and their walks (printed by auto.py over the engine). -/
import Derived.Test.YtoahkjehjmbojaaProg
import Derived.Test.YtoahkjehjmbojaaPD
namespace Go.Proofs.Ytoahkjehjmbojaa
open Go Go.Eng
set_option linter.unusedSimpArgs false
set_option linter.unusedVariables false

theorem T.call118 : Callable Try.prog 118 := Callable.mk Try.func118 (by kernel_rfl) (by kernel_rfl)



def sk_PruneK.l2 : Nat → OpS → List KeyS → Int → List Pair → List Asked → List Asked → Int → Int → Int → List Key__int_ → Option (Int × ShK × ShR × (List Asked) × (List Asked))
  | 0, _, _, _, _, _, _, _, _, _, _ => none
  | k204 + 1, b1_1, l25, x28, l31, l42, l47, x194, x195, x196, l199 => (if x195 < (l25.length : Int) then (Option.bind (idx l25 x195) fun x209 => (Option.bind (sk_Drop k204 (⟨x196, l199⟩ : ShK) x209) fun t236 => (if t236.1 = 0 then (sk_PruneK.l2 k204 b1_1 l25 x28 l31 l42 l47 (w64 (x194 + 1)) (w64 (x195 + 1)) t236.2.most t236.2.pairs) else (sk_PruneK.l2 k204 b1_1 l25 x28 l31 l42 l47 x194 (w64 (x195 + 1)) t236.2.most t236.2.pairs)))) else (some (x194, (⟨x196, l199⟩ : ShK), (⟨x28, l31⟩ : ShR), l42, l47)))
def sk_PruneK.j1 (q52 : Nat) (b1_1 : OpS) (l25 : List KeyS) (x28 : Int) (l31 : List Pair) (x34 : Int) (l37 : List Key__int_) (l42 : List Asked) (l47 : List Asked) : Option (Int × ShK × ShR × (List Asked) × (List Asked)) := (sk_PruneK.l2 q52 b1_1 l25 x28 l31 l42 l47 0 0 x34 l37)
def sk_PruneK.l1 : Nat → OpS → (List Key__int_) → List KeyS → Int → Int → List Pair → Int → List Key__int_ → List Asked → List Asked → Option (Int × ShK × ShR × (List Asked) × (List Asked))
  | 0, _, _, _, _, _, _, _, _, _, _ => none
  | k93 + 1, b1_1, t54, l65, x68, x69, l72, x75, l78, l83, l88 => (if x68 < ((t54).length : Int) then (Option.bind (idx (t54) x68) fun x100 => (Option.bind (sd_clo k93 x100.key x100.value (⟨x75, l78⟩ : ShK) (⟨x69, l72⟩ : ShR) l83 l88 b1_1) fun t130 => (if t130.1 = true then (sk_PruneK.l1 k93 b1_1 t54 l65 (w64 (x68 + 1)) t130.2.2.1.Most t130.2.2.1.L t130.2.1.most t130.2.1.pairs (t130.2.2.2.1) (t130.2.2.2.2)) else (Option.bind (cat l65 ([x100.key] : List KeyS)) fun l179 => (sk_PruneK.l1 k93 b1_1 t54 l179 (w64 (x68 + 1)) t130.2.2.1.Most t130.2.2.1.L t130.2.1.most t130.2.1.pairs (t130.2.2.2.1) (t130.2.2.2.2)))))) else (sk_PruneK.j1 k93 b1_1 l65 x69 l72 x75 l78 l83 l88))
def sk_PruneK (k : Nat) (a1_0_0 : ShK) (a1_0_1 : ShR) (a1_0_2 : List Asked) (a1_0_3 : List Asked) (b1_1 : OpS) : Option (Int × ShK × ShR × (List Asked) × (List Asked)) := (Option.bind (sk_Clone k a1_0_0.pairs) fun t54 => (sk_PruneK.l1 k b1_1 t54 [] 0 a1_0_1.Most a1_0_1.L a1_0_0.most a1_0_0.pairs a1_0_2 a1_0_3))
set_option maxRecDepth 100000 in
set_option maxHeartbeats 1000000 in
theorem sk_PruneK_calls (k : Nat) {q1_0 : Nat} {p1_0 : Nat} (a1_0_0 : ShK) {p1_0_0 : Nat} {G1_0_0 : Grp} (a1_0_1 : ShR) {p1_0_1 : Nat} {G1_0_1 : Grp} (a1_0_2 : List Asked) {A1_0_2 : Option Addr} {c1_0_2 : Nat} {G1_0_2 : Grp} (a1_0_3 : List Asked) {A1_0_3 : Option Addr} {c1_0_3 : Nat} {G1_0_3 : Grp} (b1_1 : OpS) {q1_1 : Nat} {w : World} (hB1_0 : w.heap[q1_0]? = some (.cells #[.pointer (some ⟨p1_0, 0, none⟩)] 107 (0, 0))) (hN1_0 : q1_0 ∉ keys ([[(p1_0, .cells #[.pointer (some ⟨p1_0_0, 0, none⟩), .pointer (some ⟨p1_0_1, 0, none⟩), .slice A1_0_2 a1_0_2.length c1_0_2, .slice A1_0_3 a1_0_3.length c1_0_3] 110 (0, 0))], G1_0_0, G1_0_1, G1_0_2, G1_0_3] : List Grp).flatten) (hO1_0_0 : ObjO 169 ShK.rp p1_0_0 a1_0_0 G1_0_0) (hO1_0_1 : ObjO 172 ShR.rp p1_0_1 a1_0_1 G1_0_1) (hO1_0_2 : SlO 212 Asked.rp (.slice A1_0_2 a1_0_2.length c1_0_2) a1_0_2 G1_0_2) (hO1_0_3 : SlO 212 Asked.rp (.slice A1_0_3 a1_0_3.length c1_0_3) a1_0_3 G1_0_3) (hB1_1 : w.heap[q1_1]? = some (.cells #[.int .i64 b1_1.Kind, .int .i64 b1_1.On, .string (bs b1_1.K.S), .int .i64 b1_1.K.N, .int .i64 b1_1.V, .int .i64 b1_1.N, .int .i64 b1_1.M] 116 (0, 0))) (hN1_1 : q1_1 ∉ keys ([[(p1_0, .cells #[.pointer (some ⟨p1_0_0, 0, none⟩), .pointer (some ⟨p1_0_1, 0, none⟩), .slice A1_0_2 a1_0_2.length c1_0_2, .slice A1_0_3 a1_0_3.length c1_0_3] 110 (0, 0))], G1_0_0, G1_0_1, G1_0_2, G1_0_3] : List Grp).flatten) {r_ : Int × ShK × ShR × (List Asked) × (List Asked)} (h_ : sk_PruneK k a1_0_0 a1_0_1 a1_0_2 a1_0_3 b1_1 = some r_) (hp_ : Hp w ([[(p1_0, .cells #[.pointer (some ⟨p1_0_0, 0, none⟩), .pointer (some ⟨p1_0_1, 0, none⟩), .slice A1_0_2 a1_0_2.length c1_0_2, .slice A1_0_3 a1_0_3.length c1_0_3] 110 (0, 0))], G1_0_0, G1_0_1, G1_0_2, G1_0_3]).flatten) :
    Calls Try.prog 117 [.pointer (some ⟨p1_0_0, 0, none⟩), .func (.func 118) #[] #[.pointer (some ⟨q1_0, 0, none⟩), .pointer (some ⟨q1_1, 0, none⟩)]].toArray w fun e w' => ∃ Ge1_0_0' : Grp, ∃ Ge1_0_1' : Grp, ∃ Ae1_0_2' : Option Addr, ∃ ce1_0_2' : Nat, ∃ Ge1_0_2' : Grp, ∃ Ae1_0_3' : Option Addr, ∃ ce1_0_3' : Nat, ∃ Ge1_0_3' : Grp, e = .returned (.int .i64 r_.1) ∧ ObjO 169 ShK.rp p1_0_0 (r_.2.1) Ge1_0_0' ∧ ObjO 172 ShR.rp p1_0_1 (r_.2.2.1) Ge1_0_1' ∧ SlO 212 Asked.rp (.slice Ae1_0_2' (r_.2.2.2.1).length ce1_0_2') (r_.2.2.2.1) Ge1_0_2' ∧ SlO 212 Asked.rp (.slice Ae1_0_3' (r_.2.2.2.2).length ce1_0_3') (r_.2.2.2.2) Ge1_0_3' ∧ St w (KS [[(p1_0, .cells #[.pointer (some ⟨p1_0_0, 0, none⟩), .pointer (some ⟨p1_0_1, 0, none⟩), .slice A1_0_2 a1_0_2.length c1_0_2, .slice A1_0_3 a1_0_3.length c1_0_3] 110 (0, 0))], G1_0_0, G1_0_1, G1_0_2, G1_0_3]) w' [[(p1_0, .cells #[.pointer (some ⟨p1_0_0, 0, none⟩), .pointer (some ⟨p1_0_1, 0, none⟩), .slice Ae1_0_2' (r_.2.2.2.1).length ce1_0_2', .slice Ae1_0_3' (r_.2.2.2.2).length ce1_0_3'] 110 (0, 0))], Ge1_0_0', Ge1_0_1', Ge1_0_2', Ge1_0_3'] := by
 have hF := h_
 clear h_
 unfold sk_PruneK at hF
 have S := St.initK [[(p1_0, .cells #[.pointer (some ⟨p1_0_0, 0, none⟩), .pointer (some ⟨p1_0_1, 0, none⟩), .slice A1_0_2 a1_0_2.length c1_0_2, .slice A1_0_3 a1_0_3.length c1_0_3] 110 (0, 0))], G1_0_0, G1_0_1, G1_0_2, G1_0_3] hp_
 have S1 := S.front 1 rfl
 change St _ _ _ [G1_0_0, [(p1_0, .cells #[.pointer (some ⟨p1_0_0, 0, none⟩), .pointer (some ⟨p1_0_1, 0, none⟩), .slice A1_0_2 a1_0_2.length c1_0_2, .slice A1_0_3 a1_0_3.length c1_0_3] 110 (0, 0))], G1_0_1, G1_0_2, G1_0_3] at S1
 obtain ⟨cs2, G3, ho4, hg5⟩ := hO1_0_0
 obtain ⟨A6, c7, G8, rfl, hO9, hq10⟩ := ho4
 have S11 : St _ _ _ [[(p1_0_0, .cells #[.int .i64 a1_0_0.most, .slice A6 a1_0_0.pairs.length c7] 169 (0, 0))], G8, [(p1_0, .cells #[.pointer (some ⟨p1_0_0, 0, none⟩), .pointer (some ⟨p1_0_1, 0, none⟩), .slice A1_0_2 a1_0_2.length c1_0_2, .slice A1_0_3 a1_0_3.length c1_0_3] 110 (0, 0))], G1_0_1, G1_0_2, G1_0_3] := S1.objs (by rw [hg5, hq10]; simp)
 have S12 := S11.front 3 rfl
 change St _ _ _ [G1_0_1, [(p1_0_0, .cells #[.int .i64 a1_0_0.most, .slice A6 a1_0_0.pairs.length c7] 169 (0, 0))], G8, [(p1_0, .cells #[.pointer (some ⟨p1_0_0, 0, none⟩), .pointer (some ⟨p1_0_1, 0, none⟩), .slice A1_0_2 a1_0_2.length c1_0_2, .slice A1_0_3 a1_0_3.length c1_0_3] 110 (0, 0))], G1_0_2, G1_0_3] at S12
 obtain ⟨cs13, G14, ho15, hg16⟩ := hO1_0_1
 obtain ⟨A17, c18, G19, rfl, hO20, hq21⟩ := ho15
 have S22 : St _ _ _ [[(p1_0_1, .cells #[.int .i64 a1_0_1.Most, .slice A17 a1_0_1.L.length c18] 172 (0, 0))], G19, [(p1_0_0, .cells #[.int .i64 a1_0_0.most, .slice A6 a1_0_0.pairs.length c7] 169 (0, 0))], G8, [(p1_0, .cells #[.pointer (some ⟨p1_0_0, 0, none⟩), .pointer (some ⟨p1_0_1, 0, none⟩), .slice A1_0_2 a1_0_2.length c1_0_2, .slice A1_0_3 a1_0_3.length c1_0_3] 110 (0, 0))], G1_0_2, G1_0_3] := S12.objs (by rw [hg16, hq21]; simp)
 refine enter 48 [(0, .pointer (some ⟨p1_0_0, 0, none⟩)), (1, .func (.func 118) #[] #[.pointer (some ⟨q1_0, 0, none⟩), .pointer (some ⟨q1_1, 0, none⟩)])] Try.func117 rfl rfl rfl rfl ?_
 refine WCode.seq ?_
 refine WCode.region ?_
 refine WOps.p (G.assign rfl) rfl ?_
 refine WOps.nil ?_
 refine WEx.then_ ?_
 refine WCode.seq ?_
 refine WCode.region ?_
 refine WOps.p (G.assign rfl) rfl ?_
 refine WOps.nil ?_
 refine WEx.then_ ?_
 refine WCode.cutseq (fun l_ w_ => ∃ q52 : Nat, ∃ A23 : Option Addr, ∃ c24 : Nat, ∃ l25 : List KeyS, ∃ G26 : Grp, ∃ x28 : Int, ∃ A29 : Option Addr, ∃ c30 : Nat, ∃ l31 : List Pair, ∃ G32 : Grp, ∃ x34 : Int, ∃ A35 : Option Addr, ∃ c36 : Nat, ∃ l37 : List Key__int_, ∃ G38 : Grp, ∃ A40 : Option Addr, ∃ c41 : Nat, ∃ l42 : List Asked, ∃ G43 : Grp, ∃ A45 : Option Addr, ∃ c46 : Nat, ∃ l47 : List Asked, ∃ G48 : Grp, l_ = [(0, .pointer (some ⟨p1_0_0, 0, none⟩)), (5, .slice A23 l25.length c24)] ∧ sk_PruneK.j1 q52 b1_1 l25 x28 l31 x34 l37 l42 l47 = some r_ ∧ (SlO 103 KeyS.rp (.slice A23 l25.length c24) l25 G26) ∧ (SlO 205 Pair.rp (.slice A29 l31.length c30) l31 G32) ∧ (SlO 203 Key__int_.rp (.slice A35 l37.length c36) l37 G38) ∧ (SlO 212 Asked.rp (.slice A40 l42.length c41) l42 G43) ∧ (SlO 212 Asked.rp (.slice A45 l47.length c46) l47 G48) ∧ St w (KS [[(p1_0, .cells #[.pointer (some ⟨p1_0_0, 0, none⟩), .pointer (some ⟨p1_0_1, 0, none⟩), .slice A1_0_2 a1_0_2.length c1_0_2, .slice A1_0_3 a1_0_3.length c1_0_3] 110 (0, 0))], G1_0_0, G1_0_1, G1_0_2, G1_0_3]) w_ [[(p1_0_1, .cells #[.int .i64 x28, .slice A29 l31.length c30] 172 (0, 0))], [(p1_0_0, .cells #[.int .i64 x34, .slice A35 l37.length c36] 169 (0, 0))], [(p1_0, .cells #[.pointer (some ⟨p1_0_0, 0, none⟩), .pointer (some ⟨p1_0_1, 0, none⟩), .slice A40 l42.length c41, .slice A45 l47.length c46] 110 (0, 0))], G26, G32, G38, G43, G48]) ?_ ?_
 ·
  refine WCode.seq ?_
  refine WCode.region ?_
  refine WOps.p (G.move rfl) rfl ?_
  refine WOps.p (G.nilp rfl) rfl ?_
  refine WOps.p (G.field T.fld169_1 rfl (show 0 + 1 = 1 from rfl)) rfl ?_
  refine WOps.r (G.load1 T.one167 rfl (cell_blk (S22.blk 2 rfl) rfl)) rfl ?_
  obtain ⟨t54, hc55, hF⟩ := bind_some hF
  refine WOps.call T.call129 (evs_cons rfl evs_nil) rfl ?_
  refine (sk_Clone_calls k a1_0_0.pairs (hO9.rd (fun b o hb => S22.grp 3 rfl hb)) (St.outG (Bs := []) S22 3 rfl) hc55).mono ?_
  rintro _ w56 ⟨A59, c60, G61, rfl, hO62, T57⟩
  have S58 := St.callN (As := []) S22 T57
  change St _ _ _ [G61, [(p1_0_1, .cells #[.int .i64 a1_0_1.Most, .slice A17 a1_0_1.L.length c18] 172 (0, 0))], G19, [(p1_0_0, .cells #[.int .i64 a1_0_0.most, .slice A6 a1_0_0.pairs.length c7] 169 (0, 0))], G8, [(p1_0, .cells #[.pointer (some ⟨p1_0_0, 0, none⟩), .pointer (some ⟨p1_0_1, 0, none⟩), .slice A1_0_2 a1_0_2.length c1_0_2, .slice A1_0_3 a1_0_3.length c1_0_3] 110 (0, 0))], G1_0_2, G1_0_3] at S58
  refine ⟨_, rfl, ?_⟩
  refine WOps.p (G.len T.el167 rfl) rfl ?_
  refine WOps.p (G.move rfl) rfl ?_
  refine WOps.nil ?_
  refine WEx.then_ ?_
  refine WCode.block ?_
  have S95 := S58.emp
  have S97 : St _ _ _ [[(p1_0_1, .cells #[.int .i64 a1_0_1.Most, .slice A17 a1_0_1.L.length c18] 172 (0, 0))], [(p1_0_0, .cells #[.int .i64 a1_0_0.most, .slice A6 a1_0_0.pairs.length c7] 169 (0, 0))], [(p1_0, .cells #[.pointer (some ⟨p1_0_0, 0, none⟩), .pointer (some ⟨p1_0_1, 0, none⟩), .slice A1_0_2 a1_0_2.length c1_0_2, .slice A1_0_3 a1_0_3.length c1_0_3] 110 (0, 0))], G61, ([] : Grp), G19, G8, G1_0_2, G1_0_3] := St.reord S95 [2, 4, 6, 1, 0, 3, 5, 7, 8] 9 rfl (by decide) rfl
  refine WCode.forget (l' := [(0, .pointer (some ⟨p1_0_0, 0, none⟩)), (1, .func (.func 118) #[] #[.pointer (some ⟨q1_0, 0, none⟩), .pointer (some ⟨q1_1, 0, none⟩)]), (5, .slice none 0 0), (15, .slice A59 (t54).length c60), (16, .int .i64 ((t54).length : Int)), (17, .int .i64 0)]) ⟨rfl, rfl, rfl, rfl, rfl, rfl, trivial⟩ ?_
  refine WCode.loop (fun n_ l_ w_ => ∃ A63 : Option Addr, ∃ c64 : Nat, ∃ l65 : List KeyS, ∃ G66 : Grp, ∃ x68 : Int, ∃ x69 : Int, ∃ A70 : Option Addr, ∃ c71 : Nat, ∃ l72 : List Pair, ∃ G73 : Grp, ∃ x75 : Int, ∃ A76 : Option Addr, ∃ c77 : Nat, ∃ l78 : List Key__int_, ∃ G79 : Grp, ∃ A81 : Option Addr, ∃ c82 : Nat, ∃ l83 : List Asked, ∃ G84 : Grp, ∃ A86 : Option Addr, ∃ c87 : Nat, ∃ l88 : List Asked, ∃ G89 : Grp, l_ = [(0, .pointer (some ⟨p1_0_0, 0, none⟩)), (1, .func (.func 118) #[] #[.pointer (some ⟨q1_0, 0, none⟩), .pointer (some ⟨q1_1, 0, none⟩)]), (5, .slice A63 l65.length c64), (15, .slice A59 (t54).length c60), (16, .int .i64 ((t54).length : Int)), (17, .int .i64 x68)] ∧ sk_PruneK.l1 n_ b1_1 t54 l65 x68 x69 l72 x75 l78 l83 l88 = some r_ ∧ (SlO 103 KeyS.rp (.slice A63 l65.length c64) l65 G66) ∧ (SlO 205 Pair.rp (.slice A70 l72.length c71) l72 G73) ∧ (SlO 203 Key__int_.rp (.slice A76 l78.length c77) l78 G79) ∧ (SlO 212 Asked.rp (.slice A81 l83.length c82) l83 G84) ∧ (SlO 212 Asked.rp (.slice A86 l88.length c87) l88 G89) ∧ St w (KS [[(p1_0, .cells #[.pointer (some ⟨p1_0_0, 0, none⟩), .pointer (some ⟨p1_0_1, 0, none⟩), .slice A1_0_2 a1_0_2.length c1_0_2, .slice A1_0_3 a1_0_3.length c1_0_3] 110 (0, 0))], G1_0_0, G1_0_1, G1_0_2, G1_0_3]) w_ [[(p1_0_1, .cells #[.int .i64 x69, .slice A70 l72.length c71] 172 (0, 0))], [(p1_0_0, .cells #[.int .i64 x75, .slice A76 l78.length c77] 169 (0, 0))], [(p1_0, .cells #[.pointer (some ⟨p1_0_0, 0, none⟩), .pointer (some ⟨p1_0_1, 0, none⟩), .slice A81 l83.length c82, .slice A86 l88.length c87] 110 (0, 0))], G61, G66, G73, G79, G84, G89]) k ⟨none, 0, [], ([] : Grp), 0, a1_0_1.Most, A17, c18, a1_0_1.L, G19, a1_0_0.most, A6, c7, a1_0_0.pairs, G8, A1_0_2, c1_0_2, a1_0_2, G1_0_2, A1_0_3, c1_0_3, a1_0_3, G1_0_3, rfl, hF, (SlO.nil 103 KeyS.rp), hO20, hO9, hO1_0_2, hO1_0_3, S97⟩ ?_
  rintro n94 _ w91 ⟨A63, c64, l65, G66, x68, x69, A70, c71, l72, G73, x75, A76, c77, l78, G79, A81, c82, l83, G84, A86, c87, l88, G89, rfl, hF, hO67, hO74, hO80, hO85, hO90, S92⟩
  obtain _ | k93 := n94
  · exact nomatch (show (none : Option (Int × ShK × ShR × (List Asked) × (List Asked))) = some r_ from hF)
  rw [sk_PruneK.l1] at hF
  refine WCode.seq ?_
  refine WCode.region ?_
  refine WOps.p (G.lss rfl rfl rfl) rfl ?_
  refine WOps.nil ?_
  refine WEx.then_ ?_
  refine WCode.seq ?_
  rcases ite_some hF with ⟨h99, hF⟩ | ⟨h99, hF⟩
  ·
   refine WCode.cond_t (kb (b := decide (x68 < ((t54).length : Int))) rfl (decide_eq_true h99)) ?_
   refine WCode.skip ?_
   refine WEx.then_ ?_
   refine WCode.seq ?_
   refine WCode.block ?_
   refine WCode.seq ?_
   refine WCode.region ?_
   obtain ⟨x100, hc101, hF⟩ := bind_some hF
   obtain ⟨j102, ej103, hj104, hl105⟩ := idx_spec hc101
   obtain ⟨b106, o107, cs108, eA109, hf110, hc111, hr112⟩ := SlR.at_ (hO62.rd (fun b o hb => S92.grp 3 rfl hb)) hj104
   have hq113 : cs108 = [.string (bs x100.key.S), .int .i64 x100.key.N, .int .i64 x100.value] := hr112
   subst hq113
   change cellsAt _ _ (o107 + j102 * 3) [.string (bs x100.key.S), .int .i64 x100.key.N, .int .i64 x100.value] at hc111
   refine WOps.p (G.idx T.el167 rfl eA109 rfl ej103 hl105) rfl ?_
   refine WOps.r (G.loada T.agg203_3 rfl (cs := [.string (bs x100.key.S), .int .i64 x100.key.N, .int .i64 x100.value]) hc111) rfl ?_
   obtain ⟨b114, w115, E116, S117, X118, L119⟩ := St.var S92 (z := .agg #[.string (bs ([] : List UInt8)), .int .i64 0, .int .i64 0]) T.zero203
   have c120 := hc111.ext X118
   change St _ _ _ [[(b114, .cells #[.string (bs ([] : List UInt8)), .int .i64 0, .int .i64 0] 203 (0, 0))], [(p1_0_1, .cells #[.int .i64 x69, .slice A70 l72.length c71] 172 (0, 0))], [(p1_0_0, .cells #[.int .i64 x75, .slice A76 l78.length c77] 169 (0, 0))], [(p1_0, .cells #[.pointer (some ⟨p1_0_0, 0, none⟩), .pointer (some ⟨p1_0_1, 0, none⟩), .slice A81 l83.length c82, .slice A86 l88.length c87] 110 (0, 0))], G61, G66, G73, G79, G84, G89] at S117
   refine WOps.e E116 rfl ?_
   obtain ⟨w121, E122, S123⟩ := St.store (P := Try.prog) S117 0 203 (.agg #[.string (bs x100.key.S), .int .i64 x100.key.N, .int .i64 x100.value]) (off := 0) (cur' := #[.string (bs x100.key.S), .int .i64 x100.key.N, .int .i64 x100.value]) rfl T.size203_3 rfl rfl rfl
   change St _ _ _ [[(b114, .cells #[.string (bs x100.key.S), .int .i64 x100.key.N, .int .i64 x100.value] 203 (0, 0))], [(p1_0_1, .cells #[.int .i64 x69, .slice A70 l72.length c71] 172 (0, 0))], [(p1_0_0, .cells #[.int .i64 x75, .slice A76 l78.length c77] 169 (0, 0))], [(p1_0, .cells #[.pointer (some ⟨p1_0_0, 0, none⟩), .pointer (some ⟨p1_0_1, 0, none⟩), .slice A81 l83.length c82, .slice A86 l88.length c87] 110 (0, 0))], G61, G66, G73, G79, G84, G89] at S123
   refine WOps.u (E122 rfl rfl) ?_
   refine WOps.nil ?_
   refine WEx.then_ ?_
   refine WCode.seq ?_
   refine WCode.region ?_
   refine WOps.p (G.move rfl) rfl ?_
   refine WOps.p (G.field T.fld203_0 rfl (show 0 + 0 = 0 from rfl)) rfl ?_
   refine WOps.r (G.loada T.agg103_2 rfl (cs := [.string (bs x100.key.S), .int .i64 x100.key.N]) (cellsAt.of_blk (S123.blk 0 rfl) rfl)) rfl ?_
   refine WOps.p (G.field T.fld203_1 rfl (show 0 + 2 = 2 from rfl)) rfl ?_
   refine WOps.r (G.load1 T.one3 rfl (cell_blk (S123.blk 0 rfl) rfl)) rfl ?_
   have S124 := (S123.front 7 rfl).front 3 rfl
   change St _ _ _ [[(p1_0_0, .cells #[.int .i64 x75, .slice A76 l78.length c77] 169 (0, 0))], G79, [(b114, .cells #[.string (bs x100.key.S), .int .i64 x100.key.N, .int .i64 x100.value] 203 (0, 0))], [(p1_0_1, .cells #[.int .i64 x69, .slice A70 l72.length c71] 172 (0, 0))], [(p1_0, .cells #[.pointer (some ⟨p1_0_0, 0, none⟩), .pointer (some ⟨p1_0_1, 0, none⟩), .slice A81 l83.length c82, .slice A86 l88.length c87] 110 (0, 0))], G61, G66, G73, G84, G89] at S124
   have hO125 : ObjO 169 ShK.rp p1_0_0 (⟨x75, l78⟩ : ShK) ([(p1_0_0, .cells #[.int .i64 x75, .slice A76 l78.length c77] 169 (0, 0))] ++ (G79)) := ⟨_, _, ⟨A76, c77, G79, rfl, hO80, rfl⟩, rfl⟩
   have S126 : St _ _ _ [[(p1_0_0, .cells #[.int .i64 x75, .slice A76 l78.length c77] 169 (0, 0))] ++ (G79), [(b114, .cells #[.string (bs x100.key.S), .int .i64 x100.key.N, .int .i64 x100.value] 203 (0, 0))], [(p1_0_1, .cells #[.int .i64 x69, .slice A70 l72.length c71] 172 (0, 0))], [(p1_0, .cells #[.pointer (some ⟨p1_0_0, 0, none⟩), .pointer (some ⟨p1_0_1, 0, none⟩), .slice A81 l83.length c82, .slice A86 l88.length c87] 110 (0, 0))], G61, G66, G73, G84, G89] := S124.objs (by simp)
   have S127 := (S126.front 6 rfl).front 3 rfl
   change St _ _ _ [[(p1_0_1, .cells #[.int .i64 x69, .slice A70 l72.length c71] 172 (0, 0))], G73, [(p1_0_0, .cells #[.int .i64 x75, .slice A76 l78.length c77] 169 (0, 0))] ++ (G79), [(b114, .cells #[.string (bs x100.key.S), .int .i64 x100.key.N, .int .i64 x100.value] 203 (0, 0))], [(p1_0, .cells #[.pointer (some ⟨p1_0_0, 0, none⟩), .pointer (some ⟨p1_0_1, 0, none⟩), .slice A81 l83.length c82, .slice A86 l88.length c87] 110 (0, 0))], G61, G66, G84, G89] at S127
   have hO128 : ObjO 172 ShR.rp p1_0_1 (⟨x69, l72⟩ : ShR) ([(p1_0_1, .cells #[.int .i64 x69, .slice A70 l72.length c71] 172 (0, 0))] ++ (G73)) := ⟨_, _, ⟨A70, c71, G73, rfl, hO74, rfl⟩, rfl⟩
   have S129 : St _ _ _ [[(p1_0_1, .cells #[.int .i64 x69, .slice A70 l72.length c71] 172 (0, 0))] ++ (G73), [(p1_0_0, .cells #[.int .i64 x75, .slice A76 l78.length c77] 169 (0, 0))] ++ (G79), [(b114, .cells #[.string (bs x100.key.S), .int .i64 x100.key.N, .int .i64 x100.value] 203 (0, 0))], [(p1_0, .cells #[.pointer (some ⟨p1_0_0, 0, none⟩), .pointer (some ⟨p1_0_1, 0, none⟩), .slice A81 l83.length c82, .slice A86 l88.length c87] 110 (0, 0))], G61, G66, G84, G89] := S127.objs (by simp)
   obtain ⟨t130, hc131, hF⟩ := bind_some hF
   have S132 : St _ _ _ [[(p1_0, .cells #[.pointer (some ⟨p1_0_0, 0, none⟩), .pointer (some ⟨p1_0_1, 0, none⟩), .slice A81 l83.length c82, .slice A86 l88.length c87] 110 (0, 0))], [(p1_0_0, .cells #[.int .i64 x75, .slice A76 l78.length c77] 169 (0, 0))] ++ (G79), [(p1_0_1, .cells #[.int .i64 x69, .slice A70 l72.length c71] 172 (0, 0))] ++ (G73), G84, G89, [(b114, .cells #[.string (bs x100.key.S), .int .i64 x100.key.N, .int .i64 x100.value] 203 (0, 0))], G61, G66] := St.reord S129 [3, 1, 0, 6, 7, 2, 4, 5] 8 rfl (by decide) rfl
   refine WOps.callv T.call118 rfl (evs_cons rfl (evs_cons rfl evs_nil)) rfl ?_
   refine (sd_clo_calls k93 x100.key x100.value (⟨x75, l78⟩ : ShK) (⟨x69, l72⟩ : ShR) l83 l88 b1_1 ((S132.fr q1_0 (lt_of_blk hB1_0) hN1_0).trans hB1_0) (St.outF (Bs := [[(p1_0, .cells #[.pointer (some ⟨p1_0_0, 0, none⟩), .pointer (some ⟨p1_0_1, 0, none⟩), .slice A81 l83.length c82, .slice A86 l88.length c87] 110 (0, 0))], [(p1_0_0, .cells #[.int .i64 x75, .slice A76 l78.length c77] 169 (0, 0))] ++ (G79), [(p1_0_1, .cells #[.int .i64 x69, .slice A70 l72.length c71] 172 (0, 0))] ++ (G73), G84, G89]) (F := (· = q1_0)) S132 (fun b hb => hb ▸ ⟨hN1_0, lt_of_blk hB1_0⟩) q1_0 rfl).1 hO125 hO128 hO85 hO90 ((S132.fr q1_1 (lt_of_blk hB1_1) hN1_1).trans hB1_1) (St.outF (Bs := [[(p1_0, .cells #[.pointer (some ⟨p1_0_0, 0, none⟩), .pointer (some ⟨p1_0_1, 0, none⟩), .slice A81 l83.length c82, .slice A86 l88.length c87] 110 (0, 0))], [(p1_0_0, .cells #[.int .i64 x75, .slice A76 l78.length c77] 169 (0, 0))] ++ (G79), [(p1_0_1, .cells #[.int .i64 x69, .slice A70 l72.length c71] 172 (0, 0))] ++ (G73), G84, G89]) (F := (· = q1_1)) S132 (fun b hb => hb ▸ ⟨hN1_1, lt_of_blk hB1_1⟩) q1_1 rfl).1 hc131 (St.hpN (As := [[(p1_0, .cells #[.pointer (some ⟨p1_0_0, 0, none⟩), .pointer (some ⟨p1_0_1, 0, none⟩), .slice A81 l83.length c82, .slice A86 l88.length c87] 110 (0, 0))], [(p1_0_0, .cells #[.int .i64 x75, .slice A76 l78.length c77] 169 (0, 0))] ++ (G79), [(p1_0_1, .cells #[.int .i64 x69, .slice A70 l72.length c71] 172 (0, 0))] ++ (G73), G84, G89]) S132)).mono ?_
   rintro _ w133 ⟨G136, G138, A140, c141, G142, A144, c145, G146, rfl, hO137, hO139, hO143, hO147, T134⟩
   have S135 := St.callN (As := [[(p1_0, .cells #[.pointer (some ⟨p1_0_0, 0, none⟩), .pointer (some ⟨p1_0_1, 0, none⟩), .slice A81 l83.length c82, .slice A86 l88.length c87] 110 (0, 0))], [(p1_0_0, .cells #[.int .i64 x75, .slice A76 l78.length c77] 169 (0, 0))] ++ (G79), [(p1_0_1, .cells #[.int .i64 x69, .slice A70 l72.length c71] 172 (0, 0))] ++ (G73), G84, G89]) S132 T134
   change St _ _ _ [[(p1_0, .cells #[.pointer (some ⟨p1_0_0, 0, none⟩), .pointer (some ⟨p1_0_1, 0, none⟩), .slice A140 (t130.2.2.2.1).length c141, .slice A144 (t130.2.2.2.2).length c145] 110 (0, 0))], G136, G138, G142, G146, [(b114, .cells #[.string (bs x100.key.S), .int .i64 x100.key.N, .int .i64 x100.value] 203 (0, 0))], G61, G66] at S135
   refine ⟨_, rfl, ?_⟩
   have S148 := S135.front 1 rfl
   change St _ _ _ [G136, [(p1_0, .cells #[.pointer (some ⟨p1_0_0, 0, none⟩), .pointer (some ⟨p1_0_1, 0, none⟩), .slice A140 (t130.2.2.2.1).length c141, .slice A144 (t130.2.2.2.2).length c145] 110 (0, 0))], G138, G142, G146, [(b114, .cells #[.string (bs x100.key.S), .int .i64 x100.key.N, .int .i64 x100.value] 203 (0, 0))], G61, G66] at S148
   obtain ⟨cs149, G150, ho151, hg152⟩ := hO137
   obtain ⟨A153, c154, G155, rfl, hO156, hq157⟩ := ho151
   have S158 : St _ _ _ [[(p1_0_0, .cells #[.int .i64 t130.2.1.most, .slice A153 t130.2.1.pairs.length c154] 169 (0, 0))], G155, [(p1_0, .cells #[.pointer (some ⟨p1_0_0, 0, none⟩), .pointer (some ⟨p1_0_1, 0, none⟩), .slice A140 (t130.2.2.2.1).length c141, .slice A144 (t130.2.2.2.2).length c145] 110 (0, 0))], G138, G142, G146, [(b114, .cells #[.string (bs x100.key.S), .int .i64 x100.key.N, .int .i64 x100.value] 203 (0, 0))], G61, G66] := S148.objs (by rw [hg152, hq157]; simp)
   have S159 := S158.front 3 rfl
   change St _ _ _ [G138, [(p1_0_0, .cells #[.int .i64 t130.2.1.most, .slice A153 t130.2.1.pairs.length c154] 169 (0, 0))], G155, [(p1_0, .cells #[.pointer (some ⟨p1_0_0, 0, none⟩), .pointer (some ⟨p1_0_1, 0, none⟩), .slice A140 (t130.2.2.2.1).length c141, .slice A144 (t130.2.2.2.2).length c145] 110 (0, 0))], G142, G146, [(b114, .cells #[.string (bs x100.key.S), .int .i64 x100.key.N, .int .i64 x100.value] 203 (0, 0))], G61, G66] at S159
   obtain ⟨cs160, G161, ho162, hg163⟩ := hO139
   obtain ⟨A164, c165, G166, rfl, hO167, hq168⟩ := ho162
   have S169 : St _ _ _ [[(p1_0_1, .cells #[.int .i64 t130.2.2.1.Most, .slice A164 t130.2.2.1.L.length c165] 172 (0, 0))], G166, [(p1_0_0, .cells #[.int .i64 t130.2.1.most, .slice A153 t130.2.1.pairs.length c154] 169 (0, 0))], G155, [(p1_0, .cells #[.pointer (some ⟨p1_0_0, 0, none⟩), .pointer (some ⟨p1_0_1, 0, none⟩), .slice A140 (t130.2.2.2.1).length c141, .slice A144 (t130.2.2.2.2).length c145] 110 (0, 0))], G142, G146, [(b114, .cells #[.string (bs x100.key.S), .int .i64 x100.key.N, .int .i64 x100.value] 203 (0, 0))], G61, G66] := S159.objs (by rw [hg163, hq168]; simp)
   refine WOps.p (G.not rfl rfl) rfl ?_
   refine WOps.nil ?_
   refine WEx.then_ ?_
   rcases ite_some hF with ⟨h170, hF⟩ | ⟨h170, hF⟩
   ·
    refine WCode.cond_f (kb (b := !t130.1) rfl (show (!t130.1) = false from by rw [h170]; rfl)) ?_
    refine WCode.skip ?_
    refine WEx.in_normal ?_
    refine WEx.then_ ?_
    refine WCode.forget (l' := [(0, .pointer (some ⟨p1_0_0, 0, none⟩)), (1, .func (.func 118) #[] #[.pointer (some ⟨q1_0, 0, none⟩), .pointer (some ⟨q1_1, 0, none⟩)]), (5, .slice A63 l65.length c64), (15, .slice A59 (t54).length c60), (16, .int .i64 ((t54).length : Int)), (17, .int .i64 x68)]) ⟨rfl, rfl, rfl, rfl, rfl, rfl, trivial⟩ ?_
    refine WCode.region ?_
    refine WOps.p (G.add rfl rfl (r := (w64 (x68 + 1))) rfl) rfl ?_
    refine WOps.p (G.move rfl) rfl ?_
    refine WOps.nil ?_
    have S171 : St _ _ _ [[(p1_0_1, .cells #[.int .i64 t130.2.2.1.Most, .slice A164 t130.2.2.1.L.length c165] 172 (0, 0))], [(p1_0_0, .cells #[.int .i64 t130.2.1.most, .slice A153 t130.2.1.pairs.length c154] 169 (0, 0))], [(p1_0, .cells #[.pointer (some ⟨p1_0_0, 0, none⟩), .pointer (some ⟨p1_0_1, 0, none⟩), .slice A140 (t130.2.2.2.1).length c141, .slice A144 (t130.2.2.2.2).length c145] 110 (0, 0))], G61, G66, G166, G155, G142, G146, [(b114, .cells #[.string (bs x100.key.S), .int .i64 x100.key.N, .int .i64 x100.value] 203 (0, 0))]] := St.reord S169 [0, 2, 4, 8, 9, 1, 3, 5, 6, 7] 10 rfl (by decide) rfl
    have S172 := St.keep (As := [[(p1_0_1, .cells #[.int .i64 t130.2.2.1.Most, .slice A164 t130.2.2.1.L.length c165] 172 (0, 0))], [(p1_0_0, .cells #[.int .i64 t130.2.1.most, .slice A153 t130.2.1.pairs.length c154] 169 (0, 0))], [(p1_0, .cells #[.pointer (some ⟨p1_0_0, 0, none⟩), .pointer (some ⟨p1_0_1, 0, none⟩), .slice A140 (t130.2.2.2.1).length c141, .slice A144 (t130.2.2.2.2).length c145] 110 (0, 0))], G61, G66, G166, G155, G142, G146]) S171
    refine WEx.again _ _ (by omega) ?_ ⟨A63, c64, l65, G66, w64 (x68 + 1), t130.2.2.1.Most, A164, c165, t130.2.2.1.L, G166, t130.2.1.most, A153, c154, t130.2.1.pairs, G155, A140, c141, (t130.2.2.2.1), G142, A144, c145, (t130.2.2.2.2), G146, rfl, hF, hO67, hO167, hO156, hO143, hO147, S172⟩
    exact ⟨rfl, rfl, rfl, rfl, rfl, rfl, trivial⟩
   ·
    refine WCode.cond_t (kb (b := !t130.1) rfl (show (!t130.1) = true from by rw [(Bool.eq_false_iff.2 h170)]; rfl)) ?_
    refine WCode.region ?_
    refine WOps.p (G.move rfl) rfl ?_
    refine WOps.p (G.field T.fld203_0 rfl (show 0 + 0 = 0 from rfl)) rfl ?_
    refine WOps.r (G.loada T.agg103_2 rfl (cs := [.string (bs x100.key.S), .int .i64 x100.key.N]) (cellsAt.of_blk (S169.blk 7 rfl) rfl)) rfl ?_
    obtain ⟨b173, w174, E175, S176, X177, L178⟩ := St.lit S169 (P := Try.prog) (t := 176) (e := 103) (n := 1) (vs := [(0, .agg #[.string (bs x100.key.S), .int .i64 x100.key.N])]) (cs := #[.string (bs x100.key.S), .int .i64 x100.key.N]) (by kernel_rfl)
    change St _ _ _ [[(b173, .cells #[.string (bs x100.key.S), .int .i64 x100.key.N] 103 (0, 0))], [(p1_0_1, .cells #[.int .i64 t130.2.2.1.Most, .slice A164 t130.2.2.1.L.length c165] 172 (0, 0))], G166, [(p1_0_0, .cells #[.int .i64 t130.2.1.most, .slice A153 t130.2.1.pairs.length c154] 169 (0, 0))], G155, [(p1_0, .cells #[.pointer (some ⟨p1_0_0, 0, none⟩), .pointer (some ⟨p1_0_1, 0, none⟩), .slice A140 (t130.2.2.2.1).length c141, .slice A144 (t130.2.2.2.2).length c145] 110 (0, 0))], G142, G146, [(b114, .cells #[.string (bs x100.key.S), .int .i64 x100.key.N, .int .i64 x100.value] 203 (0, 0))], G61, G66] at S176
    refine WOps.e (E175 (evp_cons rfl evp_nil)) rfl ?_
    obtain ⟨l179, hc180, hF⟩ := bind_some hF
    have S181 := S176.front 10 rfl
    change St _ _ _ [G66, [(b173, .cells #[.string (bs x100.key.S), .int .i64 x100.key.N] 103 (0, 0))], [(p1_0_1, .cells #[.int .i64 t130.2.2.1.Most, .slice A164 t130.2.2.1.L.length c165] 172 (0, 0))], G166, [(p1_0_0, .cells #[.int .i64 t130.2.1.most, .slice A153 t130.2.1.pairs.length c154] 169 (0, 0))], G155, [(p1_0, .cells #[.pointer (some ⟨p1_0_0, 0, none⟩), .pointer (some ⟨p1_0_1, 0, none⟩), .slice A140 (t130.2.2.2.1).length c141, .slice A144 (t130.2.2.2.2).length c145] 110 (0, 0))], G142, G146, [(b114, .cells #[.string (bs x100.key.S), .int .i64 x100.key.N, .int .i64 x100.value] 203 (0, 0))], G61] at S181
    obtain ⟨A182, c183, G184, w185, E186, hO187, S188, hk189⟩ := St.appP (P := Try.prog) (r := KeyS.rp) (M := ([x100.key] : List KeyS)) S181 T.elt176 rfl hO67 (Rd.of_blk (S181.blk 1 rfl) (n := 1) (sz := 2) rfl) ⟨_, _, [], [], rfl, rfl, ⟨rfl, rfl⟩, ⟨rfl, rfl⟩⟩ rfl hc180
    change St _ _ _ [G184, [(b173, .cells #[.string (bs x100.key.S), .int .i64 x100.key.N] 103 (0, 0))], [(p1_0_1, .cells #[.int .i64 t130.2.2.1.Most, .slice A164 t130.2.2.1.L.length c165] 172 (0, 0))], G166, [(p1_0_0, .cells #[.int .i64 t130.2.1.most, .slice A153 t130.2.1.pairs.length c154] 169 (0, 0))], G155, [(p1_0, .cells #[.pointer (some ⟨p1_0_0, 0, none⟩), .pointer (some ⟨p1_0_1, 0, none⟩), .slice A140 (t130.2.2.2.1).length c141, .slice A144 (t130.2.2.2.2).length c145] 110 (0, 0))], G142, G146, [(b114, .cells #[.string (bs x100.key.S), .int .i64 x100.key.N, .int .i64 x100.value] 203 (0, 0))], G61] at S188
    refine WOps.e (E186 rfl rfl) rfl ?_
    refine WOps.p (G.assign rfl) rfl ?_
    refine WOps.nil ?_
    refine WEx.in_normal ?_
    refine WEx.then_ ?_
    refine WCode.forget (l' := [(0, .pointer (some ⟨p1_0_0, 0, none⟩)), (1, .func (.func 118) #[] #[.pointer (some ⟨q1_0, 0, none⟩), .pointer (some ⟨q1_1, 0, none⟩)]), (5, .slice A182 l179.length c183), (15, .slice A59 (t54).length c60), (16, .int .i64 ((t54).length : Int)), (17, .int .i64 x68)]) ⟨rfl, rfl, rfl, rfl, rfl, rfl, trivial⟩ ?_
    refine WCode.region ?_
    refine WOps.p (G.add rfl rfl (r := (w64 (x68 + 1))) rfl) rfl ?_
    refine WOps.p (G.move rfl) rfl ?_
    refine WOps.nil ?_
    have S190 : St _ _ _ [[(p1_0_1, .cells #[.int .i64 t130.2.2.1.Most, .slice A164 t130.2.2.1.L.length c165] 172 (0, 0))], [(p1_0_0, .cells #[.int .i64 t130.2.1.most, .slice A153 t130.2.1.pairs.length c154] 169 (0, 0))], [(p1_0, .cells #[.pointer (some ⟨p1_0_0, 0, none⟩), .pointer (some ⟨p1_0_1, 0, none⟩), .slice A140 (t130.2.2.2.1).length c141, .slice A144 (t130.2.2.2.2).length c145] 110 (0, 0))], G61, G184, G166, G155, G142, G146, [(b173, .cells #[.string (bs x100.key.S), .int .i64 x100.key.N] 103 (0, 0))], [(b114, .cells #[.string (bs x100.key.S), .int .i64 x100.key.N, .int .i64 x100.value] 203 (0, 0))]] := St.reord S188 [2, 4, 6, 10, 0, 3, 5, 7, 8, 1, 9] 11 rfl (by decide) rfl
    have S191 := St.keep (As := [[(p1_0_1, .cells #[.int .i64 t130.2.2.1.Most, .slice A164 t130.2.2.1.L.length c165] 172 (0, 0))], [(p1_0_0, .cells #[.int .i64 t130.2.1.most, .slice A153 t130.2.1.pairs.length c154] 169 (0, 0))], [(p1_0, .cells #[.pointer (some ⟨p1_0_0, 0, none⟩), .pointer (some ⟨p1_0_1, 0, none⟩), .slice A140 (t130.2.2.2.1).length c141, .slice A144 (t130.2.2.2.2).length c145] 110 (0, 0))], G61, G184, G166, G155, G142, G146]) S190
    refine WEx.again _ _ (by omega) ?_ ⟨A182, c183, l179, G184, w64 (x68 + 1), t130.2.2.1.Most, A164, c165, t130.2.2.1.L, G166, t130.2.1.most, A153, c154, t130.2.1.pairs, G155, A140, c141, (t130.2.2.2.1), G142, A144, c145, (t130.2.2.2.2), G146, rfl, hF, hO187, hO167, hO156, hO143, hO147, S191⟩
    exact ⟨rfl, rfl, rfl, rfl, rfl, rfl, trivial⟩
  ·
   refine WCode.cond_f (kb (b := decide (x68 < ((t54).length : Int))) rfl (decide_eq_false h99)) ?_
   refine WCode.exit ?_
   refine WEx.then_exit ?_
   refine WEx.then_exit ?_
   refine WEx.in_exit ?_
   have S192 : St _ _ _ [[(p1_0_1, .cells #[.int .i64 x69, .slice A70 l72.length c71] 172 (0, 0))], [(p1_0_0, .cells #[.int .i64 x75, .slice A76 l78.length c77] 169 (0, 0))], [(p1_0, .cells #[.pointer (some ⟨p1_0_0, 0, none⟩), .pointer (some ⟨p1_0_1, 0, none⟩), .slice A81 l83.length c82, .slice A86 l88.length c87] 110 (0, 0))], G66, G73, G79, G84, G89, G61] := St.reord S92 [0, 1, 2, 4, 5, 6, 7, 8, 3] 9 rfl (by decide) rfl
   have S193 := St.keep (As := [[(p1_0_1, .cells #[.int .i64 x69, .slice A70 l72.length c71] 172 (0, 0))], [(p1_0_0, .cells #[.int .i64 x75, .slice A76 l78.length c77] 169 (0, 0))], [(p1_0, .cells #[.pointer (some ⟨p1_0_0, 0, none⟩), .pointer (some ⟨p1_0_1, 0, none⟩), .slice A81 l83.length c82, .slice A86 l88.length c87] 110 (0, 0))], G66, G73, G79, G84, G89]) S192
   refine WEx.cutend _ ?_ ⟨k93, A63, c64, l65, G66, x69, A70, c71, l72, G73, x75, A76, c77, l78, G79, A81, c82, l83, G84, A86, c87, l88, G89, rfl, hF, hO67, hO74, hO80, hO85, hO90, S193⟩
   exact ⟨rfl, rfl, trivial⟩
 ·
  rintro _ w50 ⟨q52, A23, c24, l25, G26, x28, A29, c30, l31, G32, x34, A35, c36, l37, G38, A40, c41, l42, G43, A45, c46, l47, G48, rfl, hF, hO27, hO33, hO39, hO44, hO49, S51⟩
  unfold sk_PruneK.j1 at hF
  refine WCode.seq ?_
  refine WCode.region ?_
  refine WOps.p (G.assign rfl) rfl ?_
  refine WOps.nil ?_
  refine WEx.then_ ?_
  refine WCode.seq ?_
  refine WCode.seq ?_
  refine WCode.region ?_
  refine WOps.p (G.move rfl) rfl ?_
  refine WOps.p (G.len T.el176 rfl) rfl ?_
  refine WOps.p (G.move rfl) rfl ?_
  refine WOps.nil ?_
  refine WEx.then_ ?_
  refine WCode.block ?_
  have S206 : St _ _ _ [[(p1_0_1, .cells #[.int .i64 x28, .slice A29 l31.length c30] 172 (0, 0))], [(p1_0_0, .cells #[.int .i64 x34, .slice A35 l37.length c36] 169 (0, 0))], [(p1_0, .cells #[.pointer (some ⟨p1_0_0, 0, none⟩), .pointer (some ⟨p1_0_1, 0, none⟩), .slice A40 l42.length c41, .slice A45 l47.length c46] 110 (0, 0))], G26, G32, G43, G48, G38] := St.reord S51 [0, 1, 2, 3, 4, 6, 7, 5] 8 rfl (by decide) rfl
  refine WCode.forget (l' := [(0, .pointer (some ⟨p1_0_0, 0, none⟩)), (8, .int .i64 0), (34, .slice A23 l25.length c24), (35, .int .i64 (l25.length : Int)), (36, .int .i64 0)]) ⟨rfl, rfl, rfl, rfl, rfl, trivial⟩ ?_
  refine WCode.loop (fun n_ l_ w_ => ∃ x194 : Int, ∃ x195 : Int, ∃ x196 : Int, ∃ A197 : Option Addr, ∃ c198 : Nat, ∃ l199 : List Key__int_, ∃ G200 : Grp, l_ = [(0, .pointer (some ⟨p1_0_0, 0, none⟩)), (8, .int .i64 x194), (34, .slice A23 l25.length c24), (35, .int .i64 (l25.length : Int)), (36, .int .i64 x195)] ∧ sk_PruneK.l2 n_ b1_1 l25 x28 l31 l42 l47 x194 x195 x196 l199 = some r_ ∧ (SlO 203 Key__int_.rp (.slice A197 l199.length c198) l199 G200) ∧ St w (KS [[(p1_0, .cells #[.pointer (some ⟨p1_0_0, 0, none⟩), .pointer (some ⟨p1_0_1, 0, none⟩), .slice A1_0_2 a1_0_2.length c1_0_2, .slice A1_0_3 a1_0_3.length c1_0_3] 110 (0, 0))], G1_0_0, G1_0_1, G1_0_2, G1_0_3]) w_ [[(p1_0_1, .cells #[.int .i64 x28, .slice A29 l31.length c30] 172 (0, 0))], [(p1_0_0, .cells #[.int .i64 x196, .slice A197 l199.length c198] 169 (0, 0))], [(p1_0, .cells #[.pointer (some ⟨p1_0_0, 0, none⟩), .pointer (some ⟨p1_0_1, 0, none⟩), .slice A40 l42.length c41, .slice A45 l47.length c46] 110 (0, 0))], G26, G32, G43, G48, G200]) q52 ⟨0, 0, x34, A35, c36, l37, G38, rfl, hF, hO39, S206⟩ ?_
  rintro n205 _ w202 ⟨x194, x195, x196, A197, c198, l199, G200, rfl, hF, hO201, S203⟩
  obtain _ | k204 := n205
  · exact nomatch (show (none : Option (Int × ShK × ShR × (List Asked) × (List Asked))) = some r_ from hF)
  rw [sk_PruneK.l2] at hF
  refine WCode.seq ?_
  refine WCode.region ?_
  refine WOps.p (G.lss rfl rfl rfl) rfl ?_
  refine WOps.nil ?_
  refine WEx.then_ ?_
  refine WCode.seq ?_
  rcases ite_some hF with ⟨h208, hF⟩ | ⟨h208, hF⟩
  ·
   refine WCode.cond_t (kb (b := decide (x195 < (l25.length : Int))) rfl (decide_eq_true h208)) ?_
   refine WCode.skip ?_
   refine WEx.then_ ?_
   refine WCode.seq ?_
   refine WCode.block ?_
   refine WCode.seq ?_
   refine WCode.region ?_
   obtain ⟨x209, hc210, hF⟩ := bind_some hF
   obtain ⟨j211, ej212, hj213, hl214⟩ := idx_spec hc210
   obtain ⟨b215, o216, cs217, eA218, hf219, hc220, hr221⟩ := SlR.at_ (hO27.rd (fun b o hb => S203.grp 3 rfl hb)) hj213
   have hq222 : cs217 = [.string (bs x209.S), .int .i64 x209.N] := hr221
   subst hq222
   change cellsAt _ _ (o216 + j211 * 2) [.string (bs x209.S), .int .i64 x209.N] at hc220
   refine WOps.p (G.idx T.el176 rfl eA218 rfl ej212 hl214) rfl ?_
   refine WOps.r (G.loada T.agg103_2 rfl (cs := [.string (bs x209.S), .int .i64 x209.N]) hc220) rfl ?_
   obtain ⟨b223, w224, E225, S226, X227, L228⟩ := St.var S203 (z := .agg #[.string (bs ([] : List UInt8)), .int .i64 0]) T.zero103
   have c229 := hc220.ext X227
   change St _ _ _ [[(b223, .cells #[.string (bs ([] : List UInt8)), .int .i64 0] 103 (0, 0))], [(p1_0_1, .cells #[.int .i64 x28, .slice A29 l31.length c30] 172 (0, 0))], [(p1_0_0, .cells #[.int .i64 x196, .slice A197 l199.length c198] 169 (0, 0))], [(p1_0, .cells #[.pointer (some ⟨p1_0_0, 0, none⟩), .pointer (some ⟨p1_0_1, 0, none⟩), .slice A40 l42.length c41, .slice A45 l47.length c46] 110 (0, 0))], G26, G32, G43, G48, G200] at S226
   refine WOps.e E225 rfl ?_
   obtain ⟨w230, E231, S232⟩ := St.store (P := Try.prog) S226 0 103 (.agg #[.string (bs x209.S), .int .i64 x209.N]) (off := 0) (cur' := #[.string (bs x209.S), .int .i64 x209.N]) rfl T.size103_2 rfl rfl rfl
   change St _ _ _ [[(b223, .cells #[.string (bs x209.S), .int .i64 x209.N] 103 (0, 0))], [(p1_0_1, .cells #[.int .i64 x28, .slice A29 l31.length c30] 172 (0, 0))], [(p1_0_0, .cells #[.int .i64 x196, .slice A197 l199.length c198] 169 (0, 0))], [(p1_0, .cells #[.pointer (some ⟨p1_0_0, 0, none⟩), .pointer (some ⟨p1_0_1, 0, none⟩), .slice A40 l42.length c41, .slice A45 l47.length c46] 110 (0, 0))], G26, G32, G43, G48, G200] at S232
   refine WOps.u (E231 rfl rfl) ?_
   refine WOps.nil ?_
   refine WEx.then_ ?_
   refine WCode.seq ?_
   refine WCode.region ?_
   refine WOps.p (G.move rfl) rfl ?_
   refine WOps.r (G.loada T.agg103_2 rfl (cs := [.string (bs x209.S), .int .i64 x209.N]) (cellsAt.of_blk (S232.blk 0 rfl) rfl)) rfl ?_
   have S233 := (S232.front 8 rfl).front 3 rfl
   change St _ _ _ [[(p1_0_0, .cells #[.int .i64 x196, .slice A197 l199.length c198] 169 (0, 0))], G200, [(b223, .cells #[.string (bs x209.S), .int .i64 x209.N] 103 (0, 0))], [(p1_0_1, .cells #[.int .i64 x28, .slice A29 l31.length c30] 172 (0, 0))], [(p1_0, .cells #[.pointer (some ⟨p1_0_0, 0, none⟩), .pointer (some ⟨p1_0_1, 0, none⟩), .slice A40 l42.length c41, .slice A45 l47.length c46] 110 (0, 0))], G26, G32, G43, G48] at S233
   have hO234 : ObjO 169 ShK.rp p1_0_0 (⟨x196, l199⟩ : ShK) ([(p1_0_0, .cells #[.int .i64 x196, .slice A197 l199.length c198] 169 (0, 0))] ++ (G200)) := ⟨_, _, ⟨A197, c198, G200, rfl, hO201, rfl⟩, rfl⟩
   have S235 : St _ _ _ [[(p1_0_0, .cells #[.int .i64 x196, .slice A197 l199.length c198] 169 (0, 0))] ++ (G200), [(b223, .cells #[.string (bs x209.S), .int .i64 x209.N] 103 (0, 0))], [(p1_0_1, .cells #[.int .i64 x28, .slice A29 l31.length c30] 172 (0, 0))], [(p1_0, .cells #[.pointer (some ⟨p1_0_0, 0, none⟩), .pointer (some ⟨p1_0_1, 0, none⟩), .slice A40 l42.length c41, .slice A45 l47.length c46] 110 (0, 0))], G26, G32, G43, G48] := S233.objs (by simp)
   obtain ⟨t236, hc237, hF⟩ := bind_some hF
   refine WOps.call T.call94 (evs_cons rfl (evs_cons rfl evs_nil)) rfl ?_
   refine (sk_Drop_calls k204 (⟨x196, l199⟩ : ShK) x209 hO234 hc237 (St.hpN (As := [[(p1_0_0, .cells #[.int .i64 x196, .slice A197 l199.length c198] 169 (0, 0))] ++ (G200)]) S235)).mono ?_
   rintro _ w238 ⟨G241, rfl, hO242, T239⟩
   have S240 := St.callN (As := [[(p1_0_0, .cells #[.int .i64 x196, .slice A197 l199.length c198] 169 (0, 0))] ++ (G200)]) S235 T239
   change St _ _ _ [G241, [(b223, .cells #[.string (bs x209.S), .int .i64 x209.N] 103 (0, 0))], [(p1_0_1, .cells #[.int .i64 x28, .slice A29 l31.length c30] 172 (0, 0))], [(p1_0, .cells #[.pointer (some ⟨p1_0_0, 0, none⟩), .pointer (some ⟨p1_0_1, 0, none⟩), .slice A40 l42.length c41, .slice A45 l47.length c46] 110 (0, 0))], G26, G32, G43, G48] at S240
   refine ⟨_, rfl, ?_⟩
   obtain ⟨cs243, G244, ho245, hg246⟩ := hO242
   obtain ⟨A247, c248, G249, rfl, hO250, hq251⟩ := ho245
   have S252 : St _ _ _ [[(p1_0_0, .cells #[.int .i64 t236.2.most, .slice A247 t236.2.pairs.length c248] 169 (0, 0))], G249, [(b223, .cells #[.string (bs x209.S), .int .i64 x209.N] 103 (0, 0))], [(p1_0_1, .cells #[.int .i64 x28, .slice A29 l31.length c30] 172 (0, 0))], [(p1_0, .cells #[.pointer (some ⟨p1_0_0, 0, none⟩), .pointer (some ⟨p1_0_1, 0, none⟩), .slice A40 l42.length c41, .slice A45 l47.length c46] 110 (0, 0))], G26, G32, G43, G48] := S240.objs (by rw [hg246, hq251]; simp)
   refine WOps.p (G.eql rfl rfl rfl) rfl ?_
   refine WOps.nil ?_
   refine WEx.then_ ?_
   rcases ite_some hF with ⟨h253, hF⟩ | ⟨h253, hF⟩
   ·
    refine WCode.cond_t (kb (b := decide (t236.1 = 0)) rfl (decide_eq_true h253)) ?_
    refine WCode.region ?_
    refine WOps.p (G.move rfl) rfl ?_
    refine WOps.p (G.add rfl rfl (r := (w64 (x194 + 1))) rfl) rfl ?_
    refine WOps.p (G.assign rfl) rfl ?_
    refine WOps.nil ?_
    refine WEx.in_normal ?_
    refine WEx.then_ ?_
    refine WCode.forget (l' := [(0, .pointer (some ⟨p1_0_0, 0, none⟩)), (8, .int .i64 (w64 (x194 + 1))), (34, .slice A23 l25.length c24), (35, .int .i64 (l25.length : Int)), (36, .int .i64 x195)]) ⟨rfl, rfl, rfl, rfl, rfl, trivial⟩ ?_
    refine WCode.region ?_
    refine WOps.p (G.add rfl rfl (r := (w64 (x195 + 1))) rfl) rfl ?_
    refine WOps.p (G.move rfl) rfl ?_
    refine WOps.nil ?_
    have S254 : St _ _ _ [[(p1_0_1, .cells #[.int .i64 x28, .slice A29 l31.length c30] 172 (0, 0))], [(p1_0_0, .cells #[.int .i64 t236.2.most, .slice A247 t236.2.pairs.length c248] 169 (0, 0))], [(p1_0, .cells #[.pointer (some ⟨p1_0_0, 0, none⟩), .pointer (some ⟨p1_0_1, 0, none⟩), .slice A40 l42.length c41, .slice A45 l47.length c46] 110 (0, 0))], G26, G32, G43, G48, G249, [(b223, .cells #[.string (bs x209.S), .int .i64 x209.N] 103 (0, 0))]] := St.reord S252 [3, 0, 4, 5, 6, 7, 8, 1, 2] 9 rfl (by decide) rfl
    have S255 := St.keep (As := [[(p1_0_1, .cells #[.int .i64 x28, .slice A29 l31.length c30] 172 (0, 0))], [(p1_0_0, .cells #[.int .i64 t236.2.most, .slice A247 t236.2.pairs.length c248] 169 (0, 0))], [(p1_0, .cells #[.pointer (some ⟨p1_0_0, 0, none⟩), .pointer (some ⟨p1_0_1, 0, none⟩), .slice A40 l42.length c41, .slice A45 l47.length c46] 110 (0, 0))], G26, G32, G43, G48, G249]) S254
    refine WEx.again _ _ (by omega) ?_ ⟨w64 (x194 + 1), w64 (x195 + 1), t236.2.most, A247, c248, t236.2.pairs, G249, rfl, hF, hO250, S255⟩
    exact ⟨rfl, rfl, rfl, rfl, rfl, trivial⟩
   ·
    refine WCode.cond_f (kb (b := decide (t236.1 = 0)) rfl (decide_eq_false h253)) ?_
    refine WCode.skip ?_
    refine WEx.in_normal ?_
    refine WEx.then_ ?_
    refine WCode.region ?_
    refine WOps.p (G.add rfl rfl (r := (w64 (x195 + 1))) rfl) rfl ?_
    refine WOps.p (G.move rfl) rfl ?_
    refine WOps.nil ?_
    have S256 : St _ _ _ [[(p1_0_1, .cells #[.int .i64 x28, .slice A29 l31.length c30] 172 (0, 0))], [(p1_0_0, .cells #[.int .i64 t236.2.most, .slice A247 t236.2.pairs.length c248] 169 (0, 0))], [(p1_0, .cells #[.pointer (some ⟨p1_0_0, 0, none⟩), .pointer (some ⟨p1_0_1, 0, none⟩), .slice A40 l42.length c41, .slice A45 l47.length c46] 110 (0, 0))], G26, G32, G43, G48, G249, [(b223, .cells #[.string (bs x209.S), .int .i64 x209.N] 103 (0, 0))]] := St.reord S252 [3, 0, 4, 5, 6, 7, 8, 1, 2] 9 rfl (by decide) rfl
    have S257 := St.keep (As := [[(p1_0_1, .cells #[.int .i64 x28, .slice A29 l31.length c30] 172 (0, 0))], [(p1_0_0, .cells #[.int .i64 t236.2.most, .slice A247 t236.2.pairs.length c248] 169 (0, 0))], [(p1_0, .cells #[.pointer (some ⟨p1_0_0, 0, none⟩), .pointer (some ⟨p1_0_1, 0, none⟩), .slice A40 l42.length c41, .slice A45 l47.length c46] 110 (0, 0))], G26, G32, G43, G48, G249]) S256
    refine WEx.again _ _ (by omega) ?_ ⟨x194, w64 (x195 + 1), t236.2.most, A247, c248, t236.2.pairs, G249, rfl, hF, hO250, S257⟩
    exact ⟨rfl, rfl, rfl, rfl, rfl, trivial⟩
  ·
   refine WCode.cond_f (kb (b := decide (x195 < (l25.length : Int))) rfl (decide_eq_false h208)) ?_
   refine WCode.exit ?_
   refine WEx.then_exit ?_
   refine WEx.then_exit ?_
   refine WEx.in_exit ?_
   refine WEx.then_ ?_
   refine WCode.seq ?_
   refine WCode.region ?_
   refine WOps.p (G.move rfl) rfl ?_
   refine WOps.p (G.assign rfl) rfl ?_
   refine WOps.nil ?_
   refine WEx.then_ ?_
   refine WCode.ret ?_
   obtain rfl := some_eq hF
   refine WEx.ret1 rfl rfl ?_
   have S258 := (S203.front 7 rfl).front 2 rfl
   change St _ _ _ [[(p1_0_0, .cells #[.int .i64 x196, .slice A197 l199.length c198] 169 (0, 0))], G200, [(p1_0_1, .cells #[.int .i64 x28, .slice A29 l31.length c30] 172 (0, 0))], [(p1_0, .cells #[.pointer (some ⟨p1_0_0, 0, none⟩), .pointer (some ⟨p1_0_1, 0, none⟩), .slice A40 l42.length c41, .slice A45 l47.length c46] 110 (0, 0))], G26, G32, G43, G48] at S258
   have hO259 : ObjO 169 ShK.rp p1_0_0 (⟨x196, l199⟩ : ShK) ([(p1_0_0, .cells #[.int .i64 x196, .slice A197 l199.length c198] 169 (0, 0))] ++ (G200)) := ⟨_, _, ⟨A197, c198, G200, rfl, hO201, rfl⟩, rfl⟩
   have S260 : St _ _ _ [[(p1_0_0, .cells #[.int .i64 x196, .slice A197 l199.length c198] 169 (0, 0))] ++ (G200), [(p1_0_1, .cells #[.int .i64 x28, .slice A29 l31.length c30] 172 (0, 0))], [(p1_0, .cells #[.pointer (some ⟨p1_0_0, 0, none⟩), .pointer (some ⟨p1_0_1, 0, none⟩), .slice A40 l42.length c41, .slice A45 l47.length c46] 110 (0, 0))], G26, G32, G43, G48] := S258.objs (by simp)
   have S261 := (S260.front 4 rfl).front 2 rfl
   change St _ _ _ [[(p1_0_1, .cells #[.int .i64 x28, .slice A29 l31.length c30] 172 (0, 0))], G32, [(p1_0_0, .cells #[.int .i64 x196, .slice A197 l199.length c198] 169 (0, 0))] ++ (G200), [(p1_0, .cells #[.pointer (some ⟨p1_0_0, 0, none⟩), .pointer (some ⟨p1_0_1, 0, none⟩), .slice A40 l42.length c41, .slice A45 l47.length c46] 110 (0, 0))], G26, G43, G48] at S261
   have hO262 : ObjO 172 ShR.rp p1_0_1 (⟨x28, l31⟩ : ShR) ([(p1_0_1, .cells #[.int .i64 x28, .slice A29 l31.length c30] 172 (0, 0))] ++ (G32)) := ⟨_, _, ⟨A29, c30, G32, rfl, hO33, rfl⟩, rfl⟩
   have S263 : St _ _ _ [[(p1_0_1, .cells #[.int .i64 x28, .slice A29 l31.length c30] 172 (0, 0))] ++ (G32), [(p1_0_0, .cells #[.int .i64 x196, .slice A197 l199.length c198] 169 (0, 0))] ++ (G200), [(p1_0, .cells #[.pointer (some ⟨p1_0_0, 0, none⟩), .pointer (some ⟨p1_0_1, 0, none⟩), .slice A40 l42.length c41, .slice A45 l47.length c46] 110 (0, 0))], G26, G43, G48] := S261.objs (by simp)
   have S264 : St _ _ _ [[(p1_0, .cells #[.pointer (some ⟨p1_0_0, 0, none⟩), .pointer (some ⟨p1_0_1, 0, none⟩), .slice A40 l42.length c41, .slice A45 l47.length c46] 110 (0, 0))], [(p1_0_0, .cells #[.int .i64 x196, .slice A197 l199.length c198] 169 (0, 0))] ++ (G200), [(p1_0_1, .cells #[.int .i64 x28, .slice A29 l31.length c30] 172 (0, 0))] ++ (G32), G43, G48, G26] := St.reord S263 [2, 1, 0, 4, 5, 3] 6 rfl (by decide) rfl
   exact ⟨[(p1_0_0, .cells #[.int .i64 x196, .slice A197 l199.length c198] 169 (0, 0))] ++ (G200), [(p1_0_1, .cells #[.int .i64 x28, .slice A29 l31.length c30] 172 (0, 0))] ++ (G32), A40, c41, G43, A45, c46, G48, rfl, hO259, hO262, hO44, hO49, St.keep (As := [[(p1_0, .cells #[.pointer (some ⟨p1_0_0, 0, none⟩), .pointer (some ⟨p1_0_1, 0, none⟩), .slice A40 l42.length c41, .slice A45 l47.length c46] 110 (0, 0))], [(p1_0_0, .cells #[.int .i64 x196, .slice A197 l199.length c198] 169 (0, 0))] ++ (G200), [(p1_0_1, .cells #[.int .i64 x28, .slice A29 l31.length c30] 172 (0, 0))] ++ (G32), G43, G48]) S264⟩

end Go.Proofs.Ytoahkjehjmbojaa
