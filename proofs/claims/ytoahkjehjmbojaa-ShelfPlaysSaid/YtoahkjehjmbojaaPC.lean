/- Functions and their walks (printed by auto.py over the engine). -/
import Derived.Test.YtoahkjehjmbojaaProg
import Derived.Test.YtoahkjehjmbojaaPB
namespace Go.Proofs.Ytoahkjehjmbojaa
open Go Go.Eng
set_option linter.unusedSimpArgs false
set_option linter.unusedVariables false

theorem T.call129 : Callable Try.prog 129 := Callable.mk Try.func129 (by kernel_rfl) (by kernel_rfl)
theorem T.call131 : Callable Try.prog 131 := Callable.mk Try.func131 (by kernel_rfl) (by kernel_rfl)
theorem T.call94 : Callable Try.prog 94 := Callable.mk Try.func94 (by kernel_rfl) (by kernel_rfl)



def sk_PruneW.l2 : Nat → List KeyS → Int → Int → Int → List Key__int_ → Option (Int × ShK)
  | 0, _, _, _, _, _ => none
  | k107 + 1, l13, x97, x98, x99, l102 => (if x98 < (l13.length : Int) then (Option.bind (idx l13 x98) fun x112 => (Option.bind (sk_Drop k107 (⟨x99, l102⟩ : ShK) x112) fun t139 => (if t139.1 = 0 then (sk_PruneW.l2 k107 l13 (w64 (x97 + 1)) (w64 (x98 + 1)) t139.2.most t139.2.pairs) else (sk_PruneW.l2 k107 l13 x97 (w64 (x98 + 1)) t139.2.most t139.2.pairs)))) else (some (x97, (⟨x99, l102⟩ : ShK))))
def sk_PruneW.j1 (q18 : Nat) (a0 : ShK) (l13 : List KeyS) : Option (Int × ShK) := (sk_PruneW.l2 q18 l13 0 0 a0.most a0.pairs)
def sk_PruneW.l1 : Nat → ShK → (List Key__int_) → List KeyS → Int → Option (Int × ShK)
  | 0, _, _, _, _ => none
  | k37 + 1, a0, t20, l31, x34 => (if x34 < ((t20).length : Int) then (Option.bind (idx (t20) x34) fun x44 => (Option.bind (sh_wanted k37 x44.key x44.value) fun t68 => (if t68 = true then (sk_PruneW.l1 k37 a0 t20 l31 (w64 (x34 + 1))) else (Option.bind (cat l31 ([x44.key] : List KeyS)) fun l82 => (sk_PruneW.l1 k37 a0 t20 l82 (w64 (x34 + 1))))))) else (sk_PruneW.j1 k37 a0 l31))
def sk_PruneW (k : Nat) (a0 : ShK) : Option (Int × ShK) := (Option.bind (sk_Clone k a0.pairs) fun t20 => (sk_PruneW.l1 k a0 t20 [] 0))
set_option maxRecDepth 100000 in
set_option maxHeartbeats 1000000 in
theorem sk_PruneW_calls (k : Nat) (a0 : ShK) {p0 : Nat} {G0 : Grp} {w : World} (hO0 : ObjO 169 ShK.rp p0 a0 G0) {r_ : Int × ShK} (h_ : sk_PruneW k a0 = some r_) (hp_ : Hp w ([G0]).flatten) :
    Calls Try.prog 117 [.pointer (some ⟨p0, 0, none⟩), .func (.func 131) #[] #[]].toArray w fun e w' => ∃ Go0' : Grp, e = .returned (.int .i64 r_.1) ∧ ObjO 169 ShK.rp p0 (r_.2) Go0' ∧ St w (KS [G0]) w' [Go0'] := by
 have hF := h_
 clear h_
 unfold sk_PruneW at hF
 have S := St.initK [G0] hp_
 obtain ⟨cs1, G2, ho3, hg4⟩ := hO0
 obtain ⟨A5, c6, G7, rfl, hO8, hq9⟩ := ho3
 have S10 : St _ _ _ [[(p0, .cells #[.int .i64 a0.most, .slice A5 a0.pairs.length c6] 169 (0, 0))], G7] := S.objs (by rw [hg4, hq9]; simp)
 refine enter 48 [(0, .pointer (some ⟨p0, 0, none⟩)), (1, .func (.func 131) #[] #[])] Try.func117 rfl rfl rfl rfl ?_
 refine WCode.seq ?_
 refine WCode.region ?_
 refine WOps.p (G.assign rfl) rfl ?_
 refine WOps.nil ?_
 refine WEx.then_ ?_
 refine WCode.seq ?_
 refine WCode.region ?_
 refine WOps.p (G.assign rfl) rfl ?_
 refine WOps.nil ?_
 refine WEx.then_ ?_
 refine WCode.cutseq (fun l_ w_ => ∃ q18 : Nat, ∃ A11 : Option Addr, ∃ c12 : Nat, ∃ l13 : List KeyS, ∃ G14 : Grp, l_ = [(0, .pointer (some ⟨p0, 0, none⟩)), (5, .slice A11 l13.length c12)] ∧ sk_PruneW.j1 q18 a0 l13 = some r_ ∧ (SlO 103 KeyS.rp (.slice A11 l13.length c12) l13 G14) ∧ St w (KS [G0]) w_ [[(p0, .cells #[.int .i64 a0.most, .slice A5 a0.pairs.length c6] 169 (0, 0))], G7, G14]) ?_ ?_
 ·
  refine WCode.seq ?_
  refine WCode.region ?_
  refine WOps.p (G.move rfl) rfl ?_
  refine WOps.p (G.nilp rfl) rfl ?_
  refine WOps.p (G.field T.fld169_1 rfl (show 0 + 1 = 1 from rfl)) rfl ?_
  refine WOps.r (G.load1 T.one167 rfl (cell_blk (S10.blk 0 rfl) rfl)) rfl ?_
  obtain ⟨t20, hc21, hF⟩ := bind_some hF
  refine WOps.call T.call129 (evs_cons rfl evs_nil) rfl ?_
  refine (sk_Clone_calls k a0.pairs (hO8.rd (fun b o hb => S10.grp 1 rfl hb)) (St.outG (Bs := []) S10 1 rfl) hc21).mono ?_
  rintro _ w22 ⟨A25, c26, G27, rfl, hO28, T23⟩
  have S24 := St.callN (As := []) S10 T23
  change St _ _ _ [G27, [(p0, .cells #[.int .i64 a0.most, .slice A5 a0.pairs.length c6] 169 (0, 0))], G7] at S24
  refine ⟨_, rfl, ?_⟩
  refine WOps.p (G.len T.el167 rfl) rfl ?_
  refine WOps.p (G.move rfl) rfl ?_
  refine WOps.nil ?_
  refine WEx.then_ ?_
  refine WCode.block ?_
  have S39 := S24.emp
  have S41 := ((S39.front 3 rfl).front 2 rfl).front 3 rfl
  change St _ _ _ [[(p0, .cells #[.int .i64 a0.most, .slice A5 a0.pairs.length c6] 169 (0, 0))], G27, G7, ([] : Grp)] at S41
  refine WCode.forget (l' := [(0, .pointer (some ⟨p0, 0, none⟩)), (1, .func (.func 131) #[] #[]), (5, .slice none 0 0), (15, .slice A25 (t20).length c26), (16, .int .i64 ((t20).length : Int)), (17, .int .i64 0)]) ⟨rfl, rfl, rfl, rfl, rfl, rfl, trivial⟩ ?_
  refine WCode.loop (fun n_ l_ w_ => ∃ A29 : Option Addr, ∃ c30 : Nat, ∃ l31 : List KeyS, ∃ G32 : Grp, ∃ x34 : Int, l_ = [(0, .pointer (some ⟨p0, 0, none⟩)), (1, .func (.func 131) #[] #[]), (5, .slice A29 l31.length c30), (15, .slice A25 (t20).length c26), (16, .int .i64 ((t20).length : Int)), (17, .int .i64 x34)] ∧ sk_PruneW.l1 n_ a0 t20 l31 x34 = some r_ ∧ (SlO 103 KeyS.rp (.slice A29 l31.length c30) l31 G32) ∧ St w (KS [G0]) w_ [[(p0, .cells #[.int .i64 a0.most, .slice A5 a0.pairs.length c6] 169 (0, 0))], G27, G7, G32]) k ⟨none, 0, [], ([] : Grp), 0, rfl, hF, (SlO.nil 103 KeyS.rp), S41⟩ ?_
  rintro n38 _ w35 ⟨A29, c30, l31, G32, x34, rfl, hF, hO33, S36⟩
  obtain _ | k37 := n38
  · exact nomatch (show (none : Option (Int × ShK)) = some r_ from hF)
  rw [sk_PruneW.l1] at hF
  refine WCode.seq ?_
  refine WCode.region ?_
  refine WOps.p (G.lss rfl rfl rfl) rfl ?_
  refine WOps.nil ?_
  refine WEx.then_ ?_
  refine WCode.seq ?_
  rcases ite_some hF with ⟨h43, hF⟩ | ⟨h43, hF⟩
  ·
   refine WCode.cond_t (kb (b := decide (x34 < ((t20).length : Int))) rfl (decide_eq_true h43)) ?_
   refine WCode.skip ?_
   refine WEx.then_ ?_
   refine WCode.seq ?_
   refine WCode.block ?_
   refine WCode.seq ?_
   refine WCode.region ?_
   obtain ⟨x44, hc45, hF⟩ := bind_some hF
   obtain ⟨j46, ej47, hj48, hl49⟩ := idx_spec hc45
   obtain ⟨b50, o51, cs52, eA53, hf54, hc55, hr56⟩ := SlR.at_ (hO28.rd (fun b o hb => S36.grp 1 rfl hb)) hj48
   have hq57 : cs52 = [.string (bs x44.key.S), .int .i64 x44.key.N, .int .i64 x44.value] := hr56
   subst hq57
   change cellsAt _ _ (o51 + j46 * 3) [.string (bs x44.key.S), .int .i64 x44.key.N, .int .i64 x44.value] at hc55
   refine WOps.p (G.idx T.el167 rfl eA53 rfl ej47 hl49) rfl ?_
   refine WOps.r (G.loada T.agg203_3 rfl (cs := [.string (bs x44.key.S), .int .i64 x44.key.N, .int .i64 x44.value]) hc55) rfl ?_
   obtain ⟨b58, w59, E60, S61, X62, L63⟩ := St.var S36 (z := .agg #[.string (bs ([] : List UInt8)), .int .i64 0, .int .i64 0]) T.zero203
   have c64 := hc55.ext X62
   change St _ _ _ [[(b58, .cells #[.string (bs ([] : List UInt8)), .int .i64 0, .int .i64 0] 203 (0, 0))], [(p0, .cells #[.int .i64 a0.most, .slice A5 a0.pairs.length c6] 169 (0, 0))], G27, G7, G32] at S61
   refine WOps.e E60 rfl ?_
   obtain ⟨w65, E66, S67⟩ := St.store (P := Try.prog) S61 0 203 (.agg #[.string (bs x44.key.S), .int .i64 x44.key.N, .int .i64 x44.value]) (off := 0) (cur' := #[.string (bs x44.key.S), .int .i64 x44.key.N, .int .i64 x44.value]) rfl T.size203_3 rfl rfl rfl
   change St _ _ _ [[(b58, .cells #[.string (bs x44.key.S), .int .i64 x44.key.N, .int .i64 x44.value] 203 (0, 0))], [(p0, .cells #[.int .i64 a0.most, .slice A5 a0.pairs.length c6] 169 (0, 0))], G27, G7, G32] at S67
   refine WOps.u (E66 rfl rfl) ?_
   refine WOps.nil ?_
   refine WEx.then_ ?_
   refine WCode.seq ?_
   refine WCode.region ?_
   refine WOps.p (G.move rfl) rfl ?_
   refine WOps.p (G.field T.fld203_0 rfl (show 0 + 0 = 0 from rfl)) rfl ?_
   refine WOps.r (G.loada T.agg103_2 rfl (cs := [.string (bs x44.key.S), .int .i64 x44.key.N]) (cellsAt.of_blk (S67.blk 0 rfl) rfl)) rfl ?_
   refine WOps.p (G.field T.fld203_1 rfl (show 0 + 2 = 2 from rfl)) rfl ?_
   refine WOps.r (G.load1 T.one3 rfl (cell_blk (S67.blk 0 rfl) rfl)) rfl ?_
   obtain ⟨t68, hc69, hF⟩ := bind_some hF
   refine WOps.callv T.call131 rfl (evs_cons rfl (evs_cons rfl evs_nil)) rfl ?_
   refine (sh_wanted_calls k37 x44.key x44.value hc69).mono ?_
   rintro _ w70 ⟨rfl, T71⟩
   have S72 := St.callN (As := []) S67 T71
   change St _ _ _ [[(b58, .cells #[.string (bs x44.key.S), .int .i64 x44.key.N, .int .i64 x44.value] 203 (0, 0))], [(p0, .cells #[.int .i64 a0.most, .slice A5 a0.pairs.length c6] 169 (0, 0))], G27, G7, G32] at S72
   refine ⟨_, rfl, ?_⟩
   refine WOps.p (G.not rfl rfl) rfl ?_
   refine WOps.nil ?_
   refine WEx.then_ ?_
   rcases ite_some hF with ⟨h73, hF⟩ | ⟨h73, hF⟩
   ·
    refine WCode.cond_f (kb (b := !t68) rfl (show (!t68) = false from by rw [h73]; rfl)) ?_
    refine WCode.skip ?_
    refine WEx.in_normal ?_
    refine WEx.then_ ?_
    refine WCode.forget (l' := [(0, .pointer (some ⟨p0, 0, none⟩)), (1, .func (.func 131) #[] #[]), (5, .slice A29 l31.length c30), (15, .slice A25 (t20).length c26), (16, .int .i64 ((t20).length : Int)), (17, .int .i64 x34)]) ⟨rfl, rfl, rfl, rfl, rfl, rfl, trivial⟩ ?_
    refine WCode.region ?_
    refine WOps.p (G.add rfl rfl (r := (w64 (x34 + 1))) rfl) rfl ?_
    refine WOps.p (G.move rfl) rfl ?_
    refine WOps.nil ?_
    have S74 : St _ _ _ [[(p0, .cells #[.int .i64 a0.most, .slice A5 a0.pairs.length c6] 169 (0, 0))], G27, G7, G32, [(b58, .cells #[.string (bs x44.key.S), .int .i64 x44.key.N, .int .i64 x44.value] 203 (0, 0))]] := St.reord S72 [1, 2, 3, 4, 0] 5 rfl (by decide) rfl
    have S75 := St.keep (As := [[(p0, .cells #[.int .i64 a0.most, .slice A5 a0.pairs.length c6] 169 (0, 0))], G27, G7, G32]) S74
    refine WEx.again _ _ (by omega) ?_ ⟨A29, c30, l31, G32, w64 (x34 + 1), rfl, hF, hO33, S75⟩
    exact ⟨rfl, rfl, rfl, rfl, rfl, rfl, trivial⟩
   ·
    refine WCode.cond_t (kb (b := !t68) rfl (show (!t68) = true from by rw [(Bool.eq_false_iff.2 h73)]; rfl)) ?_
    refine WCode.region ?_
    refine WOps.p (G.move rfl) rfl ?_
    refine WOps.p (G.field T.fld203_0 rfl (show 0 + 0 = 0 from rfl)) rfl ?_
    refine WOps.r (G.loada T.agg103_2 rfl (cs := [.string (bs x44.key.S), .int .i64 x44.key.N]) (cellsAt.of_blk (S72.blk 0 rfl) rfl)) rfl ?_
    obtain ⟨b76, w77, E78, S79, X80, L81⟩ := St.lit S72 (P := Try.prog) (t := 176) (e := 103) (n := 1) (vs := [(0, .agg #[.string (bs x44.key.S), .int .i64 x44.key.N])]) (cs := #[.string (bs x44.key.S), .int .i64 x44.key.N]) (by kernel_rfl)
    change St _ _ _ [[(b76, .cells #[.string (bs x44.key.S), .int .i64 x44.key.N] 103 (0, 0))], [(b58, .cells #[.string (bs x44.key.S), .int .i64 x44.key.N, .int .i64 x44.value] 203 (0, 0))], [(p0, .cells #[.int .i64 a0.most, .slice A5 a0.pairs.length c6] 169 (0, 0))], G27, G7, G32] at S79
    refine WOps.e (E78 (evp_cons rfl evp_nil)) rfl ?_
    obtain ⟨l82, hc83, hF⟩ := bind_some hF
    have S84 := S79.front 5 rfl
    change St _ _ _ [G32, [(b76, .cells #[.string (bs x44.key.S), .int .i64 x44.key.N] 103 (0, 0))], [(b58, .cells #[.string (bs x44.key.S), .int .i64 x44.key.N, .int .i64 x44.value] 203 (0, 0))], [(p0, .cells #[.int .i64 a0.most, .slice A5 a0.pairs.length c6] 169 (0, 0))], G27, G7] at S84
    obtain ⟨A85, c86, G87, w88, E89, hO90, S91, hk92⟩ := St.appP (P := Try.prog) (r := KeyS.rp) (M := ([x44.key] : List KeyS)) S84 T.elt176 rfl hO33 (Rd.of_blk (S84.blk 1 rfl) (n := 1) (sz := 2) rfl) ⟨_, _, [], [], rfl, rfl, ⟨rfl, rfl⟩, ⟨rfl, rfl⟩⟩ rfl hc83
    change St _ _ _ [G87, [(b76, .cells #[.string (bs x44.key.S), .int .i64 x44.key.N] 103 (0, 0))], [(b58, .cells #[.string (bs x44.key.S), .int .i64 x44.key.N, .int .i64 x44.value] 203 (0, 0))], [(p0, .cells #[.int .i64 a0.most, .slice A5 a0.pairs.length c6] 169 (0, 0))], G27, G7] at S91
    refine WOps.e (E89 rfl rfl) rfl ?_
    refine WOps.p (G.assign rfl) rfl ?_
    refine WOps.nil ?_
    refine WEx.in_normal ?_
    refine WEx.then_ ?_
    refine WCode.forget (l' := [(0, .pointer (some ⟨p0, 0, none⟩)), (1, .func (.func 131) #[] #[]), (5, .slice A85 l82.length c86), (15, .slice A25 (t20).length c26), (16, .int .i64 ((t20).length : Int)), (17, .int .i64 x34)]) ⟨rfl, rfl, rfl, rfl, rfl, rfl, trivial⟩ ?_
    refine WCode.region ?_
    refine WOps.p (G.add rfl rfl (r := (w64 (x34 + 1))) rfl) rfl ?_
    refine WOps.p (G.move rfl) rfl ?_
    refine WOps.nil ?_
    have S93 := ((S91.front 5 rfl).front 5 rfl).front 5 rfl
    change St _ _ _ [[(p0, .cells #[.int .i64 a0.most, .slice A5 a0.pairs.length c6] 169 (0, 0))], G27, G7, G87, [(b76, .cells #[.string (bs x44.key.S), .int .i64 x44.key.N] 103 (0, 0))], [(b58, .cells #[.string (bs x44.key.S), .int .i64 x44.key.N, .int .i64 x44.value] 203 (0, 0))]] at S93
    have S94 := St.keep (As := [[(p0, .cells #[.int .i64 a0.most, .slice A5 a0.pairs.length c6] 169 (0, 0))], G27, G7, G87]) S93
    refine WEx.again _ _ (by omega) ?_ ⟨A85, c86, l82, G87, w64 (x34 + 1), rfl, hF, hO90, S94⟩
    exact ⟨rfl, rfl, rfl, rfl, rfl, rfl, trivial⟩
  ·
   refine WCode.cond_f (kb (b := decide (x34 < ((t20).length : Int))) rfl (decide_eq_false h43)) ?_
   refine WCode.exit ?_
   refine WEx.then_exit ?_
   refine WEx.then_exit ?_
   refine WEx.in_exit ?_
   have S95 := ((S36.front 3 rfl).front 3 rfl).front 2 rfl
   change St _ _ _ [[(p0, .cells #[.int .i64 a0.most, .slice A5 a0.pairs.length c6] 169 (0, 0))], G7, G32, G27] at S95
   have S96 := St.keep (As := [[(p0, .cells #[.int .i64 a0.most, .slice A5 a0.pairs.length c6] 169 (0, 0))], G7, G32]) S95
   refine WEx.cutend _ ?_ ⟨k37, A29, c30, l31, G32, rfl, hF, hO33, S96⟩
   exact ⟨rfl, rfl, trivial⟩
 ·
  rintro _ w16 ⟨q18, A11, c12, l13, G14, rfl, hF, hO15, S17⟩
  unfold sk_PruneW.j1 at hF
  refine WCode.seq ?_
  refine WCode.region ?_
  refine WOps.p (G.assign rfl) rfl ?_
  refine WOps.nil ?_
  refine WEx.then_ ?_
  refine WCode.seq ?_
  refine WCode.seq ?_
  refine WCode.region ?_
  refine WOps.p (G.move rfl) rfl ?_
  refine WOps.p (G.len T.el176 rfl) rfl ?_
  refine WOps.p (G.move rfl) rfl ?_
  refine WOps.nil ?_
  refine WEx.then_ ?_
  refine WCode.block ?_
  have S109 := ((S17.front 1 rfl).front 2 rfl).front 2 rfl
  change St _ _ _ [[(p0, .cells #[.int .i64 a0.most, .slice A5 a0.pairs.length c6] 169 (0, 0))], G14, G7] at S109
  refine WCode.forget (l' := [(0, .pointer (some ⟨p0, 0, none⟩)), (8, .int .i64 0), (34, .slice A11 l13.length c12), (35, .int .i64 (l13.length : Int)), (36, .int .i64 0)]) ⟨rfl, rfl, rfl, rfl, rfl, trivial⟩ ?_
  refine WCode.loop (fun n_ l_ w_ => ∃ x97 : Int, ∃ x98 : Int, ∃ x99 : Int, ∃ A100 : Option Addr, ∃ c101 : Nat, ∃ l102 : List Key__int_, ∃ G103 : Grp, l_ = [(0, .pointer (some ⟨p0, 0, none⟩)), (8, .int .i64 x97), (34, .slice A11 l13.length c12), (35, .int .i64 (l13.length : Int)), (36, .int .i64 x98)] ∧ sk_PruneW.l2 n_ l13 x97 x98 x99 l102 = some r_ ∧ (SlO 203 Key__int_.rp (.slice A100 l102.length c101) l102 G103) ∧ St w (KS [G0]) w_ [[(p0, .cells #[.int .i64 x99, .slice A100 l102.length c101] 169 (0, 0))], G14, G103]) q18 ⟨0, 0, a0.most, A5, c6, a0.pairs, G7, rfl, hF, hO8, S109⟩ ?_
  rintro n108 _ w105 ⟨x97, x98, x99, A100, c101, l102, G103, rfl, hF, hO104, S106⟩
  obtain _ | k107 := n108
  · exact nomatch (show (none : Option (Int × ShK)) = some r_ from hF)
  rw [sk_PruneW.l2] at hF
  refine WCode.seq ?_
  refine WCode.region ?_
  refine WOps.p (G.lss rfl rfl rfl) rfl ?_
  refine WOps.nil ?_
  refine WEx.then_ ?_
  refine WCode.seq ?_
  rcases ite_some hF with ⟨h111, hF⟩ | ⟨h111, hF⟩
  ·
   refine WCode.cond_t (kb (b := decide (x98 < (l13.length : Int))) rfl (decide_eq_true h111)) ?_
   refine WCode.skip ?_
   refine WEx.then_ ?_
   refine WCode.seq ?_
   refine WCode.block ?_
   refine WCode.seq ?_
   refine WCode.region ?_
   obtain ⟨x112, hc113, hF⟩ := bind_some hF
   obtain ⟨j114, ej115, hj116, hl117⟩ := idx_spec hc113
   obtain ⟨b118, o119, cs120, eA121, hf122, hc123, hr124⟩ := SlR.at_ (hO15.rd (fun b o hb => S106.grp 1 rfl hb)) hj116
   have hq125 : cs120 = [.string (bs x112.S), .int .i64 x112.N] := hr124
   subst hq125
   change cellsAt _ _ (o119 + j114 * 2) [.string (bs x112.S), .int .i64 x112.N] at hc123
   refine WOps.p (G.idx T.el176 rfl eA121 rfl ej115 hl117) rfl ?_
   refine WOps.r (G.loada T.agg103_2 rfl (cs := [.string (bs x112.S), .int .i64 x112.N]) hc123) rfl ?_
   obtain ⟨b126, w127, E128, S129, X130, L131⟩ := St.var S106 (z := .agg #[.string (bs ([] : List UInt8)), .int .i64 0]) T.zero103
   have c132 := hc123.ext X130
   change St _ _ _ [[(b126, .cells #[.string (bs ([] : List UInt8)), .int .i64 0] 103 (0, 0))], [(p0, .cells #[.int .i64 x99, .slice A100 l102.length c101] 169 (0, 0))], G14, G103] at S129
   refine WOps.e E128 rfl ?_
   obtain ⟨w133, E134, S135⟩ := St.store (P := Try.prog) S129 0 103 (.agg #[.string (bs x112.S), .int .i64 x112.N]) (off := 0) (cur' := #[.string (bs x112.S), .int .i64 x112.N]) rfl T.size103_2 rfl rfl rfl
   change St _ _ _ [[(b126, .cells #[.string (bs x112.S), .int .i64 x112.N] 103 (0, 0))], [(p0, .cells #[.int .i64 x99, .slice A100 l102.length c101] 169 (0, 0))], G14, G103] at S135
   refine WOps.u (E134 rfl rfl) ?_
   refine WOps.nil ?_
   refine WEx.then_ ?_
   refine WCode.seq ?_
   refine WCode.region ?_
   refine WOps.p (G.move rfl) rfl ?_
   refine WOps.r (G.loada T.agg103_2 rfl (cs := [.string (bs x112.S), .int .i64 x112.N]) (cellsAt.of_blk (S135.blk 0 rfl) rfl)) rfl ?_
   have S136 := (S135.front 3 rfl).front 2 rfl
   change St _ _ _ [[(p0, .cells #[.int .i64 x99, .slice A100 l102.length c101] 169 (0, 0))], G103, [(b126, .cells #[.string (bs x112.S), .int .i64 x112.N] 103 (0, 0))], G14] at S136
   have hO137 : ObjO 169 ShK.rp p0 (⟨x99, l102⟩ : ShK) ([(p0, .cells #[.int .i64 x99, .slice A100 l102.length c101] 169 (0, 0))] ++ (G103)) := ⟨_, _, ⟨A100, c101, G103, rfl, hO104, rfl⟩, rfl⟩
   have S138 : St _ _ _ [[(p0, .cells #[.int .i64 x99, .slice A100 l102.length c101] 169 (0, 0))] ++ (G103), [(b126, .cells #[.string (bs x112.S), .int .i64 x112.N] 103 (0, 0))], G14] := S136.objs (by simp)
   obtain ⟨t139, hc140, hF⟩ := bind_some hF
   refine WOps.call T.call94 (evs_cons rfl (evs_cons rfl evs_nil)) rfl ?_
   refine (sk_Drop_calls k107 (⟨x99, l102⟩ : ShK) x112 hO137 hc140 (St.hpN (As := [[(p0, .cells #[.int .i64 x99, .slice A100 l102.length c101] 169 (0, 0))] ++ (G103)]) S138)).mono ?_
   rintro _ w141 ⟨G144, rfl, hO145, T142⟩
   have S143 := St.callN (As := [[(p0, .cells #[.int .i64 x99, .slice A100 l102.length c101] 169 (0, 0))] ++ (G103)]) S138 T142
   change St _ _ _ [G144, [(b126, .cells #[.string (bs x112.S), .int .i64 x112.N] 103 (0, 0))], G14] at S143
   refine ⟨_, rfl, ?_⟩
   obtain ⟨cs146, G147, ho148, hg149⟩ := hO145
   obtain ⟨A150, c151, G152, rfl, hO153, hq154⟩ := ho148
   have S155 : St _ _ _ [[(p0, .cells #[.int .i64 t139.2.most, .slice A150 t139.2.pairs.length c151] 169 (0, 0))], G152, [(b126, .cells #[.string (bs x112.S), .int .i64 x112.N] 103 (0, 0))], G14] := S143.objs (by rw [hg149, hq154]; simp)
   refine WOps.p (G.eql rfl rfl rfl) rfl ?_
   refine WOps.nil ?_
   refine WEx.then_ ?_
   rcases ite_some hF with ⟨h156, hF⟩ | ⟨h156, hF⟩
   ·
    refine WCode.cond_t (kb (b := decide (t139.1 = 0)) rfl (decide_eq_true h156)) ?_
    refine WCode.region ?_
    refine WOps.p (G.move rfl) rfl ?_
    refine WOps.p (G.add rfl rfl (r := (w64 (x97 + 1))) rfl) rfl ?_
    refine WOps.p (G.assign rfl) rfl ?_
    refine WOps.nil ?_
    refine WEx.in_normal ?_
    refine WEx.then_ ?_
    refine WCode.forget (l' := [(0, .pointer (some ⟨p0, 0, none⟩)), (8, .int .i64 (w64 (x97 + 1))), (34, .slice A11 l13.length c12), (35, .int .i64 (l13.length : Int)), (36, .int .i64 x98)]) ⟨rfl, rfl, rfl, rfl, rfl, trivial⟩ ?_
    refine WCode.region ?_
    refine WOps.p (G.add rfl rfl (r := (w64 (x98 + 1))) rfl) rfl ?_
    refine WOps.p (G.move rfl) rfl ?_
    refine WOps.nil ?_
    have S157 := ((S155.front 1 rfl).front 3 rfl).front 2 rfl
    change St _ _ _ [[(p0, .cells #[.int .i64 t139.2.most, .slice A150 t139.2.pairs.length c151] 169 (0, 0))], G14, G152, [(b126, .cells #[.string (bs x112.S), .int .i64 x112.N] 103 (0, 0))]] at S157
    have S158 := St.keep (As := [[(p0, .cells #[.int .i64 t139.2.most, .slice A150 t139.2.pairs.length c151] 169 (0, 0))], G14, G152]) S157
    refine WEx.again _ _ (by omega) ?_ ⟨w64 (x97 + 1), w64 (x98 + 1), t139.2.most, A150, c151, t139.2.pairs, G152, rfl, hF, hO153, S158⟩
    exact ⟨rfl, rfl, rfl, rfl, rfl, trivial⟩
   ·
    refine WCode.cond_f (kb (b := decide (t139.1 = 0)) rfl (decide_eq_false h156)) ?_
    refine WCode.skip ?_
    refine WEx.in_normal ?_
    refine WEx.then_ ?_
    refine WCode.region ?_
    refine WOps.p (G.add rfl rfl (r := (w64 (x98 + 1))) rfl) rfl ?_
    refine WOps.p (G.move rfl) rfl ?_
    refine WOps.nil ?_
    have S159 := ((S155.front 1 rfl).front 3 rfl).front 2 rfl
    change St _ _ _ [[(p0, .cells #[.int .i64 t139.2.most, .slice A150 t139.2.pairs.length c151] 169 (0, 0))], G14, G152, [(b126, .cells #[.string (bs x112.S), .int .i64 x112.N] 103 (0, 0))]] at S159
    have S160 := St.keep (As := [[(p0, .cells #[.int .i64 t139.2.most, .slice A150 t139.2.pairs.length c151] 169 (0, 0))], G14, G152]) S159
    refine WEx.again _ _ (by omega) ?_ ⟨x97, w64 (x98 + 1), t139.2.most, A150, c151, t139.2.pairs, G152, rfl, hF, hO153, S160⟩
    exact ⟨rfl, rfl, rfl, rfl, rfl, trivial⟩
  ·
   refine WCode.cond_f (kb (b := decide (x98 < (l13.length : Int))) rfl (decide_eq_false h111)) ?_
   refine WCode.exit ?_
   refine WEx.then_exit ?_
   refine WEx.then_exit ?_
   refine WEx.in_exit ?_
   refine WEx.then_ ?_
   refine WCode.seq ?_
   refine WCode.region ?_
   refine WOps.p (G.move rfl) rfl ?_
   refine WOps.p (G.assign rfl) rfl ?_
   refine WOps.nil ?_
   refine WEx.then_ ?_
   refine WCode.ret ?_
   obtain rfl := some_eq hF
   refine WEx.ret1 rfl rfl ?_
   have S161 := (S106.front 2 rfl).front 1 rfl
   change St _ _ _ [[(p0, .cells #[.int .i64 x99, .slice A100 l102.length c101] 169 (0, 0))], G103, G14] at S161
   have hO162 : ObjO 169 ShK.rp p0 (⟨x99, l102⟩ : ShK) ([(p0, .cells #[.int .i64 x99, .slice A100 l102.length c101] 169 (0, 0))] ++ (G103)) := ⟨_, _, ⟨A100, c101, G103, rfl, hO104, rfl⟩, rfl⟩
   have S163 : St _ _ _ [[(p0, .cells #[.int .i64 x99, .slice A100 l102.length c101] 169 (0, 0))] ++ (G103), G14] := S161.objs (by simp)
   exact ⟨[(p0, .cells #[.int .i64 x99, .slice A100 l102.length c101] 169 (0, 0))] ++ (G103), rfl, hO162, St.keep (As := [[(p0, .cells #[.int .i64 x99, .slice A100 l102.length c101] 169 (0, 0))] ++ (G103)]) S163⟩

end Go.Proofs.Ytoahkjehjmbojaa
