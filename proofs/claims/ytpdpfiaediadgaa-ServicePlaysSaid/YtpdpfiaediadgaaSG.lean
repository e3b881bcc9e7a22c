/- Functions and their walks (printed by auto.py over the engine). -/
import Derived.Test.YtpdpfiaediadgaaProg
import Derived.Test.YtpdpfiaediadgaaSF
namespace Go.Proofs.Ytpdpfiaediadgaa
open Go Go.Eng
set_option linter.unusedSimpArgs false
set_option linter.unusedVariables false

theorem T.call27 : Callable Try.prog 27 := Callable.mk Try.func27 (by kernel_rfl) (by kernel_rfl)
theorem T.call28 : Callable Try.prog 28 := Callable.mk Try.func28 (by kernel_rfl) (by kernel_rfl)
theorem T.call32 : Callable Try.prog 32 := Callable.mk Try.func32 (by kernel_rfl) (by kernel_rfl)
theorem T.el64 : slEl Try.prog 64 = some 9 := by kernel_rfl
theorem T.el67 : slEl Try.prog 67 = some 1 := by kernel_rfl
theorem T.el72 : slEl Try.prog 72 = some 1 := by kernel_rfl
theorem T.fld74_0 : fldOff Try.prog 74 0 = some 0 := by kernel_rfl
theorem T.fld74_1 : fldOff Try.prog 74 1 = some 1 := by kernel_rfl
theorem T.fld74_3 : fldOff Try.prog 74 3 = some 3 := by kernel_rfl
theorem T.one65 : isOneT Try.prog 65 = true := by kernel_rfl
theorem T.one68 : isOneT Try.prog 68 = true := by kernel_rfl


mutual
def law_Plays.j5 : Nat → List Op → Int → List Service111 → List Service111 → List Service → List Service → Bool → Bool → Bool → Int → Int → Int → Int → List Int → List UInt8 → Int → Bool → Option Bool
  | 0, _, _, _, _, _, _, _, _, _, _, _, _, _, _, _, _, _ => none
  | k410 + 1, a0, x89, l92, l97, l102, l107, b157, b158, b159, x160, x161, x162, x163, l166, s169, x211, b380 => (if b380 = true then (if x211 = 0 then (Option.bind (sv_Find k410 (⟨l107⟩ : Registry) x161 x162 x163) fun t415 => (Option.bind (rv_Find k410 (⟨l97⟩ : Registry71) x161 x162 x163) fun t425 => (if t415.1 = t425.1 then (if t415.2.1 = t425.2.1 then (if t415.2.2 = t425.2.2 then (law_Plays.l1 k410 a0 (w64 (x89 + 1)) l92 l97 l102 l107) else (some false)) else (some false)) else (some false)))) else (if x211 = 1 then (Option.bind (sv_Find k410 (⟨l102⟩ : Registry) x161 x162 x163) fun t448 => (Option.bind (rv_Find k410 (⟨l92⟩ : Registry71) x161 x162 x163) fun t458 => (if t448.1 = t458.1 then (if t448.2.1 = t458.2.1 then (if t448.2.2 = t458.2.2 then (law_Plays.l1 k410 a0 (w64 (x89 + 1)) l92 l97 l102 l107) else (some false)) else (some false)) else (some false)))) else none)) else (if x211 = 0 then (Option.bind (sv_Run k410 (⟨l107⟩ : Registry) x161 x162 x163 s169) fun t483 => (Option.bind (sv_run k410 (⟨l97⟩ : Registry71) (⟨b157, b158, b159, x160, x161, x162, x163, l166, s169⟩ : Op)) fun t493 => (if t483.1 = t493.1 then (if t483.2 = t493.2 then (law_Plays.l1 k410 a0 (w64 (x89 + 1)) l92 l97 l102 l107) else (some false)) else (some false)))) else (if x211 = 1 then (Option.bind (sv_Run k410 (⟨l102⟩ : Registry) x161 x162 x163 s169) fun t515 => (Option.bind (sv_run k410 (⟨l92⟩ : Registry71) (⟨b157, b158, b159, x160, x161, x162, x163, l166, s169⟩ : Op)) fun t525 => (if t515.1 = t525.1 then (if t515.2 = t525.2 then (law_Plays.l1 k410 a0 (w64 (x89 + 1)) l92 l97 l102 l107) else (some false)) else (some false)))) else none)))
def law_Plays.j4 : Nat → List Op → Int → List Service111 → List Service111 → List Service → List Service → Bool → Bool → Bool → Int → Int → Int → Int → List Int → List UInt8 → Int → Bool → Option Bool
  | 0, _, _, _, _, _, _, _, _, _, _, _, _, _, _, _, _, _ => none
  | k272 + 1, a0, x89, l92, l97, l102, l107, b157, b158, b159, x160, x161, x162, x163, l166, s169, x211, b242 => (if b242 = true then (if x211 = 0 then (Option.bind (sv_offer k272 (⟨l107⟩ : Registry) (⟨l97⟩ : Registry71) (⟨b157, b158, b159, x160, x161, x162, x163, l166, s169⟩ : Op)) fun t285 => (if t285.1 = true then (law_Plays.l1 k272 a0 (w64 (x89 + 1)) l92 t285.2.2.L l102 t285.2.1.l) else (some false))) else (if x211 = 1 then (Option.bind (sv_offer k272 (⟨l102⟩ : Registry) (⟨l92⟩ : Registry71) (⟨b157, b158, b159, x160, x161, x162, x163, l166, s169⟩ : Op)) fun t337 => (if t337.1 = true then (law_Plays.l1 k272 a0 (w64 (x89 + 1)) t337.2.2.L l97 t337.2.1.l l107) else (some false))) else none)) else (if x160 = 2 then (law_Plays.j5 k272 a0 x89 l92 l97 l102 l107 b157 b158 b159 x160 x161 x162 x163 l166 s169 x211 (decide (x160 = 2))) else (law_Plays.j5 k272 a0 x89 l92 l97 l102 l107 b157 b158 b159 x160 x161 x162 x163 l166 s169 x211 (decide (x160 = 3)))))
def law_Plays.j3 : Nat → List Op → Int → List Service111 → List Service111 → List Service → List Service → Bool → Bool → Bool → Int → Int → Int → Int → List Int → List UInt8 → Int → Option Bool
  | 0, _, _, _, _, _, _, _, _, _, _, _, _, _, _, _, _ => none
  | k241 + 1, a0, x89, l92, l97, l102, l107, b157, b158, b159, x160, x161, x162, x163, l166, s169, x211 => (if x160 = 0 then (law_Plays.j4 k241 a0 x89 l92 l97 l102 l107 b157 b158 b159 x160 x161 x162 x163 l166 s169 x211 (decide (x160 = 0))) else (law_Plays.j4 k241 a0 x89 l92 l97 l102 l107 b157 b158 b159 x160 x161 x162 x163 l166 s169 x211 (decide (x160 = 1))))
def law_Plays.j2 : Nat → List Op → Int → List Service111 → List Service111 → List Service → List Service → Bool → Bool → Bool → Int → Int → Int → Int → List Int → List UInt8 → Option Bool
  | 0, _, _, _, _, _, _, _, _, _, _, _, _, _, _, _ => none
  | k210 + 1, a0, x89, l92, l97, l102, l107, b157, b158, b159, x160, x161, x162, x163, l166, s169 => (if b157 = true then (law_Plays.j3 k210 a0 x89 l92 l97 l102 l107 b157 b158 b159 x160 x161 x162 x163 l166 s169 1) else (law_Plays.j3 k210 a0 x89 l92 l97 l102 l107 b157 b158 b159 x160 x161 x162 x163 l166 s169 0))
def law_Plays.l1 : Nat → List Op → Int → List Service111 → List Service111 → List Service → List Service → Option Bool
  | 0, _, _, _, _, _, _ => none
  | k112 + 1, a0, x89, l92, l97, l102, l107 => (if x89 < (a0.length : Int) then (Option.bind (idx a0 x89) fun x130 => (if x130.Near = true then (Option.bind (sv_near k112 x130) fun t175 => (law_Plays.j2 k112 a0 x89 l92 l97 l102 l107 t175.Other t175.Near t175.None t175.What t175.Prog t175.Vers t175.Proc (t175.Procs) t175.Args)) else (law_Plays.j2 k112 a0 x89 l92 l97 l102 l107 x130.Other x130.Near x130.None x130.What x130.Prog x130.Vers x130.Proc x130.Procs x130.Args))) else (some true))
end
def law_Plays.j1 (q69 : Nat) (a0 : List Op) (t6 : Registry) (t24 : Registry) (b66 : Bool) : Option Bool := (if b66 = true then (some false) else (law_Plays.l1 q69 a0 0 [] [] t24.l t6.l))
def law_Plays (k : Nat) (a0 : List Op) : Option Bool := (Option.bind (sv_known k) fun t1 => (Option.bind (sv_New k) fun t6 => (Option.bind (sv_New k) fun t24 => (if t1 = true then (law_Plays.j1 k a0 t6 t24 false) else (law_Plays.j1 k a0 t6 t24 true)))))
set_option maxRecDepth 100000 in
set_option maxHeartbeats 1000000 in
theorem law_Plays_calls (k : Nat) (a0 : List Op) {A0 : Option Addr} {c0 : Nat} {F0 : Nat → Prop} {w : World} (hR0 : SlR Op.rp w F0 A0 c0 a0) (hF0 : ∀ b, F0 b → NK w [] b) {r_ : Bool} (h_ : law_Plays k a0 = some r_) :
    Calls Try.prog 7 [.slice A0 a0.length c0].toArray w fun e w' => e = .returned (.bool r_) ∧ St w (KS []) w' [] := by
  have hF := h_
  clear h_
  unfold law_Plays at hF
  have S := St.ofFalse (As := []) (St.init0 w)
  refine enter 155 [(0, .slice A0 a0.length c0)] Try.func7 rfl rfl rfl rfl ?_
  refine WCode.seq ?_
  refine WCode.region ?_
  refine WOps.p (G.assign rfl) rfl ?_
  refine WOps.nil ?_
  refine WEx.then_ ?_
  refine WCode.seq ?_
  refine WCode.region ?_
  obtain ⟨t1, hc2, hF⟩ := bind_some hF
  refine WOps.call T.call25 evs_nil rfl ?_
  refine (sv_known_calls k hc2).mono ?_
  rintro _ w3 ⟨rfl, T4⟩
  have S5 := St.callN (As := []) S T4
  change St _ _ _ [] at S5
  refine ⟨_, rfl, ?_⟩
  refine WOps.p (G.assign rfl) rfl ?_
  refine WOps.nil ?_
  refine WEx.then_ ?_
  refine WCode.seq ?_
  refine WCode.region ?_
  obtain ⟨t6, hc7, hF⟩ := bind_some hF
  refine WOps.call T.call26 evs_nil rfl ?_
  refine (sv_New_calls k hc7).mono ?_
  rintro _ w8 ⟨p11, G12, rfl, hO13, T9⟩
  have S10 := St.callN (As := []) S5 T9
  change St _ _ _ [G12] at S10
  refine ⟨_, rfl, ?_⟩
  obtain ⟨cs14, G15, ho16, hg17⟩ := hO13
  obtain ⟨A18, c19, G20, rfl, hO21, hq22⟩ := ho16
  have S23 : St _ _ _ [[(p11, .cells #[.slice A18 t6.l.length c19] 108 (0, 0))], G20] := S10.objs (by rw [hg17, hq22]; simp)
  obtain ⟨t24, hc25, hF⟩ := bind_some hF
  refine WOps.call T.call26 evs_nil rfl ?_
  refine (sv_New_calls k hc25).mono ?_
  rintro _ w26 ⟨p29, G30, rfl, hO31, T27⟩
  have S28 := St.callN (As := []) S23 T27
  change St _ _ _ [G30, [(p11, .cells #[.slice A18 t6.l.length c19] 108 (0, 0))], G20] at S28
  refine ⟨_, rfl, ?_⟩
  obtain ⟨cs32, G33, ho34, hg35⟩ := hO31
  obtain ⟨A36, c37, G38, rfl, hO39, hq40⟩ := ho34
  have S41 : St _ _ _ [[(p29, .cells #[.slice A36 t24.l.length c37] 108 (0, 0))], G38, [(p11, .cells #[.slice A18 t6.l.length c19] 108 (0, 0))], G20] := S28.objs (by rw [hg35, hq40]; simp)
  obtain ⟨b42, w43, E44, S45, X46, L47⟩ := St.lit S41 (P := Try.prog) (t := 67) (e := 65) (n := 2) (vs := [(0, .pointer (some ⟨p11, 0, none⟩)), (1, .pointer (some ⟨p29, 0, none⟩))]) (cs := #[.pointer (some ⟨p11, 0, none⟩), .pointer (some ⟨p29, 0, none⟩)]) (by kernel_rfl)
  change St _ _ _ [[(b42, .cells #[.pointer (some ⟨p11, 0, none⟩), .pointer (some ⟨p29, 0, none⟩)] 65 (0, 0))], [(p29, .cells #[.slice A36 t24.l.length c37] 108 (0, 0))], G38, [(p11, .cells #[.slice A18 t6.l.length c19] 108 (0, 0))], G20] at S45
  refine WOps.e (E44 (evp_cons rfl (evp_cons rfl evp_nil))) rfl ?_
  refine WOps.p (G.assign rfl) rfl ?_
  refine WOps.nil ?_
  refine WEx.then_ ?_
  refine WCode.seq ?_
  refine WCode.region ?_
  refine WOps.p (G.build (cells := #[.slice none 0 0]) (evp_spec (evp_nil)) (by kernel_rfl)) rfl ?_
  obtain ⟨b48, w49, E50, S51, X52, L53⟩ := St.box S45 Try.prog 71 (.agg #[.slice none 0 0])
  change St _ _ _ [[(b48, .cells #[.slice none 0 0] 71 (0, 0))], [(b42, .cells #[.pointer (some ⟨p11, 0, none⟩), .pointer (some ⟨p29, 0, none⟩)] 65 (0, 0))], [(p29, .cells #[.slice A36 t24.l.length c37] 108 (0, 0))], G38, [(p11, .cells #[.slice A18 t6.l.length c19] 108 (0, 0))], G20] at S51
  refine WOps.e (E50 rfl) rfl ?_
  refine WOps.p (G.build (cells := #[.slice none 0 0]) (evp_spec (evp_nil)) (by kernel_rfl)) rfl ?_
  obtain ⟨b54, w55, E56, S57, X58, L59⟩ := St.box S51 Try.prog 71 (.agg #[.slice none 0 0])
  change St _ _ _ [[(b54, .cells #[.slice none 0 0] 71 (0, 0))], [(b48, .cells #[.slice none 0 0] 71 (0, 0))], [(b42, .cells #[.pointer (some ⟨p11, 0, none⟩), .pointer (some ⟨p29, 0, none⟩)] 65 (0, 0))], [(p29, .cells #[.slice A36 t24.l.length c37] 108 (0, 0))], G38, [(p11, .cells #[.slice A18 t6.l.length c19] 108 (0, 0))], G20] at S57
  refine WOps.e (E56 rfl) rfl ?_
  obtain ⟨b60, w61, E62, S63, X64, L65⟩ := St.lit S57 (P := Try.prog) (t := 72) (e := 68) (n := 2) (vs := [(0, .pointer (some ⟨b48, 0, none⟩)), (1, .pointer (some ⟨b54, 0, none⟩))]) (cs := #[.pointer (some ⟨b48, 0, none⟩), .pointer (some ⟨b54, 0, none⟩)]) (by kernel_rfl)
  change St _ _ _ [[(b60, .cells #[.pointer (some ⟨b48, 0, none⟩), .pointer (some ⟨b54, 0, none⟩)] 68 (0, 0))], [(b54, .cells #[.slice none 0 0] 71 (0, 0))], [(b48, .cells #[.slice none 0 0] 71 (0, 0))], [(b42, .cells #[.pointer (some ⟨p11, 0, none⟩), .pointer (some ⟨p29, 0, none⟩)] 65 (0, 0))], [(p29, .cells #[.slice A36 t24.l.length c37] 108 (0, 0))], G38, [(p11, .cells #[.slice A18 t6.l.length c19] 108 (0, 0))], G20] at S63
  refine WOps.e (E62 (evp_cons rfl (evp_cons rfl evp_nil))) rfl ?_
  refine WOps.p (G.assign rfl) rfl ?_
  refine WOps.nil ?_
  refine WEx.then_ ?_
  refine WCode.forget (l' := [(0, .slice A0 a0.length c0), (3, .bool t1), (4, .slice (some ⟨b42, 0, none⟩) ([0, 0] : List Int).length 2), (5, .slice (some ⟨b60, 0, none⟩) ([0, 0] : List Int).length 2)]) ⟨rfl, rfl, rfl, rfl, trivial⟩ ?_
  refine WCode.seq ?_
  refine WCode.cutseq (fun l_ w_ => ∃ q69 : Nat, ∃ b66 : Bool, l_ = [(0, .slice A0 a0.length c0), (4, .slice (some ⟨b42, 0, none⟩) ([0, 0] : List Int).length 2), (5, .slice (some ⟨b60, 0, none⟩) ([0, 0] : List Int).length 2), (42, .bool b66)] ∧ law_Plays.j1 q69 a0 t6 t24 b66 = some r_ ∧ St w (KS []) w_ [[(b60, .cells #[.pointer (some ⟨b48, 0, none⟩), .pointer (some ⟨b54, 0, none⟩)] 68 (0, 0))], [(b54, .cells #[.slice none 0 0] 71 (0, 0))], [(b48, .cells #[.slice none 0 0] 71 (0, 0))], [(b42, .cells #[.pointer (some ⟨p11, 0, none⟩), .pointer (some ⟨p29, 0, none⟩)] 65 (0, 0))], [(p29, .cells #[.slice A36 t24.l.length c37] 108 (0, 0))], [(p11, .cells #[.slice A18 t6.l.length c19] 108 (0, 0))], G38, G20]) ?_ ?_
  ·
    refine WCode.region ?_
    refine WOps.p (G.move rfl) rfl ?_
    refine WOps.p (G.not rfl rfl) rfl ?_
    refine WOps.p (G.move rfl) rfl ?_
    rcases ite_some hF with ⟨h71, hF⟩ | ⟨h71, hF⟩
    ·
      refine WOps.on rfl (kbl (b := !t1) rfl (show (!t1) = false from by rw [h71]; rfl)) ?_
      refine WOps.p (G.move rfl) rfl ?_
      refine WOps.on rfl (kbl (b := !t1) rfl (show (!t1) = false from by rw [h71]; rfl)) ?_
      refine WOps.p (G.idx (o := 0) (j := 0) T.el67 rfl rfl rfl rfl (by decide) : GP _ _ _ _ (.pointer (some ⟨b42, 0, none⟩))) rfl ?_
      refine WOps.on rfl (kbl (b := !t1) rfl (show (!t1) = false from by rw [h71]; rfl)) ?_
      refine WOps.r (G.load1 T.one65 rfl (cell_blk (S63.blk 3 rfl) rfl)) rfl ?_
      refine WOps.on rfl (kbl (b := !t1) rfl (show (!t1) = false from by rw [h71]; rfl)) ?_
      refine WOps.p (G.eqp_nil Try.underlying65 rfl rfl rfl) rfl ?_
      refine WOps.p (G.pick_f (kb (b := !t1) rfl (show (!t1) = false from by rw [h71]; rfl)) rfl) rfl ?_
      refine WOps.p (G.move rfl) rfl ?_
      refine WOps.on rfl rfl ?_
      refine WOps.p (G.move rfl) rfl ?_
      refine WOps.on rfl rfl ?_
      refine WOps.p (G.idx (o := 0) (j := 1) T.el67 rfl rfl rfl rfl (by decide) : GP _ _ _ _ (.pointer (some ⟨b42, 1, none⟩))) rfl ?_
      refine WOps.on rfl rfl ?_
      refine WOps.r (G.load1 T.one65 rfl (cell_blk (S63.blk 3 rfl) rfl)) rfl ?_
      refine WOps.on rfl rfl ?_
      refine WOps.p (G.eqp_nil Try.underlying65 rfl rfl rfl) rfl ?_
      refine WOps.p (G.pick_f rfl rfl) rfl ?_
      refine WOps.nil ?_
      have S72 := S63.front 7 rfl
      change St _ _ _ [G20, [(b60, .cells #[.pointer (some ⟨b48, 0, none⟩), .pointer (some ⟨b54, 0, none⟩)] 68 (0, 0))], [(b54, .cells #[.slice none 0 0] 71 (0, 0))], [(b48, .cells #[.slice none 0 0] 71 (0, 0))], [(b42, .cells #[.pointer (some ⟨p11, 0, none⟩), .pointer (some ⟨p29, 0, none⟩)] 65 (0, 0))], [(p29, .cells #[.slice A36 t24.l.length c37] 108 (0, 0))], G38, [(p11, .cells #[.slice A18 t6.l.length c19] 108 (0, 0))]] at S72
      have S73 := S72.front 6 rfl
      change St _ _ _ [G38, G20, [(b60, .cells #[.pointer (some ⟨b48, 0, none⟩), .pointer (some ⟨b54, 0, none⟩)] 68 (0, 0))], [(b54, .cells #[.slice none 0 0] 71 (0, 0))], [(b48, .cells #[.slice none 0 0] 71 (0, 0))], [(b42, .cells #[.pointer (some ⟨p11, 0, none⟩), .pointer (some ⟨p29, 0, none⟩)] 65 (0, 0))], [(p29, .cells #[.slice A36 t24.l.length c37] 108 (0, 0))], [(p11, .cells #[.slice A18 t6.l.length c19] 108 (0, 0))]] at S73
      have S74 := S73.front 7 rfl
      change St _ _ _ [[(p11, .cells #[.slice A18 t6.l.length c19] 108 (0, 0))], G38, G20, [(b60, .cells #[.pointer (some ⟨b48, 0, none⟩), .pointer (some ⟨b54, 0, none⟩)] 68 (0, 0))], [(b54, .cells #[.slice none 0 0] 71 (0, 0))], [(b48, .cells #[.slice none 0 0] 71 (0, 0))], [(b42, .cells #[.pointer (some ⟨p11, 0, none⟩), .pointer (some ⟨p29, 0, none⟩)] 65 (0, 0))], [(p29, .cells #[.slice A36 t24.l.length c37] 108 (0, 0))]] at S74
      have S75 := S74.front 7 rfl
      change St _ _ _ [[(p29, .cells #[.slice A36 t24.l.length c37] 108 (0, 0))], [(p11, .cells #[.slice A18 t6.l.length c19] 108 (0, 0))], G38, G20, [(b60, .cells #[.pointer (some ⟨b48, 0, none⟩), .pointer (some ⟨b54, 0, none⟩)] 68 (0, 0))], [(b54, .cells #[.slice none 0 0] 71 (0, 0))], [(b48, .cells #[.slice none 0 0] 71 (0, 0))], [(b42, .cells #[.pointer (some ⟨p11, 0, none⟩), .pointer (some ⟨p29, 0, none⟩)] 65 (0, 0))]] at S75
      have S76 := S75.front 7 rfl
      change St _ _ _ [[(b42, .cells #[.pointer (some ⟨p11, 0, none⟩), .pointer (some ⟨p29, 0, none⟩)] 65 (0, 0))], [(p29, .cells #[.slice A36 t24.l.length c37] 108 (0, 0))], [(p11, .cells #[.slice A18 t6.l.length c19] 108 (0, 0))], G38, G20, [(b60, .cells #[.pointer (some ⟨b48, 0, none⟩), .pointer (some ⟨b54, 0, none⟩)] 68 (0, 0))], [(b54, .cells #[.slice none 0 0] 71 (0, 0))], [(b48, .cells #[.slice none 0 0] 71 (0, 0))]] at S76
      have S77 := S76.front 7 rfl
      change St _ _ _ [[(b48, .cells #[.slice none 0 0] 71 (0, 0))], [(b42, .cells #[.pointer (some ⟨p11, 0, none⟩), .pointer (some ⟨p29, 0, none⟩)] 65 (0, 0))], [(p29, .cells #[.slice A36 t24.l.length c37] 108 (0, 0))], [(p11, .cells #[.slice A18 t6.l.length c19] 108 (0, 0))], G38, G20, [(b60, .cells #[.pointer (some ⟨b48, 0, none⟩), .pointer (some ⟨b54, 0, none⟩)] 68 (0, 0))], [(b54, .cells #[.slice none 0 0] 71 (0, 0))]] at S77
      have S78 := S77.front 7 rfl
      change St _ _ _ [[(b54, .cells #[.slice none 0 0] 71 (0, 0))], [(b48, .cells #[.slice none 0 0] 71 (0, 0))], [(b42, .cells #[.pointer (some ⟨p11, 0, none⟩), .pointer (some ⟨p29, 0, none⟩)] 65 (0, 0))], [(p29, .cells #[.slice A36 t24.l.length c37] 108 (0, 0))], [(p11, .cells #[.slice A18 t6.l.length c19] 108 (0, 0))], G38, G20, [(b60, .cells #[.pointer (some ⟨b48, 0, none⟩), .pointer (some ⟨b54, 0, none⟩)] 68 (0, 0))]] at S78
      have S79 := S78.front 7 rfl
      change St _ _ _ [[(b60, .cells #[.pointer (some ⟨b48, 0, none⟩), .pointer (some ⟨b54, 0, none⟩)] 68 (0, 0))], [(b54, .cells #[.slice none 0 0] 71 (0, 0))], [(b48, .cells #[.slice none 0 0] 71 (0, 0))], [(b42, .cells #[.pointer (some ⟨p11, 0, none⟩), .pointer (some ⟨p29, 0, none⟩)] 65 (0, 0))], [(p29, .cells #[.slice A36 t24.l.length c37] 108 (0, 0))], [(p11, .cells #[.slice A18 t6.l.length c19] 108 (0, 0))], G38, G20] at S79
      refine WEx.cutend _ ?_ ⟨k, false, rfl, hF, S79⟩
      exact ⟨rfl, rfl, rfl, rfl, trivial⟩
    ·
      refine WOps.off rfl (kbl (b := !t1) rfl (show (!t1) = true from by rw [(Bool.eq_false_iff.2 h71)]; rfl)) rfl rfl ?_
      refine WOps.off rfl (kbl (b := !t1) rfl (show (!t1) = true from by rw [(Bool.eq_false_iff.2 h71)]; rfl)) rfl rfl ?_
      refine WOps.off rfl (kbl (b := !t1) rfl (show (!t1) = true from by rw [(Bool.eq_false_iff.2 h71)]; rfl)) rfl rfl ?_
      refine WOps.off rfl (kbl (b := !t1) rfl (show (!t1) = true from by rw [(Bool.eq_false_iff.2 h71)]; rfl)) rfl rfl ?_
      refine WOps.p (G.pick_t (kb (b := !t1) rfl (show (!t1) = true from by rw [(Bool.eq_false_iff.2 h71)]; rfl)) rfl) rfl ?_
      refine WOps.p (G.move rfl) rfl ?_
      refine WOps.off rfl rfl rfl rfl ?_
      refine WOps.off rfl rfl rfl rfl ?_
      refine WOps.off rfl rfl rfl rfl ?_
      refine WOps.off rfl rfl rfl rfl ?_
      refine WOps.p (G.pick_t rfl rfl) rfl ?_
      refine WOps.nil ?_
      have S80 := S63.front 7 rfl
      change St _ _ _ [G20, [(b60, .cells #[.pointer (some ⟨b48, 0, none⟩), .pointer (some ⟨b54, 0, none⟩)] 68 (0, 0))], [(b54, .cells #[.slice none 0 0] 71 (0, 0))], [(b48, .cells #[.slice none 0 0] 71 (0, 0))], [(b42, .cells #[.pointer (some ⟨p11, 0, none⟩), .pointer (some ⟨p29, 0, none⟩)] 65 (0, 0))], [(p29, .cells #[.slice A36 t24.l.length c37] 108 (0, 0))], G38, [(p11, .cells #[.slice A18 t6.l.length c19] 108 (0, 0))]] at S80
      have S81 := S80.front 6 rfl
      change St _ _ _ [G38, G20, [(b60, .cells #[.pointer (some ⟨b48, 0, none⟩), .pointer (some ⟨b54, 0, none⟩)] 68 (0, 0))], [(b54, .cells #[.slice none 0 0] 71 (0, 0))], [(b48, .cells #[.slice none 0 0] 71 (0, 0))], [(b42, .cells #[.pointer (some ⟨p11, 0, none⟩), .pointer (some ⟨p29, 0, none⟩)] 65 (0, 0))], [(p29, .cells #[.slice A36 t24.l.length c37] 108 (0, 0))], [(p11, .cells #[.slice A18 t6.l.length c19] 108 (0, 0))]] at S81
      have S82 := S81.front 7 rfl
      change St _ _ _ [[(p11, .cells #[.slice A18 t6.l.length c19] 108 (0, 0))], G38, G20, [(b60, .cells #[.pointer (some ⟨b48, 0, none⟩), .pointer (some ⟨b54, 0, none⟩)] 68 (0, 0))], [(b54, .cells #[.slice none 0 0] 71 (0, 0))], [(b48, .cells #[.slice none 0 0] 71 (0, 0))], [(b42, .cells #[.pointer (some ⟨p11, 0, none⟩), .pointer (some ⟨p29, 0, none⟩)] 65 (0, 0))], [(p29, .cells #[.slice A36 t24.l.length c37] 108 (0, 0))]] at S82
      have S83 := S82.front 7 rfl
      change St _ _ _ [[(p29, .cells #[.slice A36 t24.l.length c37] 108 (0, 0))], [(p11, .cells #[.slice A18 t6.l.length c19] 108 (0, 0))], G38, G20, [(b60, .cells #[.pointer (some ⟨b48, 0, none⟩), .pointer (some ⟨b54, 0, none⟩)] 68 (0, 0))], [(b54, .cells #[.slice none 0 0] 71 (0, 0))], [(b48, .cells #[.slice none 0 0] 71 (0, 0))], [(b42, .cells #[.pointer (some ⟨p11, 0, none⟩), .pointer (some ⟨p29, 0, none⟩)] 65 (0, 0))]] at S83
      have S84 := S83.front 7 rfl
      change St _ _ _ [[(b42, .cells #[.pointer (some ⟨p11, 0, none⟩), .pointer (some ⟨p29, 0, none⟩)] 65 (0, 0))], [(p29, .cells #[.slice A36 t24.l.length c37] 108 (0, 0))], [(p11, .cells #[.slice A18 t6.l.length c19] 108 (0, 0))], G38, G20, [(b60, .cells #[.pointer (some ⟨b48, 0, none⟩), .pointer (some ⟨b54, 0, none⟩)] 68 (0, 0))], [(b54, .cells #[.slice none 0 0] 71 (0, 0))], [(b48, .cells #[.slice none 0 0] 71 (0, 0))]] at S84
      have S85 := S84.front 7 rfl
      change St _ _ _ [[(b48, .cells #[.slice none 0 0] 71 (0, 0))], [(b42, .cells #[.pointer (some ⟨p11, 0, none⟩), .pointer (some ⟨p29, 0, none⟩)] 65 (0, 0))], [(p29, .cells #[.slice A36 t24.l.length c37] 108 (0, 0))], [(p11, .cells #[.slice A18 t6.l.length c19] 108 (0, 0))], G38, G20, [(b60, .cells #[.pointer (some ⟨b48, 0, none⟩), .pointer (some ⟨b54, 0, none⟩)] 68 (0, 0))], [(b54, .cells #[.slice none 0 0] 71 (0, 0))]] at S85
      have S86 := S85.front 7 rfl
      change St _ _ _ [[(b54, .cells #[.slice none 0 0] 71 (0, 0))], [(b48, .cells #[.slice none 0 0] 71 (0, 0))], [(b42, .cells #[.pointer (some ⟨p11, 0, none⟩), .pointer (some ⟨p29, 0, none⟩)] 65 (0, 0))], [(p29, .cells #[.slice A36 t24.l.length c37] 108 (0, 0))], [(p11, .cells #[.slice A18 t6.l.length c19] 108 (0, 0))], G38, G20, [(b60, .cells #[.pointer (some ⟨b48, 0, none⟩), .pointer (some ⟨b54, 0, none⟩)] 68 (0, 0))]] at S86
      have S87 := S86.front 7 rfl
      change St _ _ _ [[(b60, .cells #[.pointer (some ⟨b48, 0, none⟩), .pointer (some ⟨b54, 0, none⟩)] 68 (0, 0))], [(b54, .cells #[.slice none 0 0] 71 (0, 0))], [(b48, .cells #[.slice none 0 0] 71 (0, 0))], [(b42, .cells #[.pointer (some ⟨p11, 0, none⟩), .pointer (some ⟨p29, 0, none⟩)] 65 (0, 0))], [(p29, .cells #[.slice A36 t24.l.length c37] 108 (0, 0))], [(p11, .cells #[.slice A18 t6.l.length c19] 108 (0, 0))], G38, G20] at S87
      refine WEx.cutend _ ?_ ⟨k, true, rfl, hF, S87⟩
      exact ⟨rfl, rfl, rfl, rfl, trivial⟩
  ·
    rintro _ w67 ⟨q69, b66, rfl, hF, S68⟩
    unfold law_Plays.j1 at hF
    rcases ite_some hF with ⟨h88, hF⟩ | ⟨h88, hF⟩
    ·
      refine WCode.cond_t (kb (b := b66) rfl h88) ?_
      refine WCode.seq ?_
      refine WCode.region ?_
      refine WOps.p (G.assign rfl) rfl ?_
      refine WOps.nil ?_
      refine WEx.then_ ?_
      refine WCode.ret ?_
      refine WEx.then_ret ?_
      obtain rfl := some_eq hF
      refine WEx.ret1 rfl rfl ?_
      exact ⟨rfl, St.keep (As := []) S68⟩
    ·
      refine WCode.cond_f (kb (b := b66) rfl (Bool.eq_false_iff.2 h88)) ?_
      refine WCode.skip ?_
      refine WEx.then_ ?_
      refine WCode.seq ?_
      refine WCode.seq ?_
      refine WCode.region ?_
      refine WOps.p (G.assign rfl) rfl ?_
      refine WOps.nil ?_
      refine WEx.then_ ?_
      refine WCode.block ?_
      have S114 := S68.emp
      have S116 := S114.emp
      have S118 := S116.front 9 rfl
      change St _ _ _ [G20, ([] : Grp), ([] : Grp), [(b60, .cells #[.pointer (some ⟨b48, 0, none⟩), .pointer (some ⟨b54, 0, none⟩)] 68 (0, 0))], [(b54, .cells #[.slice none 0 0] 71 (0, 0))], [(b48, .cells #[.slice none 0 0] 71 (0, 0))], [(b42, .cells #[.pointer (some ⟨p11, 0, none⟩), .pointer (some ⟨p29, 0, none⟩)] 65 (0, 0))], [(p29, .cells #[.slice A36 t24.l.length c37] 108 (0, 0))], [(p11, .cells #[.slice A18 t6.l.length c19] 108 (0, 0))], G38] at S118
      have S119 := S118.front 9 rfl
      change St _ _ _ [G38, G20, ([] : Grp), ([] : Grp), [(b60, .cells #[.pointer (some ⟨b48, 0, none⟩), .pointer (some ⟨b54, 0, none⟩)] 68 (0, 0))], [(b54, .cells #[.slice none 0 0] 71 (0, 0))], [(b48, .cells #[.slice none 0 0] 71 (0, 0))], [(b42, .cells #[.pointer (some ⟨p11, 0, none⟩), .pointer (some ⟨p29, 0, none⟩)] 65 (0, 0))], [(p29, .cells #[.slice A36 t24.l.length c37] 108 (0, 0))], [(p11, .cells #[.slice A18 t6.l.length c19] 108 (0, 0))]] at S119
      have S120 := S119.front 2 rfl
      change St _ _ _ [([] : Grp), G38, G20, ([] : Grp), [(b60, .cells #[.pointer (some ⟨b48, 0, none⟩), .pointer (some ⟨b54, 0, none⟩)] 68 (0, 0))], [(b54, .cells #[.slice none 0 0] 71 (0, 0))], [(b48, .cells #[.slice none 0 0] 71 (0, 0))], [(b42, .cells #[.pointer (some ⟨p11, 0, none⟩), .pointer (some ⟨p29, 0, none⟩)] 65 (0, 0))], [(p29, .cells #[.slice A36 t24.l.length c37] 108 (0, 0))], [(p11, .cells #[.slice A18 t6.l.length c19] 108 (0, 0))]] at S120
      have S121 := S120.front 3 rfl
      change St _ _ _ [([] : Grp), ([] : Grp), G38, G20, [(b60, .cells #[.pointer (some ⟨b48, 0, none⟩), .pointer (some ⟨b54, 0, none⟩)] 68 (0, 0))], [(b54, .cells #[.slice none 0 0] 71 (0, 0))], [(b48, .cells #[.slice none 0 0] 71 (0, 0))], [(b42, .cells #[.pointer (some ⟨p11, 0, none⟩), .pointer (some ⟨p29, 0, none⟩)] 65 (0, 0))], [(p29, .cells #[.slice A36 t24.l.length c37] 108 (0, 0))], [(p11, .cells #[.slice A18 t6.l.length c19] 108 (0, 0))]] at S121
      have S122 := S121.front 9 rfl
      change St _ _ _ [[(p11, .cells #[.slice A18 t6.l.length c19] 108 (0, 0))], ([] : Grp), ([] : Grp), G38, G20, [(b60, .cells #[.pointer (some ⟨b48, 0, none⟩), .pointer (some ⟨b54, 0, none⟩)] 68 (0, 0))], [(b54, .cells #[.slice none 0 0] 71 (0, 0))], [(b48, .cells #[.slice none 0 0] 71 (0, 0))], [(b42, .cells #[.pointer (some ⟨p11, 0, none⟩), .pointer (some ⟨p29, 0, none⟩)] 65 (0, 0))], [(p29, .cells #[.slice A36 t24.l.length c37] 108 (0, 0))]] at S122
      have S123 := S122.front 9 rfl
      change St _ _ _ [[(p29, .cells #[.slice A36 t24.l.length c37] 108 (0, 0))], [(p11, .cells #[.slice A18 t6.l.length c19] 108 (0, 0))], ([] : Grp), ([] : Grp), G38, G20, [(b60, .cells #[.pointer (some ⟨b48, 0, none⟩), .pointer (some ⟨b54, 0, none⟩)] 68 (0, 0))], [(b54, .cells #[.slice none 0 0] 71 (0, 0))], [(b48, .cells #[.slice none 0 0] 71 (0, 0))], [(b42, .cells #[.pointer (some ⟨p11, 0, none⟩), .pointer (some ⟨p29, 0, none⟩)] 65 (0, 0))]] at S123
      have S124 := S123.front 9 rfl
      change St _ _ _ [[(b42, .cells #[.pointer (some ⟨p11, 0, none⟩), .pointer (some ⟨p29, 0, none⟩)] 65 (0, 0))], [(p29, .cells #[.slice A36 t24.l.length c37] 108 (0, 0))], [(p11, .cells #[.slice A18 t6.l.length c19] 108 (0, 0))], ([] : Grp), ([] : Grp), G38, G20, [(b60, .cells #[.pointer (some ⟨b48, 0, none⟩), .pointer (some ⟨b54, 0, none⟩)] 68 (0, 0))], [(b54, .cells #[.slice none 0 0] 71 (0, 0))], [(b48, .cells #[.slice none 0 0] 71 (0, 0))]] at S124
      have S125 := S124.front 9 rfl
      change St _ _ _ [[(b48, .cells #[.slice none 0 0] 71 (0, 0))], [(b42, .cells #[.pointer (some ⟨p11, 0, none⟩), .pointer (some ⟨p29, 0, none⟩)] 65 (0, 0))], [(p29, .cells #[.slice A36 t24.l.length c37] 108 (0, 0))], [(p11, .cells #[.slice A18 t6.l.length c19] 108 (0, 0))], ([] : Grp), ([] : Grp), G38, G20, [(b60, .cells #[.pointer (some ⟨b48, 0, none⟩), .pointer (some ⟨b54, 0, none⟩)] 68 (0, 0))], [(b54, .cells #[.slice none 0 0] 71 (0, 0))]] at S125
      have S126 := S125.front 9 rfl
      change St _ _ _ [[(b54, .cells #[.slice none 0 0] 71 (0, 0))], [(b48, .cells #[.slice none 0 0] 71 (0, 0))], [(b42, .cells #[.pointer (some ⟨p11, 0, none⟩), .pointer (some ⟨p29, 0, none⟩)] 65 (0, 0))], [(p29, .cells #[.slice A36 t24.l.length c37] 108 (0, 0))], [(p11, .cells #[.slice A18 t6.l.length c19] 108 (0, 0))], ([] : Grp), ([] : Grp), G38, G20, [(b60, .cells #[.pointer (some ⟨b48, 0, none⟩), .pointer (some ⟨b54, 0, none⟩)] 68 (0, 0))]] at S126
      have S127 := S126.front 9 rfl
      change St _ _ _ [[(b60, .cells #[.pointer (some ⟨b48, 0, none⟩), .pointer (some ⟨b54, 0, none⟩)] 68 (0, 0))], [(b54, .cells #[.slice none 0 0] 71 (0, 0))], [(b48, .cells #[.slice none 0 0] 71 (0, 0))], [(b42, .cells #[.pointer (some ⟨p11, 0, none⟩), .pointer (some ⟨p29, 0, none⟩)] 65 (0, 0))], [(p29, .cells #[.slice A36 t24.l.length c37] 108 (0, 0))], [(p11, .cells #[.slice A18 t6.l.length c19] 108 (0, 0))], ([] : Grp), ([] : Grp), G38, G20] at S127
      refine WCode.forget (l' := [(0, .slice A0 a0.length c0), (4, .slice (some ⟨b42, 0, none⟩) ([0, 0] : List Int).length 2), (5, .slice (some ⟨b60, 0, none⟩) ([0, 0] : List Int).length 2), (6, .int .i64 0)]) ⟨rfl, rfl, rfl, rfl, trivial⟩ ?_
      refine WCode.loop (fun n_ l_ w_ => ∃ x89 : Int, ∃ A90 : Option Addr, ∃ c91 : Nat, ∃ l92 : List Service111, ∃ G93 : Grp, ∃ A95 : Option Addr, ∃ c96 : Nat, ∃ l97 : List Service111, ∃ G98 : Grp, ∃ A100 : Option Addr, ∃ c101 : Nat, ∃ l102 : List Service, ∃ G103 : Grp, ∃ A105 : Option Addr, ∃ c106 : Nat, ∃ l107 : List Service, ∃ G108 : Grp, l_ = [(0, .slice A0 a0.length c0), (4, .slice (some ⟨b42, 0, none⟩) ([0, 0] : List Int).length 2), (5, .slice (some ⟨b60, 0, none⟩) ([0, 0] : List Int).length 2), (6, .int .i64 x89)] ∧ law_Plays.l1 n_ a0 x89 l92 l97 l102 l107 = some r_ ∧ (SlO 111 Service111.rp (.slice A90 l92.length c91) l92 G93) ∧ (SlO 111 Service111.rp (.slice A95 l97.length c96) l97 G98) ∧ (SlO 85 Service.rp (.slice A100 l102.length c101) l102 G103) ∧ (SlO 85 Service.rp (.slice A105 l107.length c106) l107 G108) ∧ St w (KS []) w_ [[(b60, .cells #[.pointer (some ⟨b48, 0, none⟩), .pointer (some ⟨b54, 0, none⟩)] 68 (0, 0))], [(b54, .cells #[.slice A90 l92.length c91] 71 (0, 0))], [(b48, .cells #[.slice A95 l97.length c96] 71 (0, 0))], [(b42, .cells #[.pointer (some ⟨p11, 0, none⟩), .pointer (some ⟨p29, 0, none⟩)] 65 (0, 0))], [(p29, .cells #[.slice A100 l102.length c101] 108 (0, 0))], [(p11, .cells #[.slice A105 l107.length c106] 108 (0, 0))], G93, G98, G103, G108]) q69 ⟨0, none, 0, [], ([] : Grp), none, 0, [], ([] : Grp), A36, c37, t24.l, G38, A18, c19, t6.l, G20, rfl, hF, (SlO.nil 111 Service111.rp), (SlO.nil 111 Service111.rp), hO39, hO21, S127⟩ ?_
      rintro n113 _ w110 ⟨x89, A90, c91, l92, G93, A95, c96, l97, G98, A100, c101, l102, G103, A105, c106, l107, G108, rfl, hF, hO94, hO99, hO104, hO109, S111⟩
      obtain _ | k112 := n113
      · exact nomatch (show (none : Option Bool) = some r_ from hF)
      rw [law_Plays.l1] at hF
      refine WCode.seq ?_
      refine WCode.seq ?_
      refine WCode.region ?_
      refine WOps.p (G.move rfl) rfl ?_
      refine WOps.p (G.move rfl) rfl ?_
      refine WOps.p (G.len T.el64 rfl) rfl ?_
      refine WOps.p (G.lss rfl rfl rfl) rfl ?_
      refine WOps.nil ?_
      refine WEx.then_ ?_
      rcases ite_some hF with ⟨h129, hF⟩ | ⟨h129, hF⟩
      ·
        refine WCode.cond_t (kb (b := decide (x89 < (a0.length : Int))) rfl (decide_eq_true h129)) ?_
        refine WCode.skip ?_
        refine WEx.then_ ?_
        refine WCode.seq ?_
        refine WCode.block ?_
        refine WCode.seq ?_
        refine WCode.region ?_
        refine WOps.p (G.move rfl) rfl ?_
        refine WOps.p (G.move rfl) rfl ?_
        obtain ⟨x130, hc131, hF⟩ := bind_some hF
        obtain ⟨j132, ej133, hj134, hl135⟩ := idx_spec hc131
        obtain ⟨b136, o137, cs138, eA139, hf140, hc141, hr142⟩ := SlR.at_ hR0 hj134
        obtain ⟨A143, c144, hq146, hR145⟩ := hr142
        subst hq146
        have hc141 := hc141.move ((S111.keepF hF0) _ hf140)
        change cellsAt _ _ (o137 + j132 * 9) [.bool x130.Other, .bool x130.Near, .bool x130.None, .int .i64 x130.What, .int .i64 x130.Prog, .int .i64 x130.Vers, .int .i64 x130.Proc, .slice A143 x130.Procs.length c144, .string (bs x130.Args)] at hc141
        refine WOps.p (G.idx T.el64 rfl eA139 rfl ej133 hl135) rfl ?_
        refine WOps.r (G.loada T.agg74_9 rfl (cs := [.bool x130.Other, .bool x130.Near, .bool x130.None, .int .i64 x130.What, .int .i64 x130.Prog, .int .i64 x130.Vers, .int .i64 x130.Proc, .slice A143 x130.Procs.length c144, .string (bs x130.Args)]) hc141) rfl ?_
        obtain ⟨b147, w148, E149, S150, X151, L152⟩ := St.var S111 (z := .agg #[.bool false, .bool false, .bool false, .int .i64 0, .int .i64 0, .int .i64 0, .int .i64 0, .slice none 0 0, .string (bs ([] : List UInt8))]) T.zero74
        have c153 := hc141.ext X151
        change St _ _ _ [[(b147, .cells #[.bool false, .bool false, .bool false, .int .i64 0, .int .i64 0, .int .i64 0, .int .i64 0, .slice none 0 0, .string (bs ([] : List UInt8))] 74 (0, 0))], [(b60, .cells #[.pointer (some ⟨b48, 0, none⟩), .pointer (some ⟨b54, 0, none⟩)] 68 (0, 0))], [(b54, .cells #[.slice A90 l92.length c91] 71 (0, 0))], [(b48, .cells #[.slice A95 l97.length c96] 71 (0, 0))], [(b42, .cells #[.pointer (some ⟨p11, 0, none⟩), .pointer (some ⟨p29, 0, none⟩)] 65 (0, 0))], [(p29, .cells #[.slice A100 l102.length c101] 108 (0, 0))], [(p11, .cells #[.slice A105 l107.length c106] 108 (0, 0))], G93, G98, G103, G108] at S150
        refine WOps.e E149 rfl ?_
        obtain ⟨w154, E155, S156⟩ := St.store (P := Try.prog) S150 0 74 (.agg #[.bool x130.Other, .bool x130.Near, .bool x130.None, .int .i64 x130.What, .int .i64 x130.Prog, .int .i64 x130.Vers, .int .i64 x130.Proc, .slice A143 x130.Procs.length c144, .string (bs x130.Args)]) (off := 0) (cur' := #[.bool x130.Other, .bool x130.Near, .bool x130.None, .int .i64 x130.What, .int .i64 x130.Prog, .int .i64 x130.Vers, .int .i64 x130.Proc, .slice A143 x130.Procs.length c144, .string (bs x130.Args)]) rfl T.size74_9 rfl rfl rfl
        change St _ _ _ [[(b147, .cells #[.bool x130.Other, .bool x130.Near, .bool x130.None, .int .i64 x130.What, .int .i64 x130.Prog, .int .i64 x130.Vers, .int .i64 x130.Proc, .slice A143 x130.Procs.length c144, .string (bs x130.Args)] 74 (0, 0))], [(b60, .cells #[.pointer (some ⟨b48, 0, none⟩), .pointer (some ⟨b54, 0, none⟩)] 68 (0, 0))], [(b54, .cells #[.slice A90 l92.length c91] 71 (0, 0))], [(b48, .cells #[.slice A95 l97.length c96] 71 (0, 0))], [(b42, .cells #[.pointer (some ⟨p11, 0, none⟩), .pointer (some ⟨p29, 0, none⟩)] 65 (0, 0))], [(p29, .cells #[.slice A100 l102.length c101] 108 (0, 0))], [(p11, .cells #[.slice A105 l107.length c106] 108 (0, 0))], G93, G98, G103, G108] at S156
        refine WOps.u (E155 rfl rfl) ?_
        refine WOps.nil ?_
        refine WEx.then_ ?_
        refine WCode.cutseq (fun l_ w_ => ∃ q172 : Nat, ∃ b157 : Bool, ∃ b158 : Bool, ∃ b159 : Bool, ∃ x160 : Int, ∃ x161 : Int, ∃ x162 : Int, ∃ x163 : Int, ∃ A164 : Option Addr, ∃ c165 : Nat, ∃ l166 : List Int, ∃ G167 : Grp, ∃ s169 : List UInt8, l_ = [(0, .slice A0 a0.length c0), (4, .slice (some ⟨b42, 0, none⟩) ([0, 0] : List Int).length 2), (5, .slice (some ⟨b60, 0, none⟩) ([0, 0] : List Int).length 2), (6, .int .i64 x89), (7, .pointer (some ⟨b147, 0, none⟩))] ∧ law_Plays.j2 q172 a0 x89 l92 l97 l102 l107 b157 b158 b159 x160 x161 x162 x163 l166 s169 = some r_ ∧ q172 ≤ k112 ∧ (SlR (Rp.int .i64) (wOn w G167) (Mx F0 G167) A164 c165 l166) ∧ St w (KS []) w_ [[(b147, .cells #[.bool b157, .bool b158, .bool b159, .int .i64 x160, .int .i64 x161, .int .i64 x162, .int .i64 x163, .slice A164 l166.length c165, .string (bs s169)] 74 (0, 0))], [(b60, .cells #[.pointer (some ⟨b48, 0, none⟩), .pointer (some ⟨b54, 0, none⟩)] 68 (0, 0))], [(b54, .cells #[.slice A90 l92.length c91] 71 (0, 0))], [(b48, .cells #[.slice A95 l97.length c96] 71 (0, 0))], [(b42, .cells #[.pointer (some ⟨p11, 0, none⟩), .pointer (some ⟨p29, 0, none⟩)] 65 (0, 0))], [(p29, .cells #[.slice A100 l102.length c101] 108 (0, 0))], [(p11, .cells #[.slice A105 l107.length c106] 108 (0, 0))], G93, G98, G103, G108, G167]) ?_ ?_
        ·
          refine WCode.seq ?_
          refine WCode.region ?_
          refine WOps.p (G.field T.fld74_1 rfl (show 0 + 1 = 1 from rfl)) rfl ?_
          refine WOps.r (G.load1 T.one4 rfl (cell_blk (S156.blk 0 rfl) rfl)) rfl ?_
          refine WOps.nil ?_
          refine WEx.then_ ?_
          rcases ite_some hF with ⟨h174, hF⟩ | ⟨h174, hF⟩
          ·
            refine WCode.cond_t (kb (b := x130.Near) rfl h174) ?_
            refine WCode.region ?_
            refine WOps.r (G.loada T.agg74_9 rfl (cs := [.bool x130.Other, .bool x130.Near, .bool x130.None, .int .i64 x130.What, .int .i64 x130.Prog, .int .i64 x130.Vers, .int .i64 x130.Proc, .slice A143 x130.Procs.length c144, .string (bs x130.Args)]) (cellsAt.of_blk (S156.blk 0 rfl) rfl)) rfl ?_
            obtain ⟨t175, hc176, hF⟩ := bind_some hF
            refine WOps.call T.call27 (evs_cons rfl evs_nil) rfl ?_
            refine (sv_near_calls k112 x130 (hR145.ext (S156.keepF hF0)) (St.outF (Bs := []) S156 hF0) hc176).mono ?_
            rintro _ w177 ⟨A180, c181, G182, rfl, hO183, T178⟩
            have S179 := St.callN (As := []) S156 T178
            change St _ _ _ [G182, [(b147, .cells #[.bool x130.Other, .bool x130.Near, .bool x130.None, .int .i64 x130.What, .int .i64 x130.Prog, .int .i64 x130.Vers, .int .i64 x130.Proc, .slice A143 x130.Procs.length c144, .string (bs x130.Args)] 74 (0, 0))], [(b60, .cells #[.pointer (some ⟨b48, 0, none⟩), .pointer (some ⟨b54, 0, none⟩)] 68 (0, 0))], [(b54, .cells #[.slice A90 l92.length c91] 71 (0, 0))], [(b48, .cells #[.slice A95 l97.length c96] 71 (0, 0))], [(b42, .cells #[.pointer (some ⟨p11, 0, none⟩), .pointer (some ⟨p29, 0, none⟩)] 65 (0, 0))], [(p29, .cells #[.slice A100 l102.length c101] 108 (0, 0))], [(p11, .cells #[.slice A105 l107.length c106] 108 (0, 0))], G93, G98, G103, G108] at S179
            refine ⟨_, rfl, ?_⟩
            obtain ⟨w184, E185, S186⟩ := St.store (P := Try.prog) S179 1 74 (.agg #[.bool t175.Other, .bool t175.Near, .bool t175.None, .int .i64 t175.What, .int .i64 t175.Prog, .int .i64 t175.Vers, .int .i64 t175.Proc, .slice A180 (t175.Procs).length c181, .string (bs t175.Args)]) (off := 0) (cur' := #[.bool t175.Other, .bool t175.Near, .bool t175.None, .int .i64 t175.What, .int .i64 t175.Prog, .int .i64 t175.Vers, .int .i64 t175.Proc, .slice A180 (t175.Procs).length c181, .string (bs t175.Args)]) rfl T.size74_9 rfl rfl rfl
            change St _ _ _ [G182, [(b147, .cells #[.bool t175.Other, .bool t175.Near, .bool t175.None, .int .i64 t175.What, .int .i64 t175.Prog, .int .i64 t175.Vers, .int .i64 t175.Proc, .slice A180 (t175.Procs).length c181, .string (bs t175.Args)] 74 (0, 0))], [(b60, .cells #[.pointer (some ⟨b48, 0, none⟩), .pointer (some ⟨b54, 0, none⟩)] 68 (0, 0))], [(b54, .cells #[.slice A90 l92.length c91] 71 (0, 0))], [(b48, .cells #[.slice A95 l97.length c96] 71 (0, 0))], [(b42, .cells #[.pointer (some ⟨p11, 0, none⟩), .pointer (some ⟨p29, 0, none⟩)] 65 (0, 0))], [(p29, .cells #[.slice A100 l102.length c101] 108 (0, 0))], [(p11, .cells #[.slice A105 l107.length c106] 108 (0, 0))], G93, G98, G103, G108] at S186
            refine WOps.u (E185 rfl rfl) ?_
            refine WOps.nil ?_
            have S187 := S186.front 11 rfl
            change St _ _ _ [G108, G182, [(b147, .cells #[.bool t175.Other, .bool t175.Near, .bool t175.None, .int .i64 t175.What, .int .i64 t175.Prog, .int .i64 t175.Vers, .int .i64 t175.Proc, .slice A180 (t175.Procs).length c181, .string (bs t175.Args)] 74 (0, 0))], [(b60, .cells #[.pointer (some ⟨b48, 0, none⟩), .pointer (some ⟨b54, 0, none⟩)] 68 (0, 0))], [(b54, .cells #[.slice A90 l92.length c91] 71 (0, 0))], [(b48, .cells #[.slice A95 l97.length c96] 71 (0, 0))], [(b42, .cells #[.pointer (some ⟨p11, 0, none⟩), .pointer (some ⟨p29, 0, none⟩)] 65 (0, 0))], [(p29, .cells #[.slice A100 l102.length c101] 108 (0, 0))], [(p11, .cells #[.slice A105 l107.length c106] 108 (0, 0))], G93, G98, G103] at S187
            have S188 := S187.front 11 rfl
            change St _ _ _ [G103, G108, G182, [(b147, .cells #[.bool t175.Other, .bool t175.Near, .bool t175.None, .int .i64 t175.What, .int .i64 t175.Prog, .int .i64 t175.Vers, .int .i64 t175.Proc, .slice A180 (t175.Procs).length c181, .string (bs t175.Args)] 74 (0, 0))], [(b60, .cells #[.pointer (some ⟨b48, 0, none⟩), .pointer (some ⟨b54, 0, none⟩)] 68 (0, 0))], [(b54, .cells #[.slice A90 l92.length c91] 71 (0, 0))], [(b48, .cells #[.slice A95 l97.length c96] 71 (0, 0))], [(b42, .cells #[.pointer (some ⟨p11, 0, none⟩), .pointer (some ⟨p29, 0, none⟩)] 65 (0, 0))], [(p29, .cells #[.slice A100 l102.length c101] 108 (0, 0))], [(p11, .cells #[.slice A105 l107.length c106] 108 (0, 0))], G93, G98] at S188
            have S189 := S188.front 11 rfl
            change St _ _ _ [G98, G103, G108, G182, [(b147, .cells #[.bool t175.Other, .bool t175.Near, .bool t175.None, .int .i64 t175.What, .int .i64 t175.Prog, .int .i64 t175.Vers, .int .i64 t175.Proc, .slice A180 (t175.Procs).length c181, .string (bs t175.Args)] 74 (0, 0))], [(b60, .cells #[.pointer (some ⟨b48, 0, none⟩), .pointer (some ⟨b54, 0, none⟩)] 68 (0, 0))], [(b54, .cells #[.slice A90 l92.length c91] 71 (0, 0))], [(b48, .cells #[.slice A95 l97.length c96] 71 (0, 0))], [(b42, .cells #[.pointer (some ⟨p11, 0, none⟩), .pointer (some ⟨p29, 0, none⟩)] 65 (0, 0))], [(p29, .cells #[.slice A100 l102.length c101] 108 (0, 0))], [(p11, .cells #[.slice A105 l107.length c106] 108 (0, 0))], G93] at S189
            have S190 := S189.front 11 rfl
            change St _ _ _ [G93, G98, G103, G108, G182, [(b147, .cells #[.bool t175.Other, .bool t175.Near, .bool t175.None, .int .i64 t175.What, .int .i64 t175.Prog, .int .i64 t175.Vers, .int .i64 t175.Proc, .slice A180 (t175.Procs).length c181, .string (bs t175.Args)] 74 (0, 0))], [(b60, .cells #[.pointer (some ⟨b48, 0, none⟩), .pointer (some ⟨b54, 0, none⟩)] 68 (0, 0))], [(b54, .cells #[.slice A90 l92.length c91] 71 (0, 0))], [(b48, .cells #[.slice A95 l97.length c96] 71 (0, 0))], [(b42, .cells #[.pointer (some ⟨p11, 0, none⟩), .pointer (some ⟨p29, 0, none⟩)] 65 (0, 0))], [(p29, .cells #[.slice A100 l102.length c101] 108 (0, 0))], [(p11, .cells #[.slice A105 l107.length c106] 108 (0, 0))]] at S190
            have S191 := S190.front 11 rfl
            change St _ _ _ [[(p11, .cells #[.slice A105 l107.length c106] 108 (0, 0))], G93, G98, G103, G108, G182, [(b147, .cells #[.bool t175.Other, .bool t175.Near, .bool t175.None, .int .i64 t175.What, .int .i64 t175.Prog, .int .i64 t175.Vers, .int .i64 t175.Proc, .slice A180 (t175.Procs).length c181, .string (bs t175.Args)] 74 (0, 0))], [(b60, .cells #[.pointer (some ⟨b48, 0, none⟩), .pointer (some ⟨b54, 0, none⟩)] 68 (0, 0))], [(b54, .cells #[.slice A90 l92.length c91] 71 (0, 0))], [(b48, .cells #[.slice A95 l97.length c96] 71 (0, 0))], [(b42, .cells #[.pointer (some ⟨p11, 0, none⟩), .pointer (some ⟨p29, 0, none⟩)] 65 (0, 0))], [(p29, .cells #[.slice A100 l102.length c101] 108 (0, 0))]] at S191
            have S192 := S191.front 11 rfl
            change St _ _ _ [[(p29, .cells #[.slice A100 l102.length c101] 108 (0, 0))], [(p11, .cells #[.slice A105 l107.length c106] 108 (0, 0))], G93, G98, G103, G108, G182, [(b147, .cells #[.bool t175.Other, .bool t175.Near, .bool t175.None, .int .i64 t175.What, .int .i64 t175.Prog, .int .i64 t175.Vers, .int .i64 t175.Proc, .slice A180 (t175.Procs).length c181, .string (bs t175.Args)] 74 (0, 0))], [(b60, .cells #[.pointer (some ⟨b48, 0, none⟩), .pointer (some ⟨b54, 0, none⟩)] 68 (0, 0))], [(b54, .cells #[.slice A90 l92.length c91] 71 (0, 0))], [(b48, .cells #[.slice A95 l97.length c96] 71 (0, 0))], [(b42, .cells #[.pointer (some ⟨p11, 0, none⟩), .pointer (some ⟨p29, 0, none⟩)] 65 (0, 0))]] at S192
            have S193 := S192.front 11 rfl
            change St _ _ _ [[(b42, .cells #[.pointer (some ⟨p11, 0, none⟩), .pointer (some ⟨p29, 0, none⟩)] 65 (0, 0))], [(p29, .cells #[.slice A100 l102.length c101] 108 (0, 0))], [(p11, .cells #[.slice A105 l107.length c106] 108 (0, 0))], G93, G98, G103, G108, G182, [(b147, .cells #[.bool t175.Other, .bool t175.Near, .bool t175.None, .int .i64 t175.What, .int .i64 t175.Prog, .int .i64 t175.Vers, .int .i64 t175.Proc, .slice A180 (t175.Procs).length c181, .string (bs t175.Args)] 74 (0, 0))], [(b60, .cells #[.pointer (some ⟨b48, 0, none⟩), .pointer (some ⟨b54, 0, none⟩)] 68 (0, 0))], [(b54, .cells #[.slice A90 l92.length c91] 71 (0, 0))], [(b48, .cells #[.slice A95 l97.length c96] 71 (0, 0))]] at S193
            have S194 := S193.front 11 rfl
            change St _ _ _ [[(b48, .cells #[.slice A95 l97.length c96] 71 (0, 0))], [(b42, .cells #[.pointer (some ⟨p11, 0, none⟩), .pointer (some ⟨p29, 0, none⟩)] 65 (0, 0))], [(p29, .cells #[.slice A100 l102.length c101] 108 (0, 0))], [(p11, .cells #[.slice A105 l107.length c106] 108 (0, 0))], G93, G98, G103, G108, G182, [(b147, .cells #[.bool t175.Other, .bool t175.Near, .bool t175.None, .int .i64 t175.What, .int .i64 t175.Prog, .int .i64 t175.Vers, .int .i64 t175.Proc, .slice A180 (t175.Procs).length c181, .string (bs t175.Args)] 74 (0, 0))], [(b60, .cells #[.pointer (some ⟨b48, 0, none⟩), .pointer (some ⟨b54, 0, none⟩)] 68 (0, 0))], [(b54, .cells #[.slice A90 l92.length c91] 71 (0, 0))]] at S194
            have S195 := S194.front 11 rfl
            change St _ _ _ [[(b54, .cells #[.slice A90 l92.length c91] 71 (0, 0))], [(b48, .cells #[.slice A95 l97.length c96] 71 (0, 0))], [(b42, .cells #[.pointer (some ⟨p11, 0, none⟩), .pointer (some ⟨p29, 0, none⟩)] 65 (0, 0))], [(p29, .cells #[.slice A100 l102.length c101] 108 (0, 0))], [(p11, .cells #[.slice A105 l107.length c106] 108 (0, 0))], G93, G98, G103, G108, G182, [(b147, .cells #[.bool t175.Other, .bool t175.Near, .bool t175.None, .int .i64 t175.What, .int .i64 t175.Prog, .int .i64 t175.Vers, .int .i64 t175.Proc, .slice A180 (t175.Procs).length c181, .string (bs t175.Args)] 74 (0, 0))], [(b60, .cells #[.pointer (some ⟨b48, 0, none⟩), .pointer (some ⟨b54, 0, none⟩)] 68 (0, 0))]] at S195
            have S196 := S195.front 11 rfl
            change St _ _ _ [[(b60, .cells #[.pointer (some ⟨b48, 0, none⟩), .pointer (some ⟨b54, 0, none⟩)] 68 (0, 0))], [(b54, .cells #[.slice A90 l92.length c91] 71 (0, 0))], [(b48, .cells #[.slice A95 l97.length c96] 71 (0, 0))], [(b42, .cells #[.pointer (some ⟨p11, 0, none⟩), .pointer (some ⟨p29, 0, none⟩)] 65 (0, 0))], [(p29, .cells #[.slice A100 l102.length c101] 108 (0, 0))], [(p11, .cells #[.slice A105 l107.length c106] 108 (0, 0))], G93, G98, G103, G108, G182, [(b147, .cells #[.bool t175.Other, .bool t175.Near, .bool t175.None, .int .i64 t175.What, .int .i64 t175.Prog, .int .i64 t175.Vers, .int .i64 t175.Proc, .slice A180 (t175.Procs).length c181, .string (bs t175.Args)] 74 (0, 0))]] at S196
            have S197 := S196.front 11 rfl
            change St _ _ _ [[(b147, .cells #[.bool t175.Other, .bool t175.Near, .bool t175.None, .int .i64 t175.What, .int .i64 t175.Prog, .int .i64 t175.Vers, .int .i64 t175.Proc, .slice A180 (t175.Procs).length c181, .string (bs t175.Args)] 74 (0, 0))], [(b60, .cells #[.pointer (some ⟨b48, 0, none⟩), .pointer (some ⟨b54, 0, none⟩)] 68 (0, 0))], [(b54, .cells #[.slice A90 l92.length c91] 71 (0, 0))], [(b48, .cells #[.slice A95 l97.length c96] 71 (0, 0))], [(b42, .cells #[.pointer (some ⟨p11, 0, none⟩), .pointer (some ⟨p29, 0, none⟩)] 65 (0, 0))], [(p29, .cells #[.slice A100 l102.length c101] 108 (0, 0))], [(p11, .cells #[.slice A105 l107.length c106] 108 (0, 0))], G93, G98, G103, G108, G182] at S197
            refine WEx.cutend _ ?_ ⟨k112, t175.Other, t175.Near, t175.None, t175.What, t175.Prog, t175.Vers, t175.Proc, A180, c181, (t175.Procs), G182, t175.Args, rfl, hF, (by omega), (SlO.mx hO183 (S186.nd 0 rfl)), S197⟩
            exact ⟨rfl, rfl, rfl, rfl, rfl, trivial⟩
          ·
            refine WCode.cond_f (kb (b := x130.Near) rfl (Bool.eq_false_iff.2 h174)) ?_
            refine WCode.skip ?_
            have S198 := S156.emp
            have S199 := S198.front 11 rfl
            change St _ _ _ [G108, ([] : Grp), [(b147, .cells #[.bool x130.Other, .bool x130.Near, .bool x130.None, .int .i64 x130.What, .int .i64 x130.Prog, .int .i64 x130.Vers, .int .i64 x130.Proc, .slice A143 x130.Procs.length c144, .string (bs x130.Args)] 74 (0, 0))], [(b60, .cells #[.pointer (some ⟨b48, 0, none⟩), .pointer (some ⟨b54, 0, none⟩)] 68 (0, 0))], [(b54, .cells #[.slice A90 l92.length c91] 71 (0, 0))], [(b48, .cells #[.slice A95 l97.length c96] 71 (0, 0))], [(b42, .cells #[.pointer (some ⟨p11, 0, none⟩), .pointer (some ⟨p29, 0, none⟩)] 65 (0, 0))], [(p29, .cells #[.slice A100 l102.length c101] 108 (0, 0))], [(p11, .cells #[.slice A105 l107.length c106] 108 (0, 0))], G93, G98, G103] at S199
            have S200 := S199.front 11 rfl
            change St _ _ _ [G103, G108, ([] : Grp), [(b147, .cells #[.bool x130.Other, .bool x130.Near, .bool x130.None, .int .i64 x130.What, .int .i64 x130.Prog, .int .i64 x130.Vers, .int .i64 x130.Proc, .slice A143 x130.Procs.length c144, .string (bs x130.Args)] 74 (0, 0))], [(b60, .cells #[.pointer (some ⟨b48, 0, none⟩), .pointer (some ⟨b54, 0, none⟩)] 68 (0, 0))], [(b54, .cells #[.slice A90 l92.length c91] 71 (0, 0))], [(b48, .cells #[.slice A95 l97.length c96] 71 (0, 0))], [(b42, .cells #[.pointer (some ⟨p11, 0, none⟩), .pointer (some ⟨p29, 0, none⟩)] 65 (0, 0))], [(p29, .cells #[.slice A100 l102.length c101] 108 (0, 0))], [(p11, .cells #[.slice A105 l107.length c106] 108 (0, 0))], G93, G98] at S200
            have S201 := S200.front 11 rfl
            change St _ _ _ [G98, G103, G108, ([] : Grp), [(b147, .cells #[.bool x130.Other, .bool x130.Near, .bool x130.None, .int .i64 x130.What, .int .i64 x130.Prog, .int .i64 x130.Vers, .int .i64 x130.Proc, .slice A143 x130.Procs.length c144, .string (bs x130.Args)] 74 (0, 0))], [(b60, .cells #[.pointer (some ⟨b48, 0, none⟩), .pointer (some ⟨b54, 0, none⟩)] 68 (0, 0))], [(b54, .cells #[.slice A90 l92.length c91] 71 (0, 0))], [(b48, .cells #[.slice A95 l97.length c96] 71 (0, 0))], [(b42, .cells #[.pointer (some ⟨p11, 0, none⟩), .pointer (some ⟨p29, 0, none⟩)] 65 (0, 0))], [(p29, .cells #[.slice A100 l102.length c101] 108 (0, 0))], [(p11, .cells #[.slice A105 l107.length c106] 108 (0, 0))], G93] at S201
            have S202 := S201.front 11 rfl
            change St _ _ _ [G93, G98, G103, G108, ([] : Grp), [(b147, .cells #[.bool x130.Other, .bool x130.Near, .bool x130.None, .int .i64 x130.What, .int .i64 x130.Prog, .int .i64 x130.Vers, .int .i64 x130.Proc, .slice A143 x130.Procs.length c144, .string (bs x130.Args)] 74 (0, 0))], [(b60, .cells #[.pointer (some ⟨b48, 0, none⟩), .pointer (some ⟨b54, 0, none⟩)] 68 (0, 0))], [(b54, .cells #[.slice A90 l92.length c91] 71 (0, 0))], [(b48, .cells #[.slice A95 l97.length c96] 71 (0, 0))], [(b42, .cells #[.pointer (some ⟨p11, 0, none⟩), .pointer (some ⟨p29, 0, none⟩)] 65 (0, 0))], [(p29, .cells #[.slice A100 l102.length c101] 108 (0, 0))], [(p11, .cells #[.slice A105 l107.length c106] 108 (0, 0))]] at S202
            have S203 := S202.front 11 rfl
            change St _ _ _ [[(p11, .cells #[.slice A105 l107.length c106] 108 (0, 0))], G93, G98, G103, G108, ([] : Grp), [(b147, .cells #[.bool x130.Other, .bool x130.Near, .bool x130.None, .int .i64 x130.What, .int .i64 x130.Prog, .int .i64 x130.Vers, .int .i64 x130.Proc, .slice A143 x130.Procs.length c144, .string (bs x130.Args)] 74 (0, 0))], [(b60, .cells #[.pointer (some ⟨b48, 0, none⟩), .pointer (some ⟨b54, 0, none⟩)] 68 (0, 0))], [(b54, .cells #[.slice A90 l92.length c91] 71 (0, 0))], [(b48, .cells #[.slice A95 l97.length c96] 71 (0, 0))], [(b42, .cells #[.pointer (some ⟨p11, 0, none⟩), .pointer (some ⟨p29, 0, none⟩)] 65 (0, 0))], [(p29, .cells #[.slice A100 l102.length c101] 108 (0, 0))]] at S203
            have S204 := S203.front 11 rfl
            change St _ _ _ [[(p29, .cells #[.slice A100 l102.length c101] 108 (0, 0))], [(p11, .cells #[.slice A105 l107.length c106] 108 (0, 0))], G93, G98, G103, G108, ([] : Grp), [(b147, .cells #[.bool x130.Other, .bool x130.Near, .bool x130.None, .int .i64 x130.What, .int .i64 x130.Prog, .int .i64 x130.Vers, .int .i64 x130.Proc, .slice A143 x130.Procs.length c144, .string (bs x130.Args)] 74 (0, 0))], [(b60, .cells #[.pointer (some ⟨b48, 0, none⟩), .pointer (some ⟨b54, 0, none⟩)] 68 (0, 0))], [(b54, .cells #[.slice A90 l92.length c91] 71 (0, 0))], [(b48, .cells #[.slice A95 l97.length c96] 71 (0, 0))], [(b42, .cells #[.pointer (some ⟨p11, 0, none⟩), .pointer (some ⟨p29, 0, none⟩)] 65 (0, 0))]] at S204
            have S205 := S204.front 11 rfl
            change St _ _ _ [[(b42, .cells #[.pointer (some ⟨p11, 0, none⟩), .pointer (some ⟨p29, 0, none⟩)] 65 (0, 0))], [(p29, .cells #[.slice A100 l102.length c101] 108 (0, 0))], [(p11, .cells #[.slice A105 l107.length c106] 108 (0, 0))], G93, G98, G103, G108, ([] : Grp), [(b147, .cells #[.bool x130.Other, .bool x130.Near, .bool x130.None, .int .i64 x130.What, .int .i64 x130.Prog, .int .i64 x130.Vers, .int .i64 x130.Proc, .slice A143 x130.Procs.length c144, .string (bs x130.Args)] 74 (0, 0))], [(b60, .cells #[.pointer (some ⟨b48, 0, none⟩), .pointer (some ⟨b54, 0, none⟩)] 68 (0, 0))], [(b54, .cells #[.slice A90 l92.length c91] 71 (0, 0))], [(b48, .cells #[.slice A95 l97.length c96] 71 (0, 0))]] at S205
            have S206 := S205.front 11 rfl
            change St _ _ _ [[(b48, .cells #[.slice A95 l97.length c96] 71 (0, 0))], [(b42, .cells #[.pointer (some ⟨p11, 0, none⟩), .pointer (some ⟨p29, 0, none⟩)] 65 (0, 0))], [(p29, .cells #[.slice A100 l102.length c101] 108 (0, 0))], [(p11, .cells #[.slice A105 l107.length c106] 108 (0, 0))], G93, G98, G103, G108, ([] : Grp), [(b147, .cells #[.bool x130.Other, .bool x130.Near, .bool x130.None, .int .i64 x130.What, .int .i64 x130.Prog, .int .i64 x130.Vers, .int .i64 x130.Proc, .slice A143 x130.Procs.length c144, .string (bs x130.Args)] 74 (0, 0))], [(b60, .cells #[.pointer (some ⟨b48, 0, none⟩), .pointer (some ⟨b54, 0, none⟩)] 68 (0, 0))], [(b54, .cells #[.slice A90 l92.length c91] 71 (0, 0))]] at S206
            have S207 := S206.front 11 rfl
            change St _ _ _ [[(b54, .cells #[.slice A90 l92.length c91] 71 (0, 0))], [(b48, .cells #[.slice A95 l97.length c96] 71 (0, 0))], [(b42, .cells #[.pointer (some ⟨p11, 0, none⟩), .pointer (some ⟨p29, 0, none⟩)] 65 (0, 0))], [(p29, .cells #[.slice A100 l102.length c101] 108 (0, 0))], [(p11, .cells #[.slice A105 l107.length c106] 108 (0, 0))], G93, G98, G103, G108, ([] : Grp), [(b147, .cells #[.bool x130.Other, .bool x130.Near, .bool x130.None, .int .i64 x130.What, .int .i64 x130.Prog, .int .i64 x130.Vers, .int .i64 x130.Proc, .slice A143 x130.Procs.length c144, .string (bs x130.Args)] 74 (0, 0))], [(b60, .cells #[.pointer (some ⟨b48, 0, none⟩), .pointer (some ⟨b54, 0, none⟩)] 68 (0, 0))]] at S207
            have S208 := S207.front 11 rfl
            change St _ _ _ [[(b60, .cells #[.pointer (some ⟨b48, 0, none⟩), .pointer (some ⟨b54, 0, none⟩)] 68 (0, 0))], [(b54, .cells #[.slice A90 l92.length c91] 71 (0, 0))], [(b48, .cells #[.slice A95 l97.length c96] 71 (0, 0))], [(b42, .cells #[.pointer (some ⟨p11, 0, none⟩), .pointer (some ⟨p29, 0, none⟩)] 65 (0, 0))], [(p29, .cells #[.slice A100 l102.length c101] 108 (0, 0))], [(p11, .cells #[.slice A105 l107.length c106] 108 (0, 0))], G93, G98, G103, G108, ([] : Grp), [(b147, .cells #[.bool x130.Other, .bool x130.Near, .bool x130.None, .int .i64 x130.What, .int .i64 x130.Prog, .int .i64 x130.Vers, .int .i64 x130.Proc, .slice A143 x130.Procs.length c144, .string (bs x130.Args)] 74 (0, 0))]] at S208
            have S209 := S208.front 11 rfl
            change St _ _ _ [[(b147, .cells #[.bool x130.Other, .bool x130.Near, .bool x130.None, .int .i64 x130.What, .int .i64 x130.Prog, .int .i64 x130.Vers, .int .i64 x130.Proc, .slice A143 x130.Procs.length c144, .string (bs x130.Args)] 74 (0, 0))], [(b60, .cells #[.pointer (some ⟨b48, 0, none⟩), .pointer (some ⟨b54, 0, none⟩)] 68 (0, 0))], [(b54, .cells #[.slice A90 l92.length c91] 71 (0, 0))], [(b48, .cells #[.slice A95 l97.length c96] 71 (0, 0))], [(b42, .cells #[.pointer (some ⟨p11, 0, none⟩), .pointer (some ⟨p29, 0, none⟩)] 65 (0, 0))], [(p29, .cells #[.slice A100 l102.length c101] 108 (0, 0))], [(p11, .cells #[.slice A105 l107.length c106] 108 (0, 0))], G93, G98, G103, G108, ([] : Grp)] at S209
            refine WEx.cutend _ ?_ ⟨k112, x130.Other, x130.Near, x130.None, x130.What, x130.Prog, x130.Vers, x130.Proc, A143, c144, x130.Procs, ([] : Grp), x130.Args, rfl, hF, (by omega), (SlR.mxA hR145 hF0), S209⟩
            exact ⟨rfl, rfl, rfl, rfl, rfl, trivial⟩
        ·
          rintro _ w170 ⟨q172, b157, b158, b159, x160, x161, x162, x163, A164, c165, l166, G167, s169, rfl, hF, hq173, hM168, S171⟩
          obtain _ | k210 := q172
          · exact nomatch (show (none : Option Bool) = some r_ from hF)
          rw [law_Plays.j2] at hF
          refine WCode.seq ?_
          refine WCode.region ?_
          refine WOps.p (G.assign rfl) rfl ?_
          refine WOps.nil ?_
          refine WEx.then_ ?_
          refine WCode.cutseq (fun l_ w_ => ∃ q214 : Nat, ∃ x211 : Int, l_ = [(0, .slice A0 a0.length c0), (4, .slice (some ⟨b42, 0, none⟩) ([0, 0] : List Int).length 2), (5, .slice (some ⟨b60, 0, none⟩) ([0, 0] : List Int).length 2), (6, .int .i64 x89), (7, .pointer (some ⟨b147, 0, none⟩)), (8, .int .i64 x211)] ∧ law_Plays.j3 q214 a0 x89 l92 l97 l102 l107 b157 b158 b159 x160 x161 x162 x163 l166 s169 x211 = some r_ ∧ q214 ≤ k210 ∧ St w (KS []) w_ [[(b147, .cells #[.bool b157, .bool b158, .bool b159, .int .i64 x160, .int .i64 x161, .int .i64 x162, .int .i64 x163, .slice A164 l166.length c165, .string (bs s169)] 74 (0, 0))], [(b60, .cells #[.pointer (some ⟨b48, 0, none⟩), .pointer (some ⟨b54, 0, none⟩)] 68 (0, 0))], [(b54, .cells #[.slice A90 l92.length c91] 71 (0, 0))], [(b48, .cells #[.slice A95 l97.length c96] 71 (0, 0))], [(b42, .cells #[.pointer (some ⟨p11, 0, none⟩), .pointer (some ⟨p29, 0, none⟩)] 65 (0, 0))], [(p29, .cells #[.slice A100 l102.length c101] 108 (0, 0))], [(p11, .cells #[.slice A105 l107.length c106] 108 (0, 0))], G167, G93, G98, G103, G108]) ?_ ?_
          ·
            refine WCode.seq ?_
            refine WCode.region ?_
            refine WOps.p (G.field T.fld74_0 rfl (show 0 + 0 = 0 from rfl)) rfl ?_
            refine WOps.r (G.load1 T.one4 rfl (cell_blk (S171.blk 0 rfl) rfl)) rfl ?_
            refine WOps.nil ?_
            refine WEx.then_ ?_
            rcases ite_some hF with ⟨h216, hF⟩ | ⟨h216, hF⟩
            ·
              refine WCode.cond_t (kb (b := b157) rfl h216) ?_
              refine WCode.region ?_
              refine WOps.p (G.assign rfl) rfl ?_
              refine WOps.nil ?_
              have S217 := S171.front 10 rfl
              change St _ _ _ [G108, [(b147, .cells #[.bool b157, .bool b158, .bool b159, .int .i64 x160, .int .i64 x161, .int .i64 x162, .int .i64 x163, .slice A164 l166.length c165, .string (bs s169)] 74 (0, 0))], [(b60, .cells #[.pointer (some ⟨b48, 0, none⟩), .pointer (some ⟨b54, 0, none⟩)] 68 (0, 0))], [(b54, .cells #[.slice A90 l92.length c91] 71 (0, 0))], [(b48, .cells #[.slice A95 l97.length c96] 71 (0, 0))], [(b42, .cells #[.pointer (some ⟨p11, 0, none⟩), .pointer (some ⟨p29, 0, none⟩)] 65 (0, 0))], [(p29, .cells #[.slice A100 l102.length c101] 108 (0, 0))], [(p11, .cells #[.slice A105 l107.length c106] 108 (0, 0))], G93, G98, G103, G167] at S217
              have S218 := S217.front 10 rfl
              change St _ _ _ [G103, G108, [(b147, .cells #[.bool b157, .bool b158, .bool b159, .int .i64 x160, .int .i64 x161, .int .i64 x162, .int .i64 x163, .slice A164 l166.length c165, .string (bs s169)] 74 (0, 0))], [(b60, .cells #[.pointer (some ⟨b48, 0, none⟩), .pointer (some ⟨b54, 0, none⟩)] 68 (0, 0))], [(b54, .cells #[.slice A90 l92.length c91] 71 (0, 0))], [(b48, .cells #[.slice A95 l97.length c96] 71 (0, 0))], [(b42, .cells #[.pointer (some ⟨p11, 0, none⟩), .pointer (some ⟨p29, 0, none⟩)] 65 (0, 0))], [(p29, .cells #[.slice A100 l102.length c101] 108 (0, 0))], [(p11, .cells #[.slice A105 l107.length c106] 108 (0, 0))], G93, G98, G167] at S218
              have S219 := S218.front 10 rfl
              change St _ _ _ [G98, G103, G108, [(b147, .cells #[.bool b157, .bool b158, .bool b159, .int .i64 x160, .int .i64 x161, .int .i64 x162, .int .i64 x163, .slice A164 l166.length c165, .string (bs s169)] 74 (0, 0))], [(b60, .cells #[.pointer (some ⟨b48, 0, none⟩), .pointer (some ⟨b54, 0, none⟩)] 68 (0, 0))], [(b54, .cells #[.slice A90 l92.length c91] 71 (0, 0))], [(b48, .cells #[.slice A95 l97.length c96] 71 (0, 0))], [(b42, .cells #[.pointer (some ⟨p11, 0, none⟩), .pointer (some ⟨p29, 0, none⟩)] 65 (0, 0))], [(p29, .cells #[.slice A100 l102.length c101] 108 (0, 0))], [(p11, .cells #[.slice A105 l107.length c106] 108 (0, 0))], G93, G167] at S219
              have S220 := S219.front 10 rfl
              change St _ _ _ [G93, G98, G103, G108, [(b147, .cells #[.bool b157, .bool b158, .bool b159, .int .i64 x160, .int .i64 x161, .int .i64 x162, .int .i64 x163, .slice A164 l166.length c165, .string (bs s169)] 74 (0, 0))], [(b60, .cells #[.pointer (some ⟨b48, 0, none⟩), .pointer (some ⟨b54, 0, none⟩)] 68 (0, 0))], [(b54, .cells #[.slice A90 l92.length c91] 71 (0, 0))], [(b48, .cells #[.slice A95 l97.length c96] 71 (0, 0))], [(b42, .cells #[.pointer (some ⟨p11, 0, none⟩), .pointer (some ⟨p29, 0, none⟩)] 65 (0, 0))], [(p29, .cells #[.slice A100 l102.length c101] 108 (0, 0))], [(p11, .cells #[.slice A105 l107.length c106] 108 (0, 0))], G167] at S220
              have S221 := S220.front 11 rfl
              change St _ _ _ [G167, G93, G98, G103, G108, [(b147, .cells #[.bool b157, .bool b158, .bool b159, .int .i64 x160, .int .i64 x161, .int .i64 x162, .int .i64 x163, .slice A164 l166.length c165, .string (bs s169)] 74 (0, 0))], [(b60, .cells #[.pointer (some ⟨b48, 0, none⟩), .pointer (some ⟨b54, 0, none⟩)] 68 (0, 0))], [(b54, .cells #[.slice A90 l92.length c91] 71 (0, 0))], [(b48, .cells #[.slice A95 l97.length c96] 71 (0, 0))], [(b42, .cells #[.pointer (some ⟨p11, 0, none⟩), .pointer (some ⟨p29, 0, none⟩)] 65 (0, 0))], [(p29, .cells #[.slice A100 l102.length c101] 108 (0, 0))], [(p11, .cells #[.slice A105 l107.length c106] 108 (0, 0))]] at S221
              have S222 := S221.front 11 rfl
              change St _ _ _ [[(p11, .cells #[.slice A105 l107.length c106] 108 (0, 0))], G167, G93, G98, G103, G108, [(b147, .cells #[.bool b157, .bool b158, .bool b159, .int .i64 x160, .int .i64 x161, .int .i64 x162, .int .i64 x163, .slice A164 l166.length c165, .string (bs s169)] 74 (0, 0))], [(b60, .cells #[.pointer (some ⟨b48, 0, none⟩), .pointer (some ⟨b54, 0, none⟩)] 68 (0, 0))], [(b54, .cells #[.slice A90 l92.length c91] 71 (0, 0))], [(b48, .cells #[.slice A95 l97.length c96] 71 (0, 0))], [(b42, .cells #[.pointer (some ⟨p11, 0, none⟩), .pointer (some ⟨p29, 0, none⟩)] 65 (0, 0))], [(p29, .cells #[.slice A100 l102.length c101] 108 (0, 0))]] at S222
              have S223 := S222.front 11 rfl
              change St _ _ _ [[(p29, .cells #[.slice A100 l102.length c101] 108 (0, 0))], [(p11, .cells #[.slice A105 l107.length c106] 108 (0, 0))], G167, G93, G98, G103, G108, [(b147, .cells #[.bool b157, .bool b158, .bool b159, .int .i64 x160, .int .i64 x161, .int .i64 x162, .int .i64 x163, .slice A164 l166.length c165, .string (bs s169)] 74 (0, 0))], [(b60, .cells #[.pointer (some ⟨b48, 0, none⟩), .pointer (some ⟨b54, 0, none⟩)] 68 (0, 0))], [(b54, .cells #[.slice A90 l92.length c91] 71 (0, 0))], [(b48, .cells #[.slice A95 l97.length c96] 71 (0, 0))], [(b42, .cells #[.pointer (some ⟨p11, 0, none⟩), .pointer (some ⟨p29, 0, none⟩)] 65 (0, 0))]] at S223
              have S224 := S223.front 11 rfl
              change St _ _ _ [[(b42, .cells #[.pointer (some ⟨p11, 0, none⟩), .pointer (some ⟨p29, 0, none⟩)] 65 (0, 0))], [(p29, .cells #[.slice A100 l102.length c101] 108 (0, 0))], [(p11, .cells #[.slice A105 l107.length c106] 108 (0, 0))], G167, G93, G98, G103, G108, [(b147, .cells #[.bool b157, .bool b158, .bool b159, .int .i64 x160, .int .i64 x161, .int .i64 x162, .int .i64 x163, .slice A164 l166.length c165, .string (bs s169)] 74 (0, 0))], [(b60, .cells #[.pointer (some ⟨b48, 0, none⟩), .pointer (some ⟨b54, 0, none⟩)] 68 (0, 0))], [(b54, .cells #[.slice A90 l92.length c91] 71 (0, 0))], [(b48, .cells #[.slice A95 l97.length c96] 71 (0, 0))]] at S224
              have S225 := S224.front 11 rfl
              change St _ _ _ [[(b48, .cells #[.slice A95 l97.length c96] 71 (0, 0))], [(b42, .cells #[.pointer (some ⟨p11, 0, none⟩), .pointer (some ⟨p29, 0, none⟩)] 65 (0, 0))], [(p29, .cells #[.slice A100 l102.length c101] 108 (0, 0))], [(p11, .cells #[.slice A105 l107.length c106] 108 (0, 0))], G167, G93, G98, G103, G108, [(b147, .cells #[.bool b157, .bool b158, .bool b159, .int .i64 x160, .int .i64 x161, .int .i64 x162, .int .i64 x163, .slice A164 l166.length c165, .string (bs s169)] 74 (0, 0))], [(b60, .cells #[.pointer (some ⟨b48, 0, none⟩), .pointer (some ⟨b54, 0, none⟩)] 68 (0, 0))], [(b54, .cells #[.slice A90 l92.length c91] 71 (0, 0))]] at S225
              have S226 := S225.front 11 rfl
              change St _ _ _ [[(b54, .cells #[.slice A90 l92.length c91] 71 (0, 0))], [(b48, .cells #[.slice A95 l97.length c96] 71 (0, 0))], [(b42, .cells #[.pointer (some ⟨p11, 0, none⟩), .pointer (some ⟨p29, 0, none⟩)] 65 (0, 0))], [(p29, .cells #[.slice A100 l102.length c101] 108 (0, 0))], [(p11, .cells #[.slice A105 l107.length c106] 108 (0, 0))], G167, G93, G98, G103, G108, [(b147, .cells #[.bool b157, .bool b158, .bool b159, .int .i64 x160, .int .i64 x161, .int .i64 x162, .int .i64 x163, .slice A164 l166.length c165, .string (bs s169)] 74 (0, 0))], [(b60, .cells #[.pointer (some ⟨b48, 0, none⟩), .pointer (some ⟨b54, 0, none⟩)] 68 (0, 0))]] at S226
              have S227 := S226.front 11 rfl
              change St _ _ _ [[(b60, .cells #[.pointer (some ⟨b48, 0, none⟩), .pointer (some ⟨b54, 0, none⟩)] 68 (0, 0))], [(b54, .cells #[.slice A90 l92.length c91] 71 (0, 0))], [(b48, .cells #[.slice A95 l97.length c96] 71 (0, 0))], [(b42, .cells #[.pointer (some ⟨p11, 0, none⟩), .pointer (some ⟨p29, 0, none⟩)] 65 (0, 0))], [(p29, .cells #[.slice A100 l102.length c101] 108 (0, 0))], [(p11, .cells #[.slice A105 l107.length c106] 108 (0, 0))], G167, G93, G98, G103, G108, [(b147, .cells #[.bool b157, .bool b158, .bool b159, .int .i64 x160, .int .i64 x161, .int .i64 x162, .int .i64 x163, .slice A164 l166.length c165, .string (bs s169)] 74 (0, 0))]] at S227
              have S228 := S227.front 11 rfl
              change St _ _ _ [[(b147, .cells #[.bool b157, .bool b158, .bool b159, .int .i64 x160, .int .i64 x161, .int .i64 x162, .int .i64 x163, .slice A164 l166.length c165, .string (bs s169)] 74 (0, 0))], [(b60, .cells #[.pointer (some ⟨b48, 0, none⟩), .pointer (some ⟨b54, 0, none⟩)] 68 (0, 0))], [(b54, .cells #[.slice A90 l92.length c91] 71 (0, 0))], [(b48, .cells #[.slice A95 l97.length c96] 71 (0, 0))], [(b42, .cells #[.pointer (some ⟨p11, 0, none⟩), .pointer (some ⟨p29, 0, none⟩)] 65 (0, 0))], [(p29, .cells #[.slice A100 l102.length c101] 108 (0, 0))], [(p11, .cells #[.slice A105 l107.length c106] 108 (0, 0))], G167, G93, G98, G103, G108] at S228
              refine WEx.cutend _ ?_ ⟨k210, 1, rfl, hF, (by omega), S228⟩
              exact ⟨rfl, rfl, rfl, rfl, rfl, rfl, trivial⟩
            ·
              refine WCode.cond_f (kb (b := b157) rfl (Bool.eq_false_iff.2 h216)) ?_
              refine WCode.skip ?_
              have S229 := S171.front 10 rfl
              change St _ _ _ [G108, [(b147, .cells #[.bool b157, .bool b158, .bool b159, .int .i64 x160, .int .i64 x161, .int .i64 x162, .int .i64 x163, .slice A164 l166.length c165, .string (bs s169)] 74 (0, 0))], [(b60, .cells #[.pointer (some ⟨b48, 0, none⟩), .pointer (some ⟨b54, 0, none⟩)] 68 (0, 0))], [(b54, .cells #[.slice A90 l92.length c91] 71 (0, 0))], [(b48, .cells #[.slice A95 l97.length c96] 71 (0, 0))], [(b42, .cells #[.pointer (some ⟨p11, 0, none⟩), .pointer (some ⟨p29, 0, none⟩)] 65 (0, 0))], [(p29, .cells #[.slice A100 l102.length c101] 108 (0, 0))], [(p11, .cells #[.slice A105 l107.length c106] 108 (0, 0))], G93, G98, G103, G167] at S229
              have S230 := S229.front 10 rfl
              change St _ _ _ [G103, G108, [(b147, .cells #[.bool b157, .bool b158, .bool b159, .int .i64 x160, .int .i64 x161, .int .i64 x162, .int .i64 x163, .slice A164 l166.length c165, .string (bs s169)] 74 (0, 0))], [(b60, .cells #[.pointer (some ⟨b48, 0, none⟩), .pointer (some ⟨b54, 0, none⟩)] 68 (0, 0))], [(b54, .cells #[.slice A90 l92.length c91] 71 (0, 0))], [(b48, .cells #[.slice A95 l97.length c96] 71 (0, 0))], [(b42, .cells #[.pointer (some ⟨p11, 0, none⟩), .pointer (some ⟨p29, 0, none⟩)] 65 (0, 0))], [(p29, .cells #[.slice A100 l102.length c101] 108 (0, 0))], [(p11, .cells #[.slice A105 l107.length c106] 108 (0, 0))], G93, G98, G167] at S230
              have S231 := S230.front 10 rfl
              change St _ _ _ [G98, G103, G108, [(b147, .cells #[.bool b157, .bool b158, .bool b159, .int .i64 x160, .int .i64 x161, .int .i64 x162, .int .i64 x163, .slice A164 l166.length c165, .string (bs s169)] 74 (0, 0))], [(b60, .cells #[.pointer (some ⟨b48, 0, none⟩), .pointer (some ⟨b54, 0, none⟩)] 68 (0, 0))], [(b54, .cells #[.slice A90 l92.length c91] 71 (0, 0))], [(b48, .cells #[.slice A95 l97.length c96] 71 (0, 0))], [(b42, .cells #[.pointer (some ⟨p11, 0, none⟩), .pointer (some ⟨p29, 0, none⟩)] 65 (0, 0))], [(p29, .cells #[.slice A100 l102.length c101] 108 (0, 0))], [(p11, .cells #[.slice A105 l107.length c106] 108 (0, 0))], G93, G167] at S231
              have S232 := S231.front 10 rfl
              change St _ _ _ [G93, G98, G103, G108, [(b147, .cells #[.bool b157, .bool b158, .bool b159, .int .i64 x160, .int .i64 x161, .int .i64 x162, .int .i64 x163, .slice A164 l166.length c165, .string (bs s169)] 74 (0, 0))], [(b60, .cells #[.pointer (some ⟨b48, 0, none⟩), .pointer (some ⟨b54, 0, none⟩)] 68 (0, 0))], [(b54, .cells #[.slice A90 l92.length c91] 71 (0, 0))], [(b48, .cells #[.slice A95 l97.length c96] 71 (0, 0))], [(b42, .cells #[.pointer (some ⟨p11, 0, none⟩), .pointer (some ⟨p29, 0, none⟩)] 65 (0, 0))], [(p29, .cells #[.slice A100 l102.length c101] 108 (0, 0))], [(p11, .cells #[.slice A105 l107.length c106] 108 (0, 0))], G167] at S232
              have S233 := S232.front 11 rfl
              change St _ _ _ [G167, G93, G98, G103, G108, [(b147, .cells #[.bool b157, .bool b158, .bool b159, .int .i64 x160, .int .i64 x161, .int .i64 x162, .int .i64 x163, .slice A164 l166.length c165, .string (bs s169)] 74 (0, 0))], [(b60, .cells #[.pointer (some ⟨b48, 0, none⟩), .pointer (some ⟨b54, 0, none⟩)] 68 (0, 0))], [(b54, .cells #[.slice A90 l92.length c91] 71 (0, 0))], [(b48, .cells #[.slice A95 l97.length c96] 71 (0, 0))], [(b42, .cells #[.pointer (some ⟨p11, 0, none⟩), .pointer (some ⟨p29, 0, none⟩)] 65 (0, 0))], [(p29, .cells #[.slice A100 l102.length c101] 108 (0, 0))], [(p11, .cells #[.slice A105 l107.length c106] 108 (0, 0))]] at S233
              have S234 := S233.front 11 rfl
              change St _ _ _ [[(p11, .cells #[.slice A105 l107.length c106] 108 (0, 0))], G167, G93, G98, G103, G108, [(b147, .cells #[.bool b157, .bool b158, .bool b159, .int .i64 x160, .int .i64 x161, .int .i64 x162, .int .i64 x163, .slice A164 l166.length c165, .string (bs s169)] 74 (0, 0))], [(b60, .cells #[.pointer (some ⟨b48, 0, none⟩), .pointer (some ⟨b54, 0, none⟩)] 68 (0, 0))], [(b54, .cells #[.slice A90 l92.length c91] 71 (0, 0))], [(b48, .cells #[.slice A95 l97.length c96] 71 (0, 0))], [(b42, .cells #[.pointer (some ⟨p11, 0, none⟩), .pointer (some ⟨p29, 0, none⟩)] 65 (0, 0))], [(p29, .cells #[.slice A100 l102.length c101] 108 (0, 0))]] at S234
              have S235 := S234.front 11 rfl
              change St _ _ _ [[(p29, .cells #[.slice A100 l102.length c101] 108 (0, 0))], [(p11, .cells #[.slice A105 l107.length c106] 108 (0, 0))], G167, G93, G98, G103, G108, [(b147, .cells #[.bool b157, .bool b158, .bool b159, .int .i64 x160, .int .i64 x161, .int .i64 x162, .int .i64 x163, .slice A164 l166.length c165, .string (bs s169)] 74 (0, 0))], [(b60, .cells #[.pointer (some ⟨b48, 0, none⟩), .pointer (some ⟨b54, 0, none⟩)] 68 (0, 0))], [(b54, .cells #[.slice A90 l92.length c91] 71 (0, 0))], [(b48, .cells #[.slice A95 l97.length c96] 71 (0, 0))], [(b42, .cells #[.pointer (some ⟨p11, 0, none⟩), .pointer (some ⟨p29, 0, none⟩)] 65 (0, 0))]] at S235
              have S236 := S235.front 11 rfl
              change St _ _ _ [[(b42, .cells #[.pointer (some ⟨p11, 0, none⟩), .pointer (some ⟨p29, 0, none⟩)] 65 (0, 0))], [(p29, .cells #[.slice A100 l102.length c101] 108 (0, 0))], [(p11, .cells #[.slice A105 l107.length c106] 108 (0, 0))], G167, G93, G98, G103, G108, [(b147, .cells #[.bool b157, .bool b158, .bool b159, .int .i64 x160, .int .i64 x161, .int .i64 x162, .int .i64 x163, .slice A164 l166.length c165, .string (bs s169)] 74 (0, 0))], [(b60, .cells #[.pointer (some ⟨b48, 0, none⟩), .pointer (some ⟨b54, 0, none⟩)] 68 (0, 0))], [(b54, .cells #[.slice A90 l92.length c91] 71 (0, 0))], [(b48, .cells #[.slice A95 l97.length c96] 71 (0, 0))]] at S236
              have S237 := S236.front 11 rfl
              change St _ _ _ [[(b48, .cells #[.slice A95 l97.length c96] 71 (0, 0))], [(b42, .cells #[.pointer (some ⟨p11, 0, none⟩), .pointer (some ⟨p29, 0, none⟩)] 65 (0, 0))], [(p29, .cells #[.slice A100 l102.length c101] 108 (0, 0))], [(p11, .cells #[.slice A105 l107.length c106] 108 (0, 0))], G167, G93, G98, G103, G108, [(b147, .cells #[.bool b157, .bool b158, .bool b159, .int .i64 x160, .int .i64 x161, .int .i64 x162, .int .i64 x163, .slice A164 l166.length c165, .string (bs s169)] 74 (0, 0))], [(b60, .cells #[.pointer (some ⟨b48, 0, none⟩), .pointer (some ⟨b54, 0, none⟩)] 68 (0, 0))], [(b54, .cells #[.slice A90 l92.length c91] 71 (0, 0))]] at S237
              have S238 := S237.front 11 rfl
              change St _ _ _ [[(b54, .cells #[.slice A90 l92.length c91] 71 (0, 0))], [(b48, .cells #[.slice A95 l97.length c96] 71 (0, 0))], [(b42, .cells #[.pointer (some ⟨p11, 0, none⟩), .pointer (some ⟨p29, 0, none⟩)] 65 (0, 0))], [(p29, .cells #[.slice A100 l102.length c101] 108 (0, 0))], [(p11, .cells #[.slice A105 l107.length c106] 108 (0, 0))], G167, G93, G98, G103, G108, [(b147, .cells #[.bool b157, .bool b158, .bool b159, .int .i64 x160, .int .i64 x161, .int .i64 x162, .int .i64 x163, .slice A164 l166.length c165, .string (bs s169)] 74 (0, 0))], [(b60, .cells #[.pointer (some ⟨b48, 0, none⟩), .pointer (some ⟨b54, 0, none⟩)] 68 (0, 0))]] at S238
              have S239 := S238.front 11 rfl
              change St _ _ _ [[(b60, .cells #[.pointer (some ⟨b48, 0, none⟩), .pointer (some ⟨b54, 0, none⟩)] 68 (0, 0))], [(b54, .cells #[.slice A90 l92.length c91] 71 (0, 0))], [(b48, .cells #[.slice A95 l97.length c96] 71 (0, 0))], [(b42, .cells #[.pointer (some ⟨p11, 0, none⟩), .pointer (some ⟨p29, 0, none⟩)] 65 (0, 0))], [(p29, .cells #[.slice A100 l102.length c101] 108 (0, 0))], [(p11, .cells #[.slice A105 l107.length c106] 108 (0, 0))], G167, G93, G98, G103, G108, [(b147, .cells #[.bool b157, .bool b158, .bool b159, .int .i64 x160, .int .i64 x161, .int .i64 x162, .int .i64 x163, .slice A164 l166.length c165, .string (bs s169)] 74 (0, 0))]] at S239
              have S240 := S239.front 11 rfl
              change St _ _ _ [[(b147, .cells #[.bool b157, .bool b158, .bool b159, .int .i64 x160, .int .i64 x161, .int .i64 x162, .int .i64 x163, .slice A164 l166.length c165, .string (bs s169)] 74 (0, 0))], [(b60, .cells #[.pointer (some ⟨b48, 0, none⟩), .pointer (some ⟨b54, 0, none⟩)] 68 (0, 0))], [(b54, .cells #[.slice A90 l92.length c91] 71 (0, 0))], [(b48, .cells #[.slice A95 l97.length c96] 71 (0, 0))], [(b42, .cells #[.pointer (some ⟨p11, 0, none⟩), .pointer (some ⟨p29, 0, none⟩)] 65 (0, 0))], [(p29, .cells #[.slice A100 l102.length c101] 108 (0, 0))], [(p11, .cells #[.slice A105 l107.length c106] 108 (0, 0))], G167, G93, G98, G103, G108] at S240
              refine WEx.cutend _ ?_ ⟨k210, 0, rfl, hF, (by omega), S240⟩
              exact ⟨rfl, rfl, rfl, rfl, rfl, rfl, trivial⟩
          ·
            rintro _ w212 ⟨q214, x211, rfl, hF, hq215, S213⟩
            obtain _ | k241 := q214
            · exact nomatch (show (none : Option Bool) = some r_ from hF)
            rw [law_Plays.j3] at hF
            refine WCode.seq ?_
            refine WCode.region ?_
            refine WOps.p (G.field T.fld74_3 rfl (show 0 + 3 = 3 from rfl)) rfl ?_
            refine WOps.r (G.load1 T.one3 rfl (cell_blk (S213.blk 0 rfl) rfl)) rfl ?_
            refine WOps.nil ?_
            refine WEx.then_ ?_
            refine WCode.block ?_
            refine WCode.cutseq (fun l_ w_ => ∃ q245 : Nat, ∃ b242 : Bool, l_ = [(0, .slice A0 a0.length c0), (4, .slice (some ⟨b42, 0, none⟩) ([0, 0] : List Int).length 2), (5, .slice (some ⟨b60, 0, none⟩) ([0, 0] : List Int).length 2), (6, .int .i64 x89), (7, .pointer (some ⟨b147, 0, none⟩)), (8, .int .i64 x211), (60, .int .i64 x160), (94, .bool b242)] ∧ law_Plays.j4 q245 a0 x89 l92 l97 l102 l107 b157 b158 b159 x160 x161 x162 x163 l166 s169 x211 b242 = some r_ ∧ q245 ≤ k241 ∧ St w (KS []) w_ [[(b147, .cells #[.bool b157, .bool b158, .bool b159, .int .i64 x160, .int .i64 x161, .int .i64 x162, .int .i64 x163, .slice A164 l166.length c165, .string (bs s169)] 74 (0, 0))], [(b60, .cells #[.pointer (some ⟨b48, 0, none⟩), .pointer (some ⟨b54, 0, none⟩)] 68 (0, 0))], [(b54, .cells #[.slice A90 l92.length c91] 71 (0, 0))], [(b48, .cells #[.slice A95 l97.length c96] 71 (0, 0))], [(b42, .cells #[.pointer (some ⟨p11, 0, none⟩), .pointer (some ⟨p29, 0, none⟩)] 65 (0, 0))], [(p29, .cells #[.slice A100 l102.length c101] 108 (0, 0))], [(p11, .cells #[.slice A105 l107.length c106] 108 (0, 0))], G167, G93, G98, G103, G108]) ?_ ?_
            ·
              refine WCode.seq ?_
              refine WCode.region ?_
              refine WOps.p (G.eql rfl rfl rfl) rfl ?_
              refine WOps.p (G.assign rfl) rfl ?_
              refine WOps.nil ?_
              refine WEx.then_ ?_
              rcases ite_some hF with ⟨h247, hF⟩ | ⟨h247, hF⟩
              ·
                refine WCode.cond_t (kb (b := decide (x160 = 0)) rfl (decide_eq_true h247)) ?_
                refine WCode.skip ?_
                have S248 := S213.front 11 rfl
                change St _ _ _ [G108, [(b147, .cells #[.bool b157, .bool b158, .bool b159, .int .i64 x160, .int .i64 x161, .int .i64 x162, .int .i64 x163, .slice A164 l166.length c165, .string (bs s169)] 74 (0, 0))], [(b60, .cells #[.pointer (some ⟨b48, 0, none⟩), .pointer (some ⟨b54, 0, none⟩)] 68 (0, 0))], [(b54, .cells #[.slice A90 l92.length c91] 71 (0, 0))], [(b48, .cells #[.slice A95 l97.length c96] 71 (0, 0))], [(b42, .cells #[.pointer (some ⟨p11, 0, none⟩), .pointer (some ⟨p29, 0, none⟩)] 65 (0, 0))], [(p29, .cells #[.slice A100 l102.length c101] 108 (0, 0))], [(p11, .cells #[.slice A105 l107.length c106] 108 (0, 0))], G167, G93, G98, G103] at S248
                have S249 := S248.front 11 rfl
                change St _ _ _ [G103, G108, [(b147, .cells #[.bool b157, .bool b158, .bool b159, .int .i64 x160, .int .i64 x161, .int .i64 x162, .int .i64 x163, .slice A164 l166.length c165, .string (bs s169)] 74 (0, 0))], [(b60, .cells #[.pointer (some ⟨b48, 0, none⟩), .pointer (some ⟨b54, 0, none⟩)] 68 (0, 0))], [(b54, .cells #[.slice A90 l92.length c91] 71 (0, 0))], [(b48, .cells #[.slice A95 l97.length c96] 71 (0, 0))], [(b42, .cells #[.pointer (some ⟨p11, 0, none⟩), .pointer (some ⟨p29, 0, none⟩)] 65 (0, 0))], [(p29, .cells #[.slice A100 l102.length c101] 108 (0, 0))], [(p11, .cells #[.slice A105 l107.length c106] 108 (0, 0))], G167, G93, G98] at S249
                have S250 := S249.front 11 rfl
                change St _ _ _ [G98, G103, G108, [(b147, .cells #[.bool b157, .bool b158, .bool b159, .int .i64 x160, .int .i64 x161, .int .i64 x162, .int .i64 x163, .slice A164 l166.length c165, .string (bs s169)] 74 (0, 0))], [(b60, .cells #[.pointer (some ⟨b48, 0, none⟩), .pointer (some ⟨b54, 0, none⟩)] 68 (0, 0))], [(b54, .cells #[.slice A90 l92.length c91] 71 (0, 0))], [(b48, .cells #[.slice A95 l97.length c96] 71 (0, 0))], [(b42, .cells #[.pointer (some ⟨p11, 0, none⟩), .pointer (some ⟨p29, 0, none⟩)] 65 (0, 0))], [(p29, .cells #[.slice A100 l102.length c101] 108 (0, 0))], [(p11, .cells #[.slice A105 l107.length c106] 108 (0, 0))], G167, G93] at S250
                have S251 := S250.front 11 rfl
                change St _ _ _ [G93, G98, G103, G108, [(b147, .cells #[.bool b157, .bool b158, .bool b159, .int .i64 x160, .int .i64 x161, .int .i64 x162, .int .i64 x163, .slice A164 l166.length c165, .string (bs s169)] 74 (0, 0))], [(b60, .cells #[.pointer (some ⟨b48, 0, none⟩), .pointer (some ⟨b54, 0, none⟩)] 68 (0, 0))], [(b54, .cells #[.slice A90 l92.length c91] 71 (0, 0))], [(b48, .cells #[.slice A95 l97.length c96] 71 (0, 0))], [(b42, .cells #[.pointer (some ⟨p11, 0, none⟩), .pointer (some ⟨p29, 0, none⟩)] 65 (0, 0))], [(p29, .cells #[.slice A100 l102.length c101] 108 (0, 0))], [(p11, .cells #[.slice A105 l107.length c106] 108 (0, 0))], G167] at S251
                have S252 := S251.front 11 rfl
                change St _ _ _ [G167, G93, G98, G103, G108, [(b147, .cells #[.bool b157, .bool b158, .bool b159, .int .i64 x160, .int .i64 x161, .int .i64 x162, .int .i64 x163, .slice A164 l166.length c165, .string (bs s169)] 74 (0, 0))], [(b60, .cells #[.pointer (some ⟨b48, 0, none⟩), .pointer (some ⟨b54, 0, none⟩)] 68 (0, 0))], [(b54, .cells #[.slice A90 l92.length c91] 71 (0, 0))], [(b48, .cells #[.slice A95 l97.length c96] 71 (0, 0))], [(b42, .cells #[.pointer (some ⟨p11, 0, none⟩), .pointer (some ⟨p29, 0, none⟩)] 65 (0, 0))], [(p29, .cells #[.slice A100 l102.length c101] 108 (0, 0))], [(p11, .cells #[.slice A105 l107.length c106] 108 (0, 0))]] at S252
                have S253 := S252.front 11 rfl
                change St _ _ _ [[(p11, .cells #[.slice A105 l107.length c106] 108 (0, 0))], G167, G93, G98, G103, G108, [(b147, .cells #[.bool b157, .bool b158, .bool b159, .int .i64 x160, .int .i64 x161, .int .i64 x162, .int .i64 x163, .slice A164 l166.length c165, .string (bs s169)] 74 (0, 0))], [(b60, .cells #[.pointer (some ⟨b48, 0, none⟩), .pointer (some ⟨b54, 0, none⟩)] 68 (0, 0))], [(b54, .cells #[.slice A90 l92.length c91] 71 (0, 0))], [(b48, .cells #[.slice A95 l97.length c96] 71 (0, 0))], [(b42, .cells #[.pointer (some ⟨p11, 0, none⟩), .pointer (some ⟨p29, 0, none⟩)] 65 (0, 0))], [(p29, .cells #[.slice A100 l102.length c101] 108 (0, 0))]] at S253
                have S254 := S253.front 11 rfl
                change St _ _ _ [[(p29, .cells #[.slice A100 l102.length c101] 108 (0, 0))], [(p11, .cells #[.slice A105 l107.length c106] 108 (0, 0))], G167, G93, G98, G103, G108, [(b147, .cells #[.bool b157, .bool b158, .bool b159, .int .i64 x160, .int .i64 x161, .int .i64 x162, .int .i64 x163, .slice A164 l166.length c165, .string (bs s169)] 74 (0, 0))], [(b60, .cells #[.pointer (some ⟨b48, 0, none⟩), .pointer (some ⟨b54, 0, none⟩)] 68 (0, 0))], [(b54, .cells #[.slice A90 l92.length c91] 71 (0, 0))], [(b48, .cells #[.slice A95 l97.length c96] 71 (0, 0))], [(b42, .cells #[.pointer (some ⟨p11, 0, none⟩), .pointer (some ⟨p29, 0, none⟩)] 65 (0, 0))]] at S254
                have S255 := S254.front 11 rfl
                change St _ _ _ [[(b42, .cells #[.pointer (some ⟨p11, 0, none⟩), .pointer (some ⟨p29, 0, none⟩)] 65 (0, 0))], [(p29, .cells #[.slice A100 l102.length c101] 108 (0, 0))], [(p11, .cells #[.slice A105 l107.length c106] 108 (0, 0))], G167, G93, G98, G103, G108, [(b147, .cells #[.bool b157, .bool b158, .bool b159, .int .i64 x160, .int .i64 x161, .int .i64 x162, .int .i64 x163, .slice A164 l166.length c165, .string (bs s169)] 74 (0, 0))], [(b60, .cells #[.pointer (some ⟨b48, 0, none⟩), .pointer (some ⟨b54, 0, none⟩)] 68 (0, 0))], [(b54, .cells #[.slice A90 l92.length c91] 71 (0, 0))], [(b48, .cells #[.slice A95 l97.length c96] 71 (0, 0))]] at S255
                have S256 := S255.front 11 rfl
                change St _ _ _ [[(b48, .cells #[.slice A95 l97.length c96] 71 (0, 0))], [(b42, .cells #[.pointer (some ⟨p11, 0, none⟩), .pointer (some ⟨p29, 0, none⟩)] 65 (0, 0))], [(p29, .cells #[.slice A100 l102.length c101] 108 (0, 0))], [(p11, .cells #[.slice A105 l107.length c106] 108 (0, 0))], G167, G93, G98, G103, G108, [(b147, .cells #[.bool b157, .bool b158, .bool b159, .int .i64 x160, .int .i64 x161, .int .i64 x162, .int .i64 x163, .slice A164 l166.length c165, .string (bs s169)] 74 (0, 0))], [(b60, .cells #[.pointer (some ⟨b48, 0, none⟩), .pointer (some ⟨b54, 0, none⟩)] 68 (0, 0))], [(b54, .cells #[.slice A90 l92.length c91] 71 (0, 0))]] at S256
                have S257 := S256.front 11 rfl
                change St _ _ _ [[(b54, .cells #[.slice A90 l92.length c91] 71 (0, 0))], [(b48, .cells #[.slice A95 l97.length c96] 71 (0, 0))], [(b42, .cells #[.pointer (some ⟨p11, 0, none⟩), .pointer (some ⟨p29, 0, none⟩)] 65 (0, 0))], [(p29, .cells #[.slice A100 l102.length c101] 108 (0, 0))], [(p11, .cells #[.slice A105 l107.length c106] 108 (0, 0))], G167, G93, G98, G103, G108, [(b147, .cells #[.bool b157, .bool b158, .bool b159, .int .i64 x160, .int .i64 x161, .int .i64 x162, .int .i64 x163, .slice A164 l166.length c165, .string (bs s169)] 74 (0, 0))], [(b60, .cells #[.pointer (some ⟨b48, 0, none⟩), .pointer (some ⟨b54, 0, none⟩)] 68 (0, 0))]] at S257
                have S258 := S257.front 11 rfl
                change St _ _ _ [[(b60, .cells #[.pointer (some ⟨b48, 0, none⟩), .pointer (some ⟨b54, 0, none⟩)] 68 (0, 0))], [(b54, .cells #[.slice A90 l92.length c91] 71 (0, 0))], [(b48, .cells #[.slice A95 l97.length c96] 71 (0, 0))], [(b42, .cells #[.pointer (some ⟨p11, 0, none⟩), .pointer (some ⟨p29, 0, none⟩)] 65 (0, 0))], [(p29, .cells #[.slice A100 l102.length c101] 108 (0, 0))], [(p11, .cells #[.slice A105 l107.length c106] 108 (0, 0))], G167, G93, G98, G103, G108, [(b147, .cells #[.bool b157, .bool b158, .bool b159, .int .i64 x160, .int .i64 x161, .int .i64 x162, .int .i64 x163, .slice A164 l166.length c165, .string (bs s169)] 74 (0, 0))]] at S258
                have S259 := S258.front 11 rfl
                change St _ _ _ [[(b147, .cells #[.bool b157, .bool b158, .bool b159, .int .i64 x160, .int .i64 x161, .int .i64 x162, .int .i64 x163, .slice A164 l166.length c165, .string (bs s169)] 74 (0, 0))], [(b60, .cells #[.pointer (some ⟨b48, 0, none⟩), .pointer (some ⟨b54, 0, none⟩)] 68 (0, 0))], [(b54, .cells #[.slice A90 l92.length c91] 71 (0, 0))], [(b48, .cells #[.slice A95 l97.length c96] 71 (0, 0))], [(b42, .cells #[.pointer (some ⟨p11, 0, none⟩), .pointer (some ⟨p29, 0, none⟩)] 65 (0, 0))], [(p29, .cells #[.slice A100 l102.length c101] 108 (0, 0))], [(p11, .cells #[.slice A105 l107.length c106] 108 (0, 0))], G167, G93, G98, G103, G108] at S259
                refine WEx.cutend _ ?_ ⟨k241, decide (x160 = 0), rfl, hF, (by omega), S259⟩
                exact ⟨rfl, rfl, rfl, rfl, rfl, rfl, rfl, rfl, trivial⟩
              ·
                refine WCode.cond_f (kb (b := decide (x160 = 0)) rfl (decide_eq_false h247)) ?_
                refine WCode.region ?_
                refine WOps.p (G.eql rfl rfl rfl) rfl ?_
                refine WOps.p (G.assign rfl) rfl ?_
                refine WOps.nil ?_
                have S260 := S213.front 11 rfl
                change St _ _ _ [G108, [(b147, .cells #[.bool b157, .bool b158, .bool b159, .int .i64 x160, .int .i64 x161, .int .i64 x162, .int .i64 x163, .slice A164 l166.length c165, .string (bs s169)] 74 (0, 0))], [(b60, .cells #[.pointer (some ⟨b48, 0, none⟩), .pointer (some ⟨b54, 0, none⟩)] 68 (0, 0))], [(b54, .cells #[.slice A90 l92.length c91] 71 (0, 0))], [(b48, .cells #[.slice A95 l97.length c96] 71 (0, 0))], [(b42, .cells #[.pointer (some ⟨p11, 0, none⟩), .pointer (some ⟨p29, 0, none⟩)] 65 (0, 0))], [(p29, .cells #[.slice A100 l102.length c101] 108 (0, 0))], [(p11, .cells #[.slice A105 l107.length c106] 108 (0, 0))], G167, G93, G98, G103] at S260
                have S261 := S260.front 11 rfl
                change St _ _ _ [G103, G108, [(b147, .cells #[.bool b157, .bool b158, .bool b159, .int .i64 x160, .int .i64 x161, .int .i64 x162, .int .i64 x163, .slice A164 l166.length c165, .string (bs s169)] 74 (0, 0))], [(b60, .cells #[.pointer (some ⟨b48, 0, none⟩), .pointer (some ⟨b54, 0, none⟩)] 68 (0, 0))], [(b54, .cells #[.slice A90 l92.length c91] 71 (0, 0))], [(b48, .cells #[.slice A95 l97.length c96] 71 (0, 0))], [(b42, .cells #[.pointer (some ⟨p11, 0, none⟩), .pointer (some ⟨p29, 0, none⟩)] 65 (0, 0))], [(p29, .cells #[.slice A100 l102.length c101] 108 (0, 0))], [(p11, .cells #[.slice A105 l107.length c106] 108 (0, 0))], G167, G93, G98] at S261
                have S262 := S261.front 11 rfl
                change St _ _ _ [G98, G103, G108, [(b147, .cells #[.bool b157, .bool b158, .bool b159, .int .i64 x160, .int .i64 x161, .int .i64 x162, .int .i64 x163, .slice A164 l166.length c165, .string (bs s169)] 74 (0, 0))], [(b60, .cells #[.pointer (some ⟨b48, 0, none⟩), .pointer (some ⟨b54, 0, none⟩)] 68 (0, 0))], [(b54, .cells #[.slice A90 l92.length c91] 71 (0, 0))], [(b48, .cells #[.slice A95 l97.length c96] 71 (0, 0))], [(b42, .cells #[.pointer (some ⟨p11, 0, none⟩), .pointer (some ⟨p29, 0, none⟩)] 65 (0, 0))], [(p29, .cells #[.slice A100 l102.length c101] 108 (0, 0))], [(p11, .cells #[.slice A105 l107.length c106] 108 (0, 0))], G167, G93] at S262
                have S263 := S262.front 11 rfl
                change St _ _ _ [G93, G98, G103, G108, [(b147, .cells #[.bool b157, .bool b158, .bool b159, .int .i64 x160, .int .i64 x161, .int .i64 x162, .int .i64 x163, .slice A164 l166.length c165, .string (bs s169)] 74 (0, 0))], [(b60, .cells #[.pointer (some ⟨b48, 0, none⟩), .pointer (some ⟨b54, 0, none⟩)] 68 (0, 0))], [(b54, .cells #[.slice A90 l92.length c91] 71 (0, 0))], [(b48, .cells #[.slice A95 l97.length c96] 71 (0, 0))], [(b42, .cells #[.pointer (some ⟨p11, 0, none⟩), .pointer (some ⟨p29, 0, none⟩)] 65 (0, 0))], [(p29, .cells #[.slice A100 l102.length c101] 108 (0, 0))], [(p11, .cells #[.slice A105 l107.length c106] 108 (0, 0))], G167] at S263
                have S264 := S263.front 11 rfl
                change St _ _ _ [G167, G93, G98, G103, G108, [(b147, .cells #[.bool b157, .bool b158, .bool b159, .int .i64 x160, .int .i64 x161, .int .i64 x162, .int .i64 x163, .slice A164 l166.length c165, .string (bs s169)] 74 (0, 0))], [(b60, .cells #[.pointer (some ⟨b48, 0, none⟩), .pointer (some ⟨b54, 0, none⟩)] 68 (0, 0))], [(b54, .cells #[.slice A90 l92.length c91] 71 (0, 0))], [(b48, .cells #[.slice A95 l97.length c96] 71 (0, 0))], [(b42, .cells #[.pointer (some ⟨p11, 0, none⟩), .pointer (some ⟨p29, 0, none⟩)] 65 (0, 0))], [(p29, .cells #[.slice A100 l102.length c101] 108 (0, 0))], [(p11, .cells #[.slice A105 l107.length c106] 108 (0, 0))]] at S264
                have S265 := S264.front 11 rfl
                change St _ _ _ [[(p11, .cells #[.slice A105 l107.length c106] 108 (0, 0))], G167, G93, G98, G103, G108, [(b147, .cells #[.bool b157, .bool b158, .bool b159, .int .i64 x160, .int .i64 x161, .int .i64 x162, .int .i64 x163, .slice A164 l166.length c165, .string (bs s169)] 74 (0, 0))], [(b60, .cells #[.pointer (some ⟨b48, 0, none⟩), .pointer (some ⟨b54, 0, none⟩)] 68 (0, 0))], [(b54, .cells #[.slice A90 l92.length c91] 71 (0, 0))], [(b48, .cells #[.slice A95 l97.length c96] 71 (0, 0))], [(b42, .cells #[.pointer (some ⟨p11, 0, none⟩), .pointer (some ⟨p29, 0, none⟩)] 65 (0, 0))], [(p29, .cells #[.slice A100 l102.length c101] 108 (0, 0))]] at S265
                have S266 := S265.front 11 rfl
                change St _ _ _ [[(p29, .cells #[.slice A100 l102.length c101] 108 (0, 0))], [(p11, .cells #[.slice A105 l107.length c106] 108 (0, 0))], G167, G93, G98, G103, G108, [(b147, .cells #[.bool b157, .bool b158, .bool b159, .int .i64 x160, .int .i64 x161, .int .i64 x162, .int .i64 x163, .slice A164 l166.length c165, .string (bs s169)] 74 (0, 0))], [(b60, .cells #[.pointer (some ⟨b48, 0, none⟩), .pointer (some ⟨b54, 0, none⟩)] 68 (0, 0))], [(b54, .cells #[.slice A90 l92.length c91] 71 (0, 0))], [(b48, .cells #[.slice A95 l97.length c96] 71 (0, 0))], [(b42, .cells #[.pointer (some ⟨p11, 0, none⟩), .pointer (some ⟨p29, 0, none⟩)] 65 (0, 0))]] at S266
                have S267 := S266.front 11 rfl
                change St _ _ _ [[(b42, .cells #[.pointer (some ⟨p11, 0, none⟩), .pointer (some ⟨p29, 0, none⟩)] 65 (0, 0))], [(p29, .cells #[.slice A100 l102.length c101] 108 (0, 0))], [(p11, .cells #[.slice A105 l107.length c106] 108 (0, 0))], G167, G93, G98, G103, G108, [(b147, .cells #[.bool b157, .bool b158, .bool b159, .int .i64 x160, .int .i64 x161, .int .i64 x162, .int .i64 x163, .slice A164 l166.length c165, .string (bs s169)] 74 (0, 0))], [(b60, .cells #[.pointer (some ⟨b48, 0, none⟩), .pointer (some ⟨b54, 0, none⟩)] 68 (0, 0))], [(b54, .cells #[.slice A90 l92.length c91] 71 (0, 0))], [(b48, .cells #[.slice A95 l97.length c96] 71 (0, 0))]] at S267
                have S268 := S267.front 11 rfl
                change St _ _ _ [[(b48, .cells #[.slice A95 l97.length c96] 71 (0, 0))], [(b42, .cells #[.pointer (some ⟨p11, 0, none⟩), .pointer (some ⟨p29, 0, none⟩)] 65 (0, 0))], [(p29, .cells #[.slice A100 l102.length c101] 108 (0, 0))], [(p11, .cells #[.slice A105 l107.length c106] 108 (0, 0))], G167, G93, G98, G103, G108, [(b147, .cells #[.bool b157, .bool b158, .bool b159, .int .i64 x160, .int .i64 x161, .int .i64 x162, .int .i64 x163, .slice A164 l166.length c165, .string (bs s169)] 74 (0, 0))], [(b60, .cells #[.pointer (some ⟨b48, 0, none⟩), .pointer (some ⟨b54, 0, none⟩)] 68 (0, 0))], [(b54, .cells #[.slice A90 l92.length c91] 71 (0, 0))]] at S268
                have S269 := S268.front 11 rfl
                change St _ _ _ [[(b54, .cells #[.slice A90 l92.length c91] 71 (0, 0))], [(b48, .cells #[.slice A95 l97.length c96] 71 (0, 0))], [(b42, .cells #[.pointer (some ⟨p11, 0, none⟩), .pointer (some ⟨p29, 0, none⟩)] 65 (0, 0))], [(p29, .cells #[.slice A100 l102.length c101] 108 (0, 0))], [(p11, .cells #[.slice A105 l107.length c106] 108 (0, 0))], G167, G93, G98, G103, G108, [(b147, .cells #[.bool b157, .bool b158, .bool b159, .int .i64 x160, .int .i64 x161, .int .i64 x162, .int .i64 x163, .slice A164 l166.length c165, .string (bs s169)] 74 (0, 0))], [(b60, .cells #[.pointer (some ⟨b48, 0, none⟩), .pointer (some ⟨b54, 0, none⟩)] 68 (0, 0))]] at S269
                have S270 := S269.front 11 rfl
                change St _ _ _ [[(b60, .cells #[.pointer (some ⟨b48, 0, none⟩), .pointer (some ⟨b54, 0, none⟩)] 68 (0, 0))], [(b54, .cells #[.slice A90 l92.length c91] 71 (0, 0))], [(b48, .cells #[.slice A95 l97.length c96] 71 (0, 0))], [(b42, .cells #[.pointer (some ⟨p11, 0, none⟩), .pointer (some ⟨p29, 0, none⟩)] 65 (0, 0))], [(p29, .cells #[.slice A100 l102.length c101] 108 (0, 0))], [(p11, .cells #[.slice A105 l107.length c106] 108 (0, 0))], G167, G93, G98, G103, G108, [(b147, .cells #[.bool b157, .bool b158, .bool b159, .int .i64 x160, .int .i64 x161, .int .i64 x162, .int .i64 x163, .slice A164 l166.length c165, .string (bs s169)] 74 (0, 0))]] at S270
                have S271 := S270.front 11 rfl
                change St _ _ _ [[(b147, .cells #[.bool b157, .bool b158, .bool b159, .int .i64 x160, .int .i64 x161, .int .i64 x162, .int .i64 x163, .slice A164 l166.length c165, .string (bs s169)] 74 (0, 0))], [(b60, .cells #[.pointer (some ⟨b48, 0, none⟩), .pointer (some ⟨b54, 0, none⟩)] 68 (0, 0))], [(b54, .cells #[.slice A90 l92.length c91] 71 (0, 0))], [(b48, .cells #[.slice A95 l97.length c96] 71 (0, 0))], [(b42, .cells #[.pointer (some ⟨p11, 0, none⟩), .pointer (some ⟨p29, 0, none⟩)] 65 (0, 0))], [(p29, .cells #[.slice A100 l102.length c101] 108 (0, 0))], [(p11, .cells #[.slice A105 l107.length c106] 108 (0, 0))], G167, G93, G98, G103, G108] at S271
                refine WEx.cutend _ ?_ ⟨k241, decide (x160 = 1), rfl, hF, (by omega), S271⟩
                exact ⟨rfl, rfl, rfl, rfl, rfl, rfl, rfl, rfl, trivial⟩
            ·
              rintro _ w243 ⟨q245, b242, rfl, hF, hq246, S244⟩
              obtain _ | k272 := q245
              · exact nomatch (show (none : Option Bool) = some r_ from hF)
              rw [law_Plays.j4] at hF
              rcases ite_some hF with ⟨h273, hF⟩ | ⟨h273, hF⟩
              ·
                refine WCode.cond_t (kb (b := b242) rfl h273) ?_
                refine WCode.seq ?_
                refine WCode.draw [⟨0, 0, []⟩, ⟨1, 0, []⟩, ⟨2, 0, []⟩, ⟨4, 0, []⟩, ⟨5, 0, []⟩, ⟨6, 0, []⟩, ⟨3, 1, [9, 10]⟩, ⟨7, 1, [9, 10]⟩, ⟨8, 1, [9, 10]⟩, ⟨9, 2, []⟩, ⟨10, 0, []⟩] T.mixed (by kernel_rfl) (by intro _ _ d _ _ h; cases d <;> exact h) rfl (by kernel_rfl) ?_
                have S274 := S244.drew
                generalize w243.drew = w275 at *
                refine WD.p rfl (G.move rfl) rfl ?_
                refine WD.p rfl (G.move rfl) rfl ?_
                rcases ite_some hF with ⟨h276, hF⟩ | ⟨h276, hF⟩
                ·
                  refine WD.p rfl (G.idx (o := 0) (j := 0) T.el67 rfl rfl rfl (show x211 = ((0 : Nat) : Int) from h276) (by decide) : GP _ _ _ _ (.pointer (some ⟨b42, 0, none⟩))) rfl ?_
                  refine WD.p rfl (G.move rfl) rfl ?_
                  refine WD.p rfl (G.move rfl) rfl ?_
                  refine WD.p rfl (G.idx (o := 0) (j := 0) T.el72 rfl rfl rfl (show x211 = ((0 : Nat) : Int) from h276) (by decide) : GP _ _ _ _ (.pointer (some ⟨b60, 0, none⟩))) rfl ?_
                  refine WD.r rfl (G.load1 T.one65 rfl (cell_blk (S274.blk 4 rfl) rfl)) rfl ?_
                  refine WD.r rfl (G.load1 T.one68 rfl (cell_blk (S274.blk 1 rfl) rfl)) rfl ?_
                  refine WD.r rfl (G.loada T.agg74_9 rfl (cs := [.bool b157, .bool b158, .bool b159, .int .i64 x160, .int .i64 x161, .int .i64 x162, .int .i64 x163, .slice A164 l166.length c165, .string (bs s169)]) (cellsAt.of_blk (S274.blk 0 rfl) rfl)) rfl ?_
                  have S277 := S274.front 11 rfl
                  change St _ _ _ [G108, [(b147, .cells #[.bool b157, .bool b158, .bool b159, .int .i64 x160, .int .i64 x161, .int .i64 x162, .int .i64 x163, .slice A164 l166.length c165, .string (bs s169)] 74 (0, 0))], [(b60, .cells #[.pointer (some ⟨b48, 0, none⟩), .pointer (some ⟨b54, 0, none⟩)] 68 (0, 0))], [(b54, .cells #[.slice A90 l92.length c91] 71 (0, 0))], [(b48, .cells #[.slice A95 l97.length c96] 71 (0, 0))], [(b42, .cells #[.pointer (some ⟨p11, 0, none⟩), .pointer (some ⟨p29, 0, none⟩)] 65 (0, 0))], [(p29, .cells #[.slice A100 l102.length c101] 108 (0, 0))], [(p11, .cells #[.slice A105 l107.length c106] 108 (0, 0))], G167, G93, G98, G103] at S277
                  have S278 := S277.front 7 rfl
                  change St _ _ _ [[(p11, .cells #[.slice A105 l107.length c106] 108 (0, 0))], G108, [(b147, .cells #[.bool b157, .bool b158, .bool b159, .int .i64 x160, .int .i64 x161, .int .i64 x162, .int .i64 x163, .slice A164 l166.length c165, .string (bs s169)] 74 (0, 0))], [(b60, .cells #[.pointer (some ⟨b48, 0, none⟩), .pointer (some ⟨b54, 0, none⟩)] 68 (0, 0))], [(b54, .cells #[.slice A90 l92.length c91] 71 (0, 0))], [(b48, .cells #[.slice A95 l97.length c96] 71 (0, 0))], [(b42, .cells #[.pointer (some ⟨p11, 0, none⟩), .pointer (some ⟨p29, 0, none⟩)] 65 (0, 0))], [(p29, .cells #[.slice A100 l102.length c101] 108 (0, 0))], G167, G93, G98, G103] at S278
                  have hO279 : ObjO 108 Registry.rp p11 (⟨l107⟩ : Registry) ([(p11, .cells #[.slice A105 l107.length c106] 108 (0, 0))] ++ (G108)) := ⟨_, _, ⟨A105, c106, G108, rfl, hO109, rfl⟩, rfl⟩
                  have S280 : St _ _ _ [[(p11, .cells #[.slice A105 l107.length c106] 108 (0, 0))] ++ (G108), [(b147, .cells #[.bool b157, .bool b158, .bool b159, .int .i64 x160, .int .i64 x161, .int .i64 x162, .int .i64 x163, .slice A164 l166.length c165, .string (bs s169)] 74 (0, 0))], [(b60, .cells #[.pointer (some ⟨b48, 0, none⟩), .pointer (some ⟨b54, 0, none⟩)] 68 (0, 0))], [(b54, .cells #[.slice A90 l92.length c91] 71 (0, 0))], [(b48, .cells #[.slice A95 l97.length c96] 71 (0, 0))], [(b42, .cells #[.pointer (some ⟨p11, 0, none⟩), .pointer (some ⟨p29, 0, none⟩)] 65 (0, 0))], [(p29, .cells #[.slice A100 l102.length c101] 108 (0, 0))], G167, G93, G98, G103] := S278.objs (by simp)
                  have S281 := S280.front 9 rfl
                  change St _ _ _ [G98, [(p11, .cells #[.slice A105 l107.length c106] 108 (0, 0))] ++ (G108), [(b147, .cells #[.bool b157, .bool b158, .bool b159, .int .i64 x160, .int .i64 x161, .int .i64 x162, .int .i64 x163, .slice A164 l166.length c165, .string (bs s169)] 74 (0, 0))], [(b60, .cells #[.pointer (some ⟨b48, 0, none⟩), .pointer (some ⟨b54, 0, none⟩)] 68 (0, 0))], [(b54, .cells #[.slice A90 l92.length c91] 71 (0, 0))], [(b48, .cells #[.slice A95 l97.length c96] 71 (0, 0))], [(b42, .cells #[.pointer (some ⟨p11, 0, none⟩), .pointer (some ⟨p29, 0, none⟩)] 65 (0, 0))], [(p29, .cells #[.slice A100 l102.length c101] 108 (0, 0))], G167, G93, G103] at S281
                  have S282 := S281.front 5 rfl
                  change St _ _ _ [[(b48, .cells #[.slice A95 l97.length c96] 71 (0, 0))], G98, [(p11, .cells #[.slice A105 l107.length c106] 108 (0, 0))] ++ (G108), [(b147, .cells #[.bool b157, .bool b158, .bool b159, .int .i64 x160, .int .i64 x161, .int .i64 x162, .int .i64 x163, .slice A164 l166.length c165, .string (bs s169)] 74 (0, 0))], [(b60, .cells #[.pointer (some ⟨b48, 0, none⟩), .pointer (some ⟨b54, 0, none⟩)] 68 (0, 0))], [(b54, .cells #[.slice A90 l92.length c91] 71 (0, 0))], [(b42, .cells #[.pointer (some ⟨p11, 0, none⟩), .pointer (some ⟨p29, 0, none⟩)] 65 (0, 0))], [(p29, .cells #[.slice A100 l102.length c101] 108 (0, 0))], G167, G93, G103] at S282
                  have hO283 : ObjO 71 Registry71.rp b48 (⟨l97⟩ : Registry71) ([(b48, .cells #[.slice A95 l97.length c96] 71 (0, 0))] ++ (G98)) := ⟨_, _, ⟨A95, c96, G98, rfl, hO99, rfl⟩, rfl⟩
                  have S284 : St _ _ _ [[(b48, .cells #[.slice A95 l97.length c96] 71 (0, 0))] ++ (G98), [(p11, .cells #[.slice A105 l107.length c106] 108 (0, 0))] ++ (G108), [(b147, .cells #[.bool b157, .bool b158, .bool b159, .int .i64 x160, .int .i64 x161, .int .i64 x162, .int .i64 x163, .slice A164 l166.length c165, .string (bs s169)] 74 (0, 0))], [(b60, .cells #[.pointer (some ⟨b48, 0, none⟩), .pointer (some ⟨b54, 0, none⟩)] 68 (0, 0))], [(b54, .cells #[.slice A90 l92.length c91] 71 (0, 0))], [(b42, .cells #[.pointer (some ⟨p11, 0, none⟩), .pointer (some ⟨p29, 0, none⟩)] 65 (0, 0))], [(p29, .cells #[.slice A100 l102.length c101] 108 (0, 0))], G167, G93, G103] := S282.objs (by simp)
                  obtain ⟨t285, hc286, hF⟩ := bind_some hF
                  have S287 := S284.front 1 rfl
                  change St _ _ _ [[(p11, .cells #[.slice A105 l107.length c106] 108 (0, 0))] ++ (G108), [(b48, .cells #[.slice A95 l97.length c96] 71 (0, 0))] ++ (G98), [(b147, .cells #[.bool b157, .bool b158, .bool b159, .int .i64 x160, .int .i64 x161, .int .i64 x162, .int .i64 x163, .slice A164 l166.length c165, .string (bs s169)] 74 (0, 0))], [(b60, .cells #[.pointer (some ⟨b48, 0, none⟩), .pointer (some ⟨b54, 0, none⟩)] 68 (0, 0))], [(b54, .cells #[.slice A90 l92.length c91] 71 (0, 0))], [(b42, .cells #[.pointer (some ⟨p11, 0, none⟩), .pointer (some ⟨p29, 0, none⟩)] 65 (0, 0))], [(p29, .cells #[.slice A100 l102.length c101] 108 (0, 0))], G167, G93, G103] at S287
                  refine WD.call rfl T.call28 (evs_cons rfl (evs_cons rfl (evs_cons rfl evs_nil))) rfl ?_
                  refine (sv_offer_calls k272 (⟨l107⟩ : Registry) (⟨l97⟩ : Registry71) (⟨b157, b158, b159, x160, x161, x162, x163, l166, s169⟩ : Op) hO279 hO283 (hM168.ext (S287.mx hF0 7 rfl)) (St.outM (Bs := [[(p11, .cells #[.slice A105 l107.length c106] 108 (0, 0))] ++ (G108), [(b48, .cells #[.slice A95 l97.length c96] 71 (0, 0))] ++ (G98)]) S287 hF0 5 rfl) hc286 (St.hpN (As := [[(p11, .cells #[.slice A105 l107.length c106] 108 (0, 0))] ++ (G108), [(b48, .cells #[.slice A95 l97.length c96] 71 (0, 0))] ++ (G98)]) S287)).mono ?_
                  rintro _ w288 ⟨G291, G293, rfl, hO292, hO294, T289⟩
                  have S290 := St.callN (As := [[(p11, .cells #[.slice A105 l107.length c106] 108 (0, 0))] ++ (G108), [(b48, .cells #[.slice A95 l97.length c96] 71 (0, 0))] ++ (G98)]) S287 T289
                  change St _ _ _ [G291, G293, [(b147, .cells #[.bool b157, .bool b158, .bool b159, .int .i64 x160, .int .i64 x161, .int .i64 x162, .int .i64 x163, .slice A164 l166.length c165, .string (bs s169)] 74 (0, 0))], [(b60, .cells #[.pointer (some ⟨b48, 0, none⟩), .pointer (some ⟨b54, 0, none⟩)] 68 (0, 0))], [(b54, .cells #[.slice A90 l92.length c91] 71 (0, 0))], [(b42, .cells #[.pointer (some ⟨p11, 0, none⟩), .pointer (some ⟨p29, 0, none⟩)] 65 (0, 0))], [(p29, .cells #[.slice A100 l102.length c101] 108 (0, 0))], G167, G93, G103] at S290
                  refine ⟨_, rfl, ?_⟩
                  obtain ⟨cs295, G296, ho297, hg298⟩ := hO292
                  obtain ⟨A299, c300, G301, rfl, hO302, hq303⟩ := ho297
                  have S304 : St _ _ _ [[(p11, .cells #[.slice A299 t285.2.1.l.length c300] 108 (0, 0))], G301, G293, [(b147, .cells #[.bool b157, .bool b158, .bool b159, .int .i64 x160, .int .i64 x161, .int .i64 x162, .int .i64 x163, .slice A164 l166.length c165, .string (bs s169)] 74 (0, 0))], [(b60, .cells #[.pointer (some ⟨b48, 0, none⟩), .pointer (some ⟨b54, 0, none⟩)] 68 (0, 0))], [(b54, .cells #[.slice A90 l92.length c91] 71 (0, 0))], [(b42, .cells #[.pointer (some ⟨p11, 0, none⟩), .pointer (some ⟨p29, 0, none⟩)] 65 (0, 0))], [(p29, .cells #[.slice A100 l102.length c101] 108 (0, 0))], G167, G93, G103] := S290.objs (by rw [hg298, hq303]; simp)
                  have S305 := S304.front 2 rfl
                  change St _ _ _ [G293, [(p11, .cells #[.slice A299 t285.2.1.l.length c300] 108 (0, 0))], G301, [(b147, .cells #[.bool b157, .bool b158, .bool b159, .int .i64 x160, .int .i64 x161, .int .i64 x162, .int .i64 x163, .slice A164 l166.length c165, .string (bs s169)] 74 (0, 0))], [(b60, .cells #[.pointer (some ⟨b48, 0, none⟩), .pointer (some ⟨b54, 0, none⟩)] 68 (0, 0))], [(b54, .cells #[.slice A90 l92.length c91] 71 (0, 0))], [(b42, .cells #[.pointer (some ⟨p11, 0, none⟩), .pointer (some ⟨p29, 0, none⟩)] 65 (0, 0))], [(p29, .cells #[.slice A100 l102.length c101] 108 (0, 0))], G167, G93, G103] at S305
                  obtain ⟨cs306, G307, ho308, hg309⟩ := hO294
                  obtain ⟨A310, c311, G312, rfl, hO313, hq314⟩ := ho308
                  have S315 : St _ _ _ [[(b48, .cells #[.slice A310 t285.2.2.L.length c311] 71 (0, 0))], G312, [(p11, .cells #[.slice A299 t285.2.1.l.length c300] 108 (0, 0))], G301, [(b147, .cells #[.bool b157, .bool b158, .bool b159, .int .i64 x160, .int .i64 x161, .int .i64 x162, .int .i64 x163, .slice A164 l166.length c165, .string (bs s169)] 74 (0, 0))], [(b60, .cells #[.pointer (some ⟨b48, 0, none⟩), .pointer (some ⟨b54, 0, none⟩)] 68 (0, 0))], [(b54, .cells #[.slice A90 l92.length c91] 71 (0, 0))], [(b42, .cells #[.pointer (some ⟨p11, 0, none⟩), .pointer (some ⟨p29, 0, none⟩)] 65 (0, 0))], [(p29, .cells #[.slice A100 l102.length c101] 108 (0, 0))], G167, G93, G103] := S305.objs (by rw [hg309, hq314]; simp)
                  refine WD.p rfl (G.assign rfl) rfl ?_
                  refine WD.nil ?_
                  refine WEx.then_ ?_
                  refine WCode.forget (l' := [(0, .slice A0 a0.length c0), (4, .slice (some ⟨b42, 0, none⟩) ([0, 0] : List Int).length 2), (5, .slice (some ⟨b60, 0, none⟩) ([0, 0] : List Int).length 2), (6, .int .i64 x89), (9, .bool t285.1)]) ⟨rfl, rfl, rfl, rfl, rfl, trivial⟩ ?_
                  refine WCode.seq ?_
                  refine WCode.region ?_
                  refine WOps.p (G.move rfl) rfl ?_
                  refine WOps.p (G.not rfl rfl) rfl ?_
                  refine WOps.nil ?_
                  refine WEx.then_ ?_
                  rcases ite_some hF with ⟨h316, hF⟩ | ⟨h316, hF⟩
                  ·
                    refine WCode.cond_f (kb (b := !t285.1) rfl (show (!t285.1) = false from by rw [h316]; rfl)) ?_
                    refine WCode.skip ?_
                    refine WEx.in_normal ?_
                    refine WEx.in_normal ?_
                    refine WEx.then_ ?_
                    refine WCode.region ?_
                    refine WOps.p (G.move rfl) rfl ?_
                    refine WOps.p (G.add rfl rfl (r := (w64 (x89 + 1))) rfl) rfl ?_
                    refine WOps.p (G.assign rfl) rfl ?_
                    refine WOps.nil ?_
                    have S317 := S315.front 3 rfl
                    change St _ _ _ [G301, [(b48, .cells #[.slice A310 t285.2.2.L.length c311] 71 (0, 0))], G312, [(p11, .cells #[.slice A299 t285.2.1.l.length c300] 108 (0, 0))], [(b147, .cells #[.bool b157, .bool b158, .bool b159, .int .i64 x160, .int .i64 x161, .int .i64 x162, .int .i64 x163, .slice A164 l166.length c165, .string (bs s169)] 74 (0, 0))], [(b60, .cells #[.pointer (some ⟨b48, 0, none⟩), .pointer (some ⟨b54, 0, none⟩)] 68 (0, 0))], [(b54, .cells #[.slice A90 l92.length c91] 71 (0, 0))], [(b42, .cells #[.pointer (some ⟨p11, 0, none⟩), .pointer (some ⟨p29, 0, none⟩)] 65 (0, 0))], [(p29, .cells #[.slice A100 l102.length c101] 108 (0, 0))], G167, G93, G103] at S317
                    have S318 := S317.front 11 rfl
                    change St _ _ _ [G103, G301, [(b48, .cells #[.slice A310 t285.2.2.L.length c311] 71 (0, 0))], G312, [(p11, .cells #[.slice A299 t285.2.1.l.length c300] 108 (0, 0))], [(b147, .cells #[.bool b157, .bool b158, .bool b159, .int .i64 x160, .int .i64 x161, .int .i64 x162, .int .i64 x163, .slice A164 l166.length c165, .string (bs s169)] 74 (0, 0))], [(b60, .cells #[.pointer (some ⟨b48, 0, none⟩), .pointer (some ⟨b54, 0, none⟩)] 68 (0, 0))], [(b54, .cells #[.slice A90 l92.length c91] 71 (0, 0))], [(b42, .cells #[.pointer (some ⟨p11, 0, none⟩), .pointer (some ⟨p29, 0, none⟩)] 65 (0, 0))], [(p29, .cells #[.slice A100 l102.length c101] 108 (0, 0))], G167, G93] at S318
                    have S319 := S318.front 3 rfl
                    change St _ _ _ [G312, G103, G301, [(b48, .cells #[.slice A310 t285.2.2.L.length c311] 71 (0, 0))], [(p11, .cells #[.slice A299 t285.2.1.l.length c300] 108 (0, 0))], [(b147, .cells #[.bool b157, .bool b158, .bool b159, .int .i64 x160, .int .i64 x161, .int .i64 x162, .int .i64 x163, .slice A164 l166.length c165, .string (bs s169)] 74 (0, 0))], [(b60, .cells #[.pointer (some ⟨b48, 0, none⟩), .pointer (some ⟨b54, 0, none⟩)] 68 (0, 0))], [(b54, .cells #[.slice A90 l92.length c91] 71 (0, 0))], [(b42, .cells #[.pointer (some ⟨p11, 0, none⟩), .pointer (some ⟨p29, 0, none⟩)] 65 (0, 0))], [(p29, .cells #[.slice A100 l102.length c101] 108 (0, 0))], G167, G93] at S319
                    have S320 := S319.front 11 rfl
                    change St _ _ _ [G93, G312, G103, G301, [(b48, .cells #[.slice A310 t285.2.2.L.length c311] 71 (0, 0))], [(p11, .cells #[.slice A299 t285.2.1.l.length c300] 108 (0, 0))], [(b147, .cells #[.bool b157, .bool b158, .bool b159, .int .i64 x160, .int .i64 x161, .int .i64 x162, .int .i64 x163, .slice A164 l166.length c165, .string (bs s169)] 74 (0, 0))], [(b60, .cells #[.pointer (some ⟨b48, 0, none⟩), .pointer (some ⟨b54, 0, none⟩)] 68 (0, 0))], [(b54, .cells #[.slice A90 l92.length c91] 71 (0, 0))], [(b42, .cells #[.pointer (some ⟨p11, 0, none⟩), .pointer (some ⟨p29, 0, none⟩)] 65 (0, 0))], [(p29, .cells #[.slice A100 l102.length c101] 108 (0, 0))], G167] at S320
                    have S321 := S320.front 5 rfl
                    change St _ _ _ [[(p11, .cells #[.slice A299 t285.2.1.l.length c300] 108 (0, 0))], G93, G312, G103, G301, [(b48, .cells #[.slice A310 t285.2.2.L.length c311] 71 (0, 0))], [(b147, .cells #[.bool b157, .bool b158, .bool b159, .int .i64 x160, .int .i64 x161, .int .i64 x162, .int .i64 x163, .slice A164 l166.length c165, .string (bs s169)] 74 (0, 0))], [(b60, .cells #[.pointer (some ⟨b48, 0, none⟩), .pointer (some ⟨b54, 0, none⟩)] 68 (0, 0))], [(b54, .cells #[.slice A90 l92.length c91] 71 (0, 0))], [(b42, .cells #[.pointer (some ⟨p11, 0, none⟩), .pointer (some ⟨p29, 0, none⟩)] 65 (0, 0))], [(p29, .cells #[.slice A100 l102.length c101] 108 (0, 0))], G167] at S321
                    have S322 := S321.front 10 rfl
                    change St _ _ _ [[(p29, .cells #[.slice A100 l102.length c101] 108 (0, 0))], [(p11, .cells #[.slice A299 t285.2.1.l.length c300] 108 (0, 0))], G93, G312, G103, G301, [(b48, .cells #[.slice A310 t285.2.2.L.length c311] 71 (0, 0))], [(b147, .cells #[.bool b157, .bool b158, .bool b159, .int .i64 x160, .int .i64 x161, .int .i64 x162, .int .i64 x163, .slice A164 l166.length c165, .string (bs s169)] 74 (0, 0))], [(b60, .cells #[.pointer (some ⟨b48, 0, none⟩), .pointer (some ⟨b54, 0, none⟩)] 68 (0, 0))], [(b54, .cells #[.slice A90 l92.length c91] 71 (0, 0))], [(b42, .cells #[.pointer (some ⟨p11, 0, none⟩), .pointer (some ⟨p29, 0, none⟩)] 65 (0, 0))], G167] at S322
                    have S323 := S322.front 10 rfl
                    change St _ _ _ [[(b42, .cells #[.pointer (some ⟨p11, 0, none⟩), .pointer (some ⟨p29, 0, none⟩)] 65 (0, 0))], [(p29, .cells #[.slice A100 l102.length c101] 108 (0, 0))], [(p11, .cells #[.slice A299 t285.2.1.l.length c300] 108 (0, 0))], G93, G312, G103, G301, [(b48, .cells #[.slice A310 t285.2.2.L.length c311] 71 (0, 0))], [(b147, .cells #[.bool b157, .bool b158, .bool b159, .int .i64 x160, .int .i64 x161, .int .i64 x162, .int .i64 x163, .slice A164 l166.length c165, .string (bs s169)] 74 (0, 0))], [(b60, .cells #[.pointer (some ⟨b48, 0, none⟩), .pointer (some ⟨b54, 0, none⟩)] 68 (0, 0))], [(b54, .cells #[.slice A90 l92.length c91] 71 (0, 0))], G167] at S323
                    have S324 := S323.front 7 rfl
                    change St _ _ _ [[(b48, .cells #[.slice A310 t285.2.2.L.length c311] 71 (0, 0))], [(b42, .cells #[.pointer (some ⟨p11, 0, none⟩), .pointer (some ⟨p29, 0, none⟩)] 65 (0, 0))], [(p29, .cells #[.slice A100 l102.length c101] 108 (0, 0))], [(p11, .cells #[.slice A299 t285.2.1.l.length c300] 108 (0, 0))], G93, G312, G103, G301, [(b147, .cells #[.bool b157, .bool b158, .bool b159, .int .i64 x160, .int .i64 x161, .int .i64 x162, .int .i64 x163, .slice A164 l166.length c165, .string (bs s169)] 74 (0, 0))], [(b60, .cells #[.pointer (some ⟨b48, 0, none⟩), .pointer (some ⟨b54, 0, none⟩)] 68 (0, 0))], [(b54, .cells #[.slice A90 l92.length c91] 71 (0, 0))], G167] at S324
                    have S325 := S324.front 10 rfl
                    change St _ _ _ [[(b54, .cells #[.slice A90 l92.length c91] 71 (0, 0))], [(b48, .cells #[.slice A310 t285.2.2.L.length c311] 71 (0, 0))], [(b42, .cells #[.pointer (some ⟨p11, 0, none⟩), .pointer (some ⟨p29, 0, none⟩)] 65 (0, 0))], [(p29, .cells #[.slice A100 l102.length c101] 108 (0, 0))], [(p11, .cells #[.slice A299 t285.2.1.l.length c300] 108 (0, 0))], G93, G312, G103, G301, [(b147, .cells #[.bool b157, .bool b158, .bool b159, .int .i64 x160, .int .i64 x161, .int .i64 x162, .int .i64 x163, .slice A164 l166.length c165, .string (bs s169)] 74 (0, 0))], [(b60, .cells #[.pointer (some ⟨b48, 0, none⟩), .pointer (some ⟨b54, 0, none⟩)] 68 (0, 0))], G167] at S325
                    have S326 := S325.front 10 rfl
                    change St _ _ _ [[(b60, .cells #[.pointer (some ⟨b48, 0, none⟩), .pointer (some ⟨b54, 0, none⟩)] 68 (0, 0))], [(b54, .cells #[.slice A90 l92.length c91] 71 (0, 0))], [(b48, .cells #[.slice A310 t285.2.2.L.length c311] 71 (0, 0))], [(b42, .cells #[.pointer (some ⟨p11, 0, none⟩), .pointer (some ⟨p29, 0, none⟩)] 65 (0, 0))], [(p29, .cells #[.slice A100 l102.length c101] 108 (0, 0))], [(p11, .cells #[.slice A299 t285.2.1.l.length c300] 108 (0, 0))], G93, G312, G103, G301, [(b147, .cells #[.bool b157, .bool b158, .bool b159, .int .i64 x160, .int .i64 x161, .int .i64 x162, .int .i64 x163, .slice A164 l166.length c165, .string (bs s169)] 74 (0, 0))], G167] at S326
                    have S327 := St.keep (As := [[(b60, .cells #[.pointer (some ⟨b48, 0, none⟩), .pointer (some ⟨b54, 0, none⟩)] 68 (0, 0))], [(b54, .cells #[.slice A90 l92.length c91] 71 (0, 0))], [(b48, .cells #[.slice A310 t285.2.2.L.length c311] 71 (0, 0))], [(b42, .cells #[.pointer (some ⟨p11, 0, none⟩), .pointer (some ⟨p29, 0, none⟩)] 65 (0, 0))], [(p29, .cells #[.slice A100 l102.length c101] 108 (0, 0))], [(p11, .cells #[.slice A299 t285.2.1.l.length c300] 108 (0, 0))], G93, G312, G103, G301]) S326
                    refine WEx.again _ _ (by omega) ?_ ⟨w64 (x89 + 1), A90, c91, l92, G93, A310, c311, t285.2.2.L, G312, A100, c101, l102, G103, A299, c300, t285.2.1.l, G301, rfl, hF, hO94, hO313, hO104, hO302, S327⟩
                    exact ⟨rfl, rfl, rfl, rfl, trivial⟩
                  ·
                    refine WCode.cond_t (kb (b := !t285.1) rfl (show (!t285.1) = true from by rw [(Bool.eq_false_iff.2 h316)]; rfl)) ?_
                    refine WCode.seq ?_
                    refine WCode.region ?_
                    refine WOps.p (G.assign rfl) rfl ?_
                    refine WOps.nil ?_
                    refine WEx.then_ ?_
                    refine WCode.ret ?_
                    refine WEx.in_ret ?_
                    refine WEx.in_ret ?_
                    refine WEx.then_ret ?_
                    refine WEx.then_ret ?_
                    refine WEx.in_ret ?_
                    refine WEx.then_ret ?_
                    obtain rfl := some_eq hF
                    refine WEx.ret1 rfl rfl ?_
                    exact ⟨rfl, St.keep (As := []) S315⟩
                ·
                  rcases ite_some hF with ⟨h328, hF⟩ | ⟨h328, hF⟩
                  ·
                    refine WD.p rfl (G.idx (o := 0) (j := 1) T.el67 rfl rfl rfl (show x211 = ((1 : Nat) : Int) from h328) (by decide) : GP _ _ _ _ (.pointer (some ⟨b42, 1, none⟩))) rfl ?_
                    refine WD.p rfl (G.move rfl) rfl ?_
                    refine WD.p rfl (G.move rfl) rfl ?_
                    refine WD.p rfl (G.idx (o := 0) (j := 1) T.el72 rfl rfl rfl (show x211 = ((1 : Nat) : Int) from h328) (by decide) : GP _ _ _ _ (.pointer (some ⟨b60, 1, none⟩))) rfl ?_
                    refine WD.r rfl (G.load1 T.one65 rfl (cell_blk (S274.blk 4 rfl) rfl)) rfl ?_
                    refine WD.r rfl (G.load1 T.one68 rfl (cell_blk (S274.blk 1 rfl) rfl)) rfl ?_
                    refine WD.r rfl (G.loada T.agg74_9 rfl (cs := [.bool b157, .bool b158, .bool b159, .int .i64 x160, .int .i64 x161, .int .i64 x162, .int .i64 x163, .slice A164 l166.length c165, .string (bs s169)]) (cellsAt.of_blk (S274.blk 0 rfl) rfl)) rfl ?_
                    have S329 := S274.front 10 rfl
                    change St _ _ _ [G103, [(b147, .cells #[.bool b157, .bool b158, .bool b159, .int .i64 x160, .int .i64 x161, .int .i64 x162, .int .i64 x163, .slice A164 l166.length c165, .string (bs s169)] 74 (0, 0))], [(b60, .cells #[.pointer (some ⟨b48, 0, none⟩), .pointer (some ⟨b54, 0, none⟩)] 68 (0, 0))], [(b54, .cells #[.slice A90 l92.length c91] 71 (0, 0))], [(b48, .cells #[.slice A95 l97.length c96] 71 (0, 0))], [(b42, .cells #[.pointer (some ⟨p11, 0, none⟩), .pointer (some ⟨p29, 0, none⟩)] 65 (0, 0))], [(p29, .cells #[.slice A100 l102.length c101] 108 (0, 0))], [(p11, .cells #[.slice A105 l107.length c106] 108 (0, 0))], G167, G93, G98, G108] at S329
                    have S330 := S329.front 6 rfl
                    change St _ _ _ [[(p29, .cells #[.slice A100 l102.length c101] 108 (0, 0))], G103, [(b147, .cells #[.bool b157, .bool b158, .bool b159, .int .i64 x160, .int .i64 x161, .int .i64 x162, .int .i64 x163, .slice A164 l166.length c165, .string (bs s169)] 74 (0, 0))], [(b60, .cells #[.pointer (some ⟨b48, 0, none⟩), .pointer (some ⟨b54, 0, none⟩)] 68 (0, 0))], [(b54, .cells #[.slice A90 l92.length c91] 71 (0, 0))], [(b48, .cells #[.slice A95 l97.length c96] 71 (0, 0))], [(b42, .cells #[.pointer (some ⟨p11, 0, none⟩), .pointer (some ⟨p29, 0, none⟩)] 65 (0, 0))], [(p11, .cells #[.slice A105 l107.length c106] 108 (0, 0))], G167, G93, G98, G108] at S330
                    have hO331 : ObjO 108 Registry.rp p29 (⟨l102⟩ : Registry) ([(p29, .cells #[.slice A100 l102.length c101] 108 (0, 0))] ++ (G103)) := ⟨_, _, ⟨A100, c101, G103, rfl, hO104, rfl⟩, rfl⟩
                    have S332 : St _ _ _ [[(p29, .cells #[.slice A100 l102.length c101] 108 (0, 0))] ++ (G103), [(b147, .cells #[.bool b157, .bool b158, .bool b159, .int .i64 x160, .int .i64 x161, .int .i64 x162, .int .i64 x163, .slice A164 l166.length c165, .string (bs s169)] 74 (0, 0))], [(b60, .cells #[.pointer (some ⟨b48, 0, none⟩), .pointer (some ⟨b54, 0, none⟩)] 68 (0, 0))], [(b54, .cells #[.slice A90 l92.length c91] 71 (0, 0))], [(b48, .cells #[.slice A95 l97.length c96] 71 (0, 0))], [(b42, .cells #[.pointer (some ⟨p11, 0, none⟩), .pointer (some ⟨p29, 0, none⟩)] 65 (0, 0))], [(p11, .cells #[.slice A105 l107.length c106] 108 (0, 0))], G167, G93, G98, G108] := S330.objs (by simp)
                    have S333 := S332.front 8 rfl
                    change St _ _ _ [G93, [(p29, .cells #[.slice A100 l102.length c101] 108 (0, 0))] ++ (G103), [(b147, .cells #[.bool b157, .bool b158, .bool b159, .int .i64 x160, .int .i64 x161, .int .i64 x162, .int .i64 x163, .slice A164 l166.length c165, .string (bs s169)] 74 (0, 0))], [(b60, .cells #[.pointer (some ⟨b48, 0, none⟩), .pointer (some ⟨b54, 0, none⟩)] 68 (0, 0))], [(b54, .cells #[.slice A90 l92.length c91] 71 (0, 0))], [(b48, .cells #[.slice A95 l97.length c96] 71 (0, 0))], [(b42, .cells #[.pointer (some ⟨p11, 0, none⟩), .pointer (some ⟨p29, 0, none⟩)] 65 (0, 0))], [(p11, .cells #[.slice A105 l107.length c106] 108 (0, 0))], G167, G98, G108] at S333
                    have S334 := S333.front 4 rfl
                    change St _ _ _ [[(b54, .cells #[.slice A90 l92.length c91] 71 (0, 0))], G93, [(p29, .cells #[.slice A100 l102.length c101] 108 (0, 0))] ++ (G103), [(b147, .cells #[.bool b157, .bool b158, .bool b159, .int .i64 x160, .int .i64 x161, .int .i64 x162, .int .i64 x163, .slice A164 l166.length c165, .string (bs s169)] 74 (0, 0))], [(b60, .cells #[.pointer (some ⟨b48, 0, none⟩), .pointer (some ⟨b54, 0, none⟩)] 68 (0, 0))], [(b48, .cells #[.slice A95 l97.length c96] 71 (0, 0))], [(b42, .cells #[.pointer (some ⟨p11, 0, none⟩), .pointer (some ⟨p29, 0, none⟩)] 65 (0, 0))], [(p11, .cells #[.slice A105 l107.length c106] 108 (0, 0))], G167, G98, G108] at S334
                    have hO335 : ObjO 71 Registry71.rp b54 (⟨l92⟩ : Registry71) ([(b54, .cells #[.slice A90 l92.length c91] 71 (0, 0))] ++ (G93)) := ⟨_, _, ⟨A90, c91, G93, rfl, hO94, rfl⟩, rfl⟩
                    have S336 : St _ _ _ [[(b54, .cells #[.slice A90 l92.length c91] 71 (0, 0))] ++ (G93), [(p29, .cells #[.slice A100 l102.length c101] 108 (0, 0))] ++ (G103), [(b147, .cells #[.bool b157, .bool b158, .bool b159, .int .i64 x160, .int .i64 x161, .int .i64 x162, .int .i64 x163, .slice A164 l166.length c165, .string (bs s169)] 74 (0, 0))], [(b60, .cells #[.pointer (some ⟨b48, 0, none⟩), .pointer (some ⟨b54, 0, none⟩)] 68 (0, 0))], [(b48, .cells #[.slice A95 l97.length c96] 71 (0, 0))], [(b42, .cells #[.pointer (some ⟨p11, 0, none⟩), .pointer (some ⟨p29, 0, none⟩)] 65 (0, 0))], [(p11, .cells #[.slice A105 l107.length c106] 108 (0, 0))], G167, G98, G108] := S334.objs (by simp)
                    obtain ⟨t337, hc338, hF⟩ := bind_some hF
                    have S339 := S336.front 1 rfl
                    change St _ _ _ [[(p29, .cells #[.slice A100 l102.length c101] 108 (0, 0))] ++ (G103), [(b54, .cells #[.slice A90 l92.length c91] 71 (0, 0))] ++ (G93), [(b147, .cells #[.bool b157, .bool b158, .bool b159, .int .i64 x160, .int .i64 x161, .int .i64 x162, .int .i64 x163, .slice A164 l166.length c165, .string (bs s169)] 74 (0, 0))], [(b60, .cells #[.pointer (some ⟨b48, 0, none⟩), .pointer (some ⟨b54, 0, none⟩)] 68 (0, 0))], [(b48, .cells #[.slice A95 l97.length c96] 71 (0, 0))], [(b42, .cells #[.pointer (some ⟨p11, 0, none⟩), .pointer (some ⟨p29, 0, none⟩)] 65 (0, 0))], [(p11, .cells #[.slice A105 l107.length c106] 108 (0, 0))], G167, G98, G108] at S339
                    refine WD.call rfl T.call28 (evs_cons rfl (evs_cons rfl (evs_cons rfl evs_nil))) rfl ?_
                    refine (sv_offer_calls k272 (⟨l102⟩ : Registry) (⟨l92⟩ : Registry71) (⟨b157, b158, b159, x160, x161, x162, x163, l166, s169⟩ : Op) hO331 hO335 (hM168.ext (S339.mx hF0 7 rfl)) (St.outM (Bs := [[(p29, .cells #[.slice A100 l102.length c101] 108 (0, 0))] ++ (G103), [(b54, .cells #[.slice A90 l92.length c91] 71 (0, 0))] ++ (G93)]) S339 hF0 5 rfl) hc338 (St.hpN (As := [[(p29, .cells #[.slice A100 l102.length c101] 108 (0, 0))] ++ (G103), [(b54, .cells #[.slice A90 l92.length c91] 71 (0, 0))] ++ (G93)]) S339)).mono ?_
                    rintro _ w340 ⟨G343, G345, rfl, hO344, hO346, T341⟩
                    have S342 := St.callN (As := [[(p29, .cells #[.slice A100 l102.length c101] 108 (0, 0))] ++ (G103), [(b54, .cells #[.slice A90 l92.length c91] 71 (0, 0))] ++ (G93)]) S339 T341
                    change St _ _ _ [G343, G345, [(b147, .cells #[.bool b157, .bool b158, .bool b159, .int .i64 x160, .int .i64 x161, .int .i64 x162, .int .i64 x163, .slice A164 l166.length c165, .string (bs s169)] 74 (0, 0))], [(b60, .cells #[.pointer (some ⟨b48, 0, none⟩), .pointer (some ⟨b54, 0, none⟩)] 68 (0, 0))], [(b48, .cells #[.slice A95 l97.length c96] 71 (0, 0))], [(b42, .cells #[.pointer (some ⟨p11, 0, none⟩), .pointer (some ⟨p29, 0, none⟩)] 65 (0, 0))], [(p11, .cells #[.slice A105 l107.length c106] 108 (0, 0))], G167, G98, G108] at S342
                    refine ⟨_, rfl, ?_⟩
                    obtain ⟨cs347, G348, ho349, hg350⟩ := hO344
                    obtain ⟨A351, c352, G353, rfl, hO354, hq355⟩ := ho349
                    have S356 : St _ _ _ [[(p29, .cells #[.slice A351 t337.2.1.l.length c352] 108 (0, 0))], G353, G345, [(b147, .cells #[.bool b157, .bool b158, .bool b159, .int .i64 x160, .int .i64 x161, .int .i64 x162, .int .i64 x163, .slice A164 l166.length c165, .string (bs s169)] 74 (0, 0))], [(b60, .cells #[.pointer (some ⟨b48, 0, none⟩), .pointer (some ⟨b54, 0, none⟩)] 68 (0, 0))], [(b48, .cells #[.slice A95 l97.length c96] 71 (0, 0))], [(b42, .cells #[.pointer (some ⟨p11, 0, none⟩), .pointer (some ⟨p29, 0, none⟩)] 65 (0, 0))], [(p11, .cells #[.slice A105 l107.length c106] 108 (0, 0))], G167, G98, G108] := S342.objs (by rw [hg350, hq355]; simp)
                    have S357 := S356.front 2 rfl
                    change St _ _ _ [G345, [(p29, .cells #[.slice A351 t337.2.1.l.length c352] 108 (0, 0))], G353, [(b147, .cells #[.bool b157, .bool b158, .bool b159, .int .i64 x160, .int .i64 x161, .int .i64 x162, .int .i64 x163, .slice A164 l166.length c165, .string (bs s169)] 74 (0, 0))], [(b60, .cells #[.pointer (some ⟨b48, 0, none⟩), .pointer (some ⟨b54, 0, none⟩)] 68 (0, 0))], [(b48, .cells #[.slice A95 l97.length c96] 71 (0, 0))], [(b42, .cells #[.pointer (some ⟨p11, 0, none⟩), .pointer (some ⟨p29, 0, none⟩)] 65 (0, 0))], [(p11, .cells #[.slice A105 l107.length c106] 108 (0, 0))], G167, G98, G108] at S357
                    obtain ⟨cs358, G359, ho360, hg361⟩ := hO346
                    obtain ⟨A362, c363, G364, rfl, hO365, hq366⟩ := ho360
                    have S367 : St _ _ _ [[(b54, .cells #[.slice A362 t337.2.2.L.length c363] 71 (0, 0))], G364, [(p29, .cells #[.slice A351 t337.2.1.l.length c352] 108 (0, 0))], G353, [(b147, .cells #[.bool b157, .bool b158, .bool b159, .int .i64 x160, .int .i64 x161, .int .i64 x162, .int .i64 x163, .slice A164 l166.length c165, .string (bs s169)] 74 (0, 0))], [(b60, .cells #[.pointer (some ⟨b48, 0, none⟩), .pointer (some ⟨b54, 0, none⟩)] 68 (0, 0))], [(b48, .cells #[.slice A95 l97.length c96] 71 (0, 0))], [(b42, .cells #[.pointer (some ⟨p11, 0, none⟩), .pointer (some ⟨p29, 0, none⟩)] 65 (0, 0))], [(p11, .cells #[.slice A105 l107.length c106] 108 (0, 0))], G167, G98, G108] := S357.objs (by rw [hg361, hq366]; simp)
                    refine WD.p rfl (G.assign rfl) rfl ?_
                    refine WD.nil ?_
                    refine WEx.then_ ?_
                    refine WCode.forget (l' := [(0, .slice A0 a0.length c0), (4, .slice (some ⟨b42, 0, none⟩) ([0, 0] : List Int).length 2), (5, .slice (some ⟨b60, 0, none⟩) ([0, 0] : List Int).length 2), (6, .int .i64 x89), (9, .bool t337.1)]) ⟨rfl, rfl, rfl, rfl, rfl, trivial⟩ ?_
                    refine WCode.seq ?_
                    refine WCode.region ?_
                    refine WOps.p (G.move rfl) rfl ?_
                    refine WOps.p (G.not rfl rfl) rfl ?_
                    refine WOps.nil ?_
                    refine WEx.then_ ?_
                    rcases ite_some hF with ⟨h368, hF⟩ | ⟨h368, hF⟩
                    ·
                      refine WCode.cond_f (kb (b := !t337.1) rfl (show (!t337.1) = false from by rw [h368]; rfl)) ?_
                      refine WCode.skip ?_
                      refine WEx.in_normal ?_
                      refine WEx.in_normal ?_
                      refine WEx.then_ ?_
                      refine WCode.region ?_
                      refine WOps.p (G.move rfl) rfl ?_
                      refine WOps.p (G.add rfl rfl (r := (w64 (x89 + 1))) rfl) rfl ?_
                      refine WOps.p (G.assign rfl) rfl ?_
                      refine WOps.nil ?_
                      have S369 := S367.front 11 rfl
                      change St _ _ _ [G108, [(b54, .cells #[.slice A362 t337.2.2.L.length c363] 71 (0, 0))], G364, [(p29, .cells #[.slice A351 t337.2.1.l.length c352] 108 (0, 0))], G353, [(b147, .cells #[.bool b157, .bool b158, .bool b159, .int .i64 x160, .int .i64 x161, .int .i64 x162, .int .i64 x163, .slice A164 l166.length c165, .string (bs s169)] 74 (0, 0))], [(b60, .cells #[.pointer (some ⟨b48, 0, none⟩), .pointer (some ⟨b54, 0, none⟩)] 68 (0, 0))], [(b48, .cells #[.slice A95 l97.length c96] 71 (0, 0))], [(b42, .cells #[.pointer (some ⟨p11, 0, none⟩), .pointer (some ⟨p29, 0, none⟩)] 65 (0, 0))], [(p11, .cells #[.slice A105 l107.length c106] 108 (0, 0))], G167, G98] at S369
                      have S370 := S369.front 4 rfl
                      change St _ _ _ [G353, G108, [(b54, .cells #[.slice A362 t337.2.2.L.length c363] 71 (0, 0))], G364, [(p29, .cells #[.slice A351 t337.2.1.l.length c352] 108 (0, 0))], [(b147, .cells #[.bool b157, .bool b158, .bool b159, .int .i64 x160, .int .i64 x161, .int .i64 x162, .int .i64 x163, .slice A164 l166.length c165, .string (bs s169)] 74 (0, 0))], [(b60, .cells #[.pointer (some ⟨b48, 0, none⟩), .pointer (some ⟨b54, 0, none⟩)] 68 (0, 0))], [(b48, .cells #[.slice A95 l97.length c96] 71 (0, 0))], [(b42, .cells #[.pointer (some ⟨p11, 0, none⟩), .pointer (some ⟨p29, 0, none⟩)] 65 (0, 0))], [(p11, .cells #[.slice A105 l107.length c106] 108 (0, 0))], G167, G98] at S370
                      have S371 := S370.front 11 rfl
                      change St _ _ _ [G98, G353, G108, [(b54, .cells #[.slice A362 t337.2.2.L.length c363] 71 (0, 0))], G364, [(p29, .cells #[.slice A351 t337.2.1.l.length c352] 108 (0, 0))], [(b147, .cells #[.bool b157, .bool b158, .bool b159, .int .i64 x160, .int .i64 x161, .int .i64 x162, .int .i64 x163, .slice A164 l166.length c165, .string (bs s169)] 74 (0, 0))], [(b60, .cells #[.pointer (some ⟨b48, 0, none⟩), .pointer (some ⟨b54, 0, none⟩)] 68 (0, 0))], [(b48, .cells #[.slice A95 l97.length c96] 71 (0, 0))], [(b42, .cells #[.pointer (some ⟨p11, 0, none⟩), .pointer (some ⟨p29, 0, none⟩)] 65 (0, 0))], [(p11, .cells #[.slice A105 l107.length c106] 108 (0, 0))], G167] at S371
                      have S372 := S371.front 4 rfl
                      change St _ _ _ [G364, G98, G353, G108, [(b54, .cells #[.slice A362 t337.2.2.L.length c363] 71 (0, 0))], [(p29, .cells #[.slice A351 t337.2.1.l.length c352] 108 (0, 0))], [(b147, .cells #[.bool b157, .bool b158, .bool b159, .int .i64 x160, .int .i64 x161, .int .i64 x162, .int .i64 x163, .slice A164 l166.length c165, .string (bs s169)] 74 (0, 0))], [(b60, .cells #[.pointer (some ⟨b48, 0, none⟩), .pointer (some ⟨b54, 0, none⟩)] 68 (0, 0))], [(b48, .cells #[.slice A95 l97.length c96] 71 (0, 0))], [(b42, .cells #[.pointer (some ⟨p11, 0, none⟩), .pointer (some ⟨p29, 0, none⟩)] 65 (0, 0))], [(p11, .cells #[.slice A105 l107.length c106] 108 (0, 0))], G167] at S372
                      have S373 := S372.front 10 rfl
                      change St _ _ _ [[(p11, .cells #[.slice A105 l107.length c106] 108 (0, 0))], G364, G98, G353, G108, [(b54, .cells #[.slice A362 t337.2.2.L.length c363] 71 (0, 0))], [(p29, .cells #[.slice A351 t337.2.1.l.length c352] 108 (0, 0))], [(b147, .cells #[.bool b157, .bool b158, .bool b159, .int .i64 x160, .int .i64 x161, .int .i64 x162, .int .i64 x163, .slice A164 l166.length c165, .string (bs s169)] 74 (0, 0))], [(b60, .cells #[.pointer (some ⟨b48, 0, none⟩), .pointer (some ⟨b54, 0, none⟩)] 68 (0, 0))], [(b48, .cells #[.slice A95 l97.length c96] 71 (0, 0))], [(b42, .cells #[.pointer (some ⟨p11, 0, none⟩), .pointer (some ⟨p29, 0, none⟩)] 65 (0, 0))], G167] at S373
                      have S374 := S373.front 6 rfl
                      change St _ _ _ [[(p29, .cells #[.slice A351 t337.2.1.l.length c352] 108 (0, 0))], [(p11, .cells #[.slice A105 l107.length c106] 108 (0, 0))], G364, G98, G353, G108, [(b54, .cells #[.slice A362 t337.2.2.L.length c363] 71 (0, 0))], [(b147, .cells #[.bool b157, .bool b158, .bool b159, .int .i64 x160, .int .i64 x161, .int .i64 x162, .int .i64 x163, .slice A164 l166.length c165, .string (bs s169)] 74 (0, 0))], [(b60, .cells #[.pointer (some ⟨b48, 0, none⟩), .pointer (some ⟨b54, 0, none⟩)] 68 (0, 0))], [(b48, .cells #[.slice A95 l97.length c96] 71 (0, 0))], [(b42, .cells #[.pointer (some ⟨p11, 0, none⟩), .pointer (some ⟨p29, 0, none⟩)] 65 (0, 0))], G167] at S374
                      have S375 := S374.front 10 rfl
                      change St _ _ _ [[(b42, .cells #[.pointer (some ⟨p11, 0, none⟩), .pointer (some ⟨p29, 0, none⟩)] 65 (0, 0))], [(p29, .cells #[.slice A351 t337.2.1.l.length c352] 108 (0, 0))], [(p11, .cells #[.slice A105 l107.length c106] 108 (0, 0))], G364, G98, G353, G108, [(b54, .cells #[.slice A362 t337.2.2.L.length c363] 71 (0, 0))], [(b147, .cells #[.bool b157, .bool b158, .bool b159, .int .i64 x160, .int .i64 x161, .int .i64 x162, .int .i64 x163, .slice A164 l166.length c165, .string (bs s169)] 74 (0, 0))], [(b60, .cells #[.pointer (some ⟨b48, 0, none⟩), .pointer (some ⟨b54, 0, none⟩)] 68 (0, 0))], [(b48, .cells #[.slice A95 l97.length c96] 71 (0, 0))], G167] at S375
                      have S376 := S375.front 10 rfl
                      change St _ _ _ [[(b48, .cells #[.slice A95 l97.length c96] 71 (0, 0))], [(b42, .cells #[.pointer (some ⟨p11, 0, none⟩), .pointer (some ⟨p29, 0, none⟩)] 65 (0, 0))], [(p29, .cells #[.slice A351 t337.2.1.l.length c352] 108 (0, 0))], [(p11, .cells #[.slice A105 l107.length c106] 108 (0, 0))], G364, G98, G353, G108, [(b54, .cells #[.slice A362 t337.2.2.L.length c363] 71 (0, 0))], [(b147, .cells #[.bool b157, .bool b158, .bool b159, .int .i64 x160, .int .i64 x161, .int .i64 x162, .int .i64 x163, .slice A164 l166.length c165, .string (bs s169)] 74 (0, 0))], [(b60, .cells #[.pointer (some ⟨b48, 0, none⟩), .pointer (some ⟨b54, 0, none⟩)] 68 (0, 0))], G167] at S376
                      have S377 := S376.front 8 rfl
                      change St _ _ _ [[(b54, .cells #[.slice A362 t337.2.2.L.length c363] 71 (0, 0))], [(b48, .cells #[.slice A95 l97.length c96] 71 (0, 0))], [(b42, .cells #[.pointer (some ⟨p11, 0, none⟩), .pointer (some ⟨p29, 0, none⟩)] 65 (0, 0))], [(p29, .cells #[.slice A351 t337.2.1.l.length c352] 108 (0, 0))], [(p11, .cells #[.slice A105 l107.length c106] 108 (0, 0))], G364, G98, G353, G108, [(b147, .cells #[.bool b157, .bool b158, .bool b159, .int .i64 x160, .int .i64 x161, .int .i64 x162, .int .i64 x163, .slice A164 l166.length c165, .string (bs s169)] 74 (0, 0))], [(b60, .cells #[.pointer (some ⟨b48, 0, none⟩), .pointer (some ⟨b54, 0, none⟩)] 68 (0, 0))], G167] at S377
                      have S378 := S377.front 10 rfl
                      change St _ _ _ [[(b60, .cells #[.pointer (some ⟨b48, 0, none⟩), .pointer (some ⟨b54, 0, none⟩)] 68 (0, 0))], [(b54, .cells #[.slice A362 t337.2.2.L.length c363] 71 (0, 0))], [(b48, .cells #[.slice A95 l97.length c96] 71 (0, 0))], [(b42, .cells #[.pointer (some ⟨p11, 0, none⟩), .pointer (some ⟨p29, 0, none⟩)] 65 (0, 0))], [(p29, .cells #[.slice A351 t337.2.1.l.length c352] 108 (0, 0))], [(p11, .cells #[.slice A105 l107.length c106] 108 (0, 0))], G364, G98, G353, G108, [(b147, .cells #[.bool b157, .bool b158, .bool b159, .int .i64 x160, .int .i64 x161, .int .i64 x162, .int .i64 x163, .slice A164 l166.length c165, .string (bs s169)] 74 (0, 0))], G167] at S378
                      have S379 := St.keep (As := [[(b60, .cells #[.pointer (some ⟨b48, 0, none⟩), .pointer (some ⟨b54, 0, none⟩)] 68 (0, 0))], [(b54, .cells #[.slice A362 t337.2.2.L.length c363] 71 (0, 0))], [(b48, .cells #[.slice A95 l97.length c96] 71 (0, 0))], [(b42, .cells #[.pointer (some ⟨p11, 0, none⟩), .pointer (some ⟨p29, 0, none⟩)] 65 (0, 0))], [(p29, .cells #[.slice A351 t337.2.1.l.length c352] 108 (0, 0))], [(p11, .cells #[.slice A105 l107.length c106] 108 (0, 0))], G364, G98, G353, G108]) S378
                      refine WEx.again _ _ (by omega) ?_ ⟨w64 (x89 + 1), A362, c363, t337.2.2.L, G364, A95, c96, l97, G98, A351, c352, t337.2.1.l, G353, A105, c106, l107, G108, rfl, hF, hO365, hO99, hO354, hO109, S379⟩
                      exact ⟨rfl, rfl, rfl, rfl, trivial⟩
                    ·
                      refine WCode.cond_t (kb (b := !t337.1) rfl (show (!t337.1) = true from by rw [(Bool.eq_false_iff.2 h368)]; rfl)) ?_
                      refine WCode.seq ?_
                      refine WCode.region ?_
                      refine WOps.p (G.assign rfl) rfl ?_
                      refine WOps.nil ?_
                      refine WEx.then_ ?_
                      refine WCode.ret ?_
                      refine WEx.in_ret ?_
                      refine WEx.in_ret ?_
                      refine WEx.then_ret ?_
                      refine WEx.then_ret ?_
                      refine WEx.in_ret ?_
                      refine WEx.then_ret ?_
                      obtain rfl := some_eq hF
                      refine WEx.ret1 rfl rfl ?_
                      exact ⟨rfl, St.keep (As := []) S367⟩
                  ·
                    exact nomatch (show (none : Option Bool) = some r_ from hF)
              ·
                refine WCode.cond_f (kb (b := b242) rfl (Bool.eq_false_iff.2 h273)) ?_
                refine WCode.cutseq (fun l_ w_ => ∃ q383 : Nat, ∃ b380 : Bool, l_ = [(0, .slice A0 a0.length c0), (4, .slice (some ⟨b42, 0, none⟩) ([0, 0] : List Int).length 2), (5, .slice (some ⟨b60, 0, none⟩) ([0, 0] : List Int).length 2), (6, .int .i64 x89), (7, .pointer (some ⟨b147, 0, none⟩)), (8, .int .i64 x211), (109, .bool b380)] ∧ law_Plays.j5 q383 a0 x89 l92 l97 l102 l107 b157 b158 b159 x160 x161 x162 x163 l166 s169 x211 b380 = some r_ ∧ q383 ≤ k272 ∧ St w (KS []) w_ [[(b147, .cells #[.bool b157, .bool b158, .bool b159, .int .i64 x160, .int .i64 x161, .int .i64 x162, .int .i64 x163, .slice A164 l166.length c165, .string (bs s169)] 74 (0, 0))], [(b60, .cells #[.pointer (some ⟨b48, 0, none⟩), .pointer (some ⟨b54, 0, none⟩)] 68 (0, 0))], [(b54, .cells #[.slice A90 l92.length c91] 71 (0, 0))], [(b48, .cells #[.slice A95 l97.length c96] 71 (0, 0))], [(b42, .cells #[.pointer (some ⟨p11, 0, none⟩), .pointer (some ⟨p29, 0, none⟩)] 65 (0, 0))], [(p29, .cells #[.slice A100 l102.length c101] 108 (0, 0))], [(p11, .cells #[.slice A105 l107.length c106] 108 (0, 0))], G167, G93, G98, G103, G108]) ?_ ?_
                ·
                  refine WCode.seq ?_
                  refine WCode.region ?_
                  refine WOps.p (G.eql rfl rfl rfl) rfl ?_
                  refine WOps.p (G.assign rfl) rfl ?_
                  refine WOps.nil ?_
                  refine WEx.then_ ?_
                  rcases ite_some hF with ⟨h385, hF⟩ | ⟨h385, hF⟩
                  ·
                    refine WCode.cond_t (kb (b := decide (x160 = 2)) rfl (decide_eq_true h385)) ?_
                    refine WCode.skip ?_
                    have S386 := S244.front 11 rfl
                    change St _ _ _ [G108, [(b147, .cells #[.bool b157, .bool b158, .bool b159, .int .i64 x160, .int .i64 x161, .int .i64 x162, .int .i64 x163, .slice A164 l166.length c165, .string (bs s169)] 74 (0, 0))], [(b60, .cells #[.pointer (some ⟨b48, 0, none⟩), .pointer (some ⟨b54, 0, none⟩)] 68 (0, 0))], [(b54, .cells #[.slice A90 l92.length c91] 71 (0, 0))], [(b48, .cells #[.slice A95 l97.length c96] 71 (0, 0))], [(b42, .cells #[.pointer (some ⟨p11, 0, none⟩), .pointer (some ⟨p29, 0, none⟩)] 65 (0, 0))], [(p29, .cells #[.slice A100 l102.length c101] 108 (0, 0))], [(p11, .cells #[.slice A105 l107.length c106] 108 (0, 0))], G167, G93, G98, G103] at S386
                    have S387 := S386.front 11 rfl
                    change St _ _ _ [G103, G108, [(b147, .cells #[.bool b157, .bool b158, .bool b159, .int .i64 x160, .int .i64 x161, .int .i64 x162, .int .i64 x163, .slice A164 l166.length c165, .string (bs s169)] 74 (0, 0))], [(b60, .cells #[.pointer (some ⟨b48, 0, none⟩), .pointer (some ⟨b54, 0, none⟩)] 68 (0, 0))], [(b54, .cells #[.slice A90 l92.length c91] 71 (0, 0))], [(b48, .cells #[.slice A95 l97.length c96] 71 (0, 0))], [(b42, .cells #[.pointer (some ⟨p11, 0, none⟩), .pointer (some ⟨p29, 0, none⟩)] 65 (0, 0))], [(p29, .cells #[.slice A100 l102.length c101] 108 (0, 0))], [(p11, .cells #[.slice A105 l107.length c106] 108 (0, 0))], G167, G93, G98] at S387
                    have S388 := S387.front 11 rfl
                    change St _ _ _ [G98, G103, G108, [(b147, .cells #[.bool b157, .bool b158, .bool b159, .int .i64 x160, .int .i64 x161, .int .i64 x162, .int .i64 x163, .slice A164 l166.length c165, .string (bs s169)] 74 (0, 0))], [(b60, .cells #[.pointer (some ⟨b48, 0, none⟩), .pointer (some ⟨b54, 0, none⟩)] 68 (0, 0))], [(b54, .cells #[.slice A90 l92.length c91] 71 (0, 0))], [(b48, .cells #[.slice A95 l97.length c96] 71 (0, 0))], [(b42, .cells #[.pointer (some ⟨p11, 0, none⟩), .pointer (some ⟨p29, 0, none⟩)] 65 (0, 0))], [(p29, .cells #[.slice A100 l102.length c101] 108 (0, 0))], [(p11, .cells #[.slice A105 l107.length c106] 108 (0, 0))], G167, G93] at S388
                    have S389 := S388.front 11 rfl
                    change St _ _ _ [G93, G98, G103, G108, [(b147, .cells #[.bool b157, .bool b158, .bool b159, .int .i64 x160, .int .i64 x161, .int .i64 x162, .int .i64 x163, .slice A164 l166.length c165, .string (bs s169)] 74 (0, 0))], [(b60, .cells #[.pointer (some ⟨b48, 0, none⟩), .pointer (some ⟨b54, 0, none⟩)] 68 (0, 0))], [(b54, .cells #[.slice A90 l92.length c91] 71 (0, 0))], [(b48, .cells #[.slice A95 l97.length c96] 71 (0, 0))], [(b42, .cells #[.pointer (some ⟨p11, 0, none⟩), .pointer (some ⟨p29, 0, none⟩)] 65 (0, 0))], [(p29, .cells #[.slice A100 l102.length c101] 108 (0, 0))], [(p11, .cells #[.slice A105 l107.length c106] 108 (0, 0))], G167] at S389
                    have S390 := S389.front 11 rfl
                    change St _ _ _ [G167, G93, G98, G103, G108, [(b147, .cells #[.bool b157, .bool b158, .bool b159, .int .i64 x160, .int .i64 x161, .int .i64 x162, .int .i64 x163, .slice A164 l166.length c165, .string (bs s169)] 74 (0, 0))], [(b60, .cells #[.pointer (some ⟨b48, 0, none⟩), .pointer (some ⟨b54, 0, none⟩)] 68 (0, 0))], [(b54, .cells #[.slice A90 l92.length c91] 71 (0, 0))], [(b48, .cells #[.slice A95 l97.length c96] 71 (0, 0))], [(b42, .cells #[.pointer (some ⟨p11, 0, none⟩), .pointer (some ⟨p29, 0, none⟩)] 65 (0, 0))], [(p29, .cells #[.slice A100 l102.length c101] 108 (0, 0))], [(p11, .cells #[.slice A105 l107.length c106] 108 (0, 0))]] at S390
                    have S391 := S390.front 11 rfl
                    change St _ _ _ [[(p11, .cells #[.slice A105 l107.length c106] 108 (0, 0))], G167, G93, G98, G103, G108, [(b147, .cells #[.bool b157, .bool b158, .bool b159, .int .i64 x160, .int .i64 x161, .int .i64 x162, .int .i64 x163, .slice A164 l166.length c165, .string (bs s169)] 74 (0, 0))], [(b60, .cells #[.pointer (some ⟨b48, 0, none⟩), .pointer (some ⟨b54, 0, none⟩)] 68 (0, 0))], [(b54, .cells #[.slice A90 l92.length c91] 71 (0, 0))], [(b48, .cells #[.slice A95 l97.length c96] 71 (0, 0))], [(b42, .cells #[.pointer (some ⟨p11, 0, none⟩), .pointer (some ⟨p29, 0, none⟩)] 65 (0, 0))], [(p29, .cells #[.slice A100 l102.length c101] 108 (0, 0))]] at S391
                    have S392 := S391.front 11 rfl
                    change St _ _ _ [[(p29, .cells #[.slice A100 l102.length c101] 108 (0, 0))], [(p11, .cells #[.slice A105 l107.length c106] 108 (0, 0))], G167, G93, G98, G103, G108, [(b147, .cells #[.bool b157, .bool b158, .bool b159, .int .i64 x160, .int .i64 x161, .int .i64 x162, .int .i64 x163, .slice A164 l166.length c165, .string (bs s169)] 74 (0, 0))], [(b60, .cells #[.pointer (some ⟨b48, 0, none⟩), .pointer (some ⟨b54, 0, none⟩)] 68 (0, 0))], [(b54, .cells #[.slice A90 l92.length c91] 71 (0, 0))], [(b48, .cells #[.slice A95 l97.length c96] 71 (0, 0))], [(b42, .cells #[.pointer (some ⟨p11, 0, none⟩), .pointer (some ⟨p29, 0, none⟩)] 65 (0, 0))]] at S392
                    have S393 := S392.front 11 rfl
                    change St _ _ _ [[(b42, .cells #[.pointer (some ⟨p11, 0, none⟩), .pointer (some ⟨p29, 0, none⟩)] 65 (0, 0))], [(p29, .cells #[.slice A100 l102.length c101] 108 (0, 0))], [(p11, .cells #[.slice A105 l107.length c106] 108 (0, 0))], G167, G93, G98, G103, G108, [(b147, .cells #[.bool b157, .bool b158, .bool b159, .int .i64 x160, .int .i64 x161, .int .i64 x162, .int .i64 x163, .slice A164 l166.length c165, .string (bs s169)] 74 (0, 0))], [(b60, .cells #[.pointer (some ⟨b48, 0, none⟩), .pointer (some ⟨b54, 0, none⟩)] 68 (0, 0))], [(b54, .cells #[.slice A90 l92.length c91] 71 (0, 0))], [(b48, .cells #[.slice A95 l97.length c96] 71 (0, 0))]] at S393
                    have S394 := S393.front 11 rfl
                    change St _ _ _ [[(b48, .cells #[.slice A95 l97.length c96] 71 (0, 0))], [(b42, .cells #[.pointer (some ⟨p11, 0, none⟩), .pointer (some ⟨p29, 0, none⟩)] 65 (0, 0))], [(p29, .cells #[.slice A100 l102.length c101] 108 (0, 0))], [(p11, .cells #[.slice A105 l107.length c106] 108 (0, 0))], G167, G93, G98, G103, G108, [(b147, .cells #[.bool b157, .bool b158, .bool b159, .int .i64 x160, .int .i64 x161, .int .i64 x162, .int .i64 x163, .slice A164 l166.length c165, .string (bs s169)] 74 (0, 0))], [(b60, .cells #[.pointer (some ⟨b48, 0, none⟩), .pointer (some ⟨b54, 0, none⟩)] 68 (0, 0))], [(b54, .cells #[.slice A90 l92.length c91] 71 (0, 0))]] at S394
                    have S395 := S394.front 11 rfl
                    change St _ _ _ [[(b54, .cells #[.slice A90 l92.length c91] 71 (0, 0))], [(b48, .cells #[.slice A95 l97.length c96] 71 (0, 0))], [(b42, .cells #[.pointer (some ⟨p11, 0, none⟩), .pointer (some ⟨p29, 0, none⟩)] 65 (0, 0))], [(p29, .cells #[.slice A100 l102.length c101] 108 (0, 0))], [(p11, .cells #[.slice A105 l107.length c106] 108 (0, 0))], G167, G93, G98, G103, G108, [(b147, .cells #[.bool b157, .bool b158, .bool b159, .int .i64 x160, .int .i64 x161, .int .i64 x162, .int .i64 x163, .slice A164 l166.length c165, .string (bs s169)] 74 (0, 0))], [(b60, .cells #[.pointer (some ⟨b48, 0, none⟩), .pointer (some ⟨b54, 0, none⟩)] 68 (0, 0))]] at S395
                    have S396 := S395.front 11 rfl
                    change St _ _ _ [[(b60, .cells #[.pointer (some ⟨b48, 0, none⟩), .pointer (some ⟨b54, 0, none⟩)] 68 (0, 0))], [(b54, .cells #[.slice A90 l92.length c91] 71 (0, 0))], [(b48, .cells #[.slice A95 l97.length c96] 71 (0, 0))], [(b42, .cells #[.pointer (some ⟨p11, 0, none⟩), .pointer (some ⟨p29, 0, none⟩)] 65 (0, 0))], [(p29, .cells #[.slice A100 l102.length c101] 108 (0, 0))], [(p11, .cells #[.slice A105 l107.length c106] 108 (0, 0))], G167, G93, G98, G103, G108, [(b147, .cells #[.bool b157, .bool b158, .bool b159, .int .i64 x160, .int .i64 x161, .int .i64 x162, .int .i64 x163, .slice A164 l166.length c165, .string (bs s169)] 74 (0, 0))]] at S396
                    have S397 := S396.front 11 rfl
                    change St _ _ _ [[(b147, .cells #[.bool b157, .bool b158, .bool b159, .int .i64 x160, .int .i64 x161, .int .i64 x162, .int .i64 x163, .slice A164 l166.length c165, .string (bs s169)] 74 (0, 0))], [(b60, .cells #[.pointer (some ⟨b48, 0, none⟩), .pointer (some ⟨b54, 0, none⟩)] 68 (0, 0))], [(b54, .cells #[.slice A90 l92.length c91] 71 (0, 0))], [(b48, .cells #[.slice A95 l97.length c96] 71 (0, 0))], [(b42, .cells #[.pointer (some ⟨p11, 0, none⟩), .pointer (some ⟨p29, 0, none⟩)] 65 (0, 0))], [(p29, .cells #[.slice A100 l102.length c101] 108 (0, 0))], [(p11, .cells #[.slice A105 l107.length c106] 108 (0, 0))], G167, G93, G98, G103, G108] at S397
                    refine WEx.cutend _ ?_ ⟨k272, decide (x160 = 2), rfl, hF, (by omega), S397⟩
                    exact ⟨rfl, rfl, rfl, rfl, rfl, rfl, rfl, trivial⟩
                  ·
                    refine WCode.cond_f (kb (b := decide (x160 = 2)) rfl (decide_eq_false h385)) ?_
                    refine WCode.region ?_
                    refine WOps.p (G.eql rfl rfl rfl) rfl ?_
                    refine WOps.p (G.assign rfl) rfl ?_
                    refine WOps.nil ?_
                    have S398 := S244.front 11 rfl
                    change St _ _ _ [G108, [(b147, .cells #[.bool b157, .bool b158, .bool b159, .int .i64 x160, .int .i64 x161, .int .i64 x162, .int .i64 x163, .slice A164 l166.length c165, .string (bs s169)] 74 (0, 0))], [(b60, .cells #[.pointer (some ⟨b48, 0, none⟩), .pointer (some ⟨b54, 0, none⟩)] 68 (0, 0))], [(b54, .cells #[.slice A90 l92.length c91] 71 (0, 0))], [(b48, .cells #[.slice A95 l97.length c96] 71 (0, 0))], [(b42, .cells #[.pointer (some ⟨p11, 0, none⟩), .pointer (some ⟨p29, 0, none⟩)] 65 (0, 0))], [(p29, .cells #[.slice A100 l102.length c101] 108 (0, 0))], [(p11, .cells #[.slice A105 l107.length c106] 108 (0, 0))], G167, G93, G98, G103] at S398
                    have S399 := S398.front 11 rfl
                    change St _ _ _ [G103, G108, [(b147, .cells #[.bool b157, .bool b158, .bool b159, .int .i64 x160, .int .i64 x161, .int .i64 x162, .int .i64 x163, .slice A164 l166.length c165, .string (bs s169)] 74 (0, 0))], [(b60, .cells #[.pointer (some ⟨b48, 0, none⟩), .pointer (some ⟨b54, 0, none⟩)] 68 (0, 0))], [(b54, .cells #[.slice A90 l92.length c91] 71 (0, 0))], [(b48, .cells #[.slice A95 l97.length c96] 71 (0, 0))], [(b42, .cells #[.pointer (some ⟨p11, 0, none⟩), .pointer (some ⟨p29, 0, none⟩)] 65 (0, 0))], [(p29, .cells #[.slice A100 l102.length c101] 108 (0, 0))], [(p11, .cells #[.slice A105 l107.length c106] 108 (0, 0))], G167, G93, G98] at S399
                    have S400 := S399.front 11 rfl
                    change St _ _ _ [G98, G103, G108, [(b147, .cells #[.bool b157, .bool b158, .bool b159, .int .i64 x160, .int .i64 x161, .int .i64 x162, .int .i64 x163, .slice A164 l166.length c165, .string (bs s169)] 74 (0, 0))], [(b60, .cells #[.pointer (some ⟨b48, 0, none⟩), .pointer (some ⟨b54, 0, none⟩)] 68 (0, 0))], [(b54, .cells #[.slice A90 l92.length c91] 71 (0, 0))], [(b48, .cells #[.slice A95 l97.length c96] 71 (0, 0))], [(b42, .cells #[.pointer (some ⟨p11, 0, none⟩), .pointer (some ⟨p29, 0, none⟩)] 65 (0, 0))], [(p29, .cells #[.slice A100 l102.length c101] 108 (0, 0))], [(p11, .cells #[.slice A105 l107.length c106] 108 (0, 0))], G167, G93] at S400
                    have S401 := S400.front 11 rfl
                    change St _ _ _ [G93, G98, G103, G108, [(b147, .cells #[.bool b157, .bool b158, .bool b159, .int .i64 x160, .int .i64 x161, .int .i64 x162, .int .i64 x163, .slice A164 l166.length c165, .string (bs s169)] 74 (0, 0))], [(b60, .cells #[.pointer (some ⟨b48, 0, none⟩), .pointer (some ⟨b54, 0, none⟩)] 68 (0, 0))], [(b54, .cells #[.slice A90 l92.length c91] 71 (0, 0))], [(b48, .cells #[.slice A95 l97.length c96] 71 (0, 0))], [(b42, .cells #[.pointer (some ⟨p11, 0, none⟩), .pointer (some ⟨p29, 0, none⟩)] 65 (0, 0))], [(p29, .cells #[.slice A100 l102.length c101] 108 (0, 0))], [(p11, .cells #[.slice A105 l107.length c106] 108 (0, 0))], G167] at S401
                    have S402 := S401.front 11 rfl
                    change St _ _ _ [G167, G93, G98, G103, G108, [(b147, .cells #[.bool b157, .bool b158, .bool b159, .int .i64 x160, .int .i64 x161, .int .i64 x162, .int .i64 x163, .slice A164 l166.length c165, .string (bs s169)] 74 (0, 0))], [(b60, .cells #[.pointer (some ⟨b48, 0, none⟩), .pointer (some ⟨b54, 0, none⟩)] 68 (0, 0))], [(b54, .cells #[.slice A90 l92.length c91] 71 (0, 0))], [(b48, .cells #[.slice A95 l97.length c96] 71 (0, 0))], [(b42, .cells #[.pointer (some ⟨p11, 0, none⟩), .pointer (some ⟨p29, 0, none⟩)] 65 (0, 0))], [(p29, .cells #[.slice A100 l102.length c101] 108 (0, 0))], [(p11, .cells #[.slice A105 l107.length c106] 108 (0, 0))]] at S402
                    have S403 := S402.front 11 rfl
                    change St _ _ _ [[(p11, .cells #[.slice A105 l107.length c106] 108 (0, 0))], G167, G93, G98, G103, G108, [(b147, .cells #[.bool b157, .bool b158, .bool b159, .int .i64 x160, .int .i64 x161, .int .i64 x162, .int .i64 x163, .slice A164 l166.length c165, .string (bs s169)] 74 (0, 0))], [(b60, .cells #[.pointer (some ⟨b48, 0, none⟩), .pointer (some ⟨b54, 0, none⟩)] 68 (0, 0))], [(b54, .cells #[.slice A90 l92.length c91] 71 (0, 0))], [(b48, .cells #[.slice A95 l97.length c96] 71 (0, 0))], [(b42, .cells #[.pointer (some ⟨p11, 0, none⟩), .pointer (some ⟨p29, 0, none⟩)] 65 (0, 0))], [(p29, .cells #[.slice A100 l102.length c101] 108 (0, 0))]] at S403
                    have S404 := S403.front 11 rfl
                    change St _ _ _ [[(p29, .cells #[.slice A100 l102.length c101] 108 (0, 0))], [(p11, .cells #[.slice A105 l107.length c106] 108 (0, 0))], G167, G93, G98, G103, G108, [(b147, .cells #[.bool b157, .bool b158, .bool b159, .int .i64 x160, .int .i64 x161, .int .i64 x162, .int .i64 x163, .slice A164 l166.length c165, .string (bs s169)] 74 (0, 0))], [(b60, .cells #[.pointer (some ⟨b48, 0, none⟩), .pointer (some ⟨b54, 0, none⟩)] 68 (0, 0))], [(b54, .cells #[.slice A90 l92.length c91] 71 (0, 0))], [(b48, .cells #[.slice A95 l97.length c96] 71 (0, 0))], [(b42, .cells #[.pointer (some ⟨p11, 0, none⟩), .pointer (some ⟨p29, 0, none⟩)] 65 (0, 0))]] at S404
                    have S405 := S404.front 11 rfl
                    change St _ _ _ [[(b42, .cells #[.pointer (some ⟨p11, 0, none⟩), .pointer (some ⟨p29, 0, none⟩)] 65 (0, 0))], [(p29, .cells #[.slice A100 l102.length c101] 108 (0, 0))], [(p11, .cells #[.slice A105 l107.length c106] 108 (0, 0))], G167, G93, G98, G103, G108, [(b147, .cells #[.bool b157, .bool b158, .bool b159, .int .i64 x160, .int .i64 x161, .int .i64 x162, .int .i64 x163, .slice A164 l166.length c165, .string (bs s169)] 74 (0, 0))], [(b60, .cells #[.pointer (some ⟨b48, 0, none⟩), .pointer (some ⟨b54, 0, none⟩)] 68 (0, 0))], [(b54, .cells #[.slice A90 l92.length c91] 71 (0, 0))], [(b48, .cells #[.slice A95 l97.length c96] 71 (0, 0))]] at S405
                    have S406 := S405.front 11 rfl
                    change St _ _ _ [[(b48, .cells #[.slice A95 l97.length c96] 71 (0, 0))], [(b42, .cells #[.pointer (some ⟨p11, 0, none⟩), .pointer (some ⟨p29, 0, none⟩)] 65 (0, 0))], [(p29, .cells #[.slice A100 l102.length c101] 108 (0, 0))], [(p11, .cells #[.slice A105 l107.length c106] 108 (0, 0))], G167, G93, G98, G103, G108, [(b147, .cells #[.bool b157, .bool b158, .bool b159, .int .i64 x160, .int .i64 x161, .int .i64 x162, .int .i64 x163, .slice A164 l166.length c165, .string (bs s169)] 74 (0, 0))], [(b60, .cells #[.pointer (some ⟨b48, 0, none⟩), .pointer (some ⟨b54, 0, none⟩)] 68 (0, 0))], [(b54, .cells #[.slice A90 l92.length c91] 71 (0, 0))]] at S406
                    have S407 := S406.front 11 rfl
                    change St _ _ _ [[(b54, .cells #[.slice A90 l92.length c91] 71 (0, 0))], [(b48, .cells #[.slice A95 l97.length c96] 71 (0, 0))], [(b42, .cells #[.pointer (some ⟨p11, 0, none⟩), .pointer (some ⟨p29, 0, none⟩)] 65 (0, 0))], [(p29, .cells #[.slice A100 l102.length c101] 108 (0, 0))], [(p11, .cells #[.slice A105 l107.length c106] 108 (0, 0))], G167, G93, G98, G103, G108, [(b147, .cells #[.bool b157, .bool b158, .bool b159, .int .i64 x160, .int .i64 x161, .int .i64 x162, .int .i64 x163, .slice A164 l166.length c165, .string (bs s169)] 74 (0, 0))], [(b60, .cells #[.pointer (some ⟨b48, 0, none⟩), .pointer (some ⟨b54, 0, none⟩)] 68 (0, 0))]] at S407
                    have S408 := S407.front 11 rfl
                    change St _ _ _ [[(b60, .cells #[.pointer (some ⟨b48, 0, none⟩), .pointer (some ⟨b54, 0, none⟩)] 68 (0, 0))], [(b54, .cells #[.slice A90 l92.length c91] 71 (0, 0))], [(b48, .cells #[.slice A95 l97.length c96] 71 (0, 0))], [(b42, .cells #[.pointer (some ⟨p11, 0, none⟩), .pointer (some ⟨p29, 0, none⟩)] 65 (0, 0))], [(p29, .cells #[.slice A100 l102.length c101] 108 (0, 0))], [(p11, .cells #[.slice A105 l107.length c106] 108 (0, 0))], G167, G93, G98, G103, G108, [(b147, .cells #[.bool b157, .bool b158, .bool b159, .int .i64 x160, .int .i64 x161, .int .i64 x162, .int .i64 x163, .slice A164 l166.length c165, .string (bs s169)] 74 (0, 0))]] at S408
                    have S409 := S408.front 11 rfl
                    change St _ _ _ [[(b147, .cells #[.bool b157, .bool b158, .bool b159, .int .i64 x160, .int .i64 x161, .int .i64 x162, .int .i64 x163, .slice A164 l166.length c165, .string (bs s169)] 74 (0, 0))], [(b60, .cells #[.pointer (some ⟨b48, 0, none⟩), .pointer (some ⟨b54, 0, none⟩)] 68 (0, 0))], [(b54, .cells #[.slice A90 l92.length c91] 71 (0, 0))], [(b48, .cells #[.slice A95 l97.length c96] 71 (0, 0))], [(b42, .cells #[.pointer (some ⟨p11, 0, none⟩), .pointer (some ⟨p29, 0, none⟩)] 65 (0, 0))], [(p29, .cells #[.slice A100 l102.length c101] 108 (0, 0))], [(p11, .cells #[.slice A105 l107.length c106] 108 (0, 0))], G167, G93, G98, G103, G108] at S409
                    refine WEx.cutend _ ?_ ⟨k272, decide (x160 = 3), rfl, hF, (by omega), S409⟩
                    exact ⟨rfl, rfl, rfl, rfl, rfl, rfl, rfl, trivial⟩
                ·
                  rintro _ w381 ⟨q383, b380, rfl, hF, hq384, S382⟩
                  obtain _ | k410 := q383
                  · exact nomatch (show (none : Option Bool) = some r_ from hF)
                  rw [law_Plays.j5] at hF
                  rcases ite_some hF with ⟨h411, hF⟩ | ⟨h411, hF⟩
                  ·
                    refine WCode.cond_t (kb (b := b380) rfl h411) ?_
                    refine WCode.seq ?_
                    refine WCode.draw [⟨0, 0, []⟩, ⟨1, 0, []⟩, ⟨2, 0, []⟩, ⟨4, 0, []⟩, ⟨6, 0, []⟩, ⟨8, 0, []⟩, ⟨3, 1, [10, 11, 12, 13, 14, 15, 16, 17]⟩, ⟨5, 1, [10, 11, 12, 13, 14, 15, 16, 17]⟩, ⟨7, 1, [10, 11, 12, 13, 14, 15, 16, 17]⟩, ⟨9, 1, [10, 11, 12, 13, 14, 15, 16, 17]⟩, ⟨10, 2, []⟩, ⟨11, 0, []⟩, ⟨12, 0, []⟩, ⟨13, 0, []⟩, ⟨14, 0, []⟩, ⟨15, 0, []⟩, ⟨16, 0, []⟩, ⟨17, 0, []⟩] T.mixed (by kernel_rfl) (by intro _ _ d _ _ h; cases d <;> exact h) rfl (by kernel_rfl) ?_
                    have S412 := S382.drew
                    generalize w381.drew = w413 at *
                    refine WD.p rfl (G.move rfl) rfl ?_
                    refine WD.p rfl (G.move rfl) rfl ?_
                    rcases ite_some hF with ⟨h414, hF⟩ | ⟨h414, hF⟩
                    ·
                      refine WD.p rfl (G.idx (o := 0) (j := 0) T.el67 rfl rfl rfl (show x211 = ((0 : Nat) : Int) from h414) (by decide) : GP _ _ _ _ (.pointer (some ⟨b42, 0, none⟩))) rfl ?_
                      refine WD.p rfl (G.field T.fld74_4 rfl (show 0 + 4 = 4 from rfl)) rfl ?_
                      refine WD.p rfl (G.field T.fld74_5 rfl (show 0 + 5 = 5 from rfl)) rfl ?_
                      refine WD.p rfl (G.field T.fld74_6 rfl (show 0 + 6 = 6 from rfl)) rfl ?_
                      refine WD.r rfl (G.load1 T.one65 rfl (cell_blk (S412.blk 4 rfl) rfl)) rfl ?_
                      refine WD.r rfl (G.load1 T.one3 rfl (cell_blk (S412.blk 0 rfl) rfl)) rfl ?_
                      refine WD.r rfl (G.load1 T.one3 rfl (cell_blk (S412.blk 0 rfl) rfl)) rfl ?_
                      refine WD.r rfl (G.load1 T.one3 rfl (cell_blk (S412.blk 0 rfl) rfl)) rfl ?_
                      obtain ⟨t415, hc416, hF⟩ := bind_some hF
                      have S417 := S412.front 11 rfl
                      change St _ _ _ [G108, [(b147, .cells #[.bool b157, .bool b158, .bool b159, .int .i64 x160, .int .i64 x161, .int .i64 x162, .int .i64 x163, .slice A164 l166.length c165, .string (bs s169)] 74 (0, 0))], [(b60, .cells #[.pointer (some ⟨b48, 0, none⟩), .pointer (some ⟨b54, 0, none⟩)] 68 (0, 0))], [(b54, .cells #[.slice A90 l92.length c91] 71 (0, 0))], [(b48, .cells #[.slice A95 l97.length c96] 71 (0, 0))], [(b42, .cells #[.pointer (some ⟨p11, 0, none⟩), .pointer (some ⟨p29, 0, none⟩)] 65 (0, 0))], [(p29, .cells #[.slice A100 l102.length c101] 108 (0, 0))], [(p11, .cells #[.slice A105 l107.length c106] 108 (0, 0))], G167, G93, G98, G103] at S417
                      have S418 := S417.front 7 rfl
                      change St _ _ _ [[(p11, .cells #[.slice A105 l107.length c106] 108 (0, 0))], G108, [(b147, .cells #[.bool b157, .bool b158, .bool b159, .int .i64 x160, .int .i64 x161, .int .i64 x162, .int .i64 x163, .slice A164 l166.length c165, .string (bs s169)] 74 (0, 0))], [(b60, .cells #[.pointer (some ⟨b48, 0, none⟩), .pointer (some ⟨b54, 0, none⟩)] 68 (0, 0))], [(b54, .cells #[.slice A90 l92.length c91] 71 (0, 0))], [(b48, .cells #[.slice A95 l97.length c96] 71 (0, 0))], [(b42, .cells #[.pointer (some ⟨p11, 0, none⟩), .pointer (some ⟨p29, 0, none⟩)] 65 (0, 0))], [(p29, .cells #[.slice A100 l102.length c101] 108 (0, 0))], G167, G93, G98, G103] at S418
                      have hP419 : PtR 108 Registry.rp w413 (KS [[(p11, .cells #[.slice A105 l107.length c106] 108 (0, 0))], G108]) p11 (⟨l107⟩ : Registry) := ⟨_, S418.blk 0 rfl, KS_at 0 rfl (by simp [keys]), ⟨A105, c106, rfl, ((hO109.rd (fun b o hb => S418.grp 1 rfl hb)).mono (fun b hb => KS_at 1 rfl hb))⟩⟩
                      refine WD.call rfl T.call29 (evs_cons rfl (evs_cons rfl (evs_cons rfl (evs_cons rfl evs_nil)))) rfl ?_
                      refine (sv_Find_calls k410 (⟨l107⟩ : Registry) x161 x162 x163 hP419 (St.outN (Bs := []) (As := [[(p11, .cells #[.slice A105 l107.length c106] 108 (0, 0))], G108]) S418) hc416).mono ?_
                      rintro _ w420 ⟨rfl, T421⟩
                      have S422 := St.callN (As := []) S418 T421
                      change St _ _ _ [[(p11, .cells #[.slice A105 l107.length c106] 108 (0, 0))], G108, [(b147, .cells #[.bool b157, .bool b158, .bool b159, .int .i64 x160, .int .i64 x161, .int .i64 x162, .int .i64 x163, .slice A164 l166.length c165, .string (bs s169)] 74 (0, 0))], [(b60, .cells #[.pointer (some ⟨b48, 0, none⟩), .pointer (some ⟨b54, 0, none⟩)] 68 (0, 0))], [(b54, .cells #[.slice A90 l92.length c91] 71 (0, 0))], [(b48, .cells #[.slice A95 l97.length c96] 71 (0, 0))], [(b42, .cells #[.pointer (some ⟨p11, 0, none⟩), .pointer (some ⟨p29, 0, none⟩)] 65 (0, 0))], [(p29, .cells #[.slice A100 l102.length c101] 108 (0, 0))], G167, G93, G98, G103] at S422
                      refine ⟨_, rfl, ?_⟩
                      refine WD.p rfl (G.move rfl) rfl ?_
                      refine WD.p rfl (G.extract rfl rfl) rfl ?_
                      refine WD.p rfl (G.extract rfl rfl) rfl ?_
                      refine WD.p rfl (G.extract rfl rfl) rfl ?_
                      refine WD.p rfl (G.assign rfl) rfl ?_
                      refine WD.p rfl (G.assign rfl) rfl ?_
                      refine WD.p rfl (G.assign rfl) rfl ?_
                      refine WD.nil ?_
                      refine WEx.then_ ?_
                      refine WCode.forget (l' := [(0, .slice A0 a0.length c0), (4, .slice (some ⟨b42, 0, none⟩) ([0, 0] : List Int).length 2), (5, .slice (some ⟨b60, 0, none⟩) ([0, 0] : List Int).length 2), (6, .int .i64 x89), (7, .pointer (some ⟨b147, 0, none⟩)), (8, .int .i64 x211), (10, .int .i64 t415.1), (11, .int .i64 t415.2.1), (12, .int .i64 t415.2.2)]) ⟨rfl, rfl, rfl, rfl, rfl, rfl, rfl, rfl, rfl, trivial⟩ ?_
                      refine WCode.seq ?_
                      refine WCode.draw [⟨0, 0, []⟩, ⟨1, 0, []⟩, ⟨2, 0, []⟩, ⟨4, 0, []⟩, ⟨6, 0, []⟩, ⟨8, 0, []⟩, ⟨3, 1, [10, 11, 12, 13, 14, 15, 16, 17]⟩, ⟨5, 1, [10, 11, 12, 13, 14, 15, 16, 17]⟩, ⟨7, 1, [10, 11, 12, 13, 14, 15, 16, 17]⟩, ⟨9, 1, [10, 11, 12, 13, 14, 15, 16, 17]⟩, ⟨10, 2, []⟩, ⟨11, 0, []⟩, ⟨12, 0, []⟩, ⟨13, 0, []⟩, ⟨14, 0, []⟩, ⟨15, 0, []⟩, ⟨16, 0, []⟩, ⟨17, 0, []⟩] T.mixed (by kernel_rfl) (by intro _ _ d _ _ h; cases d <;> exact h) rfl (by kernel_rfl) ?_
                      have S423 := S422.drew
                      generalize w420.drew = w424 at *
                      refine WD.p rfl (G.move rfl) rfl ?_
                      refine WD.p rfl (G.move rfl) rfl ?_
                      refine WD.p rfl (G.idx (o := 0) (j := 0) T.el72 rfl rfl rfl (show x211 = ((0 : Nat) : Int) from h414) (by decide) : GP _ _ _ _ (.pointer (some ⟨b60, 0, none⟩))) rfl ?_
                      refine WD.p rfl (G.field T.fld74_4 rfl (show 0 + 4 = 4 from rfl)) rfl ?_
                      refine WD.p rfl (G.field T.fld74_5 rfl (show 0 + 5 = 5 from rfl)) rfl ?_
                      refine WD.p rfl (G.field T.fld74_6 rfl (show 0 + 6 = 6 from rfl)) rfl ?_
                      refine WD.r rfl (G.load1 T.one68 rfl (cell_blk (S423.blk 3 rfl) rfl)) rfl ?_
                      refine WD.r rfl (G.load1 T.one3 rfl (cell_blk (S423.blk 2 rfl) rfl)) rfl ?_
                      refine WD.r rfl (G.load1 T.one3 rfl (cell_blk (S423.blk 2 rfl) rfl)) rfl ?_
                      refine WD.r rfl (G.load1 T.one3 rfl (cell_blk (S423.blk 2 rfl) rfl)) rfl ?_
                      obtain ⟨t425, hc426, hF⟩ := bind_some hF
                      have S427 := S423.front 10 rfl
                      change St _ _ _ [G98, [(p11, .cells #[.slice A105 l107.length c106] 108 (0, 0))], G108, [(b147, .cells #[.bool b157, .bool b158, .bool b159, .int .i64 x160, .int .i64 x161, .int .i64 x162, .int .i64 x163, .slice A164 l166.length c165, .string (bs s169)] 74 (0, 0))], [(b60, .cells #[.pointer (some ⟨b48, 0, none⟩), .pointer (some ⟨b54, 0, none⟩)] 68 (0, 0))], [(b54, .cells #[.slice A90 l92.length c91] 71 (0, 0))], [(b48, .cells #[.slice A95 l97.length c96] 71 (0, 0))], [(b42, .cells #[.pointer (some ⟨p11, 0, none⟩), .pointer (some ⟨p29, 0, none⟩)] 65 (0, 0))], [(p29, .cells #[.slice A100 l102.length c101] 108 (0, 0))], G167, G93, G103] at S427
                      have S428 := S427.front 6 rfl
                      change St _ _ _ [[(b48, .cells #[.slice A95 l97.length c96] 71 (0, 0))], G98, [(p11, .cells #[.slice A105 l107.length c106] 108 (0, 0))], G108, [(b147, .cells #[.bool b157, .bool b158, .bool b159, .int .i64 x160, .int .i64 x161, .int .i64 x162, .int .i64 x163, .slice A164 l166.length c165, .string (bs s169)] 74 (0, 0))], [(b60, .cells #[.pointer (some ⟨b48, 0, none⟩), .pointer (some ⟨b54, 0, none⟩)] 68 (0, 0))], [(b54, .cells #[.slice A90 l92.length c91] 71 (0, 0))], [(b42, .cells #[.pointer (some ⟨p11, 0, none⟩), .pointer (some ⟨p29, 0, none⟩)] 65 (0, 0))], [(p29, .cells #[.slice A100 l102.length c101] 108 (0, 0))], G167, G93, G103] at S428
                      have hP429 : PtR 71 Registry71.rp w424 (KS [[(b48, .cells #[.slice A95 l97.length c96] 71 (0, 0))], G98]) b48 (⟨l97⟩ : Registry71) := ⟨_, S428.blk 0 rfl, KS_at 0 rfl (by simp [keys]), ⟨A95, c96, rfl, ((hO99.rd (fun b o hb => S428.grp 1 rfl hb)).mono (fun b hb => KS_at 1 rfl hb))⟩⟩
                      refine WD.call rfl T.call30 (evs_cons rfl (evs_cons rfl (evs_cons rfl (evs_cons rfl evs_nil)))) rfl ?_
                      refine (rv_Find_calls k410 (⟨l97⟩ : Registry71) x161 x162 x163 hP429 (St.outN (Bs := []) (As := [[(b48, .cells #[.slice A95 l97.length c96] 71 (0, 0))], G98]) S428) hc426).mono ?_
                      rintro _ w430 ⟨rfl, T431⟩
                      have S432 := St.callN (As := []) S428 T431
                      change St _ _ _ [[(b48, .cells #[.slice A95 l97.length c96] 71 (0, 0))], G98, [(p11, .cells #[.slice A105 l107.length c106] 108 (0, 0))], G108, [(b147, .cells #[.bool b157, .bool b158, .bool b159, .int .i64 x160, .int .i64 x161, .int .i64 x162, .int .i64 x163, .slice A164 l166.length c165, .string (bs s169)] 74 (0, 0))], [(b60, .cells #[.pointer (some ⟨b48, 0, none⟩), .pointer (some ⟨b54, 0, none⟩)] 68 (0, 0))], [(b54, .cells #[.slice A90 l92.length c91] 71 (0, 0))], [(b42, .cells #[.pointer (some ⟨p11, 0, none⟩), .pointer (some ⟨p29, 0, none⟩)] 65 (0, 0))], [(p29, .cells #[.slice A100 l102.length c101] 108 (0, 0))], G167, G93, G103] at S432
                      refine ⟨_, rfl, ?_⟩
                      refine WD.p rfl (G.move rfl) rfl ?_
                      refine WD.p rfl (G.extract rfl rfl) rfl ?_
                      refine WD.p rfl (G.extract rfl rfl) rfl ?_
                      refine WD.p rfl (G.extract rfl rfl) rfl ?_
                      refine WD.p rfl (G.assign rfl) rfl ?_
                      refine WD.p rfl (G.assign rfl) rfl ?_
                      refine WD.p rfl (G.assign rfl) rfl ?_
                      refine WD.nil ?_
                      refine WEx.then_ ?_
                      refine WCode.forget (l' := [(0, .slice A0 a0.length c0), (4, .slice (some ⟨b42, 0, none⟩) ([0, 0] : List Int).length 2), (5, .slice (some ⟨b60, 0, none⟩) ([0, 0] : List Int).length 2), (6, .int .i64 x89), (10, .int .i64 t415.1), (11, .int .i64 t415.2.1), (12, .int .i64 t415.2.2), (13, .int .i64 t425.1), (14, .int .i64 t425.2.1), (15, .int .i64 t425.2.2)]) ⟨rfl, rfl, rfl, rfl, rfl, rfl, rfl, rfl, rfl, rfl, trivial⟩ ?_
                      refine WCode.seq ?_
                      refine WCode.region ?_
                      refine WOps.p (G.move rfl) rfl ?_
                      refine WOps.p (G.move rfl) rfl ?_
                      refine WOps.p (G.neq rfl rfl rfl) rfl ?_
                      refine WOps.p (G.move rfl) rfl ?_
                      rcases ite_some hF with ⟨h433, hF⟩ | ⟨h433, hF⟩
                      ·
                        refine WOps.on rfl (kbl (b := !(decide (t415.1 = t425.1))) rfl (show (!(decide (t415.1 = t425.1))) = false from by rw [(decide_eq_true h433)]; rfl)) ?_
                        refine WOps.p (G.move rfl) rfl ?_
                        refine WOps.on rfl (kbl (b := !(decide (t415.1 = t425.1))) rfl (show (!(decide (t415.1 = t425.1))) = false from by rw [(decide_eq_true h433)]; rfl)) ?_
                        refine WOps.p (G.move rfl) rfl ?_
                        refine WOps.on rfl (kbl (b := !(decide (t415.1 = t425.1))) rfl (show (!(decide (t415.1 = t425.1))) = false from by rw [(decide_eq_true h433)]; rfl)) ?_
                        refine WOps.p (G.neq rfl rfl rfl) rfl ?_
                        refine WOps.p (G.pick_f (kb (b := !(decide (t415.1 = t425.1))) rfl (show (!(decide (t415.1 = t425.1))) = false from by rw [(decide_eq_true h433)]; rfl)) rfl) rfl ?_
                        refine WOps.p (G.move rfl) rfl ?_
                        rcases ite_some hF with ⟨h434, hF⟩ | ⟨h434, hF⟩
                        ·
                          refine WOps.on rfl (kbl (b := !(decide (t415.2.1 = t425.2.1))) rfl (show (!(decide (t415.2.1 = t425.2.1))) = false from by rw [(decide_eq_true h434)]; rfl)) ?_
                          refine WOps.p (G.move rfl) rfl ?_
                          refine WOps.on rfl (kbl (b := !(decide (t415.2.1 = t425.2.1))) rfl (show (!(decide (t415.2.1 = t425.2.1))) = false from by rw [(decide_eq_true h434)]; rfl)) ?_
                          refine WOps.p (G.move rfl) rfl ?_
                          refine WOps.on rfl (kbl (b := !(decide (t415.2.1 = t425.2.1))) rfl (show (!(decide (t415.2.1 = t425.2.1))) = false from by rw [(decide_eq_true h434)]; rfl)) ?_
                          refine WOps.p (G.neq rfl rfl rfl) rfl ?_
                          refine WOps.p (G.pick_f (kb (b := !(decide (t415.2.1 = t425.2.1))) rfl (show (!(decide (t415.2.1 = t425.2.1))) = false from by rw [(decide_eq_true h434)]; rfl)) rfl) rfl ?_
                          refine WOps.nil ?_
                          refine WEx.then_ ?_
                          refine WCode.forget (l' := [(0, .slice A0 a0.length c0), (4, .slice (some ⟨b42, 0, none⟩) ([0, 0] : List Int).length 2), (5, .slice (some ⟨b60, 0, none⟩) ([0, 0] : List Int).length 2), (6, .int .i64 x89), (146, .int .i64 t415.2.1), (147, .int .i64 t425.2.1), (148, .bool (!(decide (t415.2.1 = t425.2.1)))), (151, .int .i64 t415.2.2), (152, .int .i64 t425.2.2), (153, .bool (!(decide (t415.2.2 = t425.2.2)))), (154, .bool (!(decide (t415.2.2 = t425.2.2))))]) ⟨rfl, rfl, rfl, rfl, rfl, rfl, rfl, rfl, rfl, rfl, rfl, trivial⟩ ?_
                          rcases ite_some hF with ⟨h435, hF⟩ | ⟨h435, hF⟩
                          ·
                            refine WCode.cond_f (kb (b := !(decide (t415.2.2 = t425.2.2))) rfl (show (!(decide (t415.2.2 = t425.2.2))) = false from by rw [(decide_eq_true h435)]; rfl)) ?_
                            refine WCode.skip ?_
                            refine WEx.in_normal ?_
                            refine WEx.in_normal ?_
                            refine WEx.then_ ?_
                            refine WCode.region ?_
                            refine WOps.p (G.move rfl) rfl ?_
                            refine WOps.p (G.add rfl rfl (r := (w64 (x89 + 1))) rfl) rfl ?_
                            refine WOps.p (G.assign rfl) rfl ?_
                            refine WOps.nil ?_
                            have S436 := S432.front 3 rfl
                            change St _ _ _ [G108, [(b48, .cells #[.slice A95 l97.length c96] 71 (0, 0))], G98, [(p11, .cells #[.slice A105 l107.length c106] 108 (0, 0))], [(b147, .cells #[.bool b157, .bool b158, .bool b159, .int .i64 x160, .int .i64 x161, .int .i64 x162, .int .i64 x163, .slice A164 l166.length c165, .string (bs s169)] 74 (0, 0))], [(b60, .cells #[.pointer (some ⟨b48, 0, none⟩), .pointer (some ⟨b54, 0, none⟩)] 68 (0, 0))], [(b54, .cells #[.slice A90 l92.length c91] 71 (0, 0))], [(b42, .cells #[.pointer (some ⟨p11, 0, none⟩), .pointer (some ⟨p29, 0, none⟩)] 65 (0, 0))], [(p29, .cells #[.slice A100 l102.length c101] 108 (0, 0))], G167, G93, G103] at S436
                            have S437 := S436.front 11 rfl
                            change St _ _ _ [G103, G108, [(b48, .cells #[.slice A95 l97.length c96] 71 (0, 0))], G98, [(p11, .cells #[.slice A105 l107.length c106] 108 (0, 0))], [(b147, .cells #[.bool b157, .bool b158, .bool b159, .int .i64 x160, .int .i64 x161, .int .i64 x162, .int .i64 x163, .slice A164 l166.length c165, .string (bs s169)] 74 (0, 0))], [(b60, .cells #[.pointer (some ⟨b48, 0, none⟩), .pointer (some ⟨b54, 0, none⟩)] 68 (0, 0))], [(b54, .cells #[.slice A90 l92.length c91] 71 (0, 0))], [(b42, .cells #[.pointer (some ⟨p11, 0, none⟩), .pointer (some ⟨p29, 0, none⟩)] 65 (0, 0))], [(p29, .cells #[.slice A100 l102.length c101] 108 (0, 0))], G167, G93] at S437
                            have S438 := S437.front 3 rfl
                            change St _ _ _ [G98, G103, G108, [(b48, .cells #[.slice A95 l97.length c96] 71 (0, 0))], [(p11, .cells #[.slice A105 l107.length c106] 108 (0, 0))], [(b147, .cells #[.bool b157, .bool b158, .bool b159, .int .i64 x160, .int .i64 x161, .int .i64 x162, .int .i64 x163, .slice A164 l166.length c165, .string (bs s169)] 74 (0, 0))], [(b60, .cells #[.pointer (some ⟨b48, 0, none⟩), .pointer (some ⟨b54, 0, none⟩)] 68 (0, 0))], [(b54, .cells #[.slice A90 l92.length c91] 71 (0, 0))], [(b42, .cells #[.pointer (some ⟨p11, 0, none⟩), .pointer (some ⟨p29, 0, none⟩)] 65 (0, 0))], [(p29, .cells #[.slice A100 l102.length c101] 108 (0, 0))], G167, G93] at S438
                            have S439 := S438.front 11 rfl
                            change St _ _ _ [G93, G98, G103, G108, [(b48, .cells #[.slice A95 l97.length c96] 71 (0, 0))], [(p11, .cells #[.slice A105 l107.length c106] 108 (0, 0))], [(b147, .cells #[.bool b157, .bool b158, .bool b159, .int .i64 x160, .int .i64 x161, .int .i64 x162, .int .i64 x163, .slice A164 l166.length c165, .string (bs s169)] 74 (0, 0))], [(b60, .cells #[.pointer (some ⟨b48, 0, none⟩), .pointer (some ⟨b54, 0, none⟩)] 68 (0, 0))], [(b54, .cells #[.slice A90 l92.length c91] 71 (0, 0))], [(b42, .cells #[.pointer (some ⟨p11, 0, none⟩), .pointer (some ⟨p29, 0, none⟩)] 65 (0, 0))], [(p29, .cells #[.slice A100 l102.length c101] 108 (0, 0))], G167] at S439
                            have S440 := S439.front 5 rfl
                            change St _ _ _ [[(p11, .cells #[.slice A105 l107.length c106] 108 (0, 0))], G93, G98, G103, G108, [(b48, .cells #[.slice A95 l97.length c96] 71 (0, 0))], [(b147, .cells #[.bool b157, .bool b158, .bool b159, .int .i64 x160, .int .i64 x161, .int .i64 x162, .int .i64 x163, .slice A164 l166.length c165, .string (bs s169)] 74 (0, 0))], [(b60, .cells #[.pointer (some ⟨b48, 0, none⟩), .pointer (some ⟨b54, 0, none⟩)] 68 (0, 0))], [(b54, .cells #[.slice A90 l92.length c91] 71 (0, 0))], [(b42, .cells #[.pointer (some ⟨p11, 0, none⟩), .pointer (some ⟨p29, 0, none⟩)] 65 (0, 0))], [(p29, .cells #[.slice A100 l102.length c101] 108 (0, 0))], G167] at S440
                            have S441 := S440.front 10 rfl
                            change St _ _ _ [[(p29, .cells #[.slice A100 l102.length c101] 108 (0, 0))], [(p11, .cells #[.slice A105 l107.length c106] 108 (0, 0))], G93, G98, G103, G108, [(b48, .cells #[.slice A95 l97.length c96] 71 (0, 0))], [(b147, .cells #[.bool b157, .bool b158, .bool b159, .int .i64 x160, .int .i64 x161, .int .i64 x162, .int .i64 x163, .slice A164 l166.length c165, .string (bs s169)] 74 (0, 0))], [(b60, .cells #[.pointer (some ⟨b48, 0, none⟩), .pointer (some ⟨b54, 0, none⟩)] 68 (0, 0))], [(b54, .cells #[.slice A90 l92.length c91] 71 (0, 0))], [(b42, .cells #[.pointer (some ⟨p11, 0, none⟩), .pointer (some ⟨p29, 0, none⟩)] 65 (0, 0))], G167] at S441
                            have S442 := S441.front 10 rfl
                            change St _ _ _ [[(b42, .cells #[.pointer (some ⟨p11, 0, none⟩), .pointer (some ⟨p29, 0, none⟩)] 65 (0, 0))], [(p29, .cells #[.slice A100 l102.length c101] 108 (0, 0))], [(p11, .cells #[.slice A105 l107.length c106] 108 (0, 0))], G93, G98, G103, G108, [(b48, .cells #[.slice A95 l97.length c96] 71 (0, 0))], [(b147, .cells #[.bool b157, .bool b158, .bool b159, .int .i64 x160, .int .i64 x161, .int .i64 x162, .int .i64 x163, .slice A164 l166.length c165, .string (bs s169)] 74 (0, 0))], [(b60, .cells #[.pointer (some ⟨b48, 0, none⟩), .pointer (some ⟨b54, 0, none⟩)] 68 (0, 0))], [(b54, .cells #[.slice A90 l92.length c91] 71 (0, 0))], G167] at S442
                            have S443 := S442.front 7 rfl
                            change St _ _ _ [[(b48, .cells #[.slice A95 l97.length c96] 71 (0, 0))], [(b42, .cells #[.pointer (some ⟨p11, 0, none⟩), .pointer (some ⟨p29, 0, none⟩)] 65 (0, 0))], [(p29, .cells #[.slice A100 l102.length c101] 108 (0, 0))], [(p11, .cells #[.slice A105 l107.length c106] 108 (0, 0))], G93, G98, G103, G108, [(b147, .cells #[.bool b157, .bool b158, .bool b159, .int .i64 x160, .int .i64 x161, .int .i64 x162, .int .i64 x163, .slice A164 l166.length c165, .string (bs s169)] 74 (0, 0))], [(b60, .cells #[.pointer (some ⟨b48, 0, none⟩), .pointer (some ⟨b54, 0, none⟩)] 68 (0, 0))], [(b54, .cells #[.slice A90 l92.length c91] 71 (0, 0))], G167] at S443
                            have S444 := S443.front 10 rfl
                            change St _ _ _ [[(b54, .cells #[.slice A90 l92.length c91] 71 (0, 0))], [(b48, .cells #[.slice A95 l97.length c96] 71 (0, 0))], [(b42, .cells #[.pointer (some ⟨p11, 0, none⟩), .pointer (some ⟨p29, 0, none⟩)] 65 (0, 0))], [(p29, .cells #[.slice A100 l102.length c101] 108 (0, 0))], [(p11, .cells #[.slice A105 l107.length c106] 108 (0, 0))], G93, G98, G103, G108, [(b147, .cells #[.bool b157, .bool b158, .bool b159, .int .i64 x160, .int .i64 x161, .int .i64 x162, .int .i64 x163, .slice A164 l166.length c165, .string (bs s169)] 74 (0, 0))], [(b60, .cells #[.pointer (some ⟨b48, 0, none⟩), .pointer (some ⟨b54, 0, none⟩)] 68 (0, 0))], G167] at S444
                            have S445 := S444.front 10 rfl
                            change St _ _ _ [[(b60, .cells #[.pointer (some ⟨b48, 0, none⟩), .pointer (some ⟨b54, 0, none⟩)] 68 (0, 0))], [(b54, .cells #[.slice A90 l92.length c91] 71 (0, 0))], [(b48, .cells #[.slice A95 l97.length c96] 71 (0, 0))], [(b42, .cells #[.pointer (some ⟨p11, 0, none⟩), .pointer (some ⟨p29, 0, none⟩)] 65 (0, 0))], [(p29, .cells #[.slice A100 l102.length c101] 108 (0, 0))], [(p11, .cells #[.slice A105 l107.length c106] 108 (0, 0))], G93, G98, G103, G108, [(b147, .cells #[.bool b157, .bool b158, .bool b159, .int .i64 x160, .int .i64 x161, .int .i64 x162, .int .i64 x163, .slice A164 l166.length c165, .string (bs s169)] 74 (0, 0))], G167] at S445
                            have S446 := St.keep (As := [[(b60, .cells #[.pointer (some ⟨b48, 0, none⟩), .pointer (some ⟨b54, 0, none⟩)] 68 (0, 0))], [(b54, .cells #[.slice A90 l92.length c91] 71 (0, 0))], [(b48, .cells #[.slice A95 l97.length c96] 71 (0, 0))], [(b42, .cells #[.pointer (some ⟨p11, 0, none⟩), .pointer (some ⟨p29, 0, none⟩)] 65 (0, 0))], [(p29, .cells #[.slice A100 l102.length c101] 108 (0, 0))], [(p11, .cells #[.slice A105 l107.length c106] 108 (0, 0))], G93, G98, G103, G108]) S445
                            refine WEx.again _ _ (by omega) ?_ ⟨w64 (x89 + 1), A90, c91, l92, G93, A95, c96, l97, G98, A100, c101, l102, G103, A105, c106, l107, G108, rfl, hF, hO94, hO99, hO104, hO109, S446⟩
                            exact ⟨rfl, rfl, rfl, rfl, trivial⟩
                          ·
                            refine WCode.cond_t (kb (b := !(decide (t415.2.2 = t425.2.2))) rfl (show (!(decide (t415.2.2 = t425.2.2))) = true from by rw [(decide_eq_false h435)]; rfl)) ?_
                            refine WCode.seq ?_
                            refine WCode.region ?_
                            refine WOps.p (G.assign rfl) rfl ?_
                            refine WOps.nil ?_
                            refine WEx.then_ ?_
                            refine WCode.forget (l' := [(2, .bool false)]) ⟨rfl, trivial⟩ ?_
                            refine WCode.ret ?_
                            refine WEx.in_ret ?_
                            refine WEx.in_ret ?_
                            refine WEx.then_ret ?_
                            refine WEx.then_ret ?_
                            refine WEx.in_ret ?_
                            refine WEx.then_ret ?_
                            obtain rfl := some_eq hF
                            refine WEx.ret1 rfl rfl ?_
                            exact ⟨rfl, St.keep (As := []) S432⟩
                        ·
                          refine WOps.off rfl (kbl (b := !(decide (t415.2.1 = t425.2.1))) rfl (show (!(decide (t415.2.1 = t425.2.1))) = true from by rw [(decide_eq_false h434)]; rfl)) rfl rfl ?_
                          refine WOps.off rfl (kbl (b := !(decide (t415.2.1 = t425.2.1))) rfl (show (!(decide (t415.2.1 = t425.2.1))) = true from by rw [(decide_eq_false h434)]; rfl)) rfl rfl ?_
                          refine WOps.off rfl (kbl (b := !(decide (t415.2.1 = t425.2.1))) rfl (show (!(decide (t415.2.1 = t425.2.1))) = true from by rw [(decide_eq_false h434)]; rfl)) rfl rfl ?_
                          refine WOps.p (G.pick_t (kb (b := !(decide (t415.2.1 = t425.2.1))) rfl (show (!(decide (t415.2.1 = t425.2.1))) = true from by rw [(decide_eq_false h434)]; rfl)) rfl) rfl ?_
                          refine WOps.nil ?_
                          refine WEx.then_ ?_
                          refine WCode.forget (l' := [(0, .slice A0 a0.length c0), (4, .slice (some ⟨b42, 0, none⟩) ([0, 0] : List Int).length 2), (5, .slice (some ⟨b60, 0, none⟩) ([0, 0] : List Int).length 2), (6, .int .i64 x89), (146, .int .i64 t415.2.1), (147, .int .i64 t425.2.1), (148, .bool (!(decide (t415.2.1 = t425.2.1)))), (151, undef), (152, undef), (153, undef), (154, .bool true)]) ⟨rfl, rfl, rfl, rfl, rfl, rfl, rfl, rfl, rfl, rfl, rfl, trivial⟩ ?_
                          refine WCode.cond_t rfl ?_
                          refine WCode.seq ?_
                          refine WCode.region ?_
                          refine WOps.p (G.assign rfl) rfl ?_
                          refine WOps.nil ?_
                          refine WEx.then_ ?_
                          refine WCode.forget (l' := [(2, .bool false)]) ⟨rfl, trivial⟩ ?_
                          refine WCode.ret ?_
                          refine WEx.in_ret ?_
                          refine WEx.in_ret ?_
                          refine WEx.then_ret ?_
                          refine WEx.then_ret ?_
                          refine WEx.in_ret ?_
                          refine WEx.then_ret ?_
                          obtain rfl := some_eq hF
                          refine WEx.ret1 rfl rfl ?_
                          exact ⟨rfl, St.keep (As := []) S432⟩
                      ·
                        refine WOps.off rfl (kbl (b := !(decide (t415.1 = t425.1))) rfl (show (!(decide (t415.1 = t425.1))) = true from by rw [(decide_eq_false h433)]; rfl)) rfl rfl ?_
                        refine WOps.off rfl (kbl (b := !(decide (t415.1 = t425.1))) rfl (show (!(decide (t415.1 = t425.1))) = true from by rw [(decide_eq_false h433)]; rfl)) rfl rfl ?_
                        refine WOps.off rfl (kbl (b := !(decide (t415.1 = t425.1))) rfl (show (!(decide (t415.1 = t425.1))) = true from by rw [(decide_eq_false h433)]; rfl)) rfl rfl ?_
                        refine WOps.p (G.pick_t (kb (b := !(decide (t415.1 = t425.1))) rfl (show (!(decide (t415.1 = t425.1))) = true from by rw [(decide_eq_false h433)]; rfl)) rfl) rfl ?_
                        refine WOps.p (G.move rfl) rfl ?_
                        refine WOps.off rfl rfl rfl rfl ?_
                        refine WOps.off rfl rfl rfl rfl ?_
                        refine WOps.off rfl rfl rfl rfl ?_
                        refine WOps.p (G.pick_t rfl rfl) rfl ?_
                        refine WOps.nil ?_
                        refine WEx.then_ ?_
                        refine WCode.forget (l' := [(0, .slice A0 a0.length c0), (4, .slice (some ⟨b42, 0, none⟩) ([0, 0] : List Int).length 2), (5, .slice (some ⟨b60, 0, none⟩) ([0, 0] : List Int).length 2), (6, .int .i64 x89), (146, undef), (147, undef), (148, undef), (151, undef), (152, undef), (153, undef), (154, .bool true)]) ⟨rfl, rfl, rfl, rfl, rfl, rfl, rfl, rfl, rfl, rfl, rfl, trivial⟩ ?_
                        refine WCode.cond_t rfl ?_
                        refine WCode.seq ?_
                        refine WCode.region ?_
                        refine WOps.p (G.assign rfl) rfl ?_
                        refine WOps.nil ?_
                        refine WEx.then_ ?_
                        refine WCode.forget (l' := [(2, .bool false)]) ⟨rfl, trivial⟩ ?_
                        refine WCode.ret ?_
                        refine WEx.in_ret ?_
                        refine WEx.in_ret ?_
                        refine WEx.then_ret ?_
                        refine WEx.then_ret ?_
                        refine WEx.in_ret ?_
                        refine WEx.then_ret ?_
                        obtain rfl := some_eq hF
                        refine WEx.ret1 rfl rfl ?_
                        exact ⟨rfl, St.keep (As := []) S432⟩
                    ·
                      rcases ite_some hF with ⟨h447, hF⟩ | ⟨h447, hF⟩
                      ·
                        refine WD.p rfl (G.idx (o := 0) (j := 1) T.el67 rfl rfl rfl (show x211 = ((1 : Nat) : Int) from h447) (by decide) : GP _ _ _ _ (.pointer (some ⟨b42, 1, none⟩))) rfl ?_
                        refine WD.p rfl (G.field T.fld74_4 rfl (show 0 + 4 = 4 from rfl)) rfl ?_
                        refine WD.p rfl (G.field T.fld74_5 rfl (show 0 + 5 = 5 from rfl)) rfl ?_
                        refine WD.p rfl (G.field T.fld74_6 rfl (show 0 + 6 = 6 from rfl)) rfl ?_
                        refine WD.r rfl (G.load1 T.one65 rfl (cell_blk (S412.blk 4 rfl) rfl)) rfl ?_
                        refine WD.r rfl (G.load1 T.one3 rfl (cell_blk (S412.blk 0 rfl) rfl)) rfl ?_
                        refine WD.r rfl (G.load1 T.one3 rfl (cell_blk (S412.blk 0 rfl) rfl)) rfl ?_
                        refine WD.r rfl (G.load1 T.one3 rfl (cell_blk (S412.blk 0 rfl) rfl)) rfl ?_
                        obtain ⟨t448, hc449, hF⟩ := bind_some hF
                        have S450 := S412.front 10 rfl
                        change St _ _ _ [G103, [(b147, .cells #[.bool b157, .bool b158, .bool b159, .int .i64 x160, .int .i64 x161, .int .i64 x162, .int .i64 x163, .slice A164 l166.length c165, .string (bs s169)] 74 (0, 0))], [(b60, .cells #[.pointer (some ⟨b48, 0, none⟩), .pointer (some ⟨b54, 0, none⟩)] 68 (0, 0))], [(b54, .cells #[.slice A90 l92.length c91] 71 (0, 0))], [(b48, .cells #[.slice A95 l97.length c96] 71 (0, 0))], [(b42, .cells #[.pointer (some ⟨p11, 0, none⟩), .pointer (some ⟨p29, 0, none⟩)] 65 (0, 0))], [(p29, .cells #[.slice A100 l102.length c101] 108 (0, 0))], [(p11, .cells #[.slice A105 l107.length c106] 108 (0, 0))], G167, G93, G98, G108] at S450
                        have S451 := S450.front 6 rfl
                        change St _ _ _ [[(p29, .cells #[.slice A100 l102.length c101] 108 (0, 0))], G103, [(b147, .cells #[.bool b157, .bool b158, .bool b159, .int .i64 x160, .int .i64 x161, .int .i64 x162, .int .i64 x163, .slice A164 l166.length c165, .string (bs s169)] 74 (0, 0))], [(b60, .cells #[.pointer (some ⟨b48, 0, none⟩), .pointer (some ⟨b54, 0, none⟩)] 68 (0, 0))], [(b54, .cells #[.slice A90 l92.length c91] 71 (0, 0))], [(b48, .cells #[.slice A95 l97.length c96] 71 (0, 0))], [(b42, .cells #[.pointer (some ⟨p11, 0, none⟩), .pointer (some ⟨p29, 0, none⟩)] 65 (0, 0))], [(p11, .cells #[.slice A105 l107.length c106] 108 (0, 0))], G167, G93, G98, G108] at S451
                        have hP452 : PtR 108 Registry.rp w413 (KS [[(p29, .cells #[.slice A100 l102.length c101] 108 (0, 0))], G103]) p29 (⟨l102⟩ : Registry) := ⟨_, S451.blk 0 rfl, KS_at 0 rfl (by simp [keys]), ⟨A100, c101, rfl, ((hO104.rd (fun b o hb => S451.grp 1 rfl hb)).mono (fun b hb => KS_at 1 rfl hb))⟩⟩
                        refine WD.call rfl T.call29 (evs_cons rfl (evs_cons rfl (evs_cons rfl (evs_cons rfl evs_nil)))) rfl ?_
                        refine (sv_Find_calls k410 (⟨l102⟩ : Registry) x161 x162 x163 hP452 (St.outN (Bs := []) (As := [[(p29, .cells #[.slice A100 l102.length c101] 108 (0, 0))], G103]) S451) hc449).mono ?_
                        rintro _ w453 ⟨rfl, T454⟩
                        have S455 := St.callN (As := []) S451 T454
                        change St _ _ _ [[(p29, .cells #[.slice A100 l102.length c101] 108 (0, 0))], G103, [(b147, .cells #[.bool b157, .bool b158, .bool b159, .int .i64 x160, .int .i64 x161, .int .i64 x162, .int .i64 x163, .slice A164 l166.length c165, .string (bs s169)] 74 (0, 0))], [(b60, .cells #[.pointer (some ⟨b48, 0, none⟩), .pointer (some ⟨b54, 0, none⟩)] 68 (0, 0))], [(b54, .cells #[.slice A90 l92.length c91] 71 (0, 0))], [(b48, .cells #[.slice A95 l97.length c96] 71 (0, 0))], [(b42, .cells #[.pointer (some ⟨p11, 0, none⟩), .pointer (some ⟨p29, 0, none⟩)] 65 (0, 0))], [(p11, .cells #[.slice A105 l107.length c106] 108 (0, 0))], G167, G93, G98, G108] at S455
                        refine ⟨_, rfl, ?_⟩
                        refine WD.p rfl (G.move rfl) rfl ?_
                        refine WD.p rfl (G.extract rfl rfl) rfl ?_
                        refine WD.p rfl (G.extract rfl rfl) rfl ?_
                        refine WD.p rfl (G.extract rfl rfl) rfl ?_
                        refine WD.p rfl (G.assign rfl) rfl ?_
                        refine WD.p rfl (G.assign rfl) rfl ?_
                        refine WD.p rfl (G.assign rfl) rfl ?_
                        refine WD.nil ?_
                        refine WEx.then_ ?_
                        refine WCode.forget (l' := [(0, .slice A0 a0.length c0), (4, .slice (some ⟨b42, 0, none⟩) ([0, 0] : List Int).length 2), (5, .slice (some ⟨b60, 0, none⟩) ([0, 0] : List Int).length 2), (6, .int .i64 x89), (7, .pointer (some ⟨b147, 0, none⟩)), (8, .int .i64 x211), (10, .int .i64 t448.1), (11, .int .i64 t448.2.1), (12, .int .i64 t448.2.2)]) ⟨rfl, rfl, rfl, rfl, rfl, rfl, rfl, rfl, rfl, trivial⟩ ?_
                        refine WCode.seq ?_
                        refine WCode.draw [⟨0, 0, []⟩, ⟨1, 0, []⟩, ⟨2, 0, []⟩, ⟨4, 0, []⟩, ⟨6, 0, []⟩, ⟨8, 0, []⟩, ⟨3, 1, [10, 11, 12, 13, 14, 15, 16, 17]⟩, ⟨5, 1, [10, 11, 12, 13, 14, 15, 16, 17]⟩, ⟨7, 1, [10, 11, 12, 13, 14, 15, 16, 17]⟩, ⟨9, 1, [10, 11, 12, 13, 14, 15, 16, 17]⟩, ⟨10, 2, []⟩, ⟨11, 0, []⟩, ⟨12, 0, []⟩, ⟨13, 0, []⟩, ⟨14, 0, []⟩, ⟨15, 0, []⟩, ⟨16, 0, []⟩, ⟨17, 0, []⟩] T.mixed (by kernel_rfl) (by intro _ _ d _ _ h; cases d <;> exact h) rfl (by kernel_rfl) ?_
                        have S456 := S455.drew
                        generalize w453.drew = w457 at *
                        refine WD.p rfl (G.move rfl) rfl ?_
                        refine WD.p rfl (G.move rfl) rfl ?_
                        refine WD.p rfl (G.idx (o := 0) (j := 1) T.el72 rfl rfl rfl (show x211 = ((1 : Nat) : Int) from h447) (by decide) : GP _ _ _ _ (.pointer (some ⟨b60, 1, none⟩))) rfl ?_
                        refine WD.p rfl (G.field T.fld74_4 rfl (show 0 + 4 = 4 from rfl)) rfl ?_
                        refine WD.p rfl (G.field T.fld74_5 rfl (show 0 + 5 = 5 from rfl)) rfl ?_
                        refine WD.p rfl (G.field T.fld74_6 rfl (show 0 + 6 = 6 from rfl)) rfl ?_
                        refine WD.r rfl (G.load1 T.one68 rfl (cell_blk (S456.blk 3 rfl) rfl)) rfl ?_
                        refine WD.r rfl (G.load1 T.one3 rfl (cell_blk (S456.blk 2 rfl) rfl)) rfl ?_
                        refine WD.r rfl (G.load1 T.one3 rfl (cell_blk (S456.blk 2 rfl) rfl)) rfl ?_
                        refine WD.r rfl (G.load1 T.one3 rfl (cell_blk (S456.blk 2 rfl) rfl)) rfl ?_
                        obtain ⟨t458, hc459, hF⟩ := bind_some hF
                        have S460 := S456.front 9 rfl
                        change St _ _ _ [G93, [(p29, .cells #[.slice A100 l102.length c101] 108 (0, 0))], G103, [(b147, .cells #[.bool b157, .bool b158, .bool b159, .int .i64 x160, .int .i64 x161, .int .i64 x162, .int .i64 x163, .slice A164 l166.length c165, .string (bs s169)] 74 (0, 0))], [(b60, .cells #[.pointer (some ⟨b48, 0, none⟩), .pointer (some ⟨b54, 0, none⟩)] 68 (0, 0))], [(b54, .cells #[.slice A90 l92.length c91] 71 (0, 0))], [(b48, .cells #[.slice A95 l97.length c96] 71 (0, 0))], [(b42, .cells #[.pointer (some ⟨p11, 0, none⟩), .pointer (some ⟨p29, 0, none⟩)] 65 (0, 0))], [(p11, .cells #[.slice A105 l107.length c106] 108 (0, 0))], G167, G98, G108] at S460
                        have S461 := S460.front 5 rfl
                        change St _ _ _ [[(b54, .cells #[.slice A90 l92.length c91] 71 (0, 0))], G93, [(p29, .cells #[.slice A100 l102.length c101] 108 (0, 0))], G103, [(b147, .cells #[.bool b157, .bool b158, .bool b159, .int .i64 x160, .int .i64 x161, .int .i64 x162, .int .i64 x163, .slice A164 l166.length c165, .string (bs s169)] 74 (0, 0))], [(b60, .cells #[.pointer (some ⟨b48, 0, none⟩), .pointer (some ⟨b54, 0, none⟩)] 68 (0, 0))], [(b48, .cells #[.slice A95 l97.length c96] 71 (0, 0))], [(b42, .cells #[.pointer (some ⟨p11, 0, none⟩), .pointer (some ⟨p29, 0, none⟩)] 65 (0, 0))], [(p11, .cells #[.slice A105 l107.length c106] 108 (0, 0))], G167, G98, G108] at S461
                        have hP462 : PtR 71 Registry71.rp w457 (KS [[(b54, .cells #[.slice A90 l92.length c91] 71 (0, 0))], G93]) b54 (⟨l92⟩ : Registry71) := ⟨_, S461.blk 0 rfl, KS_at 0 rfl (by simp [keys]), ⟨A90, c91, rfl, ((hO94.rd (fun b o hb => S461.grp 1 rfl hb)).mono (fun b hb => KS_at 1 rfl hb))⟩⟩
                        refine WD.call rfl T.call30 (evs_cons rfl (evs_cons rfl (evs_cons rfl (evs_cons rfl evs_nil)))) rfl ?_
                        refine (rv_Find_calls k410 (⟨l92⟩ : Registry71) x161 x162 x163 hP462 (St.outN (Bs := []) (As := [[(b54, .cells #[.slice A90 l92.length c91] 71 (0, 0))], G93]) S461) hc459).mono ?_
                        rintro _ w463 ⟨rfl, T464⟩
                        have S465 := St.callN (As := []) S461 T464
                        change St _ _ _ [[(b54, .cells #[.slice A90 l92.length c91] 71 (0, 0))], G93, [(p29, .cells #[.slice A100 l102.length c101] 108 (0, 0))], G103, [(b147, .cells #[.bool b157, .bool b158, .bool b159, .int .i64 x160, .int .i64 x161, .int .i64 x162, .int .i64 x163, .slice A164 l166.length c165, .string (bs s169)] 74 (0, 0))], [(b60, .cells #[.pointer (some ⟨b48, 0, none⟩), .pointer (some ⟨b54, 0, none⟩)] 68 (0, 0))], [(b48, .cells #[.slice A95 l97.length c96] 71 (0, 0))], [(b42, .cells #[.pointer (some ⟨p11, 0, none⟩), .pointer (some ⟨p29, 0, none⟩)] 65 (0, 0))], [(p11, .cells #[.slice A105 l107.length c106] 108 (0, 0))], G167, G98, G108] at S465
                        refine ⟨_, rfl, ?_⟩
                        refine WD.p rfl (G.move rfl) rfl ?_
                        refine WD.p rfl (G.extract rfl rfl) rfl ?_
                        refine WD.p rfl (G.extract rfl rfl) rfl ?_
                        refine WD.p rfl (G.extract rfl rfl) rfl ?_
                        refine WD.p rfl (G.assign rfl) rfl ?_
                        refine WD.p rfl (G.assign rfl) rfl ?_
                        refine WD.p rfl (G.assign rfl) rfl ?_
                        refine WD.nil ?_
                        refine WEx.then_ ?_
                        refine WCode.forget (l' := [(0, .slice A0 a0.length c0), (4, .slice (some ⟨b42, 0, none⟩) ([0, 0] : List Int).length 2), (5, .slice (some ⟨b60, 0, none⟩) ([0, 0] : List Int).length 2), (6, .int .i64 x89), (10, .int .i64 t448.1), (11, .int .i64 t448.2.1), (12, .int .i64 t448.2.2), (13, .int .i64 t458.1), (14, .int .i64 t458.2.1), (15, .int .i64 t458.2.2)]) ⟨rfl, rfl, rfl, rfl, rfl, rfl, rfl, rfl, rfl, rfl, trivial⟩ ?_
                        refine WCode.seq ?_
                        refine WCode.region ?_
                        refine WOps.p (G.move rfl) rfl ?_
                        refine WOps.p (G.move rfl) rfl ?_
                        refine WOps.p (G.neq rfl rfl rfl) rfl ?_
                        refine WOps.p (G.move rfl) rfl ?_
                        rcases ite_some hF with ⟨h466, hF⟩ | ⟨h466, hF⟩
                        ·
                          refine WOps.on rfl (kbl (b := !(decide (t448.1 = t458.1))) rfl (show (!(decide (t448.1 = t458.1))) = false from by rw [(decide_eq_true h466)]; rfl)) ?_
                          refine WOps.p (G.move rfl) rfl ?_
                          refine WOps.on rfl (kbl (b := !(decide (t448.1 = t458.1))) rfl (show (!(decide (t448.1 = t458.1))) = false from by rw [(decide_eq_true h466)]; rfl)) ?_
                          refine WOps.p (G.move rfl) rfl ?_
                          refine WOps.on rfl (kbl (b := !(decide (t448.1 = t458.1))) rfl (show (!(decide (t448.1 = t458.1))) = false from by rw [(decide_eq_true h466)]; rfl)) ?_
                          refine WOps.p (G.neq rfl rfl rfl) rfl ?_
                          refine WOps.p (G.pick_f (kb (b := !(decide (t448.1 = t458.1))) rfl (show (!(decide (t448.1 = t458.1))) = false from by rw [(decide_eq_true h466)]; rfl)) rfl) rfl ?_
                          refine WOps.p (G.move rfl) rfl ?_
                          rcases ite_some hF with ⟨h467, hF⟩ | ⟨h467, hF⟩
                          ·
                            refine WOps.on rfl (kbl (b := !(decide (t448.2.1 = t458.2.1))) rfl (show (!(decide (t448.2.1 = t458.2.1))) = false from by rw [(decide_eq_true h467)]; rfl)) ?_
                            refine WOps.p (G.move rfl) rfl ?_
                            refine WOps.on rfl (kbl (b := !(decide (t448.2.1 = t458.2.1))) rfl (show (!(decide (t448.2.1 = t458.2.1))) = false from by rw [(decide_eq_true h467)]; rfl)) ?_
                            refine WOps.p (G.move rfl) rfl ?_
                            refine WOps.on rfl (kbl (b := !(decide (t448.2.1 = t458.2.1))) rfl (show (!(decide (t448.2.1 = t458.2.1))) = false from by rw [(decide_eq_true h467)]; rfl)) ?_
                            refine WOps.p (G.neq rfl rfl rfl) rfl ?_
                            refine WOps.p (G.pick_f (kb (b := !(decide (t448.2.1 = t458.2.1))) rfl (show (!(decide (t448.2.1 = t458.2.1))) = false from by rw [(decide_eq_true h467)]; rfl)) rfl) rfl ?_
                            refine WOps.nil ?_
                            refine WEx.then_ ?_
                            refine WCode.forget (l' := [(0, .slice A0 a0.length c0), (4, .slice (some ⟨b42, 0, none⟩) ([0, 0] : List Int).length 2), (5, .slice (some ⟨b60, 0, none⟩) ([0, 0] : List Int).length 2), (6, .int .i64 x89), (146, .int .i64 t448.2.1), (147, .int .i64 t458.2.1), (148, .bool (!(decide (t448.2.1 = t458.2.1)))), (151, .int .i64 t448.2.2), (152, .int .i64 t458.2.2), (153, .bool (!(decide (t448.2.2 = t458.2.2)))), (154, .bool (!(decide (t448.2.2 = t458.2.2))))]) ⟨rfl, rfl, rfl, rfl, rfl, rfl, rfl, rfl, rfl, rfl, rfl, trivial⟩ ?_
                            rcases ite_some hF with ⟨h468, hF⟩ | ⟨h468, hF⟩
                            ·
                              refine WCode.cond_f (kb (b := !(decide (t448.2.2 = t458.2.2))) rfl (show (!(decide (t448.2.2 = t458.2.2))) = false from by rw [(decide_eq_true h468)]; rfl)) ?_
                              refine WCode.skip ?_
                              refine WEx.in_normal ?_
                              refine WEx.in_normal ?_
                              refine WEx.then_ ?_
                              refine WCode.region ?_
                              refine WOps.p (G.move rfl) rfl ?_
                              refine WOps.p (G.add rfl rfl (r := (w64 (x89 + 1))) rfl) rfl ?_
                              refine WOps.p (G.assign rfl) rfl ?_
                              refine WOps.nil ?_
                              have S469 := S465.front 11 rfl
                              change St _ _ _ [G108, [(b54, .cells #[.slice A90 l92.length c91] 71 (0, 0))], G93, [(p29, .cells #[.slice A100 l102.length c101] 108 (0, 0))], G103, [(b147, .cells #[.bool b157, .bool b158, .bool b159, .int .i64 x160, .int .i64 x161, .int .i64 x162, .int .i64 x163, .slice A164 l166.length c165, .string (bs s169)] 74 (0, 0))], [(b60, .cells #[.pointer (some ⟨b48, 0, none⟩), .pointer (some ⟨b54, 0, none⟩)] 68 (0, 0))], [(b48, .cells #[.slice A95 l97.length c96] 71 (0, 0))], [(b42, .cells #[.pointer (some ⟨p11, 0, none⟩), .pointer (some ⟨p29, 0, none⟩)] 65 (0, 0))], [(p11, .cells #[.slice A105 l107.length c106] 108 (0, 0))], G167, G98] at S469
                              have S470 := S469.front 4 rfl
                              change St _ _ _ [G103, G108, [(b54, .cells #[.slice A90 l92.length c91] 71 (0, 0))], G93, [(p29, .cells #[.slice A100 l102.length c101] 108 (0, 0))], [(b147, .cells #[.bool b157, .bool b158, .bool b159, .int .i64 x160, .int .i64 x161, .int .i64 x162, .int .i64 x163, .slice A164 l166.length c165, .string (bs s169)] 74 (0, 0))], [(b60, .cells #[.pointer (some ⟨b48, 0, none⟩), .pointer (some ⟨b54, 0, none⟩)] 68 (0, 0))], [(b48, .cells #[.slice A95 l97.length c96] 71 (0, 0))], [(b42, .cells #[.pointer (some ⟨p11, 0, none⟩), .pointer (some ⟨p29, 0, none⟩)] 65 (0, 0))], [(p11, .cells #[.slice A105 l107.length c106] 108 (0, 0))], G167, G98] at S470
                              have S471 := S470.front 11 rfl
                              change St _ _ _ [G98, G103, G108, [(b54, .cells #[.slice A90 l92.length c91] 71 (0, 0))], G93, [(p29, .cells #[.slice A100 l102.length c101] 108 (0, 0))], [(b147, .cells #[.bool b157, .bool b158, .bool b159, .int .i64 x160, .int .i64 x161, .int .i64 x162, .int .i64 x163, .slice A164 l166.length c165, .string (bs s169)] 74 (0, 0))], [(b60, .cells #[.pointer (some ⟨b48, 0, none⟩), .pointer (some ⟨b54, 0, none⟩)] 68 (0, 0))], [(b48, .cells #[.slice A95 l97.length c96] 71 (0, 0))], [(b42, .cells #[.pointer (some ⟨p11, 0, none⟩), .pointer (some ⟨p29, 0, none⟩)] 65 (0, 0))], [(p11, .cells #[.slice A105 l107.length c106] 108 (0, 0))], G167] at S471
                              have S472 := S471.front 4 rfl
                              change St _ _ _ [G93, G98, G103, G108, [(b54, .cells #[.slice A90 l92.length c91] 71 (0, 0))], [(p29, .cells #[.slice A100 l102.length c101] 108 (0, 0))], [(b147, .cells #[.bool b157, .bool b158, .bool b159, .int .i64 x160, .int .i64 x161, .int .i64 x162, .int .i64 x163, .slice A164 l166.length c165, .string (bs s169)] 74 (0, 0))], [(b60, .cells #[.pointer (some ⟨b48, 0, none⟩), .pointer (some ⟨b54, 0, none⟩)] 68 (0, 0))], [(b48, .cells #[.slice A95 l97.length c96] 71 (0, 0))], [(b42, .cells #[.pointer (some ⟨p11, 0, none⟩), .pointer (some ⟨p29, 0, none⟩)] 65 (0, 0))], [(p11, .cells #[.slice A105 l107.length c106] 108 (0, 0))], G167] at S472
                              have S473 := S472.front 10 rfl
                              change St _ _ _ [[(p11, .cells #[.slice A105 l107.length c106] 108 (0, 0))], G93, G98, G103, G108, [(b54, .cells #[.slice A90 l92.length c91] 71 (0, 0))], [(p29, .cells #[.slice A100 l102.length c101] 108 (0, 0))], [(b147, .cells #[.bool b157, .bool b158, .bool b159, .int .i64 x160, .int .i64 x161, .int .i64 x162, .int .i64 x163, .slice A164 l166.length c165, .string (bs s169)] 74 (0, 0))], [(b60, .cells #[.pointer (some ⟨b48, 0, none⟩), .pointer (some ⟨b54, 0, none⟩)] 68 (0, 0))], [(b48, .cells #[.slice A95 l97.length c96] 71 (0, 0))], [(b42, .cells #[.pointer (some ⟨p11, 0, none⟩), .pointer (some ⟨p29, 0, none⟩)] 65 (0, 0))], G167] at S473
                              have S474 := S473.front 6 rfl
                              change St _ _ _ [[(p29, .cells #[.slice A100 l102.length c101] 108 (0, 0))], [(p11, .cells #[.slice A105 l107.length c106] 108 (0, 0))], G93, G98, G103, G108, [(b54, .cells #[.slice A90 l92.length c91] 71 (0, 0))], [(b147, .cells #[.bool b157, .bool b158, .bool b159, .int .i64 x160, .int .i64 x161, .int .i64 x162, .int .i64 x163, .slice A164 l166.length c165, .string (bs s169)] 74 (0, 0))], [(b60, .cells #[.pointer (some ⟨b48, 0, none⟩), .pointer (some ⟨b54, 0, none⟩)] 68 (0, 0))], [(b48, .cells #[.slice A95 l97.length c96] 71 (0, 0))], [(b42, .cells #[.pointer (some ⟨p11, 0, none⟩), .pointer (some ⟨p29, 0, none⟩)] 65 (0, 0))], G167] at S474
                              have S475 := S474.front 10 rfl
                              change St _ _ _ [[(b42, .cells #[.pointer (some ⟨p11, 0, none⟩), .pointer (some ⟨p29, 0, none⟩)] 65 (0, 0))], [(p29, .cells #[.slice A100 l102.length c101] 108 (0, 0))], [(p11, .cells #[.slice A105 l107.length c106] 108 (0, 0))], G93, G98, G103, G108, [(b54, .cells #[.slice A90 l92.length c91] 71 (0, 0))], [(b147, .cells #[.bool b157, .bool b158, .bool b159, .int .i64 x160, .int .i64 x161, .int .i64 x162, .int .i64 x163, .slice A164 l166.length c165, .string (bs s169)] 74 (0, 0))], [(b60, .cells #[.pointer (some ⟨b48, 0, none⟩), .pointer (some ⟨b54, 0, none⟩)] 68 (0, 0))], [(b48, .cells #[.slice A95 l97.length c96] 71 (0, 0))], G167] at S475
                              have S476 := S475.front 10 rfl
                              change St _ _ _ [[(b48, .cells #[.slice A95 l97.length c96] 71 (0, 0))], [(b42, .cells #[.pointer (some ⟨p11, 0, none⟩), .pointer (some ⟨p29, 0, none⟩)] 65 (0, 0))], [(p29, .cells #[.slice A100 l102.length c101] 108 (0, 0))], [(p11, .cells #[.slice A105 l107.length c106] 108 (0, 0))], G93, G98, G103, G108, [(b54, .cells #[.slice A90 l92.length c91] 71 (0, 0))], [(b147, .cells #[.bool b157, .bool b158, .bool b159, .int .i64 x160, .int .i64 x161, .int .i64 x162, .int .i64 x163, .slice A164 l166.length c165, .string (bs s169)] 74 (0, 0))], [(b60, .cells #[.pointer (some ⟨b48, 0, none⟩), .pointer (some ⟨b54, 0, none⟩)] 68 (0, 0))], G167] at S476
                              have S477 := S476.front 8 rfl
                              change St _ _ _ [[(b54, .cells #[.slice A90 l92.length c91] 71 (0, 0))], [(b48, .cells #[.slice A95 l97.length c96] 71 (0, 0))], [(b42, .cells #[.pointer (some ⟨p11, 0, none⟩), .pointer (some ⟨p29, 0, none⟩)] 65 (0, 0))], [(p29, .cells #[.slice A100 l102.length c101] 108 (0, 0))], [(p11, .cells #[.slice A105 l107.length c106] 108 (0, 0))], G93, G98, G103, G108, [(b147, .cells #[.bool b157, .bool b158, .bool b159, .int .i64 x160, .int .i64 x161, .int .i64 x162, .int .i64 x163, .slice A164 l166.length c165, .string (bs s169)] 74 (0, 0))], [(b60, .cells #[.pointer (some ⟨b48, 0, none⟩), .pointer (some ⟨b54, 0, none⟩)] 68 (0, 0))], G167] at S477
                              have S478 := S477.front 10 rfl
                              change St _ _ _ [[(b60, .cells #[.pointer (some ⟨b48, 0, none⟩), .pointer (some ⟨b54, 0, none⟩)] 68 (0, 0))], [(b54, .cells #[.slice A90 l92.length c91] 71 (0, 0))], [(b48, .cells #[.slice A95 l97.length c96] 71 (0, 0))], [(b42, .cells #[.pointer (some ⟨p11, 0, none⟩), .pointer (some ⟨p29, 0, none⟩)] 65 (0, 0))], [(p29, .cells #[.slice A100 l102.length c101] 108 (0, 0))], [(p11, .cells #[.slice A105 l107.length c106] 108 (0, 0))], G93, G98, G103, G108, [(b147, .cells #[.bool b157, .bool b158, .bool b159, .int .i64 x160, .int .i64 x161, .int .i64 x162, .int .i64 x163, .slice A164 l166.length c165, .string (bs s169)] 74 (0, 0))], G167] at S478
                              have S479 := St.keep (As := [[(b60, .cells #[.pointer (some ⟨b48, 0, none⟩), .pointer (some ⟨b54, 0, none⟩)] 68 (0, 0))], [(b54, .cells #[.slice A90 l92.length c91] 71 (0, 0))], [(b48, .cells #[.slice A95 l97.length c96] 71 (0, 0))], [(b42, .cells #[.pointer (some ⟨p11, 0, none⟩), .pointer (some ⟨p29, 0, none⟩)] 65 (0, 0))], [(p29, .cells #[.slice A100 l102.length c101] 108 (0, 0))], [(p11, .cells #[.slice A105 l107.length c106] 108 (0, 0))], G93, G98, G103, G108]) S478
                              refine WEx.again _ _ (by omega) ?_ ⟨w64 (x89 + 1), A90, c91, l92, G93, A95, c96, l97, G98, A100, c101, l102, G103, A105, c106, l107, G108, rfl, hF, hO94, hO99, hO104, hO109, S479⟩
                              exact ⟨rfl, rfl, rfl, rfl, trivial⟩
                            ·
                              refine WCode.cond_t (kb (b := !(decide (t448.2.2 = t458.2.2))) rfl (show (!(decide (t448.2.2 = t458.2.2))) = true from by rw [(decide_eq_false h468)]; rfl)) ?_
                              refine WCode.seq ?_
                              refine WCode.region ?_
                              refine WOps.p (G.assign rfl) rfl ?_
                              refine WOps.nil ?_
                              refine WEx.then_ ?_
                              refine WCode.forget (l' := [(2, .bool false)]) ⟨rfl, trivial⟩ ?_
                              refine WCode.ret ?_
                              refine WEx.in_ret ?_
                              refine WEx.in_ret ?_
                              refine WEx.then_ret ?_
                              refine WEx.then_ret ?_
                              refine WEx.in_ret ?_
                              refine WEx.then_ret ?_
                              obtain rfl := some_eq hF
                              refine WEx.ret1 rfl rfl ?_
                              exact ⟨rfl, St.keep (As := []) S465⟩
                          ·
                            refine WOps.off rfl (kbl (b := !(decide (t448.2.1 = t458.2.1))) rfl (show (!(decide (t448.2.1 = t458.2.1))) = true from by rw [(decide_eq_false h467)]; rfl)) rfl rfl ?_
                            refine WOps.off rfl (kbl (b := !(decide (t448.2.1 = t458.2.1))) rfl (show (!(decide (t448.2.1 = t458.2.1))) = true from by rw [(decide_eq_false h467)]; rfl)) rfl rfl ?_
                            refine WOps.off rfl (kbl (b := !(decide (t448.2.1 = t458.2.1))) rfl (show (!(decide (t448.2.1 = t458.2.1))) = true from by rw [(decide_eq_false h467)]; rfl)) rfl rfl ?_
                            refine WOps.p (G.pick_t (kb (b := !(decide (t448.2.1 = t458.2.1))) rfl (show (!(decide (t448.2.1 = t458.2.1))) = true from by rw [(decide_eq_false h467)]; rfl)) rfl) rfl ?_
                            refine WOps.nil ?_
                            refine WEx.then_ ?_
                            refine WCode.forget (l' := [(0, .slice A0 a0.length c0), (4, .slice (some ⟨b42, 0, none⟩) ([0, 0] : List Int).length 2), (5, .slice (some ⟨b60, 0, none⟩) ([0, 0] : List Int).length 2), (6, .int .i64 x89), (146, .int .i64 t448.2.1), (147, .int .i64 t458.2.1), (148, .bool (!(decide (t448.2.1 = t458.2.1)))), (151, undef), (152, undef), (153, undef), (154, .bool true)]) ⟨rfl, rfl, rfl, rfl, rfl, rfl, rfl, rfl, rfl, rfl, rfl, trivial⟩ ?_
                            refine WCode.cond_t rfl ?_
                            refine WCode.seq ?_
                            refine WCode.region ?_
                            refine WOps.p (G.assign rfl) rfl ?_
                            refine WOps.nil ?_
                            refine WEx.then_ ?_
                            refine WCode.forget (l' := [(2, .bool false)]) ⟨rfl, trivial⟩ ?_
                            refine WCode.ret ?_
                            refine WEx.in_ret ?_
                            refine WEx.in_ret ?_
                            refine WEx.then_ret ?_
                            refine WEx.then_ret ?_
                            refine WEx.in_ret ?_
                            refine WEx.then_ret ?_
                            obtain rfl := some_eq hF
                            refine WEx.ret1 rfl rfl ?_
                            exact ⟨rfl, St.keep (As := []) S465⟩
                        ·
                          refine WOps.off rfl (kbl (b := !(decide (t448.1 = t458.1))) rfl (show (!(decide (t448.1 = t458.1))) = true from by rw [(decide_eq_false h466)]; rfl)) rfl rfl ?_
                          refine WOps.off rfl (kbl (b := !(decide (t448.1 = t458.1))) rfl (show (!(decide (t448.1 = t458.1))) = true from by rw [(decide_eq_false h466)]; rfl)) rfl rfl ?_
                          refine WOps.off rfl (kbl (b := !(decide (t448.1 = t458.1))) rfl (show (!(decide (t448.1 = t458.1))) = true from by rw [(decide_eq_false h466)]; rfl)) rfl rfl ?_
                          refine WOps.p (G.pick_t (kb (b := !(decide (t448.1 = t458.1))) rfl (show (!(decide (t448.1 = t458.1))) = true from by rw [(decide_eq_false h466)]; rfl)) rfl) rfl ?_
                          refine WOps.p (G.move rfl) rfl ?_
                          refine WOps.off rfl rfl rfl rfl ?_
                          refine WOps.off rfl rfl rfl rfl ?_
                          refine WOps.off rfl rfl rfl rfl ?_
                          refine WOps.p (G.pick_t rfl rfl) rfl ?_
                          refine WOps.nil ?_
                          refine WEx.then_ ?_
                          refine WCode.forget (l' := [(0, .slice A0 a0.length c0), (4, .slice (some ⟨b42, 0, none⟩) ([0, 0] : List Int).length 2), (5, .slice (some ⟨b60, 0, none⟩) ([0, 0] : List Int).length 2), (6, .int .i64 x89), (146, undef), (147, undef), (148, undef), (151, undef), (152, undef), (153, undef), (154, .bool true)]) ⟨rfl, rfl, rfl, rfl, rfl, rfl, rfl, rfl, rfl, rfl, rfl, trivial⟩ ?_
                          refine WCode.cond_t rfl ?_
                          refine WCode.seq ?_
                          refine WCode.region ?_
                          refine WOps.p (G.assign rfl) rfl ?_
                          refine WOps.nil ?_
                          refine WEx.then_ ?_
                          refine WCode.forget (l' := [(2, .bool false)]) ⟨rfl, trivial⟩ ?_
                          refine WCode.ret ?_
                          refine WEx.in_ret ?_
                          refine WEx.in_ret ?_
                          refine WEx.then_ret ?_
                          refine WEx.then_ret ?_
                          refine WEx.in_ret ?_
                          refine WEx.then_ret ?_
                          obtain rfl := some_eq hF
                          refine WEx.ret1 rfl rfl ?_
                          exact ⟨rfl, St.keep (As := []) S465⟩
                      ·
                        exact nomatch (show (none : Option Bool) = some r_ from hF)
                  ·
                    refine WCode.cond_f (kb (b := b380) rfl (Bool.eq_false_iff.2 h411)) ?_
                    refine WCode.seq ?_
                    refine WCode.draw [⟨0, 0, []⟩, ⟨1, 0, []⟩, ⟨2, 0, []⟩, ⟨4, 0, []⟩, ⟨6, 0, []⟩, ⟨8, 0, []⟩, ⟨10, 0, []⟩, ⟨3, 1, [12, 13, 14, 15, 16, 17]⟩, ⟨5, 1, [12, 13, 14, 15, 16, 17]⟩, ⟨7, 1, [12, 13, 14, 15, 16, 17]⟩, ⟨9, 1, [12, 13, 14, 15, 16, 17]⟩, ⟨11, 1, [12, 13, 14, 15, 16, 17]⟩, ⟨12, 2, []⟩, ⟨13, 0, []⟩, ⟨14, 0, []⟩, ⟨15, 0, []⟩, ⟨16, 0, []⟩, ⟨17, 0, []⟩] T.mixed (by kernel_rfl) (by intro _ _ d _ _ h; cases d <;> exact h) rfl (by kernel_rfl) ?_
                    have S480 := S382.drew
                    generalize w381.drew = w481 at *
                    refine WD.p rfl (G.move rfl) rfl ?_
                    refine WD.p rfl (G.move rfl) rfl ?_
                    rcases ite_some hF with ⟨h482, hF⟩ | ⟨h482, hF⟩
                    ·
                      refine WD.p rfl (G.idx (o := 0) (j := 0) T.el67 rfl rfl rfl (show x211 = ((0 : Nat) : Int) from h482) (by decide) : GP _ _ _ _ (.pointer (some ⟨b42, 0, none⟩))) rfl ?_
                      refine WD.p rfl (G.field T.fld74_4 rfl (show 0 + 4 = 4 from rfl)) rfl ?_
                      refine WD.p rfl (G.field T.fld74_5 rfl (show 0 + 5 = 5 from rfl)) rfl ?_
                      refine WD.p rfl (G.field T.fld74_6 rfl (show 0 + 6 = 6 from rfl)) rfl ?_
                      refine WD.p rfl (G.field T.fld74_8 rfl (show 0 + 8 = 8 from rfl)) rfl ?_
                      refine WD.r rfl (G.load1 T.one65 rfl (cell_blk (S480.blk 4 rfl) rfl)) rfl ?_
                      refine WD.r rfl (G.load1 T.one3 rfl (cell_blk (S480.blk 0 rfl) rfl)) rfl ?_
                      refine WD.r rfl (G.load1 T.one3 rfl (cell_blk (S480.blk 0 rfl) rfl)) rfl ?_
                      refine WD.r rfl (G.load1 T.one3 rfl (cell_blk (S480.blk 0 rfl) rfl)) rfl ?_
                      refine WD.r rfl (G.load1 T.one9 rfl (cell_blk (S480.blk 0 rfl) rfl)) rfl ?_
                      obtain ⟨t483, hc484, hF⟩ := bind_some hF
                      have S485 := S480.front 11 rfl
                      change St _ _ _ [G108, [(b147, .cells #[.bool b157, .bool b158, .bool b159, .int .i64 x160, .int .i64 x161, .int .i64 x162, .int .i64 x163, .slice A164 l166.length c165, .string (bs s169)] 74 (0, 0))], [(b60, .cells #[.pointer (some ⟨b48, 0, none⟩), .pointer (some ⟨b54, 0, none⟩)] 68 (0, 0))], [(b54, .cells #[.slice A90 l92.length c91] 71 (0, 0))], [(b48, .cells #[.slice A95 l97.length c96] 71 (0, 0))], [(b42, .cells #[.pointer (some ⟨p11, 0, none⟩), .pointer (some ⟨p29, 0, none⟩)] 65 (0, 0))], [(p29, .cells #[.slice A100 l102.length c101] 108 (0, 0))], [(p11, .cells #[.slice A105 l107.length c106] 108 (0, 0))], G167, G93, G98, G103] at S485
                      have S486 := S485.front 7 rfl
                      change St _ _ _ [[(p11, .cells #[.slice A105 l107.length c106] 108 (0, 0))], G108, [(b147, .cells #[.bool b157, .bool b158, .bool b159, .int .i64 x160, .int .i64 x161, .int .i64 x162, .int .i64 x163, .slice A164 l166.length c165, .string (bs s169)] 74 (0, 0))], [(b60, .cells #[.pointer (some ⟨b48, 0, none⟩), .pointer (some ⟨b54, 0, none⟩)] 68 (0, 0))], [(b54, .cells #[.slice A90 l92.length c91] 71 (0, 0))], [(b48, .cells #[.slice A95 l97.length c96] 71 (0, 0))], [(b42, .cells #[.pointer (some ⟨p11, 0, none⟩), .pointer (some ⟨p29, 0, none⟩)] 65 (0, 0))], [(p29, .cells #[.slice A100 l102.length c101] 108 (0, 0))], G167, G93, G98, G103] at S486
                      have hP487 : PtR 108 Registry.rp w481 (KS [[(p11, .cells #[.slice A105 l107.length c106] 108 (0, 0))], G108]) p11 (⟨l107⟩ : Registry) := ⟨_, S486.blk 0 rfl, KS_at 0 rfl (by simp [keys]), ⟨A105, c106, rfl, ((hO109.rd (fun b o hb => S486.grp 1 rfl hb)).mono (fun b hb => KS_at 1 rfl hb))⟩⟩
                      refine WD.call rfl T.call31 (evs_cons rfl (evs_cons rfl (evs_cons rfl (evs_cons rfl (evs_cons rfl evs_nil))))) rfl ?_
                      refine (sv_Run_calls k410 (⟨l107⟩ : Registry) x161 x162 x163 s169 hP487 (St.outN (Bs := []) (As := [[(p11, .cells #[.slice A105 l107.length c106] 108 (0, 0))], G108]) S486) hc484).mono ?_
                      rintro _ w488 ⟨rfl, T489⟩
                      have S490 := St.callN (As := []) S486 T489
                      change St _ _ _ [[(p11, .cells #[.slice A105 l107.length c106] 108 (0, 0))], G108, [(b147, .cells #[.bool b157, .bool b158, .bool b159, .int .i64 x160, .int .i64 x161, .int .i64 x162, .int .i64 x163, .slice A164 l166.length c165, .string (bs s169)] 74 (0, 0))], [(b60, .cells #[.pointer (some ⟨b48, 0, none⟩), .pointer (some ⟨b54, 0, none⟩)] 68 (0, 0))], [(b54, .cells #[.slice A90 l92.length c91] 71 (0, 0))], [(b48, .cells #[.slice A95 l97.length c96] 71 (0, 0))], [(b42, .cells #[.pointer (some ⟨p11, 0, none⟩), .pointer (some ⟨p29, 0, none⟩)] 65 (0, 0))], [(p29, .cells #[.slice A100 l102.length c101] 108 (0, 0))], G167, G93, G98, G103] at S490
                      refine ⟨_, rfl, ?_⟩
                      refine WD.p rfl (G.move rfl) rfl ?_
                      refine WD.p rfl (G.extract rfl rfl) rfl ?_
                      refine WD.p rfl (G.extract rfl rfl) rfl ?_
                      refine WD.p rfl (G.assign rfl) rfl ?_
                      refine WD.p rfl (G.assign rfl) rfl ?_
                      refine WD.nil ?_
                      refine WEx.then_ ?_
                      refine WCode.forget (l' := [(0, .slice A0 a0.length c0), (4, .slice (some ⟨b42, 0, none⟩) ([0, 0] : List Int).length 2), (5, .slice (some ⟨b60, 0, none⟩) ([0, 0] : List Int).length 2), (6, .int .i64 x89), (7, .pointer (some ⟨b147, 0, none⟩)), (8, .int .i64 x211), (16, .int .i64 t483.1), (17, .string (bs t483.2))]) ⟨rfl, rfl, rfl, rfl, rfl, rfl, rfl, rfl, trivial⟩ ?_
                      refine WCode.seq ?_
                      refine WCode.draw [⟨0, 0, []⟩, ⟨1, 0, []⟩, ⟨2, 0, []⟩, ⟨3, 1, [5, 6, 7, 8, 9, 10]⟩, ⟨4, 1, [5, 6, 7, 8, 9, 10]⟩, ⟨5, 2, []⟩, ⟨6, 0, []⟩, ⟨7, 0, []⟩, ⟨8, 0, []⟩, ⟨9, 0, []⟩, ⟨10, 0, []⟩] T.mixed (by kernel_rfl) (by intro _ _ d _ _ h; cases d <;> exact h) rfl (by kernel_rfl) ?_
                      have S491 := S490.drew
                      generalize w488.drew = w492 at *
                      refine WD.p rfl (G.move rfl) rfl ?_
                      refine WD.p rfl (G.move rfl) rfl ?_
                      refine WD.p rfl (G.idx (o := 0) (j := 0) T.el72 rfl rfl rfl (show x211 = ((0 : Nat) : Int) from h482) (by decide) : GP _ _ _ _ (.pointer (some ⟨b60, 0, none⟩))) rfl ?_
                      refine WD.r rfl (G.load1 T.one68 rfl (cell_blk (S491.blk 3 rfl) rfl)) rfl ?_
                      refine WD.r rfl (G.loada T.agg74_9 rfl (cs := [.bool b157, .bool b158, .bool b159, .int .i64 x160, .int .i64 x161, .int .i64 x162, .int .i64 x163, .slice A164 l166.length c165, .string (bs s169)]) (cellsAt.of_blk (S491.blk 2 rfl) rfl)) rfl ?_
                      obtain ⟨t493, hc494, hF⟩ := bind_some hF
                      have S495 := S491.front 10 rfl
                      change St _ _ _ [G98, [(p11, .cells #[.slice A105 l107.length c106] 108 (0, 0))], G108, [(b147, .cells #[.bool b157, .bool b158, .bool b159, .int .i64 x160, .int .i64 x161, .int .i64 x162, .int .i64 x163, .slice A164 l166.length c165, .string (bs s169)] 74 (0, 0))], [(b60, .cells #[.pointer (some ⟨b48, 0, none⟩), .pointer (some ⟨b54, 0, none⟩)] 68 (0, 0))], [(b54, .cells #[.slice A90 l92.length c91] 71 (0, 0))], [(b48, .cells #[.slice A95 l97.length c96] 71 (0, 0))], [(b42, .cells #[.pointer (some ⟨p11, 0, none⟩), .pointer (some ⟨p29, 0, none⟩)] 65 (0, 0))], [(p29, .cells #[.slice A100 l102.length c101] 108 (0, 0))], G167, G93, G103] at S495
                      have S496 := S495.front 6 rfl
                      change St _ _ _ [[(b48, .cells #[.slice A95 l97.length c96] 71 (0, 0))], G98, [(p11, .cells #[.slice A105 l107.length c106] 108 (0, 0))], G108, [(b147, .cells #[.bool b157, .bool b158, .bool b159, .int .i64 x160, .int .i64 x161, .int .i64 x162, .int .i64 x163, .slice A164 l166.length c165, .string (bs s169)] 74 (0, 0))], [(b60, .cells #[.pointer (some ⟨b48, 0, none⟩), .pointer (some ⟨b54, 0, none⟩)] 68 (0, 0))], [(b54, .cells #[.slice A90 l92.length c91] 71 (0, 0))], [(b42, .cells #[.pointer (some ⟨p11, 0, none⟩), .pointer (some ⟨p29, 0, none⟩)] 65 (0, 0))], [(p29, .cells #[.slice A100 l102.length c101] 108 (0, 0))], G167, G93, G103] at S496
                      have hP497 : PtR 71 Registry71.rp w492 (KS [[(b48, .cells #[.slice A95 l97.length c96] 71 (0, 0))], G98]) b48 (⟨l97⟩ : Registry71) := ⟨_, S496.blk 0 rfl, KS_at 0 rfl (by simp [keys]), ⟨A95, c96, rfl, ((hO99.rd (fun b o hb => S496.grp 1 rfl hb)).mono (fun b hb => KS_at 1 rfl hb))⟩⟩
                      refine WD.call rfl T.call32 (evs_cons rfl (evs_cons rfl evs_nil)) rfl ?_
                      refine (sv_run_calls k410 (⟨l97⟩ : Registry71) (⟨b157, b158, b159, x160, x161, x162, x163, l166, s169⟩ : Op) hP497 (St.outN (Bs := []) (As := [[(b48, .cells #[.slice A95 l97.length c96] 71 (0, 0))], G98]) S496) (hM168.ext (S496.mx hF0 9 rfl)) (St.outM (Bs := []) S496 hF0 9 rfl) hc494).mono ?_
                      rintro _ w498 ⟨rfl, T499⟩
                      have S500 := St.callN (As := []) S496 T499
                      change St _ _ _ [[(b48, .cells #[.slice A95 l97.length c96] 71 (0, 0))], G98, [(p11, .cells #[.slice A105 l107.length c106] 108 (0, 0))], G108, [(b147, .cells #[.bool b157, .bool b158, .bool b159, .int .i64 x160, .int .i64 x161, .int .i64 x162, .int .i64 x163, .slice A164 l166.length c165, .string (bs s169)] 74 (0, 0))], [(b60, .cells #[.pointer (some ⟨b48, 0, none⟩), .pointer (some ⟨b54, 0, none⟩)] 68 (0, 0))], [(b54, .cells #[.slice A90 l92.length c91] 71 (0, 0))], [(b42, .cells #[.pointer (some ⟨p11, 0, none⟩), .pointer (some ⟨p29, 0, none⟩)] 65 (0, 0))], [(p29, .cells #[.slice A100 l102.length c101] 108 (0, 0))], G167, G93, G103] at S500
                      refine ⟨_, rfl, ?_⟩
                      refine WD.p rfl (G.move rfl) rfl ?_
                      refine WD.p rfl (G.extract rfl rfl) rfl ?_
                      refine WD.p rfl (G.extract rfl rfl) rfl ?_
                      refine WD.p rfl (G.assign rfl) rfl ?_
                      refine WD.p rfl (G.assign rfl) rfl ?_
                      refine WD.nil ?_
                      refine WEx.then_ ?_
                      refine WCode.forget (l' := [(0, .slice A0 a0.length c0), (4, .slice (some ⟨b42, 0, none⟩) ([0, 0] : List Int).length 2), (5, .slice (some ⟨b60, 0, none⟩) ([0, 0] : List Int).length 2), (6, .int .i64 x89), (16, .int .i64 t483.1), (17, .string (bs t483.2)), (18, .int .i64 t493.1), (19, .string (bs t493.2))]) ⟨rfl, rfl, rfl, rfl, rfl, rfl, rfl, rfl, trivial⟩ ?_
                      refine WCode.seq ?_
                      refine WCode.region ?_
                      refine WOps.p (G.move rfl) rfl ?_
                      refine WOps.p (G.move rfl) rfl ?_
                      refine WOps.p (G.neq rfl rfl rfl) rfl ?_
                      refine WOps.p (G.move rfl) rfl ?_
                      rcases ite_some hF with ⟨h501, hF⟩ | ⟨h501, hF⟩
                      ·
                        refine WOps.on rfl (kbl (b := !(decide (t483.1 = t493.1))) rfl (show (!(decide (t483.1 = t493.1))) = false from by rw [(decide_eq_true h501)]; rfl)) ?_
                        refine WOps.p (G.move rfl) rfl ?_
                        refine WOps.on rfl (kbl (b := !(decide (t483.1 = t493.1))) rfl (show (!(decide (t483.1 = t493.1))) = false from by rw [(decide_eq_true h501)]; rfl)) ?_
                        refine WOps.p (G.move rfl) rfl ?_
                        refine WOps.on rfl (kbl (b := !(decide (t483.1 = t493.1))) rfl (show (!(decide (t483.1 = t493.1))) = false from by rw [(decide_eq_true h501)]; rfl)) ?_
                        refine WOps.p (G.neqlb' rfl rfl rfl) rfl ?_
                        refine WOps.p (G.pick_f (kb (b := !(decide (t483.1 = t493.1))) rfl (show (!(decide (t483.1 = t493.1))) = false from by rw [(decide_eq_true h501)]; rfl)) rfl) rfl ?_
                        refine WOps.nil ?_
                        refine WEx.then_ ?_
                        rcases ite_some hF with ⟨h502, hF⟩ | ⟨h502, hF⟩
                        ·
                          refine WCode.cond_f (kb (b := !(decide (t483.2 = t493.2))) rfl (show (!(decide (t483.2 = t493.2))) = false from by rw [(decide_eq_true h502)]; rfl)) ?_
                          refine WCode.skip ?_
                          refine WEx.in_normal ?_
                          refine WEx.in_normal ?_
                          refine WEx.then_ ?_
                          refine WCode.region ?_
                          refine WOps.p (G.move rfl) rfl ?_
                          refine WOps.p (G.add rfl rfl (r := (w64 (x89 + 1))) rfl) rfl ?_
                          refine WOps.p (G.assign rfl) rfl ?_
                          refine WOps.nil ?_
                          have S503 := S500.front 3 rfl
                          change St _ _ _ [G108, [(b48, .cells #[.slice A95 l97.length c96] 71 (0, 0))], G98, [(p11, .cells #[.slice A105 l107.length c106] 108 (0, 0))], [(b147, .cells #[.bool b157, .bool b158, .bool b159, .int .i64 x160, .int .i64 x161, .int .i64 x162, .int .i64 x163, .slice A164 l166.length c165, .string (bs s169)] 74 (0, 0))], [(b60, .cells #[.pointer (some ⟨b48, 0, none⟩), .pointer (some ⟨b54, 0, none⟩)] 68 (0, 0))], [(b54, .cells #[.slice A90 l92.length c91] 71 (0, 0))], [(b42, .cells #[.pointer (some ⟨p11, 0, none⟩), .pointer (some ⟨p29, 0, none⟩)] 65 (0, 0))], [(p29, .cells #[.slice A100 l102.length c101] 108 (0, 0))], G167, G93, G103] at S503
                          have S504 := S503.front 11 rfl
                          change St _ _ _ [G103, G108, [(b48, .cells #[.slice A95 l97.length c96] 71 (0, 0))], G98, [(p11, .cells #[.slice A105 l107.length c106] 108 (0, 0))], [(b147, .cells #[.bool b157, .bool b158, .bool b159, .int .i64 x160, .int .i64 x161, .int .i64 x162, .int .i64 x163, .slice A164 l166.length c165, .string (bs s169)] 74 (0, 0))], [(b60, .cells #[.pointer (some ⟨b48, 0, none⟩), .pointer (some ⟨b54, 0, none⟩)] 68 (0, 0))], [(b54, .cells #[.slice A90 l92.length c91] 71 (0, 0))], [(b42, .cells #[.pointer (some ⟨p11, 0, none⟩), .pointer (some ⟨p29, 0, none⟩)] 65 (0, 0))], [(p29, .cells #[.slice A100 l102.length c101] 108 (0, 0))], G167, G93] at S504
                          have S505 := S504.front 3 rfl
                          change St _ _ _ [G98, G103, G108, [(b48, .cells #[.slice A95 l97.length c96] 71 (0, 0))], [(p11, .cells #[.slice A105 l107.length c106] 108 (0, 0))], [(b147, .cells #[.bool b157, .bool b158, .bool b159, .int .i64 x160, .int .i64 x161, .int .i64 x162, .int .i64 x163, .slice A164 l166.length c165, .string (bs s169)] 74 (0, 0))], [(b60, .cells #[.pointer (some ⟨b48, 0, none⟩), .pointer (some ⟨b54, 0, none⟩)] 68 (0, 0))], [(b54, .cells #[.slice A90 l92.length c91] 71 (0, 0))], [(b42, .cells #[.pointer (some ⟨p11, 0, none⟩), .pointer (some ⟨p29, 0, none⟩)] 65 (0, 0))], [(p29, .cells #[.slice A100 l102.length c101] 108 (0, 0))], G167, G93] at S505
                          have S506 := S505.front 11 rfl
                          change St _ _ _ [G93, G98, G103, G108, [(b48, .cells #[.slice A95 l97.length c96] 71 (0, 0))], [(p11, .cells #[.slice A105 l107.length c106] 108 (0, 0))], [(b147, .cells #[.bool b157, .bool b158, .bool b159, .int .i64 x160, .int .i64 x161, .int .i64 x162, .int .i64 x163, .slice A164 l166.length c165, .string (bs s169)] 74 (0, 0))], [(b60, .cells #[.pointer (some ⟨b48, 0, none⟩), .pointer (some ⟨b54, 0, none⟩)] 68 (0, 0))], [(b54, .cells #[.slice A90 l92.length c91] 71 (0, 0))], [(b42, .cells #[.pointer (some ⟨p11, 0, none⟩), .pointer (some ⟨p29, 0, none⟩)] 65 (0, 0))], [(p29, .cells #[.slice A100 l102.length c101] 108 (0, 0))], G167] at S506
                          have S507 := S506.front 5 rfl
                          change St _ _ _ [[(p11, .cells #[.slice A105 l107.length c106] 108 (0, 0))], G93, G98, G103, G108, [(b48, .cells #[.slice A95 l97.length c96] 71 (0, 0))], [(b147, .cells #[.bool b157, .bool b158, .bool b159, .int .i64 x160, .int .i64 x161, .int .i64 x162, .int .i64 x163, .slice A164 l166.length c165, .string (bs s169)] 74 (0, 0))], [(b60, .cells #[.pointer (some ⟨b48, 0, none⟩), .pointer (some ⟨b54, 0, none⟩)] 68 (0, 0))], [(b54, .cells #[.slice A90 l92.length c91] 71 (0, 0))], [(b42, .cells #[.pointer (some ⟨p11, 0, none⟩), .pointer (some ⟨p29, 0, none⟩)] 65 (0, 0))], [(p29, .cells #[.slice A100 l102.length c101] 108 (0, 0))], G167] at S507
                          have S508 := S507.front 10 rfl
                          change St _ _ _ [[(p29, .cells #[.slice A100 l102.length c101] 108 (0, 0))], [(p11, .cells #[.slice A105 l107.length c106] 108 (0, 0))], G93, G98, G103, G108, [(b48, .cells #[.slice A95 l97.length c96] 71 (0, 0))], [(b147, .cells #[.bool b157, .bool b158, .bool b159, .int .i64 x160, .int .i64 x161, .int .i64 x162, .int .i64 x163, .slice A164 l166.length c165, .string (bs s169)] 74 (0, 0))], [(b60, .cells #[.pointer (some ⟨b48, 0, none⟩), .pointer (some ⟨b54, 0, none⟩)] 68 (0, 0))], [(b54, .cells #[.slice A90 l92.length c91] 71 (0, 0))], [(b42, .cells #[.pointer (some ⟨p11, 0, none⟩), .pointer (some ⟨p29, 0, none⟩)] 65 (0, 0))], G167] at S508
                          have S509 := S508.front 10 rfl
                          change St _ _ _ [[(b42, .cells #[.pointer (some ⟨p11, 0, none⟩), .pointer (some ⟨p29, 0, none⟩)] 65 (0, 0))], [(p29, .cells #[.slice A100 l102.length c101] 108 (0, 0))], [(p11, .cells #[.slice A105 l107.length c106] 108 (0, 0))], G93, G98, G103, G108, [(b48, .cells #[.slice A95 l97.length c96] 71 (0, 0))], [(b147, .cells #[.bool b157, .bool b158, .bool b159, .int .i64 x160, .int .i64 x161, .int .i64 x162, .int .i64 x163, .slice A164 l166.length c165, .string (bs s169)] 74 (0, 0))], [(b60, .cells #[.pointer (some ⟨b48, 0, none⟩), .pointer (some ⟨b54, 0, none⟩)] 68 (0, 0))], [(b54, .cells #[.slice A90 l92.length c91] 71 (0, 0))], G167] at S509
                          have S510 := S509.front 7 rfl
                          change St _ _ _ [[(b48, .cells #[.slice A95 l97.length c96] 71 (0, 0))], [(b42, .cells #[.pointer (some ⟨p11, 0, none⟩), .pointer (some ⟨p29, 0, none⟩)] 65 (0, 0))], [(p29, .cells #[.slice A100 l102.length c101] 108 (0, 0))], [(p11, .cells #[.slice A105 l107.length c106] 108 (0, 0))], G93, G98, G103, G108, [(b147, .cells #[.bool b157, .bool b158, .bool b159, .int .i64 x160, .int .i64 x161, .int .i64 x162, .int .i64 x163, .slice A164 l166.length c165, .string (bs s169)] 74 (0, 0))], [(b60, .cells #[.pointer (some ⟨b48, 0, none⟩), .pointer (some ⟨b54, 0, none⟩)] 68 (0, 0))], [(b54, .cells #[.slice A90 l92.length c91] 71 (0, 0))], G167] at S510
                          have S511 := S510.front 10 rfl
                          change St _ _ _ [[(b54, .cells #[.slice A90 l92.length c91] 71 (0, 0))], [(b48, .cells #[.slice A95 l97.length c96] 71 (0, 0))], [(b42, .cells #[.pointer (some ⟨p11, 0, none⟩), .pointer (some ⟨p29, 0, none⟩)] 65 (0, 0))], [(p29, .cells #[.slice A100 l102.length c101] 108 (0, 0))], [(p11, .cells #[.slice A105 l107.length c106] 108 (0, 0))], G93, G98, G103, G108, [(b147, .cells #[.bool b157, .bool b158, .bool b159, .int .i64 x160, .int .i64 x161, .int .i64 x162, .int .i64 x163, .slice A164 l166.length c165, .string (bs s169)] 74 (0, 0))], [(b60, .cells #[.pointer (some ⟨b48, 0, none⟩), .pointer (some ⟨b54, 0, none⟩)] 68 (0, 0))], G167] at S511
                          have S512 := S511.front 10 rfl
                          change St _ _ _ [[(b60, .cells #[.pointer (some ⟨b48, 0, none⟩), .pointer (some ⟨b54, 0, none⟩)] 68 (0, 0))], [(b54, .cells #[.slice A90 l92.length c91] 71 (0, 0))], [(b48, .cells #[.slice A95 l97.length c96] 71 (0, 0))], [(b42, .cells #[.pointer (some ⟨p11, 0, none⟩), .pointer (some ⟨p29, 0, none⟩)] 65 (0, 0))], [(p29, .cells #[.slice A100 l102.length c101] 108 (0, 0))], [(p11, .cells #[.slice A105 l107.length c106] 108 (0, 0))], G93, G98, G103, G108, [(b147, .cells #[.bool b157, .bool b158, .bool b159, .int .i64 x160, .int .i64 x161, .int .i64 x162, .int .i64 x163, .slice A164 l166.length c165, .string (bs s169)] 74 (0, 0))], G167] at S512
                          have S513 := St.keep (As := [[(b60, .cells #[.pointer (some ⟨b48, 0, none⟩), .pointer (some ⟨b54, 0, none⟩)] 68 (0, 0))], [(b54, .cells #[.slice A90 l92.length c91] 71 (0, 0))], [(b48, .cells #[.slice A95 l97.length c96] 71 (0, 0))], [(b42, .cells #[.pointer (some ⟨p11, 0, none⟩), .pointer (some ⟨p29, 0, none⟩)] 65 (0, 0))], [(p29, .cells #[.slice A100 l102.length c101] 108 (0, 0))], [(p11, .cells #[.slice A105 l107.length c106] 108 (0, 0))], G93, G98, G103, G108]) S512
                          refine WEx.again _ _ (by omega) ?_ ⟨w64 (x89 + 1), A90, c91, l92, G93, A95, c96, l97, G98, A100, c101, l102, G103, A105, c106, l107, G108, rfl, hF, hO94, hO99, hO104, hO109, S513⟩
                          exact ⟨rfl, rfl, rfl, rfl, trivial⟩
                        ·
                          refine WCode.cond_t (kb (b := !(decide (t483.2 = t493.2))) rfl (show (!(decide (t483.2 = t493.2))) = true from by rw [(decide_eq_false h502)]; rfl)) ?_
                          refine WCode.seq ?_
                          refine WCode.region ?_
                          refine WOps.p (G.assign rfl) rfl ?_
                          refine WOps.nil ?_
                          refine WEx.then_ ?_
                          refine WCode.forget (l' := [(2, .bool false)]) ⟨rfl, trivial⟩ ?_
                          refine WCode.ret ?_
                          refine WEx.in_ret ?_
                          refine WEx.in_ret ?_
                          refine WEx.then_ret ?_
                          refine WEx.then_ret ?_
                          refine WEx.in_ret ?_
                          refine WEx.then_ret ?_
                          obtain rfl := some_eq hF
                          refine WEx.ret1 rfl rfl ?_
                          exact ⟨rfl, St.keep (As := []) S500⟩
                      ·
                        refine WOps.off rfl (kbl (b := !(decide (t483.1 = t493.1))) rfl (show (!(decide (t483.1 = t493.1))) = true from by rw [(decide_eq_false h501)]; rfl)) rfl rfl ?_
                        refine WOps.off rfl (kbl (b := !(decide (t483.1 = t493.1))) rfl (show (!(decide (t483.1 = t493.1))) = true from by rw [(decide_eq_false h501)]; rfl)) rfl rfl ?_
                        refine WOps.off rfl (kbl (b := !(decide (t483.1 = t493.1))) rfl (show (!(decide (t483.1 = t493.1))) = true from by rw [(decide_eq_false h501)]; rfl)) rfl rfl ?_
                        refine WOps.p (G.pick_t (kb (b := !(decide (t483.1 = t493.1))) rfl (show (!(decide (t483.1 = t493.1))) = true from by rw [(decide_eq_false h501)]; rfl)) rfl) rfl ?_
                        refine WOps.nil ?_
                        refine WEx.then_ ?_
                        refine WCode.cond_t rfl ?_
                        refine WCode.seq ?_
                        refine WCode.region ?_
                        refine WOps.p (G.assign rfl) rfl ?_
                        refine WOps.nil ?_
                        refine WEx.then_ ?_
                        refine WCode.forget (l' := [(2, .bool false)]) ⟨rfl, trivial⟩ ?_
                        refine WCode.ret ?_
                        refine WEx.in_ret ?_
                        refine WEx.in_ret ?_
                        refine WEx.then_ret ?_
                        refine WEx.then_ret ?_
                        refine WEx.in_ret ?_
                        refine WEx.then_ret ?_
                        obtain rfl := some_eq hF
                        refine WEx.ret1 rfl rfl ?_
                        exact ⟨rfl, St.keep (As := []) S500⟩
                    ·
                      rcases ite_some hF with ⟨h514, hF⟩ | ⟨h514, hF⟩
                      ·
                        refine WD.p rfl (G.idx (o := 0) (j := 1) T.el67 rfl rfl rfl (show x211 = ((1 : Nat) : Int) from h514) (by decide) : GP _ _ _ _ (.pointer (some ⟨b42, 1, none⟩))) rfl ?_
                        refine WD.p rfl (G.field T.fld74_4 rfl (show 0 + 4 = 4 from rfl)) rfl ?_
                        refine WD.p rfl (G.field T.fld74_5 rfl (show 0 + 5 = 5 from rfl)) rfl ?_
                        refine WD.p rfl (G.field T.fld74_6 rfl (show 0 + 6 = 6 from rfl)) rfl ?_
                        refine WD.p rfl (G.field T.fld74_8 rfl (show 0 + 8 = 8 from rfl)) rfl ?_
                        refine WD.r rfl (G.load1 T.one65 rfl (cell_blk (S480.blk 4 rfl) rfl)) rfl ?_
                        refine WD.r rfl (G.load1 T.one3 rfl (cell_blk (S480.blk 0 rfl) rfl)) rfl ?_
                        refine WD.r rfl (G.load1 T.one3 rfl (cell_blk (S480.blk 0 rfl) rfl)) rfl ?_
                        refine WD.r rfl (G.load1 T.one3 rfl (cell_blk (S480.blk 0 rfl) rfl)) rfl ?_
                        refine WD.r rfl (G.load1 T.one9 rfl (cell_blk (S480.blk 0 rfl) rfl)) rfl ?_
                        obtain ⟨t515, hc516, hF⟩ := bind_some hF
                        have S517 := S480.front 10 rfl
                        change St _ _ _ [G103, [(b147, .cells #[.bool b157, .bool b158, .bool b159, .int .i64 x160, .int .i64 x161, .int .i64 x162, .int .i64 x163, .slice A164 l166.length c165, .string (bs s169)] 74 (0, 0))], [(b60, .cells #[.pointer (some ⟨b48, 0, none⟩), .pointer (some ⟨b54, 0, none⟩)] 68 (0, 0))], [(b54, .cells #[.slice A90 l92.length c91] 71 (0, 0))], [(b48, .cells #[.slice A95 l97.length c96] 71 (0, 0))], [(b42, .cells #[.pointer (some ⟨p11, 0, none⟩), .pointer (some ⟨p29, 0, none⟩)] 65 (0, 0))], [(p29, .cells #[.slice A100 l102.length c101] 108 (0, 0))], [(p11, .cells #[.slice A105 l107.length c106] 108 (0, 0))], G167, G93, G98, G108] at S517
                        have S518 := S517.front 6 rfl
                        change St _ _ _ [[(p29, .cells #[.slice A100 l102.length c101] 108 (0, 0))], G103, [(b147, .cells #[.bool b157, .bool b158, .bool b159, .int .i64 x160, .int .i64 x161, .int .i64 x162, .int .i64 x163, .slice A164 l166.length c165, .string (bs s169)] 74 (0, 0))], [(b60, .cells #[.pointer (some ⟨b48, 0, none⟩), .pointer (some ⟨b54, 0, none⟩)] 68 (0, 0))], [(b54, .cells #[.slice A90 l92.length c91] 71 (0, 0))], [(b48, .cells #[.slice A95 l97.length c96] 71 (0, 0))], [(b42, .cells #[.pointer (some ⟨p11, 0, none⟩), .pointer (some ⟨p29, 0, none⟩)] 65 (0, 0))], [(p11, .cells #[.slice A105 l107.length c106] 108 (0, 0))], G167, G93, G98, G108] at S518
                        have hP519 : PtR 108 Registry.rp w481 (KS [[(p29, .cells #[.slice A100 l102.length c101] 108 (0, 0))], G103]) p29 (⟨l102⟩ : Registry) := ⟨_, S518.blk 0 rfl, KS_at 0 rfl (by simp [keys]), ⟨A100, c101, rfl, ((hO104.rd (fun b o hb => S518.grp 1 rfl hb)).mono (fun b hb => KS_at 1 rfl hb))⟩⟩
                        refine WD.call rfl T.call31 (evs_cons rfl (evs_cons rfl (evs_cons rfl (evs_cons rfl (evs_cons rfl evs_nil))))) rfl ?_
                        refine (sv_Run_calls k410 (⟨l102⟩ : Registry) x161 x162 x163 s169 hP519 (St.outN (Bs := []) (As := [[(p29, .cells #[.slice A100 l102.length c101] 108 (0, 0))], G103]) S518) hc516).mono ?_
                        rintro _ w520 ⟨rfl, T521⟩
                        have S522 := St.callN (As := []) S518 T521
                        change St _ _ _ [[(p29, .cells #[.slice A100 l102.length c101] 108 (0, 0))], G103, [(b147, .cells #[.bool b157, .bool b158, .bool b159, .int .i64 x160, .int .i64 x161, .int .i64 x162, .int .i64 x163, .slice A164 l166.length c165, .string (bs s169)] 74 (0, 0))], [(b60, .cells #[.pointer (some ⟨b48, 0, none⟩), .pointer (some ⟨b54, 0, none⟩)] 68 (0, 0))], [(b54, .cells #[.slice A90 l92.length c91] 71 (0, 0))], [(b48, .cells #[.slice A95 l97.length c96] 71 (0, 0))], [(b42, .cells #[.pointer (some ⟨p11, 0, none⟩), .pointer (some ⟨p29, 0, none⟩)] 65 (0, 0))], [(p11, .cells #[.slice A105 l107.length c106] 108 (0, 0))], G167, G93, G98, G108] at S522
                        refine ⟨_, rfl, ?_⟩
                        refine WD.p rfl (G.move rfl) rfl ?_
                        refine WD.p rfl (G.extract rfl rfl) rfl ?_
                        refine WD.p rfl (G.extract rfl rfl) rfl ?_
                        refine WD.p rfl (G.assign rfl) rfl ?_
                        refine WD.p rfl (G.assign rfl) rfl ?_
                        refine WD.nil ?_
                        refine WEx.then_ ?_
                        refine WCode.forget (l' := [(0, .slice A0 a0.length c0), (4, .slice (some ⟨b42, 0, none⟩) ([0, 0] : List Int).length 2), (5, .slice (some ⟨b60, 0, none⟩) ([0, 0] : List Int).length 2), (6, .int .i64 x89), (7, .pointer (some ⟨b147, 0, none⟩)), (8, .int .i64 x211), (16, .int .i64 t515.1), (17, .string (bs t515.2))]) ⟨rfl, rfl, rfl, rfl, rfl, rfl, rfl, rfl, trivial⟩ ?_
                        refine WCode.seq ?_
                        refine WCode.draw [⟨0, 0, []⟩, ⟨1, 0, []⟩, ⟨2, 0, []⟩, ⟨3, 1, [5, 6, 7, 8, 9, 10]⟩, ⟨4, 1, [5, 6, 7, 8, 9, 10]⟩, ⟨5, 2, []⟩, ⟨6, 0, []⟩, ⟨7, 0, []⟩, ⟨8, 0, []⟩, ⟨9, 0, []⟩, ⟨10, 0, []⟩] T.mixed (by kernel_rfl) (by intro _ _ d _ _ h; cases d <;> exact h) rfl (by kernel_rfl) ?_
                        have S523 := S522.drew
                        generalize w520.drew = w524 at *
                        refine WD.p rfl (G.move rfl) rfl ?_
                        refine WD.p rfl (G.move rfl) rfl ?_
                        refine WD.p rfl (G.idx (o := 0) (j := 1) T.el72 rfl rfl rfl (show x211 = ((1 : Nat) : Int) from h514) (by decide) : GP _ _ _ _ (.pointer (some ⟨b60, 1, none⟩))) rfl ?_
                        refine WD.r rfl (G.load1 T.one68 rfl (cell_blk (S523.blk 3 rfl) rfl)) rfl ?_
                        refine WD.r rfl (G.loada T.agg74_9 rfl (cs := [.bool b157, .bool b158, .bool b159, .int .i64 x160, .int .i64 x161, .int .i64 x162, .int .i64 x163, .slice A164 l166.length c165, .string (bs s169)]) (cellsAt.of_blk (S523.blk 2 rfl) rfl)) rfl ?_
                        obtain ⟨t525, hc526, hF⟩ := bind_some hF
                        have S527 := S523.front 9 rfl
                        change St _ _ _ [G93, [(p29, .cells #[.slice A100 l102.length c101] 108 (0, 0))], G103, [(b147, .cells #[.bool b157, .bool b158, .bool b159, .int .i64 x160, .int .i64 x161, .int .i64 x162, .int .i64 x163, .slice A164 l166.length c165, .string (bs s169)] 74 (0, 0))], [(b60, .cells #[.pointer (some ⟨b48, 0, none⟩), .pointer (some ⟨b54, 0, none⟩)] 68 (0, 0))], [(b54, .cells #[.slice A90 l92.length c91] 71 (0, 0))], [(b48, .cells #[.slice A95 l97.length c96] 71 (0, 0))], [(b42, .cells #[.pointer (some ⟨p11, 0, none⟩), .pointer (some ⟨p29, 0, none⟩)] 65 (0, 0))], [(p11, .cells #[.slice A105 l107.length c106] 108 (0, 0))], G167, G98, G108] at S527
                        have S528 := S527.front 5 rfl
                        change St _ _ _ [[(b54, .cells #[.slice A90 l92.length c91] 71 (0, 0))], G93, [(p29, .cells #[.slice A100 l102.length c101] 108 (0, 0))], G103, [(b147, .cells #[.bool b157, .bool b158, .bool b159, .int .i64 x160, .int .i64 x161, .int .i64 x162, .int .i64 x163, .slice A164 l166.length c165, .string (bs s169)] 74 (0, 0))], [(b60, .cells #[.pointer (some ⟨b48, 0, none⟩), .pointer (some ⟨b54, 0, none⟩)] 68 (0, 0))], [(b48, .cells #[.slice A95 l97.length c96] 71 (0, 0))], [(b42, .cells #[.pointer (some ⟨p11, 0, none⟩), .pointer (some ⟨p29, 0, none⟩)] 65 (0, 0))], [(p11, .cells #[.slice A105 l107.length c106] 108 (0, 0))], G167, G98, G108] at S528
                        have hP529 : PtR 71 Registry71.rp w524 (KS [[(b54, .cells #[.slice A90 l92.length c91] 71 (0, 0))], G93]) b54 (⟨l92⟩ : Registry71) := ⟨_, S528.blk 0 rfl, KS_at 0 rfl (by simp [keys]), ⟨A90, c91, rfl, ((hO94.rd (fun b o hb => S528.grp 1 rfl hb)).mono (fun b hb => KS_at 1 rfl hb))⟩⟩
                        refine WD.call rfl T.call32 (evs_cons rfl (evs_cons rfl evs_nil)) rfl ?_
                        refine (sv_run_calls k410 (⟨l92⟩ : Registry71) (⟨b157, b158, b159, x160, x161, x162, x163, l166, s169⟩ : Op) hP529 (St.outN (Bs := []) (As := [[(b54, .cells #[.slice A90 l92.length c91] 71 (0, 0))], G93]) S528) (hM168.ext (S528.mx hF0 9 rfl)) (St.outM (Bs := []) S528 hF0 9 rfl) hc526).mono ?_
                        rintro _ w530 ⟨rfl, T531⟩
                        have S532 := St.callN (As := []) S528 T531
                        change St _ _ _ [[(b54, .cells #[.slice A90 l92.length c91] 71 (0, 0))], G93, [(p29, .cells #[.slice A100 l102.length c101] 108 (0, 0))], G103, [(b147, .cells #[.bool b157, .bool b158, .bool b159, .int .i64 x160, .int .i64 x161, .int .i64 x162, .int .i64 x163, .slice A164 l166.length c165, .string (bs s169)] 74 (0, 0))], [(b60, .cells #[.pointer (some ⟨b48, 0, none⟩), .pointer (some ⟨b54, 0, none⟩)] 68 (0, 0))], [(b48, .cells #[.slice A95 l97.length c96] 71 (0, 0))], [(b42, .cells #[.pointer (some ⟨p11, 0, none⟩), .pointer (some ⟨p29, 0, none⟩)] 65 (0, 0))], [(p11, .cells #[.slice A105 l107.length c106] 108 (0, 0))], G167, G98, G108] at S532
                        refine ⟨_, rfl, ?_⟩
                        refine WD.p rfl (G.move rfl) rfl ?_
                        refine WD.p rfl (G.extract rfl rfl) rfl ?_
                        refine WD.p rfl (G.extract rfl rfl) rfl ?_
                        refine WD.p rfl (G.assign rfl) rfl ?_
                        refine WD.p rfl (G.assign rfl) rfl ?_
                        refine WD.nil ?_
                        refine WEx.then_ ?_
                        refine WCode.forget (l' := [(0, .slice A0 a0.length c0), (4, .slice (some ⟨b42, 0, none⟩) ([0, 0] : List Int).length 2), (5, .slice (some ⟨b60, 0, none⟩) ([0, 0] : List Int).length 2), (6, .int .i64 x89), (16, .int .i64 t515.1), (17, .string (bs t515.2)), (18, .int .i64 t525.1), (19, .string (bs t525.2))]) ⟨rfl, rfl, rfl, rfl, rfl, rfl, rfl, rfl, trivial⟩ ?_
                        refine WCode.seq ?_
                        refine WCode.region ?_
                        refine WOps.p (G.move rfl) rfl ?_
                        refine WOps.p (G.move rfl) rfl ?_
                        refine WOps.p (G.neq rfl rfl rfl) rfl ?_
                        refine WOps.p (G.move rfl) rfl ?_
                        rcases ite_some hF with ⟨h533, hF⟩ | ⟨h533, hF⟩
                        ·
                          refine WOps.on rfl (kbl (b := !(decide (t515.1 = t525.1))) rfl (show (!(decide (t515.1 = t525.1))) = false from by rw [(decide_eq_true h533)]; rfl)) ?_
                          refine WOps.p (G.move rfl) rfl ?_
                          refine WOps.on rfl (kbl (b := !(decide (t515.1 = t525.1))) rfl (show (!(decide (t515.1 = t525.1))) = false from by rw [(decide_eq_true h533)]; rfl)) ?_
                          refine WOps.p (G.move rfl) rfl ?_
                          refine WOps.on rfl (kbl (b := !(decide (t515.1 = t525.1))) rfl (show (!(decide (t515.1 = t525.1))) = false from by rw [(decide_eq_true h533)]; rfl)) ?_
                          refine WOps.p (G.neqlb' rfl rfl rfl) rfl ?_
                          refine WOps.p (G.pick_f (kb (b := !(decide (t515.1 = t525.1))) rfl (show (!(decide (t515.1 = t525.1))) = false from by rw [(decide_eq_true h533)]; rfl)) rfl) rfl ?_
                          refine WOps.nil ?_
                          refine WEx.then_ ?_
                          rcases ite_some hF with ⟨h534, hF⟩ | ⟨h534, hF⟩
                          ·
                            refine WCode.cond_f (kb (b := !(decide (t515.2 = t525.2))) rfl (show (!(decide (t515.2 = t525.2))) = false from by rw [(decide_eq_true h534)]; rfl)) ?_
                            refine WCode.skip ?_
                            refine WEx.in_normal ?_
                            refine WEx.in_normal ?_
                            refine WEx.then_ ?_
                            refine WCode.region ?_
                            refine WOps.p (G.move rfl) rfl ?_
                            refine WOps.p (G.add rfl rfl (r := (w64 (x89 + 1))) rfl) rfl ?_
                            refine WOps.p (G.assign rfl) rfl ?_
                            refine WOps.nil ?_
                            have S535 := S532.front 11 rfl
                            change St _ _ _ [G108, [(b54, .cells #[.slice A90 l92.length c91] 71 (0, 0))], G93, [(p29, .cells #[.slice A100 l102.length c101] 108 (0, 0))], G103, [(b147, .cells #[.bool b157, .bool b158, .bool b159, .int .i64 x160, .int .i64 x161, .int .i64 x162, .int .i64 x163, .slice A164 l166.length c165, .string (bs s169)] 74 (0, 0))], [(b60, .cells #[.pointer (some ⟨b48, 0, none⟩), .pointer (some ⟨b54, 0, none⟩)] 68 (0, 0))], [(b48, .cells #[.slice A95 l97.length c96] 71 (0, 0))], [(b42, .cells #[.pointer (some ⟨p11, 0, none⟩), .pointer (some ⟨p29, 0, none⟩)] 65 (0, 0))], [(p11, .cells #[.slice A105 l107.length c106] 108 (0, 0))], G167, G98] at S535
                            have S536 := S535.front 4 rfl
                            change St _ _ _ [G103, G108, [(b54, .cells #[.slice A90 l92.length c91] 71 (0, 0))], G93, [(p29, .cells #[.slice A100 l102.length c101] 108 (0, 0))], [(b147, .cells #[.bool b157, .bool b158, .bool b159, .int .i64 x160, .int .i64 x161, .int .i64 x162, .int .i64 x163, .slice A164 l166.length c165, .string (bs s169)] 74 (0, 0))], [(b60, .cells #[.pointer (some ⟨b48, 0, none⟩), .pointer (some ⟨b54, 0, none⟩)] 68 (0, 0))], [(b48, .cells #[.slice A95 l97.length c96] 71 (0, 0))], [(b42, .cells #[.pointer (some ⟨p11, 0, none⟩), .pointer (some ⟨p29, 0, none⟩)] 65 (0, 0))], [(p11, .cells #[.slice A105 l107.length c106] 108 (0, 0))], G167, G98] at S536
                            have S537 := S536.front 11 rfl
                            change St _ _ _ [G98, G103, G108, [(b54, .cells #[.slice A90 l92.length c91] 71 (0, 0))], G93, [(p29, .cells #[.slice A100 l102.length c101] 108 (0, 0))], [(b147, .cells #[.bool b157, .bool b158, .bool b159, .int .i64 x160, .int .i64 x161, .int .i64 x162, .int .i64 x163, .slice A164 l166.length c165, .string (bs s169)] 74 (0, 0))], [(b60, .cells #[.pointer (some ⟨b48, 0, none⟩), .pointer (some ⟨b54, 0, none⟩)] 68 (0, 0))], [(b48, .cells #[.slice A95 l97.length c96] 71 (0, 0))], [(b42, .cells #[.pointer (some ⟨p11, 0, none⟩), .pointer (some ⟨p29, 0, none⟩)] 65 (0, 0))], [(p11, .cells #[.slice A105 l107.length c106] 108 (0, 0))], G167] at S537
                            have S538 := S537.front 4 rfl
                            change St _ _ _ [G93, G98, G103, G108, [(b54, .cells #[.slice A90 l92.length c91] 71 (0, 0))], [(p29, .cells #[.slice A100 l102.length c101] 108 (0, 0))], [(b147, .cells #[.bool b157, .bool b158, .bool b159, .int .i64 x160, .int .i64 x161, .int .i64 x162, .int .i64 x163, .slice A164 l166.length c165, .string (bs s169)] 74 (0, 0))], [(b60, .cells #[.pointer (some ⟨b48, 0, none⟩), .pointer (some ⟨b54, 0, none⟩)] 68 (0, 0))], [(b48, .cells #[.slice A95 l97.length c96] 71 (0, 0))], [(b42, .cells #[.pointer (some ⟨p11, 0, none⟩), .pointer (some ⟨p29, 0, none⟩)] 65 (0, 0))], [(p11, .cells #[.slice A105 l107.length c106] 108 (0, 0))], G167] at S538
                            have S539 := S538.front 10 rfl
                            change St _ _ _ [[(p11, .cells #[.slice A105 l107.length c106] 108 (0, 0))], G93, G98, G103, G108, [(b54, .cells #[.slice A90 l92.length c91] 71 (0, 0))], [(p29, .cells #[.slice A100 l102.length c101] 108 (0, 0))], [(b147, .cells #[.bool b157, .bool b158, .bool b159, .int .i64 x160, .int .i64 x161, .int .i64 x162, .int .i64 x163, .slice A164 l166.length c165, .string (bs s169)] 74 (0, 0))], [(b60, .cells #[.pointer (some ⟨b48, 0, none⟩), .pointer (some ⟨b54, 0, none⟩)] 68 (0, 0))], [(b48, .cells #[.slice A95 l97.length c96] 71 (0, 0))], [(b42, .cells #[.pointer (some ⟨p11, 0, none⟩), .pointer (some ⟨p29, 0, none⟩)] 65 (0, 0))], G167] at S539
                            have S540 := S539.front 6 rfl
                            change St _ _ _ [[(p29, .cells #[.slice A100 l102.length c101] 108 (0, 0))], [(p11, .cells #[.slice A105 l107.length c106] 108 (0, 0))], G93, G98, G103, G108, [(b54, .cells #[.slice A90 l92.length c91] 71 (0, 0))], [(b147, .cells #[.bool b157, .bool b158, .bool b159, .int .i64 x160, .int .i64 x161, .int .i64 x162, .int .i64 x163, .slice A164 l166.length c165, .string (bs s169)] 74 (0, 0))], [(b60, .cells #[.pointer (some ⟨b48, 0, none⟩), .pointer (some ⟨b54, 0, none⟩)] 68 (0, 0))], [(b48, .cells #[.slice A95 l97.length c96] 71 (0, 0))], [(b42, .cells #[.pointer (some ⟨p11, 0, none⟩), .pointer (some ⟨p29, 0, none⟩)] 65 (0, 0))], G167] at S540
                            have S541 := S540.front 10 rfl
                            change St _ _ _ [[(b42, .cells #[.pointer (some ⟨p11, 0, none⟩), .pointer (some ⟨p29, 0, none⟩)] 65 (0, 0))], [(p29, .cells #[.slice A100 l102.length c101] 108 (0, 0))], [(p11, .cells #[.slice A105 l107.length c106] 108 (0, 0))], G93, G98, G103, G108, [(b54, .cells #[.slice A90 l92.length c91] 71 (0, 0))], [(b147, .cells #[.bool b157, .bool b158, .bool b159, .int .i64 x160, .int .i64 x161, .int .i64 x162, .int .i64 x163, .slice A164 l166.length c165, .string (bs s169)] 74 (0, 0))], [(b60, .cells #[.pointer (some ⟨b48, 0, none⟩), .pointer (some ⟨b54, 0, none⟩)] 68 (0, 0))], [(b48, .cells #[.slice A95 l97.length c96] 71 (0, 0))], G167] at S541
                            have S542 := S541.front 10 rfl
                            change St _ _ _ [[(b48, .cells #[.slice A95 l97.length c96] 71 (0, 0))], [(b42, .cells #[.pointer (some ⟨p11, 0, none⟩), .pointer (some ⟨p29, 0, none⟩)] 65 (0, 0))], [(p29, .cells #[.slice A100 l102.length c101] 108 (0, 0))], [(p11, .cells #[.slice A105 l107.length c106] 108 (0, 0))], G93, G98, G103, G108, [(b54, .cells #[.slice A90 l92.length c91] 71 (0, 0))], [(b147, .cells #[.bool b157, .bool b158, .bool b159, .int .i64 x160, .int .i64 x161, .int .i64 x162, .int .i64 x163, .slice A164 l166.length c165, .string (bs s169)] 74 (0, 0))], [(b60, .cells #[.pointer (some ⟨b48, 0, none⟩), .pointer (some ⟨b54, 0, none⟩)] 68 (0, 0))], G167] at S542
                            have S543 := S542.front 8 rfl
                            change St _ _ _ [[(b54, .cells #[.slice A90 l92.length c91] 71 (0, 0))], [(b48, .cells #[.slice A95 l97.length c96] 71 (0, 0))], [(b42, .cells #[.pointer (some ⟨p11, 0, none⟩), .pointer (some ⟨p29, 0, none⟩)] 65 (0, 0))], [(p29, .cells #[.slice A100 l102.length c101] 108 (0, 0))], [(p11, .cells #[.slice A105 l107.length c106] 108 (0, 0))], G93, G98, G103, G108, [(b147, .cells #[.bool b157, .bool b158, .bool b159, .int .i64 x160, .int .i64 x161, .int .i64 x162, .int .i64 x163, .slice A164 l166.length c165, .string (bs s169)] 74 (0, 0))], [(b60, .cells #[.pointer (some ⟨b48, 0, none⟩), .pointer (some ⟨b54, 0, none⟩)] 68 (0, 0))], G167] at S543
                            have S544 := S543.front 10 rfl
                            change St _ _ _ [[(b60, .cells #[.pointer (some ⟨b48, 0, none⟩), .pointer (some ⟨b54, 0, none⟩)] 68 (0, 0))], [(b54, .cells #[.slice A90 l92.length c91] 71 (0, 0))], [(b48, .cells #[.slice A95 l97.length c96] 71 (0, 0))], [(b42, .cells #[.pointer (some ⟨p11, 0, none⟩), .pointer (some ⟨p29, 0, none⟩)] 65 (0, 0))], [(p29, .cells #[.slice A100 l102.length c101] 108 (0, 0))], [(p11, .cells #[.slice A105 l107.length c106] 108 (0, 0))], G93, G98, G103, G108, [(b147, .cells #[.bool b157, .bool b158, .bool b159, .int .i64 x160, .int .i64 x161, .int .i64 x162, .int .i64 x163, .slice A164 l166.length c165, .string (bs s169)] 74 (0, 0))], G167] at S544
                            have S545 := St.keep (As := [[(b60, .cells #[.pointer (some ⟨b48, 0, none⟩), .pointer (some ⟨b54, 0, none⟩)] 68 (0, 0))], [(b54, .cells #[.slice A90 l92.length c91] 71 (0, 0))], [(b48, .cells #[.slice A95 l97.length c96] 71 (0, 0))], [(b42, .cells #[.pointer (some ⟨p11, 0, none⟩), .pointer (some ⟨p29, 0, none⟩)] 65 (0, 0))], [(p29, .cells #[.slice A100 l102.length c101] 108 (0, 0))], [(p11, .cells #[.slice A105 l107.length c106] 108 (0, 0))], G93, G98, G103, G108]) S544
                            refine WEx.again _ _ (by omega) ?_ ⟨w64 (x89 + 1), A90, c91, l92, G93, A95, c96, l97, G98, A100, c101, l102, G103, A105, c106, l107, G108, rfl, hF, hO94, hO99, hO104, hO109, S545⟩
                            exact ⟨rfl, rfl, rfl, rfl, trivial⟩
                          ·
                            refine WCode.cond_t (kb (b := !(decide (t515.2 = t525.2))) rfl (show (!(decide (t515.2 = t525.2))) = true from by rw [(decide_eq_false h534)]; rfl)) ?_
                            refine WCode.seq ?_
                            refine WCode.region ?_
                            refine WOps.p (G.assign rfl) rfl ?_
                            refine WOps.nil ?_
                            refine WEx.then_ ?_
                            refine WCode.forget (l' := [(2, .bool false)]) ⟨rfl, trivial⟩ ?_
                            refine WCode.ret ?_
                            refine WEx.in_ret ?_
                            refine WEx.in_ret ?_
                            refine WEx.then_ret ?_
                            refine WEx.then_ret ?_
                            refine WEx.in_ret ?_
                            refine WEx.then_ret ?_
                            obtain rfl := some_eq hF
                            refine WEx.ret1 rfl rfl ?_
                            exact ⟨rfl, St.keep (As := []) S532⟩
                        ·
                          refine WOps.off rfl (kbl (b := !(decide (t515.1 = t525.1))) rfl (show (!(decide (t515.1 = t525.1))) = true from by rw [(decide_eq_false h533)]; rfl)) rfl rfl ?_
                          refine WOps.off rfl (kbl (b := !(decide (t515.1 = t525.1))) rfl (show (!(decide (t515.1 = t525.1))) = true from by rw [(decide_eq_false h533)]; rfl)) rfl rfl ?_
                          refine WOps.off rfl (kbl (b := !(decide (t515.1 = t525.1))) rfl (show (!(decide (t515.1 = t525.1))) = true from by rw [(decide_eq_false h533)]; rfl)) rfl rfl ?_
                          refine WOps.p (G.pick_t (kb (b := !(decide (t515.1 = t525.1))) rfl (show (!(decide (t515.1 = t525.1))) = true from by rw [(decide_eq_false h533)]; rfl)) rfl) rfl ?_
                          refine WOps.nil ?_
                          refine WEx.then_ ?_
                          refine WCode.cond_t rfl ?_
                          refine WCode.seq ?_
                          refine WCode.region ?_
                          refine WOps.p (G.assign rfl) rfl ?_
                          refine WOps.nil ?_
                          refine WEx.then_ ?_
                          refine WCode.forget (l' := [(2, .bool false)]) ⟨rfl, trivial⟩ ?_
                          refine WCode.ret ?_
                          refine WEx.in_ret ?_
                          refine WEx.in_ret ?_
                          refine WEx.then_ret ?_
                          refine WEx.then_ret ?_
                          refine WEx.in_ret ?_
                          refine WEx.then_ret ?_
                          obtain rfl := some_eq hF
                          refine WEx.ret1 rfl rfl ?_
                          exact ⟨rfl, St.keep (As := []) S532⟩
                      ·
                        exact nomatch (show (none : Option Bool) = some r_ from hF)
      ·
        refine WCode.cond_f (kb (b := decide (x89 < (a0.length : Int))) rfl (decide_eq_false h129)) ?_
        refine WCode.exit ?_
        refine WEx.then_exit ?_
        refine WEx.then_exit ?_
        refine WEx.in_exit ?_
        refine WEx.then_ ?_
        refine WCode.seq ?_
        refine WCode.region ?_
        refine WOps.p (G.assign rfl) rfl ?_
        refine WOps.nil ?_
        refine WEx.then_ ?_
        refine WCode.ret ?_
        obtain rfl := some_eq hF
        refine WEx.ret1 rfl rfl ?_
        exact ⟨rfl, St.keep (As := []) S111⟩

end Go.Proofs.Ytpdpfiaediadgaa
