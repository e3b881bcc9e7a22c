/- Functions and their walks (printed by auto.py over the engine). -/
import Derived.Test.YtoahkjehjmbojaaProg
import Derived.Test.YtoahkjehjmbojaaAB
namespace Go.Proofs.Ytoahkjehjmbojaa
open Go Go.Eng
set_option linter.unusedSimpArgs false
set_option linter.unusedVariables false

theorem T.call68 : Callable Try.prog 68 := Callable.mk Try.func68 (by kernel_rfl) (by kernel_rfl)
theorem T.call70 : Callable Try.prog 70 := Callable.mk Try.func70 (by kernel_rfl) (by kernel_rfl)
theorem T.call71 : Callable Try.prog 71 := Callable.mk Try.func71 (by kernel_rfl) (by kernel_rfl)
theorem T.call72 : Callable Try.prog 72 := Callable.mk Try.func72 (by kernel_rfl) (by kernel_rfl)
theorem T.call73 : Callable Try.prog 73 := Callable.mk Try.func73 (by kernel_rfl) (by kernel_rfl)
theorem T.call74 : Callable Try.prog 74 := Callable.mk Try.func74 (by kernel_rfl) (by kernel_rfl)
theorem T.fld39_0 : fldOff Try.prog 39 0 = some 0 := by kernel_rfl
theorem T.fld39_2 : fldOff Try.prog 39 2 = some 2 := by kernel_rfl



def y_step.j1 (q172 : Nat) (a0 : BookA) (t114 : Packet × Int × Air) (t143 : Packet × Int × Air135) (b169 : Bool) : Option (Bool × BookA × Air × Air135) := (some (b169, a0, t114.2.2, t143.2.2))
def y_step.j2 (q389 : Nat) (a0 : BookA) (a1 : Air) (a2 : Air135) (l341 : List (List Packet)) (l362 : List (List Packet)) (b386 : Bool) : Option (Bool × BookA × Air × Air135) := (some (b386, (⟨l341, l362, a0.lists, a0.grown, a0.whose⟩ : BookA), a1, a2))
def y_step.j3 (q440 : Nat) (a0 : BookA) (t414 : Int × Air) (b431 : Bool) (l434 : List Packet) (x437 : Int) : Option (Bool × BookA × Air × Air135) := (some (b431, a0, t414.2, (⟨l434, x437⟩ : Air135)))
def y_step.j4 (q553 : Nat) (a0 : BookA) (t495 : Packet × Int × Air) (t524 : Packet × Int × Air135) (b550 : Bool) : Option (Bool × BookA × Air × Air135) := (some (b550, a0, t495.2.2, t524.2.2))
def y_step (k : Nat) (a0 : BookA) (a1 : Air) (a2 : Air135) (a3 : Op) : Option (Bool × BookA × Air × Air135) := (if a3.Kind = 1 then (Option.bind (ya_Send k a1 a3.P) fun t62 => (Option.bind (yr_Send k a2 a3.P) fun t83 => (some (decide (t62.1 = t83.1), a0, t62.2, t83.2)))) else (if a3.Kind = 2 then (Option.bind (ya_Deliver k a1 a3.N) fun t114 => (Option.bind (yr_Deliver k a2 a3.N) fun t143 => (if t114.1 = t143.1 then (y_step.j1 k a0 t114 t143 (decide (t114.2.1 = t143.2.1))) else (y_step.j1 k a0 t114 t143 false)))) else (if a3.Kind = 3 then (Option.bind (ya_Drop k a1 a3.N) fun t193 => (Option.bind (yr_Drop k a2 a3.N) fun t213 => (some (decide (t193.1 = t213.1), a0, t193.2, t213.2)))) else (if a3.Kind = 4 then (Option.bind (ya_Double k a1 a3.N) fun t244 => (Option.bind (yr_Double k a2 a3.N) fun t264 => (some (decide (t244.1 = t264.1), a0, t244.2, t264.2)))) else (if a3.Kind = 5 then (Option.bind (ya_Flying k a1) fun t292 => (Option.bind (ya_Flying k a1) fun t303 => (Option.bind (yr_Flying k a2) fun t314 => (Option.bind (ysame k (t292) (t314)) fun t325 => (Option.bind (ysame k (t303) (t314)) fun t330 => (Option.bind (cat a0.free ([(t292), (t303)] : List (List Packet))) fun l341 => (Option.bind (catN 68719476736 a0.was ([(t314), (t314)] : List (List Packet))) fun l362 => (if t325 = true then (y_step.j2 k a0 a1 a2 l341 l362 t330) else (y_step.j2 k a0 a1 a2 l341 l362 false))))))))) else (if a3.Kind = 6 then (Option.bind (ya_Tick k a1) fun t414 => (Option.bind (yr_Tick k a2) fun t445 => (if t414.1 = t445.1 then (Option.bind (ya_Now k t414.2) fun t463 => (y_step.j3 k a0 t414 (decide (t463 = t414.1)) t445.2.L t445.2.Time)) else (y_step.j3 k a0 t414 false t445.2.L t445.2.Time)))) else (if a3.Kind = 7 then (Option.bind (ypick k a3.N 2) fun t487 => (Option.bind (ya_Deliver k a1 (w64 ((w64 ((a2.L.length : Int) - 1)) + t487))) fun t495 => (Option.bind (yr_Deliver k a2 (w64 ((w64 ((a2.L.length : Int) - 1)) + t487))) fun t524 => (if t495.1 = t524.1 then (y_step.j4 k a0 t495 t524 (decide (t495.2.1 = t524.2.1))) else (y_step.j4 k a0 t495 t524 false))))) else (Option.bind (ya_Now k a1) fun t570 => (Option.bind (yr_Now k a2) fun t577 => (some (decide (t570 = t577), a0, a1, a2)))))))))))
set_option maxRecDepth 100000 in
set_option maxHeartbeats 1000000 in
theorem y_step_calls (k : Nat) (a0 : BookA) {p0 : Nat} {G0 : Grp} (a1 : Air) {p1 : Nat} {G1 : Grp} (a2 : Air135) {p2 : Nat} {G2 : Grp} (a3 : Op) {w : World} (hO0 : ObjO 35 BookA.rp p0 a0 G0) (hO1 : ObjO 133 Air.rp p1 a1 G1) (hO2 : ObjO 135 Air135.rp p2 a2 G2) {r_ : Bool × BookA × Air × Air135} (h_ : y_step k a0 a1 a2 a3 = some r_) (hp_ : Hp w ([G0, G1, G2]).flatten) :
    Calls Try.prog 17 [.pointer (some ⟨p0, 0, none⟩), .pointer (some ⟨p1, 0, none⟩), .pointer (some ⟨p2, 0, none⟩), .agg #[.int .i64 a3.Kind, .int .i64 a3.On, .int .i64 a3.N, .int .i64 a3.Many, .int .i64 a3.P.From, .int .i64 a3.P.To, .string (bs a3.P.Data)]].toArray w fun e w' => ∃ Go0' : Grp, ∃ Go1' : Grp, ∃ Go2' : Grp, e = .returned (.bool r_.1) ∧ ObjO 35 BookA.rp p0 (r_.2.1) Go0' ∧ ObjO 133 Air.rp p1 (r_.2.2.1) Go1' ∧ ObjO 135 Air135.rp p2 (r_.2.2.2) Go2' ∧ St w (KS [G0, G1, G2]) w' [Go0', Go1', Go2'] := by
 have hF := h_
 clear h_
 unfold y_step at hF
 have S := St.initK [G0, G1, G2] hp_
 obtain ⟨cs4, G5, ho6, hg7⟩ := hO0
 obtain ⟨A8, c9, G10, A12, c13, G14, A16, c17, G18, A20, c21, G22, A24, c25, G26, rfl, hO11, hO15, hO19, hO23, hO27, hq28⟩ := ho6
 have S29 : St _ _ _ [[(p0, .cells #[.slice A8 a0.free.length c9, .slice A12 a0.was.length c13, .slice A16 a0.lists.length c17, .slice A20 a0.grown.length c21, .slice A24 a0.whose.length c25] 35 (0, 0))], G10, G14, G18, G22, G26, G1, G2] := S.objs (by rw [hg7, hq28]; simp)
 have S30 := S29.front 6 rfl
 change St _ _ _ [G1, [(p0, .cells #[.slice A8 a0.free.length c9, .slice A12 a0.was.length c13, .slice A16 a0.lists.length c17, .slice A20 a0.grown.length c21, .slice A24 a0.whose.length c25] 35 (0, 0))], G10, G14, G18, G22, G26, G2] at S30
 obtain ⟨cs31, G32, ho33, hg34⟩ := hO1
 obtain ⟨A35, c36, G37, rfl, hO38, hq39⟩ := ho33
 have S40 : St _ _ _ [[(p1, .cells #[.slice A35 a1.flying.length c36, .int .i64 a1.time] 133 (0, 0))], G37, [(p0, .cells #[.slice A8 a0.free.length c9, .slice A12 a0.was.length c13, .slice A16 a0.lists.length c17, .slice A20 a0.grown.length c21, .slice A24 a0.whose.length c25] 35 (0, 0))], G10, G14, G18, G22, G26, G2] := S30.objs (by rw [hg34, hq39]; simp)
 have S41 := S40.front 8 rfl
 change St _ _ _ [G2, [(p1, .cells #[.slice A35 a1.flying.length c36, .int .i64 a1.time] 133 (0, 0))], G37, [(p0, .cells #[.slice A8 a0.free.length c9, .slice A12 a0.was.length c13, .slice A16 a0.lists.length c17, .slice A20 a0.grown.length c21, .slice A24 a0.whose.length c25] 35 (0, 0))], G10, G14, G18, G22, G26] at S41
 obtain ⟨cs42, G43, ho44, hg45⟩ := hO2
 obtain ⟨A46, c47, G48, rfl, hO49, hq50⟩ := ho44
 have S51 : St _ _ _ [[(p2, .cells #[.slice A46 a2.L.length c47, .int .i64 a2.Time] 135 (0, 0))], G48, [(p1, .cells #[.slice A35 a1.flying.length c36, .int .i64 a1.time] 133 (0, 0))], G37, [(p0, .cells #[.slice A8 a0.free.length c9, .slice A12 a0.was.length c13, .slice A16 a0.lists.length c17, .slice A20 a0.grown.length c21, .slice A24 a0.whose.length c25] 35 (0, 0))], G10, G14, G18, G22, G26] := S41.objs (by rw [hg45, hq50]; simp)
 refine enter 180 [(0, .pointer (some ⟨p0, 0, none⟩)), (1, .pointer (some ⟨p1, 0, none⟩)), (2, .pointer (some ⟨p2, 0, none⟩)), (3, .agg #[.int .i64 a3.Kind, .int .i64 a3.On, .int .i64 a3.N, .int .i64 a3.Many, .int .i64 a3.P.From, .int .i64 a3.P.To, .string (bs a3.P.Data)])] Try.func17 rfl rfl rfl rfl ?_
 refine WCode.seq ?_
 refine WCode.region ?_
 obtain ⟨b52, w53, E54, S55, X56, L57⟩ := St.box S51 Try.prog 39 (.agg #[.int .i64 a3.Kind, .int .i64 a3.On, .int .i64 a3.N, .int .i64 a3.Many, .int .i64 a3.P.From, .int .i64 a3.P.To, .string (bs a3.P.Data)])
 change St _ _ _ [[(b52, .cells #[.int .i64 a3.Kind, .int .i64 a3.On, .int .i64 a3.N, .int .i64 a3.Many, .int .i64 a3.P.From, .int .i64 a3.P.To, .string (bs a3.P.Data)] 39 (0, 0))], [(p2, .cells #[.slice A46 a2.L.length c47, .int .i64 a2.Time] 135 (0, 0))], G48, [(p1, .cells #[.slice A35 a1.flying.length c36, .int .i64 a1.time] 133 (0, 0))], G37, [(p0, .cells #[.slice A8 a0.free.length c9, .slice A12 a0.was.length c13, .slice A16 a0.lists.length c17, .slice A20 a0.grown.length c21, .slice A24 a0.whose.length c25] 35 (0, 0))], G10, G14, G18, G22, G26] at S55
 refine WOps.e (E54 rfl) rfl ?_
 refine WOps.p (G.assign rfl) rfl ?_
 refine WOps.nil ?_
 refine WEx.then_ ?_
 refine WCode.seq ?_
 refine WCode.seq ?_
 refine WCode.region ?_
 refine WOps.p (G.field T.fld39_0 rfl (show 0 + 0 = 0 from rfl)) rfl ?_
 refine WOps.r (G.load1 T.one3 rfl (cell_blk (S55.blk 0 rfl) rfl)) rfl ?_
 refine WOps.nil ?_
 refine WEx.then_ ?_
 refine WCode.block ?_
 refine WCode.seq ?_
 refine WCode.region ?_
 refine WOps.p (G.eql rfl rfl rfl) rfl ?_
 refine WOps.p (G.assign rfl) rfl ?_
 refine WOps.nil ?_
 refine WEx.then_ ?_
 rcases ite_some hF with ⟨h58, hF⟩ | ⟨h58, hF⟩
 ·
  refine WCode.cond_t (kb (b := decide (a3.Kind = 1)) rfl (decide_eq_true h58)) ?_
  refine WCode.seq ?_
  refine WCode.region ?_
  refine WOps.p (G.move rfl) rfl ?_
  refine WOps.p (G.field T.fld39_4 rfl (show 0 + 4 = 4 from rfl)) rfl ?_
  refine WOps.r (G.loada T.agg37_3 rfl (cs := [.int .i64 a3.P.From, .int .i64 a3.P.To, .string (bs a3.P.Data)]) (cellsAt.of_blk (S55.blk 0 rfl) rfl)) rfl ?_
  have S59 := (S55.front 4 rfl).front 4 rfl
  change St _ _ _ [[(p1, .cells #[.slice A35 a1.flying.length c36, .int .i64 a1.time] 133 (0, 0))], G37, [(b52, .cells #[.int .i64 a3.Kind, .int .i64 a3.On, .int .i64 a3.N, .int .i64 a3.Many, .int .i64 a3.P.From, .int .i64 a3.P.To, .string (bs a3.P.Data)] 39 (0, 0))], [(p2, .cells #[.slice A46 a2.L.length c47, .int .i64 a2.Time] 135 (0, 0))], G48, [(p0, .cells #[.slice A8 a0.free.length c9, .slice A12 a0.was.length c13, .slice A16 a0.lists.length c17, .slice A20 a0.grown.length c21, .slice A24 a0.whose.length c25] 35 (0, 0))], G10, G14, G18, G22, G26] at S59
  have hO60 : ObjO 133 Air.rp p1 a1 ([(p1, .cells #[.slice A35 a1.flying.length c36, .int .i64 a1.time] 133 (0, 0))] ++ (G37)) := ⟨_, _, ⟨A35, c36, G37, rfl, hO38, rfl⟩, rfl⟩
  have S61 : St _ _ _ [[(p1, .cells #[.slice A35 a1.flying.length c36, .int .i64 a1.time] 133 (0, 0))] ++ (G37), [(b52, .cells #[.int .i64 a3.Kind, .int .i64 a3.On, .int .i64 a3.N, .int .i64 a3.Many, .int .i64 a3.P.From, .int .i64 a3.P.To, .string (bs a3.P.Data)] 39 (0, 0))], [(p2, .cells #[.slice A46 a2.L.length c47, .int .i64 a2.Time] 135 (0, 0))], G48, [(p0, .cells #[.slice A8 a0.free.length c9, .slice A12 a0.was.length c13, .slice A16 a0.lists.length c17, .slice A20 a0.grown.length c21, .slice A24 a0.whose.length c25] 35 (0, 0))], G10, G14, G18, G22, G26] := S59.objs (by simp)
  obtain ⟨t62, hc63, hF⟩ := bind_some hF
  refine WOps.call T.call22 (evs_cons rfl (evs_cons rfl evs_nil)) rfl ?_
  refine (ya_Send_calls k a1 a3.P hO60 hc63 (St.hpN (As := [[(p1, .cells #[.slice A35 a1.flying.length c36, .int .i64 a1.time] 133 (0, 0))] ++ (G37)]) S61)).mono ?_
  rintro _ w65 ⟨G68, rfl, hO69, T66⟩
  have S67 := St.callN (As := [[(p1, .cells #[.slice A35 a1.flying.length c36, .int .i64 a1.time] 133 (0, 0))] ++ (G37)]) S61 T66
  change St _ _ _ [G68, [(b52, .cells #[.int .i64 a3.Kind, .int .i64 a3.On, .int .i64 a3.N, .int .i64 a3.Many, .int .i64 a3.P.From, .int .i64 a3.P.To, .string (bs a3.P.Data)] 39 (0, 0))], [(p2, .cells #[.slice A46 a2.L.length c47, .int .i64 a2.Time] 135 (0, 0))], G48, [(p0, .cells #[.slice A8 a0.free.length c9, .slice A12 a0.was.length c13, .slice A16 a0.lists.length c17, .slice A20 a0.grown.length c21, .slice A24 a0.whose.length c25] 35 (0, 0))], G10, G14, G18, G22, G26] at S67
  refine ⟨_, rfl, ?_⟩
  obtain ⟨cs70, G71, ho72, hg73⟩ := hO69
  obtain ⟨A74, c75, G76, rfl, hO77, hq78⟩ := ho72
  have S79 : St _ _ _ [[(p1, .cells #[.slice A74 t62.2.flying.length c75, .int .i64 t62.2.time] 133 (0, 0))], G76, [(b52, .cells #[.int .i64 a3.Kind, .int .i64 a3.On, .int .i64 a3.N, .int .i64 a3.Many, .int .i64 a3.P.From, .int .i64 a3.P.To, .string (bs a3.P.Data)] 39 (0, 0))], [(p2, .cells #[.slice A46 a2.L.length c47, .int .i64 a2.Time] 135 (0, 0))], G48, [(p0, .cells #[.slice A8 a0.free.length c9, .slice A12 a0.was.length c13, .slice A16 a0.lists.length c17, .slice A20 a0.grown.length c21, .slice A24 a0.whose.length c25] 35 (0, 0))], G10, G14, G18, G22, G26] := S67.objs (by rw [hg73, hq78]; simp)
  refine WOps.p (G.assign rfl) rfl ?_
  refine WOps.nil ?_
  refine WEx.then_ ?_
  refine WCode.forget (l' := [(2, .pointer (some ⟨p2, 0, none⟩)), (7, .pointer (some ⟨b52, 0, none⟩)), (9, .int .i64 t62.1)]) ⟨rfl, rfl, rfl, trivial⟩ ?_
  refine WCode.seq ?_
  refine WCode.region ?_
  refine WOps.p (G.move rfl) rfl ?_
  refine WOps.p (G.move rfl) rfl ?_
  refine WOps.p (G.field T.fld39_4 rfl (show 0 + 4 = 4 from rfl)) rfl ?_
  refine WOps.r (G.loada T.agg37_3 rfl (cs := [.int .i64 a3.P.From, .int .i64 a3.P.To, .string (bs a3.P.Data)]) (cellsAt.of_blk (S79.blk 2 rfl) rfl)) rfl ?_
  have S80 := (S79.front 4 rfl).front 4 rfl
  change St _ _ _ [[(p2, .cells #[.slice A46 a2.L.length c47, .int .i64 a2.Time] 135 (0, 0))], G48, [(p1, .cells #[.slice A74 t62.2.flying.length c75, .int .i64 t62.2.time] 133 (0, 0))], G76, [(b52, .cells #[.int .i64 a3.Kind, .int .i64 a3.On, .int .i64 a3.N, .int .i64 a3.Many, .int .i64 a3.P.From, .int .i64 a3.P.To, .string (bs a3.P.Data)] 39 (0, 0))], [(p0, .cells #[.slice A8 a0.free.length c9, .slice A12 a0.was.length c13, .slice A16 a0.lists.length c17, .slice A20 a0.grown.length c21, .slice A24 a0.whose.length c25] 35 (0, 0))], G10, G14, G18, G22, G26] at S80
  have hO81 : ObjO 135 Air135.rp p2 a2 ([(p2, .cells #[.slice A46 a2.L.length c47, .int .i64 a2.Time] 135 (0, 0))] ++ (G48)) := ⟨_, _, ⟨A46, c47, G48, rfl, hO49, rfl⟩, rfl⟩
  have S82 : St _ _ _ [[(p2, .cells #[.slice A46 a2.L.length c47, .int .i64 a2.Time] 135 (0, 0))] ++ (G48), [(p1, .cells #[.slice A74 t62.2.flying.length c75, .int .i64 t62.2.time] 133 (0, 0))], G76, [(b52, .cells #[.int .i64 a3.Kind, .int .i64 a3.On, .int .i64 a3.N, .int .i64 a3.Many, .int .i64 a3.P.From, .int .i64 a3.P.To, .string (bs a3.P.Data)] 39 (0, 0))], [(p0, .cells #[.slice A8 a0.free.length c9, .slice A12 a0.was.length c13, .slice A16 a0.lists.length c17, .slice A20 a0.grown.length c21, .slice A24 a0.whose.length c25] 35 (0, 0))], G10, G14, G18, G22, G26] := S80.objs (by simp)
  obtain ⟨t83, hc84, hF⟩ := bind_some hF
  refine WOps.call T.call68 (evs_cons rfl (evs_cons rfl evs_nil)) rfl ?_
  refine (yr_Send_calls k a2 a3.P hO81 hc84 (St.hpN (As := [[(p2, .cells #[.slice A46 a2.L.length c47, .int .i64 a2.Time] 135 (0, 0))] ++ (G48)]) S82)).mono ?_
  rintro _ w85 ⟨G88, rfl, hO89, T86⟩
  have S87 := St.callN (As := [[(p2, .cells #[.slice A46 a2.L.length c47, .int .i64 a2.Time] 135 (0, 0))] ++ (G48)]) S82 T86
  change St _ _ _ [G88, [(p1, .cells #[.slice A74 t62.2.flying.length c75, .int .i64 t62.2.time] 133 (0, 0))], G76, [(b52, .cells #[.int .i64 a3.Kind, .int .i64 a3.On, .int .i64 a3.N, .int .i64 a3.Many, .int .i64 a3.P.From, .int .i64 a3.P.To, .string (bs a3.P.Data)] 39 (0, 0))], [(p0, .cells #[.slice A8 a0.free.length c9, .slice A12 a0.was.length c13, .slice A16 a0.lists.length c17, .slice A20 a0.grown.length c21, .slice A24 a0.whose.length c25] 35 (0, 0))], G10, G14, G18, G22, G26] at S87
  refine ⟨_, rfl, ?_⟩
  obtain ⟨cs90, G91, ho92, hg93⟩ := hO89
  obtain ⟨A94, c95, G96, rfl, hO97, hq98⟩ := ho92
  have S99 : St _ _ _ [[(p2, .cells #[.slice A94 t83.2.L.length c95, .int .i64 t83.2.Time] 135 (0, 0))], G96, [(p1, .cells #[.slice A74 t62.2.flying.length c75, .int .i64 t62.2.time] 133 (0, 0))], G76, [(b52, .cells #[.int .i64 a3.Kind, .int .i64 a3.On, .int .i64 a3.N, .int .i64 a3.Many, .int .i64 a3.P.From, .int .i64 a3.P.To, .string (bs a3.P.Data)] 39 (0, 0))], [(p0, .cells #[.slice A8 a0.free.length c9, .slice A12 a0.was.length c13, .slice A16 a0.lists.length c17, .slice A20 a0.grown.length c21, .slice A24 a0.whose.length c25] 35 (0, 0))], G10, G14, G18, G22, G26] := S87.objs (by rw [hg93, hq98]; simp)
  refine WOps.p (G.eql rfl rfl rfl) rfl ?_
  refine WOps.p (G.assign rfl) rfl ?_
  refine WOps.nil ?_
  refine WEx.then_ ?_
  refine WCode.ret ?_
  refine WEx.in_ret ?_
  refine WEx.then_ret ?_
  obtain rfl := some_eq hF
  refine WEx.ret1 rfl rfl ?_
  have S100 : St _ _ _ [[(p0, .cells #[.slice A8 a0.free.length c9, .slice A12 a0.was.length c13, .slice A16 a0.lists.length c17, .slice A20 a0.grown.length c21, .slice A24 a0.whose.length c25] 35 (0, 0))], G10, G14, G18, G22, G26, [(p2, .cells #[.slice A94 t83.2.L.length c95, .int .i64 t83.2.Time] 135 (0, 0))], G96, [(p1, .cells #[.slice A74 t62.2.flying.length c75, .int .i64 t62.2.time] 133 (0, 0))], G76, [(b52, .cells #[.int .i64 a3.Kind, .int .i64 a3.On, .int .i64 a3.N, .int .i64 a3.Many, .int .i64 a3.P.From, .int .i64 a3.P.To, .string (bs a3.P.Data)] 39 (0, 0))]] := St.reord S99 [5, 6, 7, 8, 9, 10, 0, 1, 2, 3, 4] 11 rfl (by decide) rfl
  have hO101 : ObjO 35 BookA.rp p0 a0 ([(p0, .cells #[.slice A8 a0.free.length c9, .slice A12 a0.was.length c13, .slice A16 a0.lists.length c17, .slice A20 a0.grown.length c21, .slice A24 a0.whose.length c25] 35 (0, 0))] ++ (G10 ++ (G14 ++ (G18 ++ (G22 ++ (G26)))))) := ⟨_, _, ⟨A8, c9, G10, A12, c13, G14, A16, c17, G18, A20, c21, G22, A24, c25, G26, rfl, hO11, hO15, hO19, hO23, hO27, rfl⟩, rfl⟩
  have S102 : St _ _ _ [[(p0, .cells #[.slice A8 a0.free.length c9, .slice A12 a0.was.length c13, .slice A16 a0.lists.length c17, .slice A20 a0.grown.length c21, .slice A24 a0.whose.length c25] 35 (0, 0))] ++ (G10 ++ (G14 ++ (G18 ++ (G22 ++ (G26))))), [(p2, .cells #[.slice A94 t83.2.L.length c95, .int .i64 t83.2.Time] 135 (0, 0))], G96, [(p1, .cells #[.slice A74 t62.2.flying.length c75, .int .i64 t62.2.time] 133 (0, 0))], G76, [(b52, .cells #[.int .i64 a3.Kind, .int .i64 a3.On, .int .i64 a3.N, .int .i64 a3.Many, .int .i64 a3.P.From, .int .i64 a3.P.To, .string (bs a3.P.Data)] 39 (0, 0))]] := S100.objs (by simp)
  have S103 := (S102.front 4 rfl).front 4 rfl
  change St _ _ _ [[(p1, .cells #[.slice A74 t62.2.flying.length c75, .int .i64 t62.2.time] 133 (0, 0))], G76, [(p0, .cells #[.slice A8 a0.free.length c9, .slice A12 a0.was.length c13, .slice A16 a0.lists.length c17, .slice A20 a0.grown.length c21, .slice A24 a0.whose.length c25] 35 (0, 0))] ++ (G10 ++ (G14 ++ (G18 ++ (G22 ++ (G26))))), [(p2, .cells #[.slice A94 t83.2.L.length c95, .int .i64 t83.2.Time] 135 (0, 0))], G96, [(b52, .cells #[.int .i64 a3.Kind, .int .i64 a3.On, .int .i64 a3.N, .int .i64 a3.Many, .int .i64 a3.P.From, .int .i64 a3.P.To, .string (bs a3.P.Data)] 39 (0, 0))]] at S103
  have hO104 : ObjO 133 Air.rp p1 t62.2 ([(p1, .cells #[.slice A74 t62.2.flying.length c75, .int .i64 t62.2.time] 133 (0, 0))] ++ (G76)) := ⟨_, _, ⟨A74, c75, G76, rfl, hO77, rfl⟩, rfl⟩
  have S105 : St _ _ _ [[(p1, .cells #[.slice A74 t62.2.flying.length c75, .int .i64 t62.2.time] 133 (0, 0))] ++ (G76), [(p0, .cells #[.slice A8 a0.free.length c9, .slice A12 a0.was.length c13, .slice A16 a0.lists.length c17, .slice A20 a0.grown.length c21, .slice A24 a0.whose.length c25] 35 (0, 0))] ++ (G10 ++ (G14 ++ (G18 ++ (G22 ++ (G26))))), [(p2, .cells #[.slice A94 t83.2.L.length c95, .int .i64 t83.2.Time] 135 (0, 0))], G96, [(b52, .cells #[.int .i64 a3.Kind, .int .i64 a3.On, .int .i64 a3.N, .int .i64 a3.Many, .int .i64 a3.P.From, .int .i64 a3.P.To, .string (bs a3.P.Data)] 39 (0, 0))]] := S103.objs (by simp)
  have S106 := (S105.front 3 rfl).front 3 rfl
  change St _ _ _ [[(p2, .cells #[.slice A94 t83.2.L.length c95, .int .i64 t83.2.Time] 135 (0, 0))], G96, [(p1, .cells #[.slice A74 t62.2.flying.length c75, .int .i64 t62.2.time] 133 (0, 0))] ++ (G76), [(p0, .cells #[.slice A8 a0.free.length c9, .slice A12 a0.was.length c13, .slice A16 a0.lists.length c17, .slice A20 a0.grown.length c21, .slice A24 a0.whose.length c25] 35 (0, 0))] ++ (G10 ++ (G14 ++ (G18 ++ (G22 ++ (G26))))), [(b52, .cells #[.int .i64 a3.Kind, .int .i64 a3.On, .int .i64 a3.N, .int .i64 a3.Many, .int .i64 a3.P.From, .int .i64 a3.P.To, .string (bs a3.P.Data)] 39 (0, 0))]] at S106
  have hO107 : ObjO 135 Air135.rp p2 t83.2 ([(p2, .cells #[.slice A94 t83.2.L.length c95, .int .i64 t83.2.Time] 135 (0, 0))] ++ (G96)) := ⟨_, _, ⟨A94, c95, G96, rfl, hO97, rfl⟩, rfl⟩
  have S108 : St _ _ _ [[(p2, .cells #[.slice A94 t83.2.L.length c95, .int .i64 t83.2.Time] 135 (0, 0))] ++ (G96), [(p1, .cells #[.slice A74 t62.2.flying.length c75, .int .i64 t62.2.time] 133 (0, 0))] ++ (G76), [(p0, .cells #[.slice A8 a0.free.length c9, .slice A12 a0.was.length c13, .slice A16 a0.lists.length c17, .slice A20 a0.grown.length c21, .slice A24 a0.whose.length c25] 35 (0, 0))] ++ (G10 ++ (G14 ++ (G18 ++ (G22 ++ (G26))))), [(b52, .cells #[.int .i64 a3.Kind, .int .i64 a3.On, .int .i64 a3.N, .int .i64 a3.Many, .int .i64 a3.P.From, .int .i64 a3.P.To, .string (bs a3.P.Data)] 39 (0, 0))]] := S106.objs (by simp)
  have S109 := (S108.front 1 rfl).front 2 rfl
  change St _ _ _ [[(p0, .cells #[.slice A8 a0.free.length c9, .slice A12 a0.was.length c13, .slice A16 a0.lists.length c17, .slice A20 a0.grown.length c21, .slice A24 a0.whose.length c25] 35 (0, 0))] ++ (G10 ++ (G14 ++ (G18 ++ (G22 ++ (G26))))), [(p1, .cells #[.slice A74 t62.2.flying.length c75, .int .i64 t62.2.time] 133 (0, 0))] ++ (G76), [(p2, .cells #[.slice A94 t83.2.L.length c95, .int .i64 t83.2.Time] 135 (0, 0))] ++ (G96), [(b52, .cells #[.int .i64 a3.Kind, .int .i64 a3.On, .int .i64 a3.N, .int .i64 a3.Many, .int .i64 a3.P.From, .int .i64 a3.P.To, .string (bs a3.P.Data)] 39 (0, 0))]] at S109
  exact ⟨[(p0, .cells #[.slice A8 a0.free.length c9, .slice A12 a0.was.length c13, .slice A16 a0.lists.length c17, .slice A20 a0.grown.length c21, .slice A24 a0.whose.length c25] 35 (0, 0))] ++ (G10 ++ (G14 ++ (G18 ++ (G22 ++ (G26))))), [(p1, .cells #[.slice A74 t62.2.flying.length c75, .int .i64 t62.2.time] 133 (0, 0))] ++ (G76), [(p2, .cells #[.slice A94 t83.2.L.length c95, .int .i64 t83.2.Time] 135 (0, 0))] ++ (G96), rfl, hO101, hO104, hO107, St.keep (As := [[(p0, .cells #[.slice A8 a0.free.length c9, .slice A12 a0.was.length c13, .slice A16 a0.lists.length c17, .slice A20 a0.grown.length c21, .slice A24 a0.whose.length c25] 35 (0, 0))] ++ (G10 ++ (G14 ++ (G18 ++ (G22 ++ (G26))))), [(p1, .cells #[.slice A74 t62.2.flying.length c75, .int .i64 t62.2.time] 133 (0, 0))] ++ (G76), [(p2, .cells #[.slice A94 t83.2.L.length c95, .int .i64 t83.2.Time] 135 (0, 0))] ++ (G96)]) S109⟩
 ·
  refine WCode.cond_f (kb (b := decide (a3.Kind = 1)) rfl (decide_eq_false h58)) ?_
  refine WCode.seq ?_
  refine WCode.region ?_
  refine WOps.p (G.eql rfl rfl rfl) rfl ?_
  refine WOps.p (G.assign rfl) rfl ?_
  refine WOps.nil ?_
  refine WEx.then_ ?_
  rcases ite_some hF with ⟨h110, hF⟩ | ⟨h110, hF⟩
  ·
   refine WCode.cond_t (kb (b := decide (a3.Kind = 2)) rfl (decide_eq_true h110)) ?_
   refine WCode.seq ?_
   refine WCode.region ?_
   refine WOps.p (G.move rfl) rfl ?_
   refine WOps.p (G.field T.fld39_2 rfl (show 0 + 2 = 2 from rfl)) rfl ?_
   refine WOps.r (G.load1 T.one3 rfl (cell_blk (S55.blk 0 rfl) rfl)) rfl ?_
   have S111 := (S55.front 4 rfl).front 4 rfl
   change St _ _ _ [[(p1, .cells #[.slice A35 a1.flying.length c36, .int .i64 a1.time] 133 (0, 0))], G37, [(b52, .cells #[.int .i64 a3.Kind, .int .i64 a3.On, .int .i64 a3.N, .int .i64 a3.Many, .int .i64 a3.P.From, .int .i64 a3.P.To, .string (bs a3.P.Data)] 39 (0, 0))], [(p2, .cells #[.slice A46 a2.L.length c47, .int .i64 a2.Time] 135 (0, 0))], G48, [(p0, .cells #[.slice A8 a0.free.length c9, .slice A12 a0.was.length c13, .slice A16 a0.lists.length c17, .slice A20 a0.grown.length c21, .slice A24 a0.whose.length c25] 35 (0, 0))], G10, G14, G18, G22, G26] at S111
   have hO112 : ObjO 133 Air.rp p1 a1 ([(p1, .cells #[.slice A35 a1.flying.length c36, .int .i64 a1.time] 133 (0, 0))] ++ (G37)) := ⟨_, _, ⟨A35, c36, G37, rfl, hO38, rfl⟩, rfl⟩
   have S113 : St _ _ _ [[(p1, .cells #[.slice A35 a1.flying.length c36, .int .i64 a1.time] 133 (0, 0))] ++ (G37), [(b52, .cells #[.int .i64 a3.Kind, .int .i64 a3.On, .int .i64 a3.N, .int .i64 a3.Many, .int .i64 a3.P.From, .int .i64 a3.P.To, .string (bs a3.P.Data)] 39 (0, 0))], [(p2, .cells #[.slice A46 a2.L.length c47, .int .i64 a2.Time] 135 (0, 0))], G48, [(p0, .cells #[.slice A8 a0.free.length c9, .slice A12 a0.was.length c13, .slice A16 a0.lists.length c17, .slice A20 a0.grown.length c21, .slice A24 a0.whose.length c25] 35 (0, 0))], G10, G14, G18, G22, G26] := S111.objs (by simp)
   obtain ⟨t114, hc115, hF⟩ := bind_some hF
   refine WOps.call T.call19 (evs_cons rfl (evs_cons rfl evs_nil)) rfl ?_
   refine (ya_Deliver_calls k a1 a3.N hO112 hc115 (St.hpN (As := [[(p1, .cells #[.slice A35 a1.flying.length c36, .int .i64 a1.time] 133 (0, 0))] ++ (G37)]) S113)).mono ?_
   rintro _ w116 ⟨G119, rfl, hO120, T117⟩
   have S118 := St.callN (As := [[(p1, .cells #[.slice A35 a1.flying.length c36, .int .i64 a1.time] 133 (0, 0))] ++ (G37)]) S113 T117
   change St _ _ _ [G119, [(b52, .cells #[.int .i64 a3.Kind, .int .i64 a3.On, .int .i64 a3.N, .int .i64 a3.Many, .int .i64 a3.P.From, .int .i64 a3.P.To, .string (bs a3.P.Data)] 39 (0, 0))], [(p2, .cells #[.slice A46 a2.L.length c47, .int .i64 a2.Time] 135 (0, 0))], G48, [(p0, .cells #[.slice A8 a0.free.length c9, .slice A12 a0.was.length c13, .slice A16 a0.lists.length c17, .slice A20 a0.grown.length c21, .slice A24 a0.whose.length c25] 35 (0, 0))], G10, G14, G18, G22, G26] at S118
   refine ⟨_, rfl, ?_⟩
   obtain ⟨cs121, G122, ho123, hg124⟩ := hO120
   obtain ⟨A125, c126, G127, rfl, hO128, hq129⟩ := ho123
   have S130 : St _ _ _ [[(p1, .cells #[.slice A125 t114.2.2.flying.length c126, .int .i64 t114.2.2.time] 133 (0, 0))], G127, [(b52, .cells #[.int .i64 a3.Kind, .int .i64 a3.On, .int .i64 a3.N, .int .i64 a3.Many, .int .i64 a3.P.From, .int .i64 a3.P.To, .string (bs a3.P.Data)] 39 (0, 0))], [(p2, .cells #[.slice A46 a2.L.length c47, .int .i64 a2.Time] 135 (0, 0))], G48, [(p0, .cells #[.slice A8 a0.free.length c9, .slice A12 a0.was.length c13, .slice A16 a0.lists.length c17, .slice A20 a0.grown.length c21, .slice A24 a0.whose.length c25] 35 (0, 0))], G10, G14, G18, G22, G26] := S118.objs (by rw [hg124, hq129]; simp)
   refine WOps.p (G.move rfl) rfl ?_
   refine WOps.p (G.extract rfl rfl) rfl ?_
   refine WOps.p (G.extract rfl rfl) rfl ?_
   obtain ⟨b131, w132, E133, S134, X135, L136⟩ := St.var S130 (z := .agg #[.int .i64 0, .int .i64 0, .string (bs ([] : List UInt8))]) T.zero37
   change St _ _ _ [[(b131, .cells #[.int .i64 0, .int .i64 0, .string (bs ([] : List UInt8))] 37 (0, 0))], [(p1, .cells #[.slice A125 t114.2.2.flying.length c126, .int .i64 t114.2.2.time] 133 (0, 0))], G127, [(b52, .cells #[.int .i64 a3.Kind, .int .i64 a3.On, .int .i64 a3.N, .int .i64 a3.Many, .int .i64 a3.P.From, .int .i64 a3.P.To, .string (bs a3.P.Data)] 39 (0, 0))], [(p2, .cells #[.slice A46 a2.L.length c47, .int .i64 a2.Time] 135 (0, 0))], G48, [(p0, .cells #[.slice A8 a0.free.length c9, .slice A12 a0.was.length c13, .slice A16 a0.lists.length c17, .slice A20 a0.grown.length c21, .slice A24 a0.whose.length c25] 35 (0, 0))], G10, G14, G18, G22, G26] at S134
   refine WOps.e E133 rfl ?_
   obtain ⟨w137, E138, S139⟩ := St.store (P := Try.prog) S134 0 37 (.agg #[.int .i64 t114.1.From, .int .i64 t114.1.To, .string (bs t114.1.Data)]) (off := 0) (cur' := #[.int .i64 t114.1.From, .int .i64 t114.1.To, .string (bs t114.1.Data)]) rfl T.size37_3 rfl rfl rfl
   change St _ _ _ [[(b131, .cells #[.int .i64 t114.1.From, .int .i64 t114.1.To, .string (bs t114.1.Data)] 37 (0, 0))], [(p1, .cells #[.slice A125 t114.2.2.flying.length c126, .int .i64 t114.2.2.time] 133 (0, 0))], G127, [(b52, .cells #[.int .i64 a3.Kind, .int .i64 a3.On, .int .i64 a3.N, .int .i64 a3.Many, .int .i64 a3.P.From, .int .i64 a3.P.To, .string (bs a3.P.Data)] 39 (0, 0))], [(p2, .cells #[.slice A46 a2.L.length c47, .int .i64 a2.Time] 135 (0, 0))], G48, [(p0, .cells #[.slice A8 a0.free.length c9, .slice A12 a0.was.length c13, .slice A16 a0.lists.length c17, .slice A20 a0.grown.length c21, .slice A24 a0.whose.length c25] 35 (0, 0))], G10, G14, G18, G22, G26] at S139
   refine WOps.u (E138 rfl rfl) ?_
   refine WOps.p (G.assign rfl) rfl ?_
   refine WOps.nil ?_
   refine WEx.then_ ?_
   refine WCode.forget (l' := [(2, .pointer (some ⟨p2, 0, none⟩)), (7, .pointer (some ⟨b52, 0, none⟩)), (10, .pointer (some ⟨b131, 0, none⟩)), (11, .int .i64 t114.2.1)]) ⟨rfl, rfl, rfl, rfl, trivial⟩ ?_
   refine WCode.seq ?_
   refine WCode.region ?_
   refine WOps.p (G.move rfl) rfl ?_
   refine WOps.p (G.field T.fld39_2 rfl (show 0 + 2 = 2 from rfl)) rfl ?_
   refine WOps.r (G.load1 T.one3 rfl (cell_blk (S139.blk 3 rfl) rfl)) rfl ?_
   have S140 := (S139.front 5 rfl).front 5 rfl
   change St _ _ _ [[(p2, .cells #[.slice A46 a2.L.length c47, .int .i64 a2.Time] 135 (0, 0))], G48, [(b131, .cells #[.int .i64 t114.1.From, .int .i64 t114.1.To, .string (bs t114.1.Data)] 37 (0, 0))], [(p1, .cells #[.slice A125 t114.2.2.flying.length c126, .int .i64 t114.2.2.time] 133 (0, 0))], G127, [(b52, .cells #[.int .i64 a3.Kind, .int .i64 a3.On, .int .i64 a3.N, .int .i64 a3.Many, .int .i64 a3.P.From, .int .i64 a3.P.To, .string (bs a3.P.Data)] 39 (0, 0))], [(p0, .cells #[.slice A8 a0.free.length c9, .slice A12 a0.was.length c13, .slice A16 a0.lists.length c17, .slice A20 a0.grown.length c21, .slice A24 a0.whose.length c25] 35 (0, 0))], G10, G14, G18, G22, G26] at S140
   have hO141 : ObjO 135 Air135.rp p2 a2 ([(p2, .cells #[.slice A46 a2.L.length c47, .int .i64 a2.Time] 135 (0, 0))] ++ (G48)) := ⟨_, _, ⟨A46, c47, G48, rfl, hO49, rfl⟩, rfl⟩
   have S142 : St _ _ _ [[(p2, .cells #[.slice A46 a2.L.length c47, .int .i64 a2.Time] 135 (0, 0))] ++ (G48), [(b131, .cells #[.int .i64 t114.1.From, .int .i64 t114.1.To, .string (bs t114.1.Data)] 37 (0, 0))], [(p1, .cells #[.slice A125 t114.2.2.flying.length c126, .int .i64 t114.2.2.time] 133 (0, 0))], G127, [(b52, .cells #[.int .i64 a3.Kind, .int .i64 a3.On, .int .i64 a3.N, .int .i64 a3.Many, .int .i64 a3.P.From, .int .i64 a3.P.To, .string (bs a3.P.Data)] 39 (0, 0))], [(p0, .cells #[.slice A8 a0.free.length c9, .slice A12 a0.was.length c13, .slice A16 a0.lists.length c17, .slice A20 a0.grown.length c21, .slice A24 a0.whose.length c25] 35 (0, 0))], G10, G14, G18, G22, G26] := S140.objs (by simp)
   obtain ⟨t143, hc144, hF⟩ := bind_some hF
   refine WOps.call T.call69 (evs_cons rfl (evs_cons rfl evs_nil)) rfl ?_
   refine (yr_Deliver_calls k a2 a3.N hO141 hc144 (St.hpN (As := [[(p2, .cells #[.slice A46 a2.L.length c47, .int .i64 a2.Time] 135 (0, 0))] ++ (G48)]) S142)).mono ?_
   rintro _ w145 ⟨G148, rfl, hO149, T146⟩
   have S147 := St.callN (As := [[(p2, .cells #[.slice A46 a2.L.length c47, .int .i64 a2.Time] 135 (0, 0))] ++ (G48)]) S142 T146
   change St _ _ _ [G148, [(b131, .cells #[.int .i64 t114.1.From, .int .i64 t114.1.To, .string (bs t114.1.Data)] 37 (0, 0))], [(p1, .cells #[.slice A125 t114.2.2.flying.length c126, .int .i64 t114.2.2.time] 133 (0, 0))], G127, [(b52, .cells #[.int .i64 a3.Kind, .int .i64 a3.On, .int .i64 a3.N, .int .i64 a3.Many, .int .i64 a3.P.From, .int .i64 a3.P.To, .string (bs a3.P.Data)] 39 (0, 0))], [(p0, .cells #[.slice A8 a0.free.length c9, .slice A12 a0.was.length c13, .slice A16 a0.lists.length c17, .slice A20 a0.grown.length c21, .slice A24 a0.whose.length c25] 35 (0, 0))], G10, G14, G18, G22, G26] at S147
   refine ⟨_, rfl, ?_⟩
   obtain ⟨cs150, G151, ho152, hg153⟩ := hO149
   obtain ⟨A154, c155, G156, rfl, hO157, hq158⟩ := ho152
   have S159 : St _ _ _ [[(p2, .cells #[.slice A154 t143.2.2.L.length c155, .int .i64 t143.2.2.Time] 135 (0, 0))], G156, [(b131, .cells #[.int .i64 t114.1.From, .int .i64 t114.1.To, .string (bs t114.1.Data)] 37 (0, 0))], [(p1, .cells #[.slice A125 t114.2.2.flying.length c126, .int .i64 t114.2.2.time] 133 (0, 0))], G127, [(b52, .cells #[.int .i64 a3.Kind, .int .i64 a3.On, .int .i64 a3.N, .int .i64 a3.Many, .int .i64 a3.P.From, .int .i64 a3.P.To, .string (bs a3.P.Data)] 39 (0, 0))], [(p0, .cells #[.slice A8 a0.free.length c9, .slice A12 a0.was.length c13, .slice A16 a0.lists.length c17, .slice A20 a0.grown.length c21, .slice A24 a0.whose.length c25] 35 (0, 0))], G10, G14, G18, G22, G26] := S147.objs (by rw [hg153, hq158]; simp)
   refine WOps.p (G.move rfl) rfl ?_
   refine WOps.p (G.extract rfl rfl) rfl ?_
   refine WOps.p (G.extract rfl rfl) rfl ?_
   obtain ⟨b160, w161, E162, S163, X164, L165⟩ := St.var S159 (z := .agg #[.int .i64 0, .int .i64 0, .string (bs ([] : List UInt8))]) T.zero37
   change St _ _ _ [[(b160, .cells #[.int .i64 0, .int .i64 0, .string (bs ([] : List UInt8))] 37 (0, 0))], [(p2, .cells #[.slice A154 t143.2.2.L.length c155, .int .i64 t143.2.2.Time] 135 (0, 0))], G156, [(b131, .cells #[.int .i64 t114.1.From, .int .i64 t114.1.To, .string (bs t114.1.Data)] 37 (0, 0))], [(p1, .cells #[.slice A125 t114.2.2.flying.length c126, .int .i64 t114.2.2.time] 133 (0, 0))], G127, [(b52, .cells #[.int .i64 a3.Kind, .int .i64 a3.On, .int .i64 a3.N, .int .i64 a3.Many, .int .i64 a3.P.From, .int .i64 a3.P.To, .string (bs a3.P.Data)] 39 (0, 0))], [(p0, .cells #[.slice A8 a0.free.length c9, .slice A12 a0.was.length c13, .slice A16 a0.lists.length c17, .slice A20 a0.grown.length c21, .slice A24 a0.whose.length c25] 35 (0, 0))], G10, G14, G18, G22, G26] at S163
   refine WOps.e E162 rfl ?_
   obtain ⟨w166, E167, S168⟩ := St.store (P := Try.prog) S163 0 37 (.agg #[.int .i64 t143.1.From, .int .i64 t143.1.To, .string (bs t143.1.Data)]) (off := 0) (cur' := #[.int .i64 t143.1.From, .int .i64 t143.1.To, .string (bs t143.1.Data)]) rfl T.size37_3 rfl rfl rfl
   change St _ _ _ [[(b160, .cells #[.int .i64 t143.1.From, .int .i64 t143.1.To, .string (bs t143.1.Data)] 37 (0, 0))], [(p2, .cells #[.slice A154 t143.2.2.L.length c155, .int .i64 t143.2.2.Time] 135 (0, 0))], G156, [(b131, .cells #[.int .i64 t114.1.From, .int .i64 t114.1.To, .string (bs t114.1.Data)] 37 (0, 0))], [(p1, .cells #[.slice A125 t114.2.2.flying.length c126, .int .i64 t114.2.2.time] 133 (0, 0))], G127, [(b52, .cells #[.int .i64 a3.Kind, .int .i64 a3.On, .int .i64 a3.N, .int .i64 a3.Many, .int .i64 a3.P.From, .int .i64 a3.P.To, .string (bs a3.P.Data)] 39 (0, 0))], [(p0, .cells #[.slice A8 a0.free.length c9, .slice A12 a0.was.length c13, .slice A16 a0.lists.length c17, .slice A20 a0.grown.length c21, .slice A24 a0.whose.length c25] 35 (0, 0))], G10, G14, G18, G22, G26] at S168
   refine WOps.u (E167 rfl rfl) ?_
   refine WOps.p (G.assign rfl) rfl ?_
   refine WOps.nil ?_
   refine WEx.then_ ?_
   refine WCode.cutseq (fun l_ w_ => ∃ q172 : Nat, ∃ b169 : Bool, l_ = [(8, .bool b169)] ∧ y_step.j1 q172 a0 t114 t143 b169 = some r_ ∧ St w (KS [G0, G1, G2]) w_ [[(p2, .cells #[.slice A154 t143.2.2.L.length c155, .int .i64 t143.2.2.Time] 135 (0, 0))], [(p1, .cells #[.slice A125 t114.2.2.flying.length c126, .int .i64 t114.2.2.time] 133 (0, 0))], [(p0, .cells #[.slice A8 a0.free.length c9, .slice A12 a0.was.length c13, .slice A16 a0.lists.length c17, .slice A20 a0.grown.length c21, .slice A24 a0.whose.length c25] 35 (0, 0))], G156, G127, G10, G14, G18, G22, G26]) ?_ ?_
   ·
    refine WCode.region ?_
    refine WOps.r (G.loada T.agg37_3 rfl (cs := [.int .i64 t114.1.From, .int .i64 t114.1.To, .string (bs t114.1.Data)]) (cellsAt.of_blk (S168.blk 3 rfl) rfl)) rfl ?_
    refine WOps.r (G.loada T.agg37_3 rfl (cs := [.int .i64 t143.1.From, .int .i64 t143.1.To, .string (bs t143.1.Data)]) (cellsAt.of_blk (S168.blk 0 rfl) rfl)) rfl ?_
    refine WOps.p (G.eqa rfl rfl (by kernel_rfl) (Packet.eqIn37 t114.1 t143.1) rfl) rfl ?_
    refine WOps.p (G.move rfl) rfl ?_
    rcases ite_some hF with ⟨h174, hF⟩ | ⟨h174, hF⟩
    ·
     refine WOps.on rfl (kbl (b := decide (t114.1 = t143.1)) rfl (decide_eq_true h174)) ?_
     refine WOps.p (G.move rfl) rfl ?_
     refine WOps.on rfl (kbl (b := decide (t114.1 = t143.1)) rfl (decide_eq_true h174)) ?_
     refine WOps.p (G.move rfl) rfl ?_
     refine WOps.on rfl (kbl (b := decide (t114.1 = t143.1)) rfl (decide_eq_true h174)) ?_
     refine WOps.p (G.eql rfl rfl rfl) rfl ?_
     refine WOps.p (G.pick_t (kb (b := decide (t114.1 = t143.1)) rfl (decide_eq_true h174)) rfl) rfl ?_
     refine WOps.p (G.assign rfl) rfl ?_
     refine WOps.nil ?_
     have S175 : St _ _ _ [[(p2, .cells #[.slice A154 t143.2.2.L.length c155, .int .i64 t143.2.2.Time] 135 (0, 0))], [(p1, .cells #[.slice A125 t114.2.2.flying.length c126, .int .i64 t114.2.2.time] 133 (0, 0))], [(p0, .cells #[.slice A8 a0.free.length c9, .slice A12 a0.was.length c13, .slice A16 a0.lists.length c17, .slice A20 a0.grown.length c21, .slice A24 a0.whose.length c25] 35 (0, 0))], G156, G127, G10, G14, G18, G22, G26, [(b160, .cells #[.int .i64 t143.1.From, .int .i64 t143.1.To, .string (bs t143.1.Data)] 37 (0, 0))], [(b131, .cells #[.int .i64 t114.1.From, .int .i64 t114.1.To, .string (bs t114.1.Data)] 37 (0, 0))], [(b52, .cells #[.int .i64 a3.Kind, .int .i64 a3.On, .int .i64 a3.N, .int .i64 a3.Many, .int .i64 a3.P.From, .int .i64 a3.P.To, .string (bs a3.P.Data)] 39 (0, 0))]] := St.reord S168 [1, 4, 7, 2, 5, 8, 9, 10, 11, 12, 0, 3, 6] 13 rfl (by decide) rfl
     have S176 := St.keep (As := [[(p2, .cells #[.slice A154 t143.2.2.L.length c155, .int .i64 t143.2.2.Time] 135 (0, 0))], [(p1, .cells #[.slice A125 t114.2.2.flying.length c126, .int .i64 t114.2.2.time] 133 (0, 0))], [(p0, .cells #[.slice A8 a0.free.length c9, .slice A12 a0.was.length c13, .slice A16 a0.lists.length c17, .slice A20 a0.grown.length c21, .slice A24 a0.whose.length c25] 35 (0, 0))], G156, G127, G10, G14, G18, G22, G26]) S175
     refine WEx.cutend _ ?_ ⟨k, decide (t114.2.1 = t143.2.1), rfl, hF, S176⟩
     exact ⟨rfl, trivial⟩
    ·
     refine WOps.off rfl (kbl (b := decide (t114.1 = t143.1)) rfl (decide_eq_false h174)) rfl rfl ?_
     refine WOps.off rfl (kbl (b := decide (t114.1 = t143.1)) rfl (decide_eq_false h174)) rfl rfl ?_
     refine WOps.off rfl (kbl (b := decide (t114.1 = t143.1)) rfl (decide_eq_false h174)) rfl rfl ?_
     refine WOps.p (G.pick_f (kb (b := decide (t114.1 = t143.1)) rfl (decide_eq_false h174)) rfl) rfl ?_
     refine WOps.p (G.assign rfl) rfl ?_
     refine WOps.nil ?_
     have S177 : St _ _ _ [[(p2, .cells #[.slice A154 t143.2.2.L.length c155, .int .i64 t143.2.2.Time] 135 (0, 0))], [(p1, .cells #[.slice A125 t114.2.2.flying.length c126, .int .i64 t114.2.2.time] 133 (0, 0))], [(p0, .cells #[.slice A8 a0.free.length c9, .slice A12 a0.was.length c13, .slice A16 a0.lists.length c17, .slice A20 a0.grown.length c21, .slice A24 a0.whose.length c25] 35 (0, 0))], G156, G127, G10, G14, G18, G22, G26, [(b160, .cells #[.int .i64 t143.1.From, .int .i64 t143.1.To, .string (bs t143.1.Data)] 37 (0, 0))], [(b131, .cells #[.int .i64 t114.1.From, .int .i64 t114.1.To, .string (bs t114.1.Data)] 37 (0, 0))], [(b52, .cells #[.int .i64 a3.Kind, .int .i64 a3.On, .int .i64 a3.N, .int .i64 a3.Many, .int .i64 a3.P.From, .int .i64 a3.P.To, .string (bs a3.P.Data)] 39 (0, 0))]] := St.reord S168 [1, 4, 7, 2, 5, 8, 9, 10, 11, 12, 0, 3, 6] 13 rfl (by decide) rfl
     have S178 := St.keep (As := [[(p2, .cells #[.slice A154 t143.2.2.L.length c155, .int .i64 t143.2.2.Time] 135 (0, 0))], [(p1, .cells #[.slice A125 t114.2.2.flying.length c126, .int .i64 t114.2.2.time] 133 (0, 0))], [(p0, .cells #[.slice A8 a0.free.length c9, .slice A12 a0.was.length c13, .slice A16 a0.lists.length c17, .slice A20 a0.grown.length c21, .slice A24 a0.whose.length c25] 35 (0, 0))], G156, G127, G10, G14, G18, G22, G26]) S177
     refine WEx.cutend _ ?_ ⟨k, false, rfl, hF, S178⟩
     exact ⟨rfl, trivial⟩
   ·
    rintro _ w170 ⟨q172, b169, rfl, hF, S171⟩
    unfold y_step.j1 at hF
    refine WCode.ret ?_
    refine WEx.in_ret ?_
    refine WEx.then_ret ?_
    obtain rfl := some_eq hF
    refine WEx.ret1 rfl rfl ?_
    have S179 : St _ _ _ [[(p0, .cells #[.slice A8 a0.free.length c9, .slice A12 a0.was.length c13, .slice A16 a0.lists.length c17, .slice A20 a0.grown.length c21, .slice A24 a0.whose.length c25] 35 (0, 0))], G10, G14, G18, G22, G26, [(p2, .cells #[.slice A154 t143.2.2.L.length c155, .int .i64 t143.2.2.Time] 135 (0, 0))], [(p1, .cells #[.slice A125 t114.2.2.flying.length c126, .int .i64 t114.2.2.time] 133 (0, 0))], G156, G127] := St.reord S171 [2, 5, 6, 7, 8, 9, 0, 1, 3, 4] 10 rfl (by decide) rfl
    have hO180 : ObjO 35 BookA.rp p0 a0 ([(p0, .cells #[.slice A8 a0.free.length c9, .slice A12 a0.was.length c13, .slice A16 a0.lists.length c17, .slice A20 a0.grown.length c21, .slice A24 a0.whose.length c25] 35 (0, 0))] ++ (G10 ++ (G14 ++ (G18 ++ (G22 ++ (G26)))))) := ⟨_, _, ⟨A8, c9, G10, A12, c13, G14, A16, c17, G18, A20, c21, G22, A24, c25, G26, rfl, hO11, hO15, hO19, hO23, hO27, rfl⟩, rfl⟩
    have S181 : St _ _ _ [[(p0, .cells #[.slice A8 a0.free.length c9, .slice A12 a0.was.length c13, .slice A16 a0.lists.length c17, .slice A20 a0.grown.length c21, .slice A24 a0.whose.length c25] 35 (0, 0))] ++ (G10 ++ (G14 ++ (G18 ++ (G22 ++ (G26))))), [(p2, .cells #[.slice A154 t143.2.2.L.length c155, .int .i64 t143.2.2.Time] 135 (0, 0))], [(p1, .cells #[.slice A125 t114.2.2.flying.length c126, .int .i64 t114.2.2.time] 133 (0, 0))], G156, G127] := S179.objs (by simp)
    have S182 := (S181.front 4 rfl).front 3 rfl
    change St _ _ _ [[(p1, .cells #[.slice A125 t114.2.2.flying.length c126, .int .i64 t114.2.2.time] 133 (0, 0))], G127, [(p0, .cells #[.slice A8 a0.free.length c9, .slice A12 a0.was.length c13, .slice A16 a0.lists.length c17, .slice A20 a0.grown.length c21, .slice A24 a0.whose.length c25] 35 (0, 0))] ++ (G10 ++ (G14 ++ (G18 ++ (G22 ++ (G26))))), [(p2, .cells #[.slice A154 t143.2.2.L.length c155, .int .i64 t143.2.2.Time] 135 (0, 0))], G156] at S182
    have hO183 : ObjO 133 Air.rp p1 t114.2.2 ([(p1, .cells #[.slice A125 t114.2.2.flying.length c126, .int .i64 t114.2.2.time] 133 (0, 0))] ++ (G127)) := ⟨_, _, ⟨A125, c126, G127, rfl, hO128, rfl⟩, rfl⟩
    have S184 : St _ _ _ [[(p1, .cells #[.slice A125 t114.2.2.flying.length c126, .int .i64 t114.2.2.time] 133 (0, 0))] ++ (G127), [(p0, .cells #[.slice A8 a0.free.length c9, .slice A12 a0.was.length c13, .slice A16 a0.lists.length c17, .slice A20 a0.grown.length c21, .slice A24 a0.whose.length c25] 35 (0, 0))] ++ (G10 ++ (G14 ++ (G18 ++ (G22 ++ (G26))))), [(p2, .cells #[.slice A154 t143.2.2.L.length c155, .int .i64 t143.2.2.Time] 135 (0, 0))], G156] := S182.objs (by simp)
    have S185 := (S184.front 3 rfl).front 3 rfl
    change St _ _ _ [[(p2, .cells #[.slice A154 t143.2.2.L.length c155, .int .i64 t143.2.2.Time] 135 (0, 0))], G156, [(p1, .cells #[.slice A125 t114.2.2.flying.length c126, .int .i64 t114.2.2.time] 133 (0, 0))] ++ (G127), [(p0, .cells #[.slice A8 a0.free.length c9, .slice A12 a0.was.length c13, .slice A16 a0.lists.length c17, .slice A20 a0.grown.length c21, .slice A24 a0.whose.length c25] 35 (0, 0))] ++ (G10 ++ (G14 ++ (G18 ++ (G22 ++ (G26)))))] at S185
    have hO186 : ObjO 135 Air135.rp p2 t143.2.2 ([(p2, .cells #[.slice A154 t143.2.2.L.length c155, .int .i64 t143.2.2.Time] 135 (0, 0))] ++ (G156)) := ⟨_, _, ⟨A154, c155, G156, rfl, hO157, rfl⟩, rfl⟩
    have S187 : St _ _ _ [[(p2, .cells #[.slice A154 t143.2.2.L.length c155, .int .i64 t143.2.2.Time] 135 (0, 0))] ++ (G156), [(p1, .cells #[.slice A125 t114.2.2.flying.length c126, .int .i64 t114.2.2.time] 133 (0, 0))] ++ (G127), [(p0, .cells #[.slice A8 a0.free.length c9, .slice A12 a0.was.length c13, .slice A16 a0.lists.length c17, .slice A20 a0.grown.length c21, .slice A24 a0.whose.length c25] 35 (0, 0))] ++ (G10 ++ (G14 ++ (G18 ++ (G22 ++ (G26)))))] := S185.objs (by simp)
    have S188 := (S187.front 1 rfl).front 2 rfl
    change St _ _ _ [[(p0, .cells #[.slice A8 a0.free.length c9, .slice A12 a0.was.length c13, .slice A16 a0.lists.length c17, .slice A20 a0.grown.length c21, .slice A24 a0.whose.length c25] 35 (0, 0))] ++ (G10 ++ (G14 ++ (G18 ++ (G22 ++ (G26))))), [(p1, .cells #[.slice A125 t114.2.2.flying.length c126, .int .i64 t114.2.2.time] 133 (0, 0))] ++ (G127), [(p2, .cells #[.slice A154 t143.2.2.L.length c155, .int .i64 t143.2.2.Time] 135 (0, 0))] ++ (G156)] at S188
    exact ⟨[(p0, .cells #[.slice A8 a0.free.length c9, .slice A12 a0.was.length c13, .slice A16 a0.lists.length c17, .slice A20 a0.grown.length c21, .slice A24 a0.whose.length c25] 35 (0, 0))] ++ (G10 ++ (G14 ++ (G18 ++ (G22 ++ (G26))))), [(p1, .cells #[.slice A125 t114.2.2.flying.length c126, .int .i64 t114.2.2.time] 133 (0, 0))] ++ (G127), [(p2, .cells #[.slice A154 t143.2.2.L.length c155, .int .i64 t143.2.2.Time] 135 (0, 0))] ++ (G156), rfl, hO180, hO183, hO186, St.keep (As := [[(p0, .cells #[.slice A8 a0.free.length c9, .slice A12 a0.was.length c13, .slice A16 a0.lists.length c17, .slice A20 a0.grown.length c21, .slice A24 a0.whose.length c25] 35 (0, 0))] ++ (G10 ++ (G14 ++ (G18 ++ (G22 ++ (G26))))), [(p1, .cells #[.slice A125 t114.2.2.flying.length c126, .int .i64 t114.2.2.time] 133 (0, 0))] ++ (G127), [(p2, .cells #[.slice A154 t143.2.2.L.length c155, .int .i64 t143.2.2.Time] 135 (0, 0))] ++ (G156)]) S188⟩
  ·
   refine WCode.cond_f (kb (b := decide (a3.Kind = 2)) rfl (decide_eq_false h110)) ?_
   refine WCode.seq ?_
   refine WCode.region ?_
   refine WOps.p (G.eql rfl rfl rfl) rfl ?_
   refine WOps.p (G.assign rfl) rfl ?_
   refine WOps.nil ?_
   refine WEx.then_ ?_
   rcases ite_some hF with ⟨h189, hF⟩ | ⟨h189, hF⟩
   ·
    refine WCode.cond_t (kb (b := decide (a3.Kind = 3)) rfl (decide_eq_true h189)) ?_
    refine WCode.seq ?_
    refine WCode.region ?_
    refine WOps.p (G.move rfl) rfl ?_
    refine WOps.p (G.field T.fld39_2 rfl (show 0 + 2 = 2 from rfl)) rfl ?_
    refine WOps.r (G.load1 T.one3 rfl (cell_blk (S55.blk 0 rfl) rfl)) rfl ?_
    have S190 := (S55.front 4 rfl).front 4 rfl
    change St _ _ _ [[(p1, .cells #[.slice A35 a1.flying.length c36, .int .i64 a1.time] 133 (0, 0))], G37, [(b52, .cells #[.int .i64 a3.Kind, .int .i64 a3.On, .int .i64 a3.N, .int .i64 a3.Many, .int .i64 a3.P.From, .int .i64 a3.P.To, .string (bs a3.P.Data)] 39 (0, 0))], [(p2, .cells #[.slice A46 a2.L.length c47, .int .i64 a2.Time] 135 (0, 0))], G48, [(p0, .cells #[.slice A8 a0.free.length c9, .slice A12 a0.was.length c13, .slice A16 a0.lists.length c17, .slice A20 a0.grown.length c21, .slice A24 a0.whose.length c25] 35 (0, 0))], G10, G14, G18, G22, G26] at S190
    have hO191 : ObjO 133 Air.rp p1 a1 ([(p1, .cells #[.slice A35 a1.flying.length c36, .int .i64 a1.time] 133 (0, 0))] ++ (G37)) := ⟨_, _, ⟨A35, c36, G37, rfl, hO38, rfl⟩, rfl⟩
    have S192 : St _ _ _ [[(p1, .cells #[.slice A35 a1.flying.length c36, .int .i64 a1.time] 133 (0, 0))] ++ (G37), [(b52, .cells #[.int .i64 a3.Kind, .int .i64 a3.On, .int .i64 a3.N, .int .i64 a3.Many, .int .i64 a3.P.From, .int .i64 a3.P.To, .string (bs a3.P.Data)] 39 (0, 0))], [(p2, .cells #[.slice A46 a2.L.length c47, .int .i64 a2.Time] 135 (0, 0))], G48, [(p0, .cells #[.slice A8 a0.free.length c9, .slice A12 a0.was.length c13, .slice A16 a0.lists.length c17, .slice A20 a0.grown.length c21, .slice A24 a0.whose.length c25] 35 (0, 0))], G10, G14, G18, G22, G26] := S190.objs (by simp)
    obtain ⟨t193, hc194, hF⟩ := bind_some hF
    refine WOps.call T.call20 (evs_cons rfl (evs_cons rfl evs_nil)) rfl ?_
    refine (ya_Drop_calls k a1 a3.N hO191 hc194 (St.hpN (As := [[(p1, .cells #[.slice A35 a1.flying.length c36, .int .i64 a1.time] 133 (0, 0))] ++ (G37)]) S192)).mono ?_
    rintro _ w195 ⟨G198, rfl, hO199, T196⟩
    have S197 := St.callN (As := [[(p1, .cells #[.slice A35 a1.flying.length c36, .int .i64 a1.time] 133 (0, 0))] ++ (G37)]) S192 T196
    change St _ _ _ [G198, [(b52, .cells #[.int .i64 a3.Kind, .int .i64 a3.On, .int .i64 a3.N, .int .i64 a3.Many, .int .i64 a3.P.From, .int .i64 a3.P.To, .string (bs a3.P.Data)] 39 (0, 0))], [(p2, .cells #[.slice A46 a2.L.length c47, .int .i64 a2.Time] 135 (0, 0))], G48, [(p0, .cells #[.slice A8 a0.free.length c9, .slice A12 a0.was.length c13, .slice A16 a0.lists.length c17, .slice A20 a0.grown.length c21, .slice A24 a0.whose.length c25] 35 (0, 0))], G10, G14, G18, G22, G26] at S197
    refine ⟨_, rfl, ?_⟩
    obtain ⟨cs200, G201, ho202, hg203⟩ := hO199
    obtain ⟨A204, c205, G206, rfl, hO207, hq208⟩ := ho202
    have S209 : St _ _ _ [[(p1, .cells #[.slice A204 t193.2.flying.length c205, .int .i64 t193.2.time] 133 (0, 0))], G206, [(b52, .cells #[.int .i64 a3.Kind, .int .i64 a3.On, .int .i64 a3.N, .int .i64 a3.Many, .int .i64 a3.P.From, .int .i64 a3.P.To, .string (bs a3.P.Data)] 39 (0, 0))], [(p2, .cells #[.slice A46 a2.L.length c47, .int .i64 a2.Time] 135 (0, 0))], G48, [(p0, .cells #[.slice A8 a0.free.length c9, .slice A12 a0.was.length c13, .slice A16 a0.lists.length c17, .slice A20 a0.grown.length c21, .slice A24 a0.whose.length c25] 35 (0, 0))], G10, G14, G18, G22, G26] := S197.objs (by rw [hg203, hq208]; simp)
    refine WOps.p (G.assign rfl) rfl ?_
    refine WOps.nil ?_
    refine WEx.then_ ?_
    refine WCode.forget (l' := [(2, .pointer (some ⟨p2, 0, none⟩)), (7, .pointer (some ⟨b52, 0, none⟩)), (14, .int .i64 t193.1)]) ⟨rfl, rfl, rfl, trivial⟩ ?_
    refine WCode.seq ?_
    refine WCode.region ?_
    refine WOps.p (G.move rfl) rfl ?_
    refine WOps.p (G.move rfl) rfl ?_
    refine WOps.p (G.field T.fld39_2 rfl (show 0 + 2 = 2 from rfl)) rfl ?_
    refine WOps.r (G.load1 T.one3 rfl (cell_blk (S209.blk 2 rfl) rfl)) rfl ?_
    have S210 := (S209.front 4 rfl).front 4 rfl
    change St _ _ _ [[(p2, .cells #[.slice A46 a2.L.length c47, .int .i64 a2.Time] 135 (0, 0))], G48, [(p1, .cells #[.slice A204 t193.2.flying.length c205, .int .i64 t193.2.time] 133 (0, 0))], G206, [(b52, .cells #[.int .i64 a3.Kind, .int .i64 a3.On, .int .i64 a3.N, .int .i64 a3.Many, .int .i64 a3.P.From, .int .i64 a3.P.To, .string (bs a3.P.Data)] 39 (0, 0))], [(p0, .cells #[.slice A8 a0.free.length c9, .slice A12 a0.was.length c13, .slice A16 a0.lists.length c17, .slice A20 a0.grown.length c21, .slice A24 a0.whose.length c25] 35 (0, 0))], G10, G14, G18, G22, G26] at S210
    have hO211 : ObjO 135 Air135.rp p2 a2 ([(p2, .cells #[.slice A46 a2.L.length c47, .int .i64 a2.Time] 135 (0, 0))] ++ (G48)) := ⟨_, _, ⟨A46, c47, G48, rfl, hO49, rfl⟩, rfl⟩
    have S212 : St _ _ _ [[(p2, .cells #[.slice A46 a2.L.length c47, .int .i64 a2.Time] 135 (0, 0))] ++ (G48), [(p1, .cells #[.slice A204 t193.2.flying.length c205, .int .i64 t193.2.time] 133 (0, 0))], G206, [(b52, .cells #[.int .i64 a3.Kind, .int .i64 a3.On, .int .i64 a3.N, .int .i64 a3.Many, .int .i64 a3.P.From, .int .i64 a3.P.To, .string (bs a3.P.Data)] 39 (0, 0))], [(p0, .cells #[.slice A8 a0.free.length c9, .slice A12 a0.was.length c13, .slice A16 a0.lists.length c17, .slice A20 a0.grown.length c21, .slice A24 a0.whose.length c25] 35 (0, 0))], G10, G14, G18, G22, G26] := S210.objs (by simp)
    obtain ⟨t213, hc214, hF⟩ := bind_some hF
    refine WOps.call T.call70 (evs_cons rfl (evs_cons rfl evs_nil)) rfl ?_
    refine (yr_Drop_calls k a2 a3.N hO211 hc214 (St.hpN (As := [[(p2, .cells #[.slice A46 a2.L.length c47, .int .i64 a2.Time] 135 (0, 0))] ++ (G48)]) S212)).mono ?_
    rintro _ w215 ⟨G218, rfl, hO219, T216⟩
    have S217 := St.callN (As := [[(p2, .cells #[.slice A46 a2.L.length c47, .int .i64 a2.Time] 135 (0, 0))] ++ (G48)]) S212 T216
    change St _ _ _ [G218, [(p1, .cells #[.slice A204 t193.2.flying.length c205, .int .i64 t193.2.time] 133 (0, 0))], G206, [(b52, .cells #[.int .i64 a3.Kind, .int .i64 a3.On, .int .i64 a3.N, .int .i64 a3.Many, .int .i64 a3.P.From, .int .i64 a3.P.To, .string (bs a3.P.Data)] 39 (0, 0))], [(p0, .cells #[.slice A8 a0.free.length c9, .slice A12 a0.was.length c13, .slice A16 a0.lists.length c17, .slice A20 a0.grown.length c21, .slice A24 a0.whose.length c25] 35 (0, 0))], G10, G14, G18, G22, G26] at S217
    refine ⟨_, rfl, ?_⟩
    obtain ⟨cs220, G221, ho222, hg223⟩ := hO219
    obtain ⟨A224, c225, G226, rfl, hO227, hq228⟩ := ho222
    have S229 : St _ _ _ [[(p2, .cells #[.slice A224 t213.2.L.length c225, .int .i64 t213.2.Time] 135 (0, 0))], G226, [(p1, .cells #[.slice A204 t193.2.flying.length c205, .int .i64 t193.2.time] 133 (0, 0))], G206, [(b52, .cells #[.int .i64 a3.Kind, .int .i64 a3.On, .int .i64 a3.N, .int .i64 a3.Many, .int .i64 a3.P.From, .int .i64 a3.P.To, .string (bs a3.P.Data)] 39 (0, 0))], [(p0, .cells #[.slice A8 a0.free.length c9, .slice A12 a0.was.length c13, .slice A16 a0.lists.length c17, .slice A20 a0.grown.length c21, .slice A24 a0.whose.length c25] 35 (0, 0))], G10, G14, G18, G22, G26] := S217.objs (by rw [hg223, hq228]; simp)
    refine WOps.p (G.eql rfl rfl rfl) rfl ?_
    refine WOps.p (G.assign rfl) rfl ?_
    refine WOps.nil ?_
    refine WEx.then_ ?_
    refine WCode.ret ?_
    refine WEx.in_ret ?_
    refine WEx.then_ret ?_
    obtain rfl := some_eq hF
    refine WEx.ret1 rfl rfl ?_
    have S230 : St _ _ _ [[(p0, .cells #[.slice A8 a0.free.length c9, .slice A12 a0.was.length c13, .slice A16 a0.lists.length c17, .slice A20 a0.grown.length c21, .slice A24 a0.whose.length c25] 35 (0, 0))], G10, G14, G18, G22, G26, [(p2, .cells #[.slice A224 t213.2.L.length c225, .int .i64 t213.2.Time] 135 (0, 0))], G226, [(p1, .cells #[.slice A204 t193.2.flying.length c205, .int .i64 t193.2.time] 133 (0, 0))], G206, [(b52, .cells #[.int .i64 a3.Kind, .int .i64 a3.On, .int .i64 a3.N, .int .i64 a3.Many, .int .i64 a3.P.From, .int .i64 a3.P.To, .string (bs a3.P.Data)] 39 (0, 0))]] := St.reord S229 [5, 6, 7, 8, 9, 10, 0, 1, 2, 3, 4] 11 rfl (by decide) rfl
    have hO231 : ObjO 35 BookA.rp p0 a0 ([(p0, .cells #[.slice A8 a0.free.length c9, .slice A12 a0.was.length c13, .slice A16 a0.lists.length c17, .slice A20 a0.grown.length c21, .slice A24 a0.whose.length c25] 35 (0, 0))] ++ (G10 ++ (G14 ++ (G18 ++ (G22 ++ (G26)))))) := ⟨_, _, ⟨A8, c9, G10, A12, c13, G14, A16, c17, G18, A20, c21, G22, A24, c25, G26, rfl, hO11, hO15, hO19, hO23, hO27, rfl⟩, rfl⟩
    have S232 : St _ _ _ [[(p0, .cells #[.slice A8 a0.free.length c9, .slice A12 a0.was.length c13, .slice A16 a0.lists.length c17, .slice A20 a0.grown.length c21, .slice A24 a0.whose.length c25] 35 (0, 0))] ++ (G10 ++ (G14 ++ (G18 ++ (G22 ++ (G26))))), [(p2, .cells #[.slice A224 t213.2.L.length c225, .int .i64 t213.2.Time] 135 (0, 0))], G226, [(p1, .cells #[.slice A204 t193.2.flying.length c205, .int .i64 t193.2.time] 133 (0, 0))], G206, [(b52, .cells #[.int .i64 a3.Kind, .int .i64 a3.On, .int .i64 a3.N, .int .i64 a3.Many, .int .i64 a3.P.From, .int .i64 a3.P.To, .string (bs a3.P.Data)] 39 (0, 0))]] := S230.objs (by simp)
    have S233 := (S232.front 4 rfl).front 4 rfl
    change St _ _ _ [[(p1, .cells #[.slice A204 t193.2.flying.length c205, .int .i64 t193.2.time] 133 (0, 0))], G206, [(p0, .cells #[.slice A8 a0.free.length c9, .slice A12 a0.was.length c13, .slice A16 a0.lists.length c17, .slice A20 a0.grown.length c21, .slice A24 a0.whose.length c25] 35 (0, 0))] ++ (G10 ++ (G14 ++ (G18 ++ (G22 ++ (G26))))), [(p2, .cells #[.slice A224 t213.2.L.length c225, .int .i64 t213.2.Time] 135 (0, 0))], G226, [(b52, .cells #[.int .i64 a3.Kind, .int .i64 a3.On, .int .i64 a3.N, .int .i64 a3.Many, .int .i64 a3.P.From, .int .i64 a3.P.To, .string (bs a3.P.Data)] 39 (0, 0))]] at S233
    have hO234 : ObjO 133 Air.rp p1 t193.2 ([(p1, .cells #[.slice A204 t193.2.flying.length c205, .int .i64 t193.2.time] 133 (0, 0))] ++ (G206)) := ⟨_, _, ⟨A204, c205, G206, rfl, hO207, rfl⟩, rfl⟩
    have S235 : St _ _ _ [[(p1, .cells #[.slice A204 t193.2.flying.length c205, .int .i64 t193.2.time] 133 (0, 0))] ++ (G206), [(p0, .cells #[.slice A8 a0.free.length c9, .slice A12 a0.was.length c13, .slice A16 a0.lists.length c17, .slice A20 a0.grown.length c21, .slice A24 a0.whose.length c25] 35 (0, 0))] ++ (G10 ++ (G14 ++ (G18 ++ (G22 ++ (G26))))), [(p2, .cells #[.slice A224 t213.2.L.length c225, .int .i64 t213.2.Time] 135 (0, 0))], G226, [(b52, .cells #[.int .i64 a3.Kind, .int .i64 a3.On, .int .i64 a3.N, .int .i64 a3.Many, .int .i64 a3.P.From, .int .i64 a3.P.To, .string (bs a3.P.Data)] 39 (0, 0))]] := S233.objs (by simp)
    have S236 := (S235.front 3 rfl).front 3 rfl
    change St _ _ _ [[(p2, .cells #[.slice A224 t213.2.L.length c225, .int .i64 t213.2.Time] 135 (0, 0))], G226, [(p1, .cells #[.slice A204 t193.2.flying.length c205, .int .i64 t193.2.time] 133 (0, 0))] ++ (G206), [(p0, .cells #[.slice A8 a0.free.length c9, .slice A12 a0.was.length c13, .slice A16 a0.lists.length c17, .slice A20 a0.grown.length c21, .slice A24 a0.whose.length c25] 35 (0, 0))] ++ (G10 ++ (G14 ++ (G18 ++ (G22 ++ (G26))))), [(b52, .cells #[.int .i64 a3.Kind, .int .i64 a3.On, .int .i64 a3.N, .int .i64 a3.Many, .int .i64 a3.P.From, .int .i64 a3.P.To, .string (bs a3.P.Data)] 39 (0, 0))]] at S236
    have hO237 : ObjO 135 Air135.rp p2 t213.2 ([(p2, .cells #[.slice A224 t213.2.L.length c225, .int .i64 t213.2.Time] 135 (0, 0))] ++ (G226)) := ⟨_, _, ⟨A224, c225, G226, rfl, hO227, rfl⟩, rfl⟩
    have S238 : St _ _ _ [[(p2, .cells #[.slice A224 t213.2.L.length c225, .int .i64 t213.2.Time] 135 (0, 0))] ++ (G226), [(p1, .cells #[.slice A204 t193.2.flying.length c205, .int .i64 t193.2.time] 133 (0, 0))] ++ (G206), [(p0, .cells #[.slice A8 a0.free.length c9, .slice A12 a0.was.length c13, .slice A16 a0.lists.length c17, .slice A20 a0.grown.length c21, .slice A24 a0.whose.length c25] 35 (0, 0))] ++ (G10 ++ (G14 ++ (G18 ++ (G22 ++ (G26))))), [(b52, .cells #[.int .i64 a3.Kind, .int .i64 a3.On, .int .i64 a3.N, .int .i64 a3.Many, .int .i64 a3.P.From, .int .i64 a3.P.To, .string (bs a3.P.Data)] 39 (0, 0))]] := S236.objs (by simp)
    have S239 := (S238.front 1 rfl).front 2 rfl
    change St _ _ _ [[(p0, .cells #[.slice A8 a0.free.length c9, .slice A12 a0.was.length c13, .slice A16 a0.lists.length c17, .slice A20 a0.grown.length c21, .slice A24 a0.whose.length c25] 35 (0, 0))] ++ (G10 ++ (G14 ++ (G18 ++ (G22 ++ (G26))))), [(p1, .cells #[.slice A204 t193.2.flying.length c205, .int .i64 t193.2.time] 133 (0, 0))] ++ (G206), [(p2, .cells #[.slice A224 t213.2.L.length c225, .int .i64 t213.2.Time] 135 (0, 0))] ++ (G226), [(b52, .cells #[.int .i64 a3.Kind, .int .i64 a3.On, .int .i64 a3.N, .int .i64 a3.Many, .int .i64 a3.P.From, .int .i64 a3.P.To, .string (bs a3.P.Data)] 39 (0, 0))]] at S239
    exact ⟨[(p0, .cells #[.slice A8 a0.free.length c9, .slice A12 a0.was.length c13, .slice A16 a0.lists.length c17, .slice A20 a0.grown.length c21, .slice A24 a0.whose.length c25] 35 (0, 0))] ++ (G10 ++ (G14 ++ (G18 ++ (G22 ++ (G26))))), [(p1, .cells #[.slice A204 t193.2.flying.length c205, .int .i64 t193.2.time] 133 (0, 0))] ++ (G206), [(p2, .cells #[.slice A224 t213.2.L.length c225, .int .i64 t213.2.Time] 135 (0, 0))] ++ (G226), rfl, hO231, hO234, hO237, St.keep (As := [[(p0, .cells #[.slice A8 a0.free.length c9, .slice A12 a0.was.length c13, .slice A16 a0.lists.length c17, .slice A20 a0.grown.length c21, .slice A24 a0.whose.length c25] 35 (0, 0))] ++ (G10 ++ (G14 ++ (G18 ++ (G22 ++ (G26))))), [(p1, .cells #[.slice A204 t193.2.flying.length c205, .int .i64 t193.2.time] 133 (0, 0))] ++ (G206), [(p2, .cells #[.slice A224 t213.2.L.length c225, .int .i64 t213.2.Time] 135 (0, 0))] ++ (G226)]) S239⟩
   ·
    refine WCode.cond_f (kb (b := decide (a3.Kind = 3)) rfl (decide_eq_false h189)) ?_
    refine WCode.seq ?_
    refine WCode.region ?_
    refine WOps.p (G.eql rfl rfl rfl) rfl ?_
    refine WOps.p (G.assign rfl) rfl ?_
    refine WOps.nil ?_
    refine WEx.then_ ?_
    refine WCode.forget (l' := [(0, .pointer (some ⟨p0, 0, none⟩)), (1, .pointer (some ⟨p1, 0, none⟩)), (2, .pointer (some ⟨p2, 0, none⟩)), (7, .pointer (some ⟨b52, 0, none⟩)), (28, .int .i64 a3.Kind), (77, .bool (decide (a3.Kind = 4)))]) ⟨rfl, rfl, rfl, rfl, rfl, rfl, trivial⟩ ?_
    rcases ite_some hF with ⟨h240, hF⟩ | ⟨h240, hF⟩
    ·
     refine WCode.cond_t (kb (b := decide (a3.Kind = 4)) rfl (decide_eq_true h240)) ?_
     refine WCode.seq ?_
     refine WCode.region ?_
     refine WOps.p (G.move rfl) rfl ?_
     refine WOps.p (G.field T.fld39_2 rfl (show 0 + 2 = 2 from rfl)) rfl ?_
     refine WOps.r (G.load1 T.one3 rfl (cell_blk (S55.blk 0 rfl) rfl)) rfl ?_
     have S241 := (S55.front 4 rfl).front 4 rfl
     change St _ _ _ [[(p1, .cells #[.slice A35 a1.flying.length c36, .int .i64 a1.time] 133 (0, 0))], G37, [(b52, .cells #[.int .i64 a3.Kind, .int .i64 a3.On, .int .i64 a3.N, .int .i64 a3.Many, .int .i64 a3.P.From, .int .i64 a3.P.To, .string (bs a3.P.Data)] 39 (0, 0))], [(p2, .cells #[.slice A46 a2.L.length c47, .int .i64 a2.Time] 135 (0, 0))], G48, [(p0, .cells #[.slice A8 a0.free.length c9, .slice A12 a0.was.length c13, .slice A16 a0.lists.length c17, .slice A20 a0.grown.length c21, .slice A24 a0.whose.length c25] 35 (0, 0))], G10, G14, G18, G22, G26] at S241
     have hO242 : ObjO 133 Air.rp p1 a1 ([(p1, .cells #[.slice A35 a1.flying.length c36, .int .i64 a1.time] 133 (0, 0))] ++ (G37)) := ⟨_, _, ⟨A35, c36, G37, rfl, hO38, rfl⟩, rfl⟩
     have S243 : St _ _ _ [[(p1, .cells #[.slice A35 a1.flying.length c36, .int .i64 a1.time] 133 (0, 0))] ++ (G37), [(b52, .cells #[.int .i64 a3.Kind, .int .i64 a3.On, .int .i64 a3.N, .int .i64 a3.Many, .int .i64 a3.P.From, .int .i64 a3.P.To, .string (bs a3.P.Data)] 39 (0, 0))], [(p2, .cells #[.slice A46 a2.L.length c47, .int .i64 a2.Time] 135 (0, 0))], G48, [(p0, .cells #[.slice A8 a0.free.length c9, .slice A12 a0.was.length c13, .slice A16 a0.lists.length c17, .slice A20 a0.grown.length c21, .slice A24 a0.whose.length c25] 35 (0, 0))], G10, G14, G18, G22, G26] := S241.objs (by simp)
     obtain ⟨t244, hc245, hF⟩ := bind_some hF
     refine WOps.call T.call21 (evs_cons rfl (evs_cons rfl evs_nil)) rfl ?_
     refine (ya_Double_calls k a1 a3.N hO242 hc245 (St.hpN (As := [[(p1, .cells #[.slice A35 a1.flying.length c36, .int .i64 a1.time] 133 (0, 0))] ++ (G37)]) S243)).mono ?_
     rintro _ w246 ⟨G249, rfl, hO250, T247⟩
     have S248 := St.callN (As := [[(p1, .cells #[.slice A35 a1.flying.length c36, .int .i64 a1.time] 133 (0, 0))] ++ (G37)]) S243 T247
     change St _ _ _ [G249, [(b52, .cells #[.int .i64 a3.Kind, .int .i64 a3.On, .int .i64 a3.N, .int .i64 a3.Many, .int .i64 a3.P.From, .int .i64 a3.P.To, .string (bs a3.P.Data)] 39 (0, 0))], [(p2, .cells #[.slice A46 a2.L.length c47, .int .i64 a2.Time] 135 (0, 0))], G48, [(p0, .cells #[.slice A8 a0.free.length c9, .slice A12 a0.was.length c13, .slice A16 a0.lists.length c17, .slice A20 a0.grown.length c21, .slice A24 a0.whose.length c25] 35 (0, 0))], G10, G14, G18, G22, G26] at S248
     refine ⟨_, rfl, ?_⟩
     obtain ⟨cs251, G252, ho253, hg254⟩ := hO250
     obtain ⟨A255, c256, G257, rfl, hO258, hq259⟩ := ho253
     have S260 : St _ _ _ [[(p1, .cells #[.slice A255 t244.2.flying.length c256, .int .i64 t244.2.time] 133 (0, 0))], G257, [(b52, .cells #[.int .i64 a3.Kind, .int .i64 a3.On, .int .i64 a3.N, .int .i64 a3.Many, .int .i64 a3.P.From, .int .i64 a3.P.To, .string (bs a3.P.Data)] 39 (0, 0))], [(p2, .cells #[.slice A46 a2.L.length c47, .int .i64 a2.Time] 135 (0, 0))], G48, [(p0, .cells #[.slice A8 a0.free.length c9, .slice A12 a0.was.length c13, .slice A16 a0.lists.length c17, .slice A20 a0.grown.length c21, .slice A24 a0.whose.length c25] 35 (0, 0))], G10, G14, G18, G22, G26] := S248.objs (by rw [hg254, hq259]; simp)
     refine WOps.p (G.assign rfl) rfl ?_
     refine WOps.nil ?_
     refine WEx.then_ ?_
     refine WCode.seq ?_
     refine WCode.region ?_
     refine WOps.p (G.move rfl) rfl ?_
     refine WOps.p (G.move rfl) rfl ?_
     refine WOps.p (G.field T.fld39_2 rfl (show 0 + 2 = 2 from rfl)) rfl ?_
     refine WOps.r (G.load1 T.one3 rfl (cell_blk (S260.blk 2 rfl) rfl)) rfl ?_
     have S261 := (S260.front 4 rfl).front 4 rfl
     change St _ _ _ [[(p2, .cells #[.slice A46 a2.L.length c47, .int .i64 a2.Time] 135 (0, 0))], G48, [(p1, .cells #[.slice A255 t244.2.flying.length c256, .int .i64 t244.2.time] 133 (0, 0))], G257, [(b52, .cells #[.int .i64 a3.Kind, .int .i64 a3.On, .int .i64 a3.N, .int .i64 a3.Many, .int .i64 a3.P.From, .int .i64 a3.P.To, .string (bs a3.P.Data)] 39 (0, 0))], [(p0, .cells #[.slice A8 a0.free.length c9, .slice A12 a0.was.length c13, .slice A16 a0.lists.length c17, .slice A20 a0.grown.length c21, .slice A24 a0.whose.length c25] 35 (0, 0))], G10, G14, G18, G22, G26] at S261
     have hO262 : ObjO 135 Air135.rp p2 a2 ([(p2, .cells #[.slice A46 a2.L.length c47, .int .i64 a2.Time] 135 (0, 0))] ++ (G48)) := ⟨_, _, ⟨A46, c47, G48, rfl, hO49, rfl⟩, rfl⟩
     have S263 : St _ _ _ [[(p2, .cells #[.slice A46 a2.L.length c47, .int .i64 a2.Time] 135 (0, 0))] ++ (G48), [(p1, .cells #[.slice A255 t244.2.flying.length c256, .int .i64 t244.2.time] 133 (0, 0))], G257, [(b52, .cells #[.int .i64 a3.Kind, .int .i64 a3.On, .int .i64 a3.N, .int .i64 a3.Many, .int .i64 a3.P.From, .int .i64 a3.P.To, .string (bs a3.P.Data)] 39 (0, 0))], [(p0, .cells #[.slice A8 a0.free.length c9, .slice A12 a0.was.length c13, .slice A16 a0.lists.length c17, .slice A20 a0.grown.length c21, .slice A24 a0.whose.length c25] 35 (0, 0))], G10, G14, G18, G22, G26] := S261.objs (by simp)
     obtain ⟨t264, hc265, hF⟩ := bind_some hF
     refine WOps.call T.call71 (evs_cons rfl (evs_cons rfl evs_nil)) rfl ?_
     refine (yr_Double_calls k a2 a3.N hO262 hc265 (St.hpN (As := [[(p2, .cells #[.slice A46 a2.L.length c47, .int .i64 a2.Time] 135 (0, 0))] ++ (G48)]) S263)).mono ?_
     rintro _ w266 ⟨G269, rfl, hO270, T267⟩
     have S268 := St.callN (As := [[(p2, .cells #[.slice A46 a2.L.length c47, .int .i64 a2.Time] 135 (0, 0))] ++ (G48)]) S263 T267
     change St _ _ _ [G269, [(p1, .cells #[.slice A255 t244.2.flying.length c256, .int .i64 t244.2.time] 133 (0, 0))], G257, [(b52, .cells #[.int .i64 a3.Kind, .int .i64 a3.On, .int .i64 a3.N, .int .i64 a3.Many, .int .i64 a3.P.From, .int .i64 a3.P.To, .string (bs a3.P.Data)] 39 (0, 0))], [(p0, .cells #[.slice A8 a0.free.length c9, .slice A12 a0.was.length c13, .slice A16 a0.lists.length c17, .slice A20 a0.grown.length c21, .slice A24 a0.whose.length c25] 35 (0, 0))], G10, G14, G18, G22, G26] at S268
     refine ⟨_, rfl, ?_⟩
     obtain ⟨cs271, G272, ho273, hg274⟩ := hO270
     obtain ⟨A275, c276, G277, rfl, hO278, hq279⟩ := ho273
     have S280 : St _ _ _ [[(p2, .cells #[.slice A275 t264.2.L.length c276, .int .i64 t264.2.Time] 135 (0, 0))], G277, [(p1, .cells #[.slice A255 t244.2.flying.length c256, .int .i64 t244.2.time] 133 (0, 0))], G257, [(b52, .cells #[.int .i64 a3.Kind, .int .i64 a3.On, .int .i64 a3.N, .int .i64 a3.Many, .int .i64 a3.P.From, .int .i64 a3.P.To, .string (bs a3.P.Data)] 39 (0, 0))], [(p0, .cells #[.slice A8 a0.free.length c9, .slice A12 a0.was.length c13, .slice A16 a0.lists.length c17, .slice A20 a0.grown.length c21, .slice A24 a0.whose.length c25] 35 (0, 0))], G10, G14, G18, G22, G26] := S268.objs (by rw [hg274, hq279]; simp)
     refine WOps.p (G.eql rfl rfl rfl) rfl ?_
     refine WOps.p (G.assign rfl) rfl ?_
     refine WOps.nil ?_
     refine WEx.then_ ?_
     refine WCode.forget (l' := [(8, .bool (decide (t244.1 = t264.1)))]) ⟨rfl, trivial⟩ ?_
     refine WCode.ret ?_
     refine WEx.in_ret ?_
     refine WEx.then_ret ?_
     obtain rfl := some_eq hF
     refine WEx.ret1 rfl rfl ?_
     have S281 : St _ _ _ [[(p0, .cells #[.slice A8 a0.free.length c9, .slice A12 a0.was.length c13, .slice A16 a0.lists.length c17, .slice A20 a0.grown.length c21, .slice A24 a0.whose.length c25] 35 (0, 0))], G10, G14, G18, G22, G26, [(p2, .cells #[.slice A275 t264.2.L.length c276, .int .i64 t264.2.Time] 135 (0, 0))], G277, [(p1, .cells #[.slice A255 t244.2.flying.length c256, .int .i64 t244.2.time] 133 (0, 0))], G257, [(b52, .cells #[.int .i64 a3.Kind, .int .i64 a3.On, .int .i64 a3.N, .int .i64 a3.Many, .int .i64 a3.P.From, .int .i64 a3.P.To, .string (bs a3.P.Data)] 39 (0, 0))]] := St.reord S280 [5, 6, 7, 8, 9, 10, 0, 1, 2, 3, 4] 11 rfl (by decide) rfl
     have hO282 : ObjO 35 BookA.rp p0 a0 ([(p0, .cells #[.slice A8 a0.free.length c9, .slice A12 a0.was.length c13, .slice A16 a0.lists.length c17, .slice A20 a0.grown.length c21, .slice A24 a0.whose.length c25] 35 (0, 0))] ++ (G10 ++ (G14 ++ (G18 ++ (G22 ++ (G26)))))) := ⟨_, _, ⟨A8, c9, G10, A12, c13, G14, A16, c17, G18, A20, c21, G22, A24, c25, G26, rfl, hO11, hO15, hO19, hO23, hO27, rfl⟩, rfl⟩
     have S283 : St _ _ _ [[(p0, .cells #[.slice A8 a0.free.length c9, .slice A12 a0.was.length c13, .slice A16 a0.lists.length c17, .slice A20 a0.grown.length c21, .slice A24 a0.whose.length c25] 35 (0, 0))] ++ (G10 ++ (G14 ++ (G18 ++ (G22 ++ (G26))))), [(p2, .cells #[.slice A275 t264.2.L.length c276, .int .i64 t264.2.Time] 135 (0, 0))], G277, [(p1, .cells #[.slice A255 t244.2.flying.length c256, .int .i64 t244.2.time] 133 (0, 0))], G257, [(b52, .cells #[.int .i64 a3.Kind, .int .i64 a3.On, .int .i64 a3.N, .int .i64 a3.Many, .int .i64 a3.P.From, .int .i64 a3.P.To, .string (bs a3.P.Data)] 39 (0, 0))]] := S281.objs (by simp)
     have S284 := (S283.front 4 rfl).front 4 rfl
     change St _ _ _ [[(p1, .cells #[.slice A255 t244.2.flying.length c256, .int .i64 t244.2.time] 133 (0, 0))], G257, [(p0, .cells #[.slice A8 a0.free.length c9, .slice A12 a0.was.length c13, .slice A16 a0.lists.length c17, .slice A20 a0.grown.length c21, .slice A24 a0.whose.length c25] 35 (0, 0))] ++ (G10 ++ (G14 ++ (G18 ++ (G22 ++ (G26))))), [(p2, .cells #[.slice A275 t264.2.L.length c276, .int .i64 t264.2.Time] 135 (0, 0))], G277, [(b52, .cells #[.int .i64 a3.Kind, .int .i64 a3.On, .int .i64 a3.N, .int .i64 a3.Many, .int .i64 a3.P.From, .int .i64 a3.P.To, .string (bs a3.P.Data)] 39 (0, 0))]] at S284
     have hO285 : ObjO 133 Air.rp p1 t244.2 ([(p1, .cells #[.slice A255 t244.2.flying.length c256, .int .i64 t244.2.time] 133 (0, 0))] ++ (G257)) := ⟨_, _, ⟨A255, c256, G257, rfl, hO258, rfl⟩, rfl⟩
     have S286 : St _ _ _ [[(p1, .cells #[.slice A255 t244.2.flying.length c256, .int .i64 t244.2.time] 133 (0, 0))] ++ (G257), [(p0, .cells #[.slice A8 a0.free.length c9, .slice A12 a0.was.length c13, .slice A16 a0.lists.length c17, .slice A20 a0.grown.length c21, .slice A24 a0.whose.length c25] 35 (0, 0))] ++ (G10 ++ (G14 ++ (G18 ++ (G22 ++ (G26))))), [(p2, .cells #[.slice A275 t264.2.L.length c276, .int .i64 t264.2.Time] 135 (0, 0))], G277, [(b52, .cells #[.int .i64 a3.Kind, .int .i64 a3.On, .int .i64 a3.N, .int .i64 a3.Many, .int .i64 a3.P.From, .int .i64 a3.P.To, .string (bs a3.P.Data)] 39 (0, 0))]] := S284.objs (by simp)
     have S287 := (S286.front 3 rfl).front 3 rfl
     change St _ _ _ [[(p2, .cells #[.slice A275 t264.2.L.length c276, .int .i64 t264.2.Time] 135 (0, 0))], G277, [(p1, .cells #[.slice A255 t244.2.flying.length c256, .int .i64 t244.2.time] 133 (0, 0))] ++ (G257), [(p0, .cells #[.slice A8 a0.free.length c9, .slice A12 a0.was.length c13, .slice A16 a0.lists.length c17, .slice A20 a0.grown.length c21, .slice A24 a0.whose.length c25] 35 (0, 0))] ++ (G10 ++ (G14 ++ (G18 ++ (G22 ++ (G26))))), [(b52, .cells #[.int .i64 a3.Kind, .int .i64 a3.On, .int .i64 a3.N, .int .i64 a3.Many, .int .i64 a3.P.From, .int .i64 a3.P.To, .string (bs a3.P.Data)] 39 (0, 0))]] at S287
     have hO288 : ObjO 135 Air135.rp p2 t264.2 ([(p2, .cells #[.slice A275 t264.2.L.length c276, .int .i64 t264.2.Time] 135 (0, 0))] ++ (G277)) := ⟨_, _, ⟨A275, c276, G277, rfl, hO278, rfl⟩, rfl⟩
     have S289 : St _ _ _ [[(p2, .cells #[.slice A275 t264.2.L.length c276, .int .i64 t264.2.Time] 135 (0, 0))] ++ (G277), [(p1, .cells #[.slice A255 t244.2.flying.length c256, .int .i64 t244.2.time] 133 (0, 0))] ++ (G257), [(p0, .cells #[.slice A8 a0.free.length c9, .slice A12 a0.was.length c13, .slice A16 a0.lists.length c17, .slice A20 a0.grown.length c21, .slice A24 a0.whose.length c25] 35 (0, 0))] ++ (G10 ++ (G14 ++ (G18 ++ (G22 ++ (G26))))), [(b52, .cells #[.int .i64 a3.Kind, .int .i64 a3.On, .int .i64 a3.N, .int .i64 a3.Many, .int .i64 a3.P.From, .int .i64 a3.P.To, .string (bs a3.P.Data)] 39 (0, 0))]] := S287.objs (by simp)
     have S290 := (S289.front 1 rfl).front 2 rfl
     change St _ _ _ [[(p0, .cells #[.slice A8 a0.free.length c9, .slice A12 a0.was.length c13, .slice A16 a0.lists.length c17, .slice A20 a0.grown.length c21, .slice A24 a0.whose.length c25] 35 (0, 0))] ++ (G10 ++ (G14 ++ (G18 ++ (G22 ++ (G26))))), [(p1, .cells #[.slice A255 t244.2.flying.length c256, .int .i64 t244.2.time] 133 (0, 0))] ++ (G257), [(p2, .cells #[.slice A275 t264.2.L.length c276, .int .i64 t264.2.Time] 135 (0, 0))] ++ (G277), [(b52, .cells #[.int .i64 a3.Kind, .int .i64 a3.On, .int .i64 a3.N, .int .i64 a3.Many, .int .i64 a3.P.From, .int .i64 a3.P.To, .string (bs a3.P.Data)] 39 (0, 0))]] at S290
     exact ⟨[(p0, .cells #[.slice A8 a0.free.length c9, .slice A12 a0.was.length c13, .slice A16 a0.lists.length c17, .slice A20 a0.grown.length c21, .slice A24 a0.whose.length c25] 35 (0, 0))] ++ (G10 ++ (G14 ++ (G18 ++ (G22 ++ (G26))))), [(p1, .cells #[.slice A255 t244.2.flying.length c256, .int .i64 t244.2.time] 133 (0, 0))] ++ (G257), [(p2, .cells #[.slice A275 t264.2.L.length c276, .int .i64 t264.2.Time] 135 (0, 0))] ++ (G277), rfl, hO282, hO285, hO288, St.keep (As := [[(p0, .cells #[.slice A8 a0.free.length c9, .slice A12 a0.was.length c13, .slice A16 a0.lists.length c17, .slice A20 a0.grown.length c21, .slice A24 a0.whose.length c25] 35 (0, 0))] ++ (G10 ++ (G14 ++ (G18 ++ (G22 ++ (G26))))), [(p1, .cells #[.slice A255 t244.2.flying.length c256, .int .i64 t244.2.time] 133 (0, 0))] ++ (G257), [(p2, .cells #[.slice A275 t264.2.L.length c276, .int .i64 t264.2.Time] 135 (0, 0))] ++ (G277)]) S290⟩
    ·
     refine WCode.cond_f (kb (b := decide (a3.Kind = 4)) rfl (decide_eq_false h240)) ?_
     refine WCode.seq ?_
     refine WCode.region ?_
     refine WOps.p (G.eql rfl rfl rfl) rfl ?_
     refine WOps.p (G.assign rfl) rfl ?_
     refine WOps.nil ?_
     refine WEx.then_ ?_
     rcases ite_some hF with ⟨h291, hF⟩ | ⟨h291, hF⟩
     ·
      refine WCode.cond_t (kb (b := decide (a3.Kind = 5)) rfl (decide_eq_true h291)) ?_
      refine WCode.seq ?_
      refine WCode.region ?_
      refine WOps.p (G.move rfl) rfl ?_
      obtain ⟨t292, hc293, hF⟩ := bind_some hF
      have S294 := (S55.front 4 rfl).front 4 rfl
      change St _ _ _ [[(p1, .cells #[.slice A35 a1.flying.length c36, .int .i64 a1.time] 133 (0, 0))], G37, [(b52, .cells #[.int .i64 a3.Kind, .int .i64 a3.On, .int .i64 a3.N, .int .i64 a3.Many, .int .i64 a3.P.From, .int .i64 a3.P.To, .string (bs a3.P.Data)] 39 (0, 0))], [(p2, .cells #[.slice A46 a2.L.length c47, .int .i64 a2.Time] 135 (0, 0))], G48, [(p0, .cells #[.slice A8 a0.free.length c9, .slice A12 a0.was.length c13, .slice A16 a0.lists.length c17, .slice A20 a0.grown.length c21, .slice A24 a0.whose.length c25] 35 (0, 0))], G10, G14, G18, G22, G26] at S294
      have hP295 : PtR 133 Air.rp w53 (KS [[(p1, .cells #[.slice A35 a1.flying.length c36, .int .i64 a1.time] 133 (0, 0))], G37]) p1 a1 := ⟨_, S294.blk 0 rfl, KS_at 0 rfl (by simp [keys]), ⟨A35, c36, rfl, ((hO38.rd (fun b o hb => S294.grp 1 rfl hb)).mono (fun b hb => KS_at 1 rfl hb))⟩⟩
      refine WOps.call T.call24 (evs_cons rfl evs_nil) rfl ?_
      refine (ya_Flying_calls k a1 hP295 (St.outN (Bs := []) (As := [[(p1, .cells #[.slice A35 a1.flying.length c36, .int .i64 a1.time] 133 (0, 0))], G37]) S294) hc293).mono ?_
      rintro _ w296 ⟨A299, c300, G301, rfl, hO302, T297⟩
      have S298 := St.callN (As := []) S294 T297
      change St _ _ _ [G301, [(p1, .cells #[.slice A35 a1.flying.length c36, .int .i64 a1.time] 133 (0, 0))], G37, [(b52, .cells #[.int .i64 a3.Kind, .int .i64 a3.On, .int .i64 a3.N, .int .i64 a3.Many, .int .i64 a3.P.From, .int .i64 a3.P.To, .string (bs a3.P.Data)] 39 (0, 0))], [(p2, .cells #[.slice A46 a2.L.length c47, .int .i64 a2.Time] 135 (0, 0))], G48, [(p0, .cells #[.slice A8 a0.free.length c9, .slice A12 a0.was.length c13, .slice A16 a0.lists.length c17, .slice A20 a0.grown.length c21, .slice A24 a0.whose.length c25] 35 (0, 0))], G10, G14, G18, G22, G26] at S298
      refine ⟨_, rfl, ?_⟩
      refine WOps.p (G.assign rfl) rfl ?_
      refine WOps.nil ?_
      refine WEx.then_ ?_
      refine WCode.seq ?_
      refine WCode.region ?_
      refine WOps.p (G.move rfl) rfl ?_
      obtain ⟨t303, hc304, hF⟩ := bind_some hF
      have S305 := (S298.front 2 rfl).front 2 rfl
      change St _ _ _ [[(p1, .cells #[.slice A35 a1.flying.length c36, .int .i64 a1.time] 133 (0, 0))], G37, G301, [(b52, .cells #[.int .i64 a3.Kind, .int .i64 a3.On, .int .i64 a3.N, .int .i64 a3.Many, .int .i64 a3.P.From, .int .i64 a3.P.To, .string (bs a3.P.Data)] 39 (0, 0))], [(p2, .cells #[.slice A46 a2.L.length c47, .int .i64 a2.Time] 135 (0, 0))], G48, [(p0, .cells #[.slice A8 a0.free.length c9, .slice A12 a0.was.length c13, .slice A16 a0.lists.length c17, .slice A20 a0.grown.length c21, .slice A24 a0.whose.length c25] 35 (0, 0))], G10, G14, G18, G22, G26] at S305
      have hP306 : PtR 133 Air.rp w296 (KS [[(p1, .cells #[.slice A35 a1.flying.length c36, .int .i64 a1.time] 133 (0, 0))], G37]) p1 a1 := ⟨_, S305.blk 0 rfl, KS_at 0 rfl (by simp [keys]), ⟨A35, c36, rfl, ((hO38.rd (fun b o hb => S305.grp 1 rfl hb)).mono (fun b hb => KS_at 1 rfl hb))⟩⟩
      refine WOps.call T.call24 (evs_cons rfl evs_nil) rfl ?_
      refine (ya_Flying_calls k a1 hP306 (St.outN (Bs := []) (As := [[(p1, .cells #[.slice A35 a1.flying.length c36, .int .i64 a1.time] 133 (0, 0))], G37]) S305) hc304).mono ?_
      rintro _ w307 ⟨A310, c311, G312, rfl, hO313, T308⟩
      have S309 := St.callN (As := []) S305 T308
      change St _ _ _ [G312, [(p1, .cells #[.slice A35 a1.flying.length c36, .int .i64 a1.time] 133 (0, 0))], G37, G301, [(b52, .cells #[.int .i64 a3.Kind, .int .i64 a3.On, .int .i64 a3.N, .int .i64 a3.Many, .int .i64 a3.P.From, .int .i64 a3.P.To, .string (bs a3.P.Data)] 39 (0, 0))], [(p2, .cells #[.slice A46 a2.L.length c47, .int .i64 a2.Time] 135 (0, 0))], G48, [(p0, .cells #[.slice A8 a0.free.length c9, .slice A12 a0.was.length c13, .slice A16 a0.lists.length c17, .slice A20 a0.grown.length c21, .slice A24 a0.whose.length c25] 35 (0, 0))], G10, G14, G18, G22, G26] at S309
      refine ⟨_, rfl, ?_⟩
      refine WOps.p (G.assign rfl) rfl ?_
      refine WOps.nil ?_
      refine WEx.then_ ?_
      refine WCode.forget (l' := [(0, .pointer (some ⟨p0, 0, none⟩)), (2, .pointer (some ⟨p2, 0, none⟩)), (16, .slice A299 (t292).length c300), (17, .slice A310 (t303).length c311)]) ⟨rfl, rfl, rfl, rfl, trivial⟩ ?_
      refine WCode.seq ?_
      refine WCode.region ?_
      refine WOps.p (G.move rfl) rfl ?_
      obtain ⟨t314, hc315, hF⟩ := bind_some hF
      have S316 := (S309.front 6 rfl).front 6 rfl
      change St _ _ _ [[(p2, .cells #[.slice A46 a2.L.length c47, .int .i64 a2.Time] 135 (0, 0))], G48, G312, [(p1, .cells #[.slice A35 a1.flying.length c36, .int .i64 a1.time] 133 (0, 0))], G37, G301, [(b52, .cells #[.int .i64 a3.Kind, .int .i64 a3.On, .int .i64 a3.N, .int .i64 a3.Many, .int .i64 a3.P.From, .int .i64 a3.P.To, .string (bs a3.P.Data)] 39 (0, 0))], [(p0, .cells #[.slice A8 a0.free.length c9, .slice A12 a0.was.length c13, .slice A16 a0.lists.length c17, .slice A20 a0.grown.length c21, .slice A24 a0.whose.length c25] 35 (0, 0))], G10, G14, G18, G22, G26] at S316
      have hP317 : PtR 135 Air135.rp w307 (KS [[(p2, .cells #[.slice A46 a2.L.length c47, .int .i64 a2.Time] 135 (0, 0))], G48]) p2 a2 := ⟨_, S316.blk 0 rfl, KS_at 0 rfl (by simp [keys]), ⟨A46, c47, rfl, ((hO49.rd (fun b o hb => S316.grp 1 rfl hb)).mono (fun b hb => KS_at 1 rfl hb))⟩⟩
      refine WOps.call T.call72 (evs_cons rfl evs_nil) rfl ?_
      refine (yr_Flying_calls k a2 hP317 (St.outN (Bs := []) (As := [[(p2, .cells #[.slice A46 a2.L.length c47, .int .i64 a2.Time] 135 (0, 0))], G48]) S316) hc315).mono ?_
      rintro _ w318 ⟨A321, c322, G323, rfl, hO324, T319⟩
      have S320 := St.callN (As := []) S316 T319
      change St _ _ _ [G323, [(p2, .cells #[.slice A46 a2.L.length c47, .int .i64 a2.Time] 135 (0, 0))], G48, G312, [(p1, .cells #[.slice A35 a1.flying.length c36, .int .i64 a1.time] 133 (0, 0))], G37, G301, [(b52, .cells #[.int .i64 a3.Kind, .int .i64 a3.On, .int .i64 a3.N, .int .i64 a3.Many, .int .i64 a3.P.From, .int .i64 a3.P.To, .string (bs a3.P.Data)] 39 (0, 0))], [(p0, .cells #[.slice A8 a0.free.length c9, .slice A12 a0.was.length c13, .slice A16 a0.lists.length c17, .slice A20 a0.grown.length c21, .slice A24 a0.whose.length c25] 35 (0, 0))], G10, G14, G18, G22, G26] at S320
      refine ⟨_, rfl, ?_⟩
      refine WOps.p (G.assign rfl) rfl ?_
      refine WOps.nil ?_
      refine WEx.then_ ?_
      refine WCode.seq ?_
      refine WCode.region ?_
      refine WOps.p (G.move rfl) rfl ?_
      refine WOps.p (G.move rfl) rfl ?_
      obtain ⟨t325, hc326, hF⟩ := bind_some hF
      refine WOps.call T.call23 (evs_cons rfl (evs_cons rfl evs_nil)) rfl ?_
      refine (ysame_calls k (t292) (t314) (hO302.rd (fun b o hb => S320.grp 6 rfl hb)) (St.outG (Bs := []) S320 6 rfl) (hO324.rd (fun b o hb => S320.grp 0 rfl hb)) (St.outG (Bs := []) S320 0 rfl) hc326).mono ?_
      rintro _ w327 ⟨rfl, T328⟩
      have S329 := St.callN (As := []) S320 T328
      change St _ _ _ [G323, [(p2, .cells #[.slice A46 a2.L.length c47, .int .i64 a2.Time] 135 (0, 0))], G48, G312, [(p1, .cells #[.slice A35 a1.flying.length c36, .int .i64 a1.time] 133 (0, 0))], G37, G301, [(b52, .cells #[.int .i64 a3.Kind, .int .i64 a3.On, .int .i64 a3.N, .int .i64 a3.Many, .int .i64 a3.P.From, .int .i64 a3.P.To, .string (bs a3.P.Data)] 39 (0, 0))], [(p0, .cells #[.slice A8 a0.free.length c9, .slice A12 a0.was.length c13, .slice A16 a0.lists.length c17, .slice A20 a0.grown.length c21, .slice A24 a0.whose.length c25] 35 (0, 0))], G10, G14, G18, G22, G26] at S329
      refine ⟨_, rfl, ?_⟩
      refine WOps.p (G.assign rfl) rfl ?_
      refine WOps.nil ?_
      refine WEx.then_ ?_
      refine WCode.seq ?_
      refine WCode.region ?_
      refine WOps.p (G.move rfl) rfl ?_
      refine WOps.p (G.move rfl) rfl ?_
      obtain ⟨t330, hc331, hF⟩ := bind_some hF
      refine WOps.call T.call23 (evs_cons rfl (evs_cons rfl evs_nil)) rfl ?_
      refine (ysame_calls k (t303) (t314) (hO313.rd (fun b o hb => S329.grp 3 rfl hb)) (St.outG (Bs := []) S329 3 rfl) (hO324.rd (fun b o hb => S329.grp 0 rfl hb)) (St.outG (Bs := []) S329 0 rfl) hc331).mono ?_
      rintro _ w332 ⟨rfl, T333⟩
      have S334 := St.callN (As := []) S329 T333
      change St _ _ _ [G323, [(p2, .cells #[.slice A46 a2.L.length c47, .int .i64 a2.Time] 135 (0, 0))], G48, G312, [(p1, .cells #[.slice A35 a1.flying.length c36, .int .i64 a1.time] 133 (0, 0))], G37, G301, [(b52, .cells #[.int .i64 a3.Kind, .int .i64 a3.On, .int .i64 a3.N, .int .i64 a3.Many, .int .i64 a3.P.From, .int .i64 a3.P.To, .string (bs a3.P.Data)] 39 (0, 0))], [(p0, .cells #[.slice A8 a0.free.length c9, .slice A12 a0.was.length c13, .slice A16 a0.lists.length c17, .slice A20 a0.grown.length c21, .slice A24 a0.whose.length c25] 35 (0, 0))], G10, G14, G18, G22, G26] at S334
      refine ⟨_, rfl, ?_⟩
      refine WOps.p (G.assign rfl) rfl ?_
      refine WOps.nil ?_
      refine WEx.then_ ?_
      refine WCode.seq ?_
      refine WCode.region ?_
      refine WOps.p (G.move rfl) rfl ?_
      refine WOps.p (G.move rfl) rfl ?_
      refine WOps.p (G.nilp rfl) rfl ?_
      refine WOps.p (G.field T.fld35_0 rfl (show 0 + 0 = 0 from rfl)) rfl ?_
      refine WOps.r (G.load1 T.one32 rfl (cell_blk (S334.blk 8 rfl) rfl)) rfl ?_
      refine WOps.p (G.move rfl) rfl ?_
      refine WOps.p (G.move rfl) rfl ?_
      obtain ⟨b335, w336, E337, S338, X339, L340⟩ := St.lit S334 (P := Try.prog) (t := 32) (e := 43) (n := 2) (vs := [(0, .slice A299 (t292).length c300), (1, .slice A310 (t303).length c311)]) (cs := #[.slice A299 (t292).length c300, .slice A310 (t303).length c311]) (by kernel_rfl)
      change St _ _ _ [[(b335, .cells #[.slice A299 (t292).length c300, .slice A310 (t303).length c311] 43 (0, 0))], G323, [(p2, .cells #[.slice A46 a2.L.length c47, .int .i64 a2.Time] 135 (0, 0))], G48, G312, [(p1, .cells #[.slice A35 a1.flying.length c36, .int .i64 a1.time] 133 (0, 0))], G37, G301, [(b52, .cells #[.int .i64 a3.Kind, .int .i64 a3.On, .int .i64 a3.N, .int .i64 a3.Many, .int .i64 a3.P.From, .int .i64 a3.P.To, .string (bs a3.P.Data)] 39 (0, 0))], [(p0, .cells #[.slice A8 a0.free.length c9, .slice A12 a0.was.length c13, .slice A16 a0.lists.length c17, .slice A20 a0.grown.length c21, .slice A24 a0.whose.length c25] 35 (0, 0))], G10, G14, G18, G22, G26] at S338
      refine WOps.e (E337 (evp_cons rfl (evp_cons rfl evp_nil))) rfl ?_
      obtain ⟨l341, hc342, hF⟩ := bind_some hF
      have S343 := ((S338.front 4 rfl).front 7 rfl).front 10 rfl
      change St _ _ _ [G10, G301, G312, [(b335, .cells #[.slice A299 (t292).length c300, .slice A310 (t303).length c311] 43 (0, 0))], G323, [(p2, .cells #[.slice A46 a2.L.length c47, .int .i64 a2.Time] 135 (0, 0))], G48, [(p1, .cells #[.slice A35 a1.flying.length c36, .int .i64 a1.time] 133 (0, 0))], G37, [(b52, .cells #[.int .i64 a3.Kind, .int .i64 a3.On, .int .i64 a3.N, .int .i64 a3.Many, .int .i64 a3.P.From, .int .i64 a3.P.To, .string (bs a3.P.Data)] 39 (0, 0))], [(p0, .cells #[.slice A8 a0.free.length c9, .slice A12 a0.was.length c13, .slice A16 a0.lists.length c17, .slice A20 a0.grown.length c21, .slice A24 a0.whose.length c25] 35 (0, 0))], G14, G18, G22, G26] at S343
      have S344 : St _ _ _ [G10, (G301 ++ (G312 ++ ([]))), [(b335, .cells #[.slice A299 (t292).length c300, .slice A310 (t303).length c311] 43 (0, 0))], G323, [(p2, .cells #[.slice A46 a2.L.length c47, .int .i64 a2.Time] 135 (0, 0))], G48, [(p1, .cells #[.slice A35 a1.flying.length c36, .int .i64 a1.time] 133 (0, 0))], G37, [(b52, .cells #[.int .i64 a3.Kind, .int .i64 a3.On, .int .i64 a3.N, .int .i64 a3.Many, .int .i64 a3.P.From, .int .i64 a3.P.To, .string (bs a3.P.Data)] 39 (0, 0))], [(p0, .cells #[.slice A8 a0.free.length c9, .slice A12 a0.was.length c13, .slice A16 a0.lists.length c17, .slice A20 a0.grown.length c21, .slice A24 a0.whose.length c25] 35 (0, 0))], G14, G18, G22, G26] := S343.objs (by simp)
      obtain ⟨A345, c346, G347, w348, E349, hO350, S351, hk352⟩ := St.app (P := Try.prog) (r := (Rp.slice 37 Packet.rp)) (M := ([(t292), (t303)] : List (List Packet))) S344 T.elt32 rfl hO11 (Rd.of_blk (S344.blk 2 rfl) (n := 2) (sz := 1) rfl) ⟨[.slice A299 (t292).length c300], _, G301, _, rfl, rfl, ⟨_, rfl, hO302⟩, ⟨[.slice A310 (t303).length c311], _, G312, _, rfl, rfl, ⟨_, rfl, hO313⟩, ⟨rfl, rfl⟩⟩⟩ rfl hc342
      change St _ _ _ [G347, [(b335, .cells #[.slice A299 (t292).length c300, .slice A310 (t303).length c311] 43 (0, 0))], G323, [(p2, .cells #[.slice A46 a2.L.length c47, .int .i64 a2.Time] 135 (0, 0))], G48, [(p1, .cells #[.slice A35 a1.flying.length c36, .int .i64 a1.time] 133 (0, 0))], G37, [(b52, .cells #[.int .i64 a3.Kind, .int .i64 a3.On, .int .i64 a3.N, .int .i64 a3.Many, .int .i64 a3.P.From, .int .i64 a3.P.To, .string (bs a3.P.Data)] 39 (0, 0))], [(p0, .cells #[.slice A8 a0.free.length c9, .slice A12 a0.was.length c13, .slice A16 a0.lists.length c17, .slice A20 a0.grown.length c21, .slice A24 a0.whose.length c25] 35 (0, 0))], G14, G18, G22, G26] at S351
      refine WOps.e (E349 rfl rfl) rfl ?_
      refine WOps.p (G.nilp rfl) rfl ?_
      refine WOps.p (G.field T.fld35_0 rfl (show 0 + 0 = 0 from rfl)) rfl ?_
      obtain ⟨w353, E354, S355⟩ := St.store (P := Try.prog) S351 8 32 (.slice A345 l341.length c346) (off := 0) (cur' := #[.slice A345 l341.length c346, .slice A12 a0.was.length c13, .slice A16 a0.lists.length c17, .slice A20 a0.grown.length c21, .slice A24 a0.whose.length c25]) rfl T.size32_1 rfl rfl rfl
      change St _ _ _ [G347, [(b335, .cells #[.slice A299 (t292).length c300, .slice A310 (t303).length c311] 43 (0, 0))], G323, [(p2, .cells #[.slice A46 a2.L.length c47, .int .i64 a2.Time] 135 (0, 0))], G48, [(p1, .cells #[.slice A35 a1.flying.length c36, .int .i64 a1.time] 133 (0, 0))], G37, [(b52, .cells #[.int .i64 a3.Kind, .int .i64 a3.On, .int .i64 a3.N, .int .i64 a3.Many, .int .i64 a3.P.From, .int .i64 a3.P.To, .string (bs a3.P.Data)] 39 (0, 0))], [(p0, .cells #[.slice A345 l341.length c346, .slice A12 a0.was.length c13, .slice A16 a0.lists.length c17, .slice A20 a0.grown.length c21, .slice A24 a0.whose.length c25] 35 (0, 0))], G14, G18, G22, G26] at S355
      refine WOps.u (E354 rfl rfl) ?_
      refine WOps.nil ?_
      refine WEx.then_ ?_
      refine WCode.forget (l' := [(0, .pointer (some ⟨p0, 0, none⟩)), (18, .slice A321 (t314).length c322), (19, .bool t325), (20, .bool t330)]) ⟨rfl, rfl, rfl, rfl, trivial⟩ ?_
      refine WCode.seq ?_
      refine WCode.region ?_
      refine WOps.p (G.move rfl) rfl ?_
      refine WOps.p (G.move rfl) rfl ?_
      refine WOps.p (G.nilp rfl) rfl ?_
      refine WOps.p (G.field T.fld35_1 rfl (show 0 + 1 = 1 from rfl)) rfl ?_
      refine WOps.r (G.load1 T.one32 rfl (cell_blk (S355.blk 8 rfl) rfl)) rfl ?_
      refine WOps.p (G.move rfl) rfl ?_
      refine WOps.p (G.move rfl) rfl ?_
      obtain ⟨b356, w357, E358, S359, X360, L361⟩ := St.lit S355 (P := Try.prog) (t := 32) (e := 43) (n := 2) (vs := [(0, .slice A321 (t314).length c322), (1, .slice A321 (t314).length c322)]) (cs := #[.slice A321 (t314).length c322, .slice A321 (t314).length c322]) (by kernel_rfl)
      change St _ _ _ [[(b356, .cells #[.slice A321 (t314).length c322, .slice A321 (t314).length c322] 43 (0, 0))], G347, [(b335, .cells #[.slice A299 (t292).length c300, .slice A310 (t303).length c311] 43 (0, 0))], G323, [(p2, .cells #[.slice A46 a2.L.length c47, .int .i64 a2.Time] 135 (0, 0))], G48, [(p1, .cells #[.slice A35 a1.flying.length c36, .int .i64 a1.time] 133 (0, 0))], G37, [(b52, .cells #[.int .i64 a3.Kind, .int .i64 a3.On, .int .i64 a3.N, .int .i64 a3.Many, .int .i64 a3.P.From, .int .i64 a3.P.To, .string (bs a3.P.Data)] 39 (0, 0))], [(p0, .cells #[.slice A345 l341.length c346, .slice A12 a0.was.length c13, .slice A16 a0.lists.length c17, .slice A20 a0.grown.length c21, .slice A24 a0.whose.length c25] 35 (0, 0))], G14, G18, G22, G26] at S359
      refine WOps.e (E358 (evp_cons rfl (evp_cons rfl evp_nil))) rfl ?_
      obtain ⟨l362, hc363, hF⟩ := bind_some hF
      have S364 := S359.front 10 rfl
      change St _ _ _ [G14, [(b356, .cells #[.slice A321 (t314).length c322, .slice A321 (t314).length c322] 43 (0, 0))], G347, [(b335, .cells #[.slice A299 (t292).length c300, .slice A310 (t303).length c311] 43 (0, 0))], G323, [(p2, .cells #[.slice A46 a2.L.length c47, .int .i64 a2.Time] 135 (0, 0))], G48, [(p1, .cells #[.slice A35 a1.flying.length c36, .int .i64 a1.time] 133 (0, 0))], G37, [(b52, .cells #[.int .i64 a3.Kind, .int .i64 a3.On, .int .i64 a3.N, .int .i64 a3.Many, .int .i64 a3.P.From, .int .i64 a3.P.To, .string (bs a3.P.Data)] 39 (0, 0))], [(p0, .cells #[.slice A345 l341.length c346, .slice A12 a0.was.length c13, .slice A16 a0.lists.length c17, .slice A20 a0.grown.length c21, .slice A24 a0.whose.length c25] 35 (0, 0))], G18, G22, G26] at S364
      obtain ⟨G365, M366, hP367, S368⟩ := St.unpool S364 hO15
      have S369 := (S368.front 1 rfl).front 5 rfl
      change St _ _ _ [G323, M366, G365, [(b356, .cells #[.slice A321 (t314).length c322, .slice A321 (t314).length c322] 43 (0, 0))], G347, [(b335, .cells #[.slice A299 (t292).length c300, .slice A310 (t303).length c311] 43 (0, 0))], [(p2, .cells #[.slice A46 a2.L.length c47, .int .i64 a2.Time] 135 (0, 0))], G48, [(p1, .cells #[.slice A35 a1.flying.length c36, .int .i64 a1.time] 133 (0, 0))], G37, [(b52, .cells #[.int .i64 a3.Kind, .int .i64 a3.On, .int .i64 a3.N, .int .i64 a3.Many, .int .i64 a3.P.From, .int .i64 a3.P.To, .string (bs a3.P.Data)] 39 (0, 0))], [(p0, .cells #[.slice A345 l341.length c346, .slice A12 a0.was.length c13, .slice A16 a0.lists.length c17, .slice A20 a0.grown.length c21, .slice A24 a0.whose.length c25] 35 (0, 0))], G18, G22, G26] at S369
      obtain ⟨M370, hE371, hm372, S373⟩ := St.give S369 hO324 (fun h => h.2)
      have hP374 := PoolP.mono hP367 hm372
      have S375 := S373.front 1 rfl
      change St _ _ _ [G365, M370, [(b356, .cells #[.slice A321 (t314).length c322, .slice A321 (t314).length c322] 43 (0, 0))], G347, [(b335, .cells #[.slice A299 (t292).length c300, .slice A310 (t303).length c311] 43 (0, 0))], [(p2, .cells #[.slice A46 a2.L.length c47, .int .i64 a2.Time] 135 (0, 0))], G48, [(p1, .cells #[.slice A35 a1.flying.length c36, .int .i64 a1.time] 133 (0, 0))], G37, [(b52, .cells #[.int .i64 a3.Kind, .int .i64 a3.On, .int .i64 a3.N, .int .i64 a3.Many, .int .i64 a3.P.From, .int .i64 a3.P.To, .string (bs a3.P.Data)] 39 (0, 0))], [(p0, .cells #[.slice A345 l341.length c346, .slice A12 a0.was.length c13, .slice A16 a0.lists.length c17, .slice A20 a0.grown.length c21, .slice A24 a0.whose.length c25] 35 (0, 0))], G18, G22, G26] at S375
      obtain ⟨A376, c377, G378, w379, E380, hP381, S382⟩ := PoolP.putL (P := Try.prog) (n := 68719476736) (xs := [⟨A321, c322, (t314)⟩, ⟨A321, c322, (t314)⟩]) S375 T.elt32 rfl hP374 (List.forall_mem_cons.2 ⟨hE371, (List.forall_mem_cons.2 ⟨hE371, (by simp)⟩)⟩) (Rd.of_blk (S375.blk 2 rfl) (n := 2) (sz := 1) rfl) rfl hc363
      change St _ _ _ [G378, M370, [(b356, .cells #[.slice A321 (t314).length c322, .slice A321 (t314).length c322] 43 (0, 0))], G347, [(b335, .cells #[.slice A299 (t292).length c300, .slice A310 (t303).length c311] 43 (0, 0))], [(p2, .cells #[.slice A46 a2.L.length c47, .int .i64 a2.Time] 135 (0, 0))], G48, [(p1, .cells #[.slice A35 a1.flying.length c36, .int .i64 a1.time] 133 (0, 0))], G37, [(b52, .cells #[.int .i64 a3.Kind, .int .i64 a3.On, .int .i64 a3.N, .int .i64 a3.Many, .int .i64 a3.P.From, .int .i64 a3.P.To, .string (bs a3.P.Data)] 39 (0, 0))], [(p0, .cells #[.slice A345 l341.length c346, .slice A12 a0.was.length c13, .slice A16 a0.lists.length c17, .slice A20 a0.grown.length c21, .slice A24 a0.whose.length c25] 35 (0, 0))], G18, G22, G26] at S382
      refine WOps.e (E380 rfl rfl) rfl ?_
      refine WOps.p (G.nilp rfl) rfl ?_
      refine WOps.p (G.field T.fld35_1 rfl (show 0 + 1 = 1 from rfl)) rfl ?_
      obtain ⟨w383, E384, S385⟩ := St.store (P := Try.prog) S382 10 32 (.slice A376 l362.length c377) (off := 1) (cur' := #[.slice A345 l341.length c346, .slice A376 l362.length c377, .slice A16 a0.lists.length c17, .slice A20 a0.grown.length c21, .slice A24 a0.whose.length c25]) rfl T.size32_1 rfl rfl rfl
      change St _ _ _ [G378, M370, [(b356, .cells #[.slice A321 (t314).length c322, .slice A321 (t314).length c322] 43 (0, 0))], G347, [(b335, .cells #[.slice A299 (t292).length c300, .slice A310 (t303).length c311] 43 (0, 0))], [(p2, .cells #[.slice A46 a2.L.length c47, .int .i64 a2.Time] 135 (0, 0))], G48, [(p1, .cells #[.slice A35 a1.flying.length c36, .int .i64 a1.time] 133 (0, 0))], G37, [(b52, .cells #[.int .i64 a3.Kind, .int .i64 a3.On, .int .i64 a3.N, .int .i64 a3.Many, .int .i64 a3.P.From, .int .i64 a3.P.To, .string (bs a3.P.Data)] 39 (0, 0))], [(p0, .cells #[.slice A345 l341.length c346, .slice A376 l362.length c377, .slice A16 a0.lists.length c17, .slice A20 a0.grown.length c21, .slice A24 a0.whose.length c25] 35 (0, 0))], G18, G22, G26] at S385
      refine WOps.u (E384 rfl rfl) ?_
      refine WOps.nil ?_
      refine WEx.then_ ?_
      refine WCode.forget (l' := [(19, .bool t325), (20, .bool t330)]) ⟨rfl, rfl, trivial⟩ ?_
      refine WCode.cutseq (fun l_ w_ => ∃ q389 : Nat, ∃ b386 : Bool, l_ = [(8, .bool b386)] ∧ y_step.j2 q389 a0 a1 a2 l341 l362 b386 = some r_ ∧ St w (KS [G0, G1, G2]) w_ [[(p2, .cells #[.slice A46 a2.L.length c47, .int .i64 a2.Time] 135 (0, 0))], [(p1, .cells #[.slice A35 a1.flying.length c36, .int .i64 a1.time] 133 (0, 0))], [(p0, .cells #[.slice A345 l341.length c346, .slice A376 l362.length c377, .slice A16 a0.lists.length c17, .slice A20 a0.grown.length c21, .slice A24 a0.whose.length c25] 35 (0, 0))], G48, G37, G347, G378, M370, G18, G22, G26]) ?_ ?_
      ·
       refine WCode.region ?_
       refine WOps.p (G.move rfl) rfl ?_
       refine WOps.p (G.move rfl) rfl ?_
       rcases ite_some hF with ⟨h391, hF⟩ | ⟨h391, hF⟩
       ·
        refine WOps.on rfl (kbl (b := t325) rfl h391) ?_
        refine WOps.p (G.move rfl) rfl ?_
        refine WOps.p (G.pick_t (kb (b := t325) rfl h391) rfl) rfl ?_
        refine WOps.p (G.assign rfl) rfl ?_
        refine WOps.nil ?_
        have S392 : St _ _ _ [[(p2, .cells #[.slice A46 a2.L.length c47, .int .i64 a2.Time] 135 (0, 0))], [(p1, .cells #[.slice A35 a1.flying.length c36, .int .i64 a1.time] 133 (0, 0))], [(p0, .cells #[.slice A345 l341.length c346, .slice A376 l362.length c377, .slice A16 a0.lists.length c17, .slice A20 a0.grown.length c21, .slice A24 a0.whose.length c25] 35 (0, 0))], G48, G37, G347, G378, M370, G18, G22, G26, [(b356, .cells #[.slice A321 (t314).length c322, .slice A321 (t314).length c322] 43 (0, 0))], [(b335, .cells #[.slice A299 (t292).length c300, .slice A310 (t303).length c311] 43 (0, 0))], [(b52, .cells #[.int .i64 a3.Kind, .int .i64 a3.On, .int .i64 a3.N, .int .i64 a3.Many, .int .i64 a3.P.From, .int .i64 a3.P.To, .string (bs a3.P.Data)] 39 (0, 0))]] := St.reord S385 [5, 7, 10, 6, 8, 3, 0, 1, 11, 12, 13, 2, 4, 9] 14 rfl (by decide) rfl
        have S393 := St.keep (As := [[(p2, .cells #[.slice A46 a2.L.length c47, .int .i64 a2.Time] 135 (0, 0))], [(p1, .cells #[.slice A35 a1.flying.length c36, .int .i64 a1.time] 133 (0, 0))], [(p0, .cells #[.slice A345 l341.length c346, .slice A376 l362.length c377, .slice A16 a0.lists.length c17, .slice A20 a0.grown.length c21, .slice A24 a0.whose.length c25] 35 (0, 0))], G48, G37, G347, G378, M370, G18, G22, G26]) S392
        refine WEx.cutend _ ?_ ⟨k, t330, rfl, hF, S393⟩
        exact ⟨rfl, trivial⟩
       ·
        refine WOps.off rfl (kbl (b := t325) rfl (Bool.eq_false_iff.2 h391)) rfl rfl ?_
        refine WOps.p (G.pick_f (kb (b := t325) rfl (Bool.eq_false_iff.2 h391)) rfl) rfl ?_
        refine WOps.p (G.assign rfl) rfl ?_
        refine WOps.nil ?_
        have S394 : St _ _ _ [[(p2, .cells #[.slice A46 a2.L.length c47, .int .i64 a2.Time] 135 (0, 0))], [(p1, .cells #[.slice A35 a1.flying.length c36, .int .i64 a1.time] 133 (0, 0))], [(p0, .cells #[.slice A345 l341.length c346, .slice A376 l362.length c377, .slice A16 a0.lists.length c17, .slice A20 a0.grown.length c21, .slice A24 a0.whose.length c25] 35 (0, 0))], G48, G37, G347, G378, M370, G18, G22, G26, [(b356, .cells #[.slice A321 (t314).length c322, .slice A321 (t314).length c322] 43 (0, 0))], [(b335, .cells #[.slice A299 (t292).length c300, .slice A310 (t303).length c311] 43 (0, 0))], [(b52, .cells #[.int .i64 a3.Kind, .int .i64 a3.On, .int .i64 a3.N, .int .i64 a3.Many, .int .i64 a3.P.From, .int .i64 a3.P.To, .string (bs a3.P.Data)] 39 (0, 0))]] := St.reord S385 [5, 7, 10, 6, 8, 3, 0, 1, 11, 12, 13, 2, 4, 9] 14 rfl (by decide) rfl
        have S395 := St.keep (As := [[(p2, .cells #[.slice A46 a2.L.length c47, .int .i64 a2.Time] 135 (0, 0))], [(p1, .cells #[.slice A35 a1.flying.length c36, .int .i64 a1.time] 133 (0, 0))], [(p0, .cells #[.slice A345 l341.length c346, .slice A376 l362.length c377, .slice A16 a0.lists.length c17, .slice A20 a0.grown.length c21, .slice A24 a0.whose.length c25] 35 (0, 0))], G48, G37, G347, G378, M370, G18, G22, G26]) S394
        refine WEx.cutend _ ?_ ⟨k, false, rfl, hF, S395⟩
        exact ⟨rfl, trivial⟩
      ·
       rintro _ w387 ⟨q389, b386, rfl, hF, S388⟩
       unfold y_step.j2 at hF
       refine WCode.ret ?_
       refine WEx.in_ret ?_
       refine WEx.then_ret ?_
       obtain rfl := some_eq hF
       refine WEx.ret1 rfl rfl ?_
       have S396 := (S388.front 7 rfl).front 7 rfl
       change St _ _ _ [G378, M370, [(p2, .cells #[.slice A46 a2.L.length c47, .int .i64 a2.Time] 135 (0, 0))], [(p1, .cells #[.slice A35 a1.flying.length c36, .int .i64 a1.time] 133 (0, 0))], [(p0, .cells #[.slice A345 l341.length c346, .slice A376 l362.length c377, .slice A16 a0.lists.length c17, .slice A20 a0.grown.length c21, .slice A24 a0.whose.length c25] 35 (0, 0))], G48, G37, G347, G18, G22, G26] at S396
       obtain ⟨G397, hO398, S399⟩ := St.repool S396 hP381
       have S400 : St _ _ _ [[(p0, .cells #[.slice A345 l341.length c346, .slice A376 l362.length c377, .slice A16 a0.lists.length c17, .slice A20 a0.grown.length c21, .slice A24 a0.whose.length c25] 35 (0, 0))], G347, G397, G18, G22, G26, [(p2, .cells #[.slice A46 a2.L.length c47, .int .i64 a2.Time] 135 (0, 0))], [(p1, .cells #[.slice A35 a1.flying.length c36, .int .i64 a1.time] 133 (0, 0))], G48, G37] := St.reord S399 [3, 6, 0, 7, 8, 9, 1, 2, 4, 5] 10 rfl (by decide) rfl
       have hO401 : ObjO 35 BookA.rp p0 (⟨l341, l362, a0.lists, a0.grown, a0.whose⟩ : BookA) ([(p0, .cells #[.slice A345 l341.length c346, .slice A376 l362.length c377, .slice A16 a0.lists.length c17, .slice A20 a0.grown.length c21, .slice A24 a0.whose.length c25] 35 (0, 0))] ++ (G347 ++ (G397 ++ (G18 ++ (G22 ++ (G26)))))) := ⟨_, _, ⟨A345, c346, G347, A376, c377, G397, A16, c17, G18, A20, c21, G22, A24, c25, G26, rfl, hO350, hO398, hO19, hO23, hO27, rfl⟩, rfl⟩
       have S402 : St _ _ _ [[(p0, .cells #[.slice A345 l341.length c346, .slice A376 l362.length c377, .slice A16 a0.lists.length c17, .slice A20 a0.grown.length c21, .slice A24 a0.whose.length c25] 35 (0, 0))] ++ (G347 ++ (G397 ++ (G18 ++ (G22 ++ (G26))))), [(p2, .cells #[.slice A46 a2.L.length c47, .int .i64 a2.Time] 135 (0, 0))], [(p1, .cells #[.slice A35 a1.flying.length c36, .int .i64 a1.time] 133 (0, 0))], G48, G37] := S400.objs (by simp)
       have S403 := (S402.front 4 rfl).front 3 rfl
       change St _ _ _ [[(p1, .cells #[.slice A35 a1.flying.length c36, .int .i64 a1.time] 133 (0, 0))], G37, [(p0, .cells #[.slice A345 l341.length c346, .slice A376 l362.length c377, .slice A16 a0.lists.length c17, .slice A20 a0.grown.length c21, .slice A24 a0.whose.length c25] 35 (0, 0))] ++ (G347 ++ (G397 ++ (G18 ++ (G22 ++ (G26))))), [(p2, .cells #[.slice A46 a2.L.length c47, .int .i64 a2.Time] 135 (0, 0))], G48] at S403
       have hO404 : ObjO 133 Air.rp p1 a1 ([(p1, .cells #[.slice A35 a1.flying.length c36, .int .i64 a1.time] 133 (0, 0))] ++ (G37)) := ⟨_, _, ⟨A35, c36, G37, rfl, hO38, rfl⟩, rfl⟩
       have S405 : St _ _ _ [[(p1, .cells #[.slice A35 a1.flying.length c36, .int .i64 a1.time] 133 (0, 0))] ++ (G37), [(p0, .cells #[.slice A345 l341.length c346, .slice A376 l362.length c377, .slice A16 a0.lists.length c17, .slice A20 a0.grown.length c21, .slice A24 a0.whose.length c25] 35 (0, 0))] ++ (G347 ++ (G397 ++ (G18 ++ (G22 ++ (G26))))), [(p2, .cells #[.slice A46 a2.L.length c47, .int .i64 a2.Time] 135 (0, 0))], G48] := S403.objs (by simp)
       have S406 := (S405.front 3 rfl).front 3 rfl
       change St _ _ _ [[(p2, .cells #[.slice A46 a2.L.length c47, .int .i64 a2.Time] 135 (0, 0))], G48, [(p1, .cells #[.slice A35 a1.flying.length c36, .int .i64 a1.time] 133 (0, 0))] ++ (G37), [(p0, .cells #[.slice A345 l341.length c346, .slice A376 l362.length c377, .slice A16 a0.lists.length c17, .slice A20 a0.grown.length c21, .slice A24 a0.whose.length c25] 35 (0, 0))] ++ (G347 ++ (G397 ++ (G18 ++ (G22 ++ (G26)))))] at S406
       have hO407 : ObjO 135 Air135.rp p2 a2 ([(p2, .cells #[.slice A46 a2.L.length c47, .int .i64 a2.Time] 135 (0, 0))] ++ (G48)) := ⟨_, _, ⟨A46, c47, G48, rfl, hO49, rfl⟩, rfl⟩
       have S408 : St _ _ _ [[(p2, .cells #[.slice A46 a2.L.length c47, .int .i64 a2.Time] 135 (0, 0))] ++ (G48), [(p1, .cells #[.slice A35 a1.flying.length c36, .int .i64 a1.time] 133 (0, 0))] ++ (G37), [(p0, .cells #[.slice A345 l341.length c346, .slice A376 l362.length c377, .slice A16 a0.lists.length c17, .slice A20 a0.grown.length c21, .slice A24 a0.whose.length c25] 35 (0, 0))] ++ (G347 ++ (G397 ++ (G18 ++ (G22 ++ (G26)))))] := S406.objs (by simp)
       have S409 := (S408.front 1 rfl).front 2 rfl
       change St _ _ _ [[(p0, .cells #[.slice A345 l341.length c346, .slice A376 l362.length c377, .slice A16 a0.lists.length c17, .slice A20 a0.grown.length c21, .slice A24 a0.whose.length c25] 35 (0, 0))] ++ (G347 ++ (G397 ++ (G18 ++ (G22 ++ (G26))))), [(p1, .cells #[.slice A35 a1.flying.length c36, .int .i64 a1.time] 133 (0, 0))] ++ (G37), [(p2, .cells #[.slice A46 a2.L.length c47, .int .i64 a2.Time] 135 (0, 0))] ++ (G48)] at S409
       exact ⟨[(p0, .cells #[.slice A345 l341.length c346, .slice A376 l362.length c377, .slice A16 a0.lists.length c17, .slice A20 a0.grown.length c21, .slice A24 a0.whose.length c25] 35 (0, 0))] ++ (G347 ++ (G397 ++ (G18 ++ (G22 ++ (G26))))), [(p1, .cells #[.slice A35 a1.flying.length c36, .int .i64 a1.time] 133 (0, 0))] ++ (G37), [(p2, .cells #[.slice A46 a2.L.length c47, .int .i64 a2.Time] 135 (0, 0))] ++ (G48), rfl, hO401, hO404, hO407, St.keep (As := [[(p0, .cells #[.slice A345 l341.length c346, .slice A376 l362.length c377, .slice A16 a0.lists.length c17, .slice A20 a0.grown.length c21, .slice A24 a0.whose.length c25] 35 (0, 0))] ++ (G347 ++ (G397 ++ (G18 ++ (G22 ++ (G26))))), [(p1, .cells #[.slice A35 a1.flying.length c36, .int .i64 a1.time] 133 (0, 0))] ++ (G37), [(p2, .cells #[.slice A46 a2.L.length c47, .int .i64 a2.Time] 135 (0, 0))] ++ (G48)]) S409⟩
     ·
      refine WCode.cond_f (kb (b := decide (a3.Kind = 5)) rfl (decide_eq_false h291)) ?_
      refine WCode.seq ?_
      refine WCode.region ?_
      refine WOps.p (G.eql rfl rfl rfl) rfl ?_
      refine WOps.p (G.assign rfl) rfl ?_
      refine WOps.nil ?_
      refine WEx.then_ ?_
      rcases ite_some hF with ⟨h410, hF⟩ | ⟨h410, hF⟩
      ·
       refine WCode.cond_t (kb (b := decide (a3.Kind = 6)) rfl (decide_eq_true h410)) ?_
       refine WCode.seq ?_
       refine WCode.region ?_
       refine WOps.p (G.move rfl) rfl ?_
       have S411 := (S55.front 4 rfl).front 4 rfl
       change St _ _ _ [[(p1, .cells #[.slice A35 a1.flying.length c36, .int .i64 a1.time] 133 (0, 0))], G37, [(b52, .cells #[.int .i64 a3.Kind, .int .i64 a3.On, .int .i64 a3.N, .int .i64 a3.Many, .int .i64 a3.P.From, .int .i64 a3.P.To, .string (bs a3.P.Data)] 39 (0, 0))], [(p2, .cells #[.slice A46 a2.L.length c47, .int .i64 a2.Time] 135 (0, 0))], G48, [(p0, .cells #[.slice A8 a0.free.length c9, .slice A12 a0.was.length c13, .slice A16 a0.lists.length c17, .slice A20 a0.grown.length c21, .slice A24 a0.whose.length c25] 35 (0, 0))], G10, G14, G18, G22, G26] at S411
       have hO412 : ObjO 133 Air.rp p1 a1 ([(p1, .cells #[.slice A35 a1.flying.length c36, .int .i64 a1.time] 133 (0, 0))] ++ (G37)) := ⟨_, _, ⟨A35, c36, G37, rfl, hO38, rfl⟩, rfl⟩
       have S413 : St _ _ _ [[(p1, .cells #[.slice A35 a1.flying.length c36, .int .i64 a1.time] 133 (0, 0))] ++ (G37), [(b52, .cells #[.int .i64 a3.Kind, .int .i64 a3.On, .int .i64 a3.N, .int .i64 a3.Many, .int .i64 a3.P.From, .int .i64 a3.P.To, .string (bs a3.P.Data)] 39 (0, 0))], [(p2, .cells #[.slice A46 a2.L.length c47, .int .i64 a2.Time] 135 (0, 0))], G48, [(p0, .cells #[.slice A8 a0.free.length c9, .slice A12 a0.was.length c13, .slice A16 a0.lists.length c17, .slice A20 a0.grown.length c21, .slice A24 a0.whose.length c25] 35 (0, 0))], G10, G14, G18, G22, G26] := S411.objs (by simp)
       obtain ⟨t414, hc415, hF⟩ := bind_some hF
       refine WOps.call T.call67 (evs_cons rfl evs_nil) rfl ?_
       refine (ya_Tick_calls k a1 hO412 hc415 (St.hpN (As := [[(p1, .cells #[.slice A35 a1.flying.length c36, .int .i64 a1.time] 133 (0, 0))] ++ (G37)]) S413)).mono ?_
       rintro _ w416 ⟨G419, rfl, hO420, T417⟩
       have S418 := St.callN (As := [[(p1, .cells #[.slice A35 a1.flying.length c36, .int .i64 a1.time] 133 (0, 0))] ++ (G37)]) S413 T417
       change St _ _ _ [G419, [(b52, .cells #[.int .i64 a3.Kind, .int .i64 a3.On, .int .i64 a3.N, .int .i64 a3.Many, .int .i64 a3.P.From, .int .i64 a3.P.To, .string (bs a3.P.Data)] 39 (0, 0))], [(p2, .cells #[.slice A46 a2.L.length c47, .int .i64 a2.Time] 135 (0, 0))], G48, [(p0, .cells #[.slice A8 a0.free.length c9, .slice A12 a0.was.length c13, .slice A16 a0.lists.length c17, .slice A20 a0.grown.length c21, .slice A24 a0.whose.length c25] 35 (0, 0))], G10, G14, G18, G22, G26] at S418
       refine ⟨_, rfl, ?_⟩
       obtain ⟨cs421, G422, ho423, hg424⟩ := hO420
       obtain ⟨A425, c426, G427, rfl, hO428, hq429⟩ := ho423
       have S430 : St _ _ _ [[(p1, .cells #[.slice A425 t414.2.flying.length c426, .int .i64 t414.2.time] 133 (0, 0))], G427, [(b52, .cells #[.int .i64 a3.Kind, .int .i64 a3.On, .int .i64 a3.N, .int .i64 a3.Many, .int .i64 a3.P.From, .int .i64 a3.P.To, .string (bs a3.P.Data)] 39 (0, 0))], [(p2, .cells #[.slice A46 a2.L.length c47, .int .i64 a2.Time] 135 (0, 0))], G48, [(p0, .cells #[.slice A8 a0.free.length c9, .slice A12 a0.was.length c13, .slice A16 a0.lists.length c17, .slice A20 a0.grown.length c21, .slice A24 a0.whose.length c25] 35 (0, 0))], G10, G14, G18, G22, G26] := S418.objs (by rw [hg424, hq429]; simp)
       refine WOps.p (G.assign rfl) rfl ?_
       refine WOps.nil ?_
       refine WEx.then_ ?_
       refine WCode.forget (l' := [(1, .pointer (some ⟨p1, 0, none⟩)), (2, .pointer (some ⟨p2, 0, none⟩)), (21, .int .i64 t414.1)]) ⟨rfl, rfl, rfl, trivial⟩ ?_
       refine WCode.cutseq (fun l_ w_ => ∃ q440 : Nat, ∃ b431 : Bool, ∃ A432 : Option Addr, ∃ c433 : Nat, ∃ l434 : List Packet, ∃ G435 : Grp, ∃ x437 : Int, l_ = [(8, .bool b431)] ∧ y_step.j3 q440 a0 t414 b431 l434 x437 = some r_ ∧ (SlO 37 Packet.rp (.slice A432 l434.length c433) l434 G435) ∧ St w (KS [G0, G1, G2]) w_ [[(p1, .cells #[.slice A425 t414.2.flying.length c426, .int .i64 t414.2.time] 133 (0, 0))], [(p2, .cells #[.slice A432 l434.length c433, .int .i64 x437] 135 (0, 0))], [(p0, .cells #[.slice A8 a0.free.length c9, .slice A12 a0.was.length c13, .slice A16 a0.lists.length c17, .slice A20 a0.grown.length c21, .slice A24 a0.whose.length c25] 35 (0, 0))], G427, G10, G14, G18, G22, G26, G435]) ?_ ?_
       ·
        refine WCode.region ?_
        refine WOps.p (G.move rfl) rfl ?_
        refine WOps.p (G.move rfl) rfl ?_
        have S442 := (S430.front 4 rfl).front 4 rfl
        change St _ _ _ [[(p2, .cells #[.slice A46 a2.L.length c47, .int .i64 a2.Time] 135 (0, 0))], G48, [(p1, .cells #[.slice A425 t414.2.flying.length c426, .int .i64 t414.2.time] 133 (0, 0))], G427, [(b52, .cells #[.int .i64 a3.Kind, .int .i64 a3.On, .int .i64 a3.N, .int .i64 a3.Many, .int .i64 a3.P.From, .int .i64 a3.P.To, .string (bs a3.P.Data)] 39 (0, 0))], [(p0, .cells #[.slice A8 a0.free.length c9, .slice A12 a0.was.length c13, .slice A16 a0.lists.length c17, .slice A20 a0.grown.length c21, .slice A24 a0.whose.length c25] 35 (0, 0))], G10, G14, G18, G22, G26] at S442
        have hO443 : ObjO 135 Air135.rp p2 a2 ([(p2, .cells #[.slice A46 a2.L.length c47, .int .i64 a2.Time] 135 (0, 0))] ++ (G48)) := ⟨_, _, ⟨A46, c47, G48, rfl, hO49, rfl⟩, rfl⟩
        have S444 : St _ _ _ [[(p2, .cells #[.slice A46 a2.L.length c47, .int .i64 a2.Time] 135 (0, 0))] ++ (G48), [(p1, .cells #[.slice A425 t414.2.flying.length c426, .int .i64 t414.2.time] 133 (0, 0))], G427, [(b52, .cells #[.int .i64 a3.Kind, .int .i64 a3.On, .int .i64 a3.N, .int .i64 a3.Many, .int .i64 a3.P.From, .int .i64 a3.P.To, .string (bs a3.P.Data)] 39 (0, 0))], [(p0, .cells #[.slice A8 a0.free.length c9, .slice A12 a0.was.length c13, .slice A16 a0.lists.length c17, .slice A20 a0.grown.length c21, .slice A24 a0.whose.length c25] 35 (0, 0))], G10, G14, G18, G22, G26] := S442.objs (by simp)
        obtain ⟨t445, hc446, hF⟩ := bind_some hF
        refine WOps.call T.call73 (evs_cons rfl evs_nil) rfl ?_
        refine (yr_Tick_calls k a2 hO443 hc446 (St.hpN (As := [[(p2, .cells #[.slice A46 a2.L.length c47, .int .i64 a2.Time] 135 (0, 0))] ++ (G48)]) S444)).mono ?_
        rintro _ w447 ⟨G450, rfl, hO451, T448⟩
        have S449 := St.callN (As := [[(p2, .cells #[.slice A46 a2.L.length c47, .int .i64 a2.Time] 135 (0, 0))] ++ (G48)]) S444 T448
        change St _ _ _ [G450, [(p1, .cells #[.slice A425 t414.2.flying.length c426, .int .i64 t414.2.time] 133 (0, 0))], G427, [(b52, .cells #[.int .i64 a3.Kind, .int .i64 a3.On, .int .i64 a3.N, .int .i64 a3.Many, .int .i64 a3.P.From, .int .i64 a3.P.To, .string (bs a3.P.Data)] 39 (0, 0))], [(p0, .cells #[.slice A8 a0.free.length c9, .slice A12 a0.was.length c13, .slice A16 a0.lists.length c17, .slice A20 a0.grown.length c21, .slice A24 a0.whose.length c25] 35 (0, 0))], G10, G14, G18, G22, G26] at S449
        refine ⟨_, rfl, ?_⟩
        obtain ⟨cs452, G453, ho454, hg455⟩ := hO451
        obtain ⟨A456, c457, G458, rfl, hO459, hq460⟩ := ho454
        have S461 : St _ _ _ [[(p2, .cells #[.slice A456 t445.2.L.length c457, .int .i64 t445.2.Time] 135 (0, 0))], G458, [(p1, .cells #[.slice A425 t414.2.flying.length c426, .int .i64 t414.2.time] 133 (0, 0))], G427, [(b52, .cells #[.int .i64 a3.Kind, .int .i64 a3.On, .int .i64 a3.N, .int .i64 a3.Many, .int .i64 a3.P.From, .int .i64 a3.P.To, .string (bs a3.P.Data)] 39 (0, 0))], [(p0, .cells #[.slice A8 a0.free.length c9, .slice A12 a0.was.length c13, .slice A16 a0.lists.length c17, .slice A20 a0.grown.length c21, .slice A24 a0.whose.length c25] 35 (0, 0))], G10, G14, G18, G22, G26] := S449.objs (by rw [hg455, hq460]; simp)
        refine WOps.p (G.eql rfl rfl rfl) rfl ?_
        refine WOps.p (G.move rfl) rfl ?_
        rcases ite_some hF with ⟨h462, hF⟩ | ⟨h462, hF⟩
        ·
         refine WOps.on rfl (kbl (b := decide (t414.1 = t445.1)) rfl (decide_eq_true h462)) ?_
         refine WOps.p (G.move rfl) rfl ?_
         refine WOps.on rfl (kbl (b := decide (t414.1 = t445.1)) rfl (decide_eq_true h462)) ?_
         obtain ⟨t463, hc464, hF⟩ := bind_some hF
         have S465 := (S461.front 3 rfl).front 3 rfl
         change St _ _ _ [[(p1, .cells #[.slice A425 t414.2.flying.length c426, .int .i64 t414.2.time] 133 (0, 0))], G427, [(p2, .cells #[.slice A456 t445.2.L.length c457, .int .i64 t445.2.Time] 135 (0, 0))], G458, [(b52, .cells #[.int .i64 a3.Kind, .int .i64 a3.On, .int .i64 a3.N, .int .i64 a3.Many, .int .i64 a3.P.From, .int .i64 a3.P.To, .string (bs a3.P.Data)] 39 (0, 0))], [(p0, .cells #[.slice A8 a0.free.length c9, .slice A12 a0.was.length c13, .slice A16 a0.lists.length c17, .slice A20 a0.grown.length c21, .slice A24 a0.whose.length c25] 35 (0, 0))], G10, G14, G18, G22, G26] at S465
         have hP466 : PtR 133 Air.rp w447 (KS [[(p1, .cells #[.slice A425 t414.2.flying.length c426, .int .i64 t414.2.time] 133 (0, 0))], G427]) p1 t414.2 := ⟨_, S465.blk 0 rfl, KS_at 0 rfl (by simp [keys]), ⟨A425, c426, rfl, ((hO428.rd (fun b o hb => S465.grp 1 rfl hb)).mono (fun b hb => KS_at 1 rfl hb))⟩⟩
         refine WOps.call T.call25 (evs_cons rfl evs_nil) rfl ?_
         refine (ya_Now_calls k t414.2 hP466 (St.outN (Bs := []) (As := [[(p1, .cells #[.slice A425 t414.2.flying.length c426, .int .i64 t414.2.time] 133 (0, 0))], G427]) S465) hc464).mono ?_
         rintro _ w467 ⟨rfl, T468⟩
         have S469 := St.callN (As := []) S465 T468
         change St _ _ _ [[(p1, .cells #[.slice A425 t414.2.flying.length c426, .int .i64 t414.2.time] 133 (0, 0))], G427, [(p2, .cells #[.slice A456 t445.2.L.length c457, .int .i64 t445.2.Time] 135 (0, 0))], G458, [(b52, .cells #[.int .i64 a3.Kind, .int .i64 a3.On, .int .i64 a3.N, .int .i64 a3.Many, .int .i64 a3.P.From, .int .i64 a3.P.To, .string (bs a3.P.Data)] 39 (0, 0))], [(p0, .cells #[.slice A8 a0.free.length c9, .slice A12 a0.was.length c13, .slice A16 a0.lists.length c17, .slice A20 a0.grown.length c21, .slice A24 a0.whose.length c25] 35 (0, 0))], G10, G14, G18, G22, G26] at S469
         refine ⟨_, rfl, ?_⟩
         refine WOps.on rfl (kbl (b := decide (t414.1 = t445.1)) rfl (decide_eq_true h462)) ?_
         refine WOps.p (G.move rfl) rfl ?_
         refine WOps.on rfl (kbl (b := decide (t414.1 = t445.1)) rfl (decide_eq_true h462)) ?_
         refine WOps.p (G.eql rfl rfl rfl) rfl ?_
         refine WOps.p (G.pick_t (kb (b := decide (t414.1 = t445.1)) rfl (decide_eq_true h462)) rfl) rfl ?_
         refine WOps.p (G.assign rfl) rfl ?_
         refine WOps.nil ?_
         have S470 : St _ _ _ [[(p1, .cells #[.slice A425 t414.2.flying.length c426, .int .i64 t414.2.time] 133 (0, 0))], [(p2, .cells #[.slice A456 t445.2.L.length c457, .int .i64 t445.2.Time] 135 (0, 0))], [(p0, .cells #[.slice A8 a0.free.length c9, .slice A12 a0.was.length c13, .slice A16 a0.lists.length c17, .slice A20 a0.grown.length c21, .slice A24 a0.whose.length c25] 35 (0, 0))], G427, G10, G14, G18, G22, G26, G458, [(b52, .cells #[.int .i64 a3.Kind, .int .i64 a3.On, .int .i64 a3.N, .int .i64 a3.Many, .int .i64 a3.P.From, .int .i64 a3.P.To, .string (bs a3.P.Data)] 39 (0, 0))]] := St.reord S469 [0, 2, 5, 1, 6, 7, 8, 9, 10, 3, 4] 11 rfl (by decide) rfl
         have S471 := St.keep (As := [[(p1, .cells #[.slice A425 t414.2.flying.length c426, .int .i64 t414.2.time] 133 (0, 0))], [(p2, .cells #[.slice A456 t445.2.L.length c457, .int .i64 t445.2.Time] 135 (0, 0))], [(p0, .cells #[.slice A8 a0.free.length c9, .slice A12 a0.was.length c13, .slice A16 a0.lists.length c17, .slice A20 a0.grown.length c21, .slice A24 a0.whose.length c25] 35 (0, 0))], G427, G10, G14, G18, G22, G26, G458]) S470
         refine WEx.cutend _ ?_ ⟨k, decide (t463 = t414.1), A456, c457, t445.2.L, G458, t445.2.Time, rfl, hF, hO459, S471⟩
         exact ⟨rfl, trivial⟩
        ·
         refine WOps.off rfl (kbl (b := decide (t414.1 = t445.1)) rfl (decide_eq_false h462)) rfl rfl ?_
         refine WOps.off rfl (kbl (b := decide (t414.1 = t445.1)) rfl (decide_eq_false h462)) rfl rfl ?_
         refine WOps.off rfl (kbl (b := decide (t414.1 = t445.1)) rfl (decide_eq_false h462)) rfl rfl ?_
         refine WOps.off rfl (kbl (b := decide (t414.1 = t445.1)) rfl (decide_eq_false h462)) rfl rfl ?_
         refine WOps.p (G.pick_f (kb (b := decide (t414.1 = t445.1)) rfl (decide_eq_false h462)) rfl) rfl ?_
         refine WOps.p (G.assign rfl) rfl ?_
         refine WOps.nil ?_
         have S472 : St _ _ _ [[(p1, .cells #[.slice A425 t414.2.flying.length c426, .int .i64 t414.2.time] 133 (0, 0))], [(p2, .cells #[.slice A456 t445.2.L.length c457, .int .i64 t445.2.Time] 135 (0, 0))], [(p0, .cells #[.slice A8 a0.free.length c9, .slice A12 a0.was.length c13, .slice A16 a0.lists.length c17, .slice A20 a0.grown.length c21, .slice A24 a0.whose.length c25] 35 (0, 0))], G427, G10, G14, G18, G22, G26, G458, [(b52, .cells #[.int .i64 a3.Kind, .int .i64 a3.On, .int .i64 a3.N, .int .i64 a3.Many, .int .i64 a3.P.From, .int .i64 a3.P.To, .string (bs a3.P.Data)] 39 (0, 0))]] := St.reord S461 [2, 0, 5, 3, 6, 7, 8, 9, 10, 1, 4] 11 rfl (by decide) rfl
         have S473 := St.keep (As := [[(p1, .cells #[.slice A425 t414.2.flying.length c426, .int .i64 t414.2.time] 133 (0, 0))], [(p2, .cells #[.slice A456 t445.2.L.length c457, .int .i64 t445.2.Time] 135 (0, 0))], [(p0, .cells #[.slice A8 a0.free.length c9, .slice A12 a0.was.length c13, .slice A16 a0.lists.length c17, .slice A20 a0.grown.length c21, .slice A24 a0.whose.length c25] 35 (0, 0))], G427, G10, G14, G18, G22, G26, G458]) S472
         refine WEx.cutend _ ?_ ⟨k, false, A456, c457, t445.2.L, G458, t445.2.Time, rfl, hF, hO459, S473⟩
         exact ⟨rfl, trivial⟩
       ·
        rintro _ w438 ⟨q440, b431, A432, c433, l434, G435, x437, rfl, hF, hO436, S439⟩
        unfold y_step.j3 at hF
        refine WCode.ret ?_
        refine WEx.in_ret ?_
        refine WEx.then_ret ?_
        obtain rfl := some_eq hF
        refine WEx.ret1 rfl rfl ?_
        have S474 : St _ _ _ [[(p0, .cells #[.slice A8 a0.free.length c9, .slice A12 a0.was.length c13, .slice A16 a0.lists.length c17, .slice A20 a0.grown.length c21, .slice A24 a0.whose.length c25] 35 (0, 0))], G10, G14, G18, G22, G26, [(p1, .cells #[.slice A425 t414.2.flying.length c426, .int .i64 t414.2.time] 133 (0, 0))], [(p2, .cells #[.slice A432 l434.length c433, .int .i64 x437] 135 (0, 0))], G427, G435] := St.reord S439 [2, 4, 5, 6, 7, 8, 0, 1, 3, 9] 10 rfl (by decide) rfl
        have hO475 : ObjO 35 BookA.rp p0 a0 ([(p0, .cells #[.slice A8 a0.free.length c9, .slice A12 a0.was.length c13, .slice A16 a0.lists.length c17, .slice A20 a0.grown.length c21, .slice A24 a0.whose.length c25] 35 (0, 0))] ++ (G10 ++ (G14 ++ (G18 ++ (G22 ++ (G26)))))) := ⟨_, _, ⟨A8, c9, G10, A12, c13, G14, A16, c17, G18, A20, c21, G22, A24, c25, G26, rfl, hO11, hO15, hO19, hO23, hO27, rfl⟩, rfl⟩
        have S476 : St _ _ _ [[(p0, .cells #[.slice A8 a0.free.length c9, .slice A12 a0.was.length c13, .slice A16 a0.lists.length c17, .slice A20 a0.grown.length c21, .slice A24 a0.whose.length c25] 35 (0, 0))] ++ (G10 ++ (G14 ++ (G18 ++ (G22 ++ (G26))))), [(p1, .cells #[.slice A425 t414.2.flying.length c426, .int .i64 t414.2.time] 133 (0, 0))], [(p2, .cells #[.slice A432 l434.length c433, .int .i64 x437] 135 (0, 0))], G427, G435] := S474.objs (by simp)
        have S477 := (S476.front 3 rfl).front 2 rfl
        change St _ _ _ [[(p1, .cells #[.slice A425 t414.2.flying.length c426, .int .i64 t414.2.time] 133 (0, 0))], G427, [(p0, .cells #[.slice A8 a0.free.length c9, .slice A12 a0.was.length c13, .slice A16 a0.lists.length c17, .slice A20 a0.grown.length c21, .slice A24 a0.whose.length c25] 35 (0, 0))] ++ (G10 ++ (G14 ++ (G18 ++ (G22 ++ (G26))))), [(p2, .cells #[.slice A432 l434.length c433, .int .i64 x437] 135 (0, 0))], G435] at S477
        have hO478 : ObjO 133 Air.rp p1 t414.2 ([(p1, .cells #[.slice A425 t414.2.flying.length c426, .int .i64 t414.2.time] 133 (0, 0))] ++ (G427)) := ⟨_, _, ⟨A425, c426, G427, rfl, hO428, rfl⟩, rfl⟩
        have S479 : St _ _ _ [[(p1, .cells #[.slice A425 t414.2.flying.length c426, .int .i64 t414.2.time] 133 (0, 0))] ++ (G427), [(p0, .cells #[.slice A8 a0.free.length c9, .slice A12 a0.was.length c13, .slice A16 a0.lists.length c17, .slice A20 a0.grown.length c21, .slice A24 a0.whose.length c25] 35 (0, 0))] ++ (G10 ++ (G14 ++ (G18 ++ (G22 ++ (G26))))), [(p2, .cells #[.slice A432 l434.length c433, .int .i64 x437] 135 (0, 0))], G435] := S477.objs (by simp)
        have S480 := (S479.front 3 rfl).front 3 rfl
        change St _ _ _ [[(p2, .cells #[.slice A432 l434.length c433, .int .i64 x437] 135 (0, 0))], G435, [(p1, .cells #[.slice A425 t414.2.flying.length c426, .int .i64 t414.2.time] 133 (0, 0))] ++ (G427), [(p0, .cells #[.slice A8 a0.free.length c9, .slice A12 a0.was.length c13, .slice A16 a0.lists.length c17, .slice A20 a0.grown.length c21, .slice A24 a0.whose.length c25] 35 (0, 0))] ++ (G10 ++ (G14 ++ (G18 ++ (G22 ++ (G26)))))] at S480
        have hO481 : ObjO 135 Air135.rp p2 (⟨l434, x437⟩ : Air135) ([(p2, .cells #[.slice A432 l434.length c433, .int .i64 x437] 135 (0, 0))] ++ (G435)) := ⟨_, _, ⟨A432, c433, G435, rfl, hO436, rfl⟩, rfl⟩
        have S482 : St _ _ _ [[(p2, .cells #[.slice A432 l434.length c433, .int .i64 x437] 135 (0, 0))] ++ (G435), [(p1, .cells #[.slice A425 t414.2.flying.length c426, .int .i64 t414.2.time] 133 (0, 0))] ++ (G427), [(p0, .cells #[.slice A8 a0.free.length c9, .slice A12 a0.was.length c13, .slice A16 a0.lists.length c17, .slice A20 a0.grown.length c21, .slice A24 a0.whose.length c25] 35 (0, 0))] ++ (G10 ++ (G14 ++ (G18 ++ (G22 ++ (G26)))))] := S480.objs (by simp)
        have S483 := (S482.front 1 rfl).front 2 rfl
        change St _ _ _ [[(p0, .cells #[.slice A8 a0.free.length c9, .slice A12 a0.was.length c13, .slice A16 a0.lists.length c17, .slice A20 a0.grown.length c21, .slice A24 a0.whose.length c25] 35 (0, 0))] ++ (G10 ++ (G14 ++ (G18 ++ (G22 ++ (G26))))), [(p1, .cells #[.slice A425 t414.2.flying.length c426, .int .i64 t414.2.time] 133 (0, 0))] ++ (G427), [(p2, .cells #[.slice A432 l434.length c433, .int .i64 x437] 135 (0, 0))] ++ (G435)] at S483
        exact ⟨[(p0, .cells #[.slice A8 a0.free.length c9, .slice A12 a0.was.length c13, .slice A16 a0.lists.length c17, .slice A20 a0.grown.length c21, .slice A24 a0.whose.length c25] 35 (0, 0))] ++ (G10 ++ (G14 ++ (G18 ++ (G22 ++ (G26))))), [(p1, .cells #[.slice A425 t414.2.flying.length c426, .int .i64 t414.2.time] 133 (0, 0))] ++ (G427), [(p2, .cells #[.slice A432 l434.length c433, .int .i64 x437] 135 (0, 0))] ++ (G435), rfl, hO475, hO478, hO481, St.keep (As := [[(p0, .cells #[.slice A8 a0.free.length c9, .slice A12 a0.was.length c13, .slice A16 a0.lists.length c17, .slice A20 a0.grown.length c21, .slice A24 a0.whose.length c25] 35 (0, 0))] ++ (G10 ++ (G14 ++ (G18 ++ (G22 ++ (G26))))), [(p1, .cells #[.slice A425 t414.2.flying.length c426, .int .i64 t414.2.time] 133 (0, 0))] ++ (G427), [(p2, .cells #[.slice A432 l434.length c433, .int .i64 x437] 135 (0, 0))] ++ (G435)]) S483⟩
      ·
       refine WCode.cond_f (kb (b := decide (a3.Kind = 6)) rfl (decide_eq_false h410)) ?_
       refine WCode.seq ?_
       refine WCode.region ?_
       refine WOps.p (G.eql rfl rfl rfl) rfl ?_
       refine WOps.p (G.assign rfl) rfl ?_
       refine WOps.nil ?_
       refine WEx.then_ ?_
       rcases ite_some hF with ⟨h484, hF⟩ | ⟨h484, hF⟩
       ·
        refine WCode.cond_t (kb (b := decide (a3.Kind = 7)) rfl (decide_eq_true h484)) ?_
        refine WCode.seq ?_
        refine WCode.drawH (.one 0 0 (.one 1 0 (.one 2 0 (.one 6 0 (.one 3 1 (.one 4 0 (.one 5 0 (.one 7 1 (.one 8 2 (.one 9 0 (.one 10 0 .nil))))))))))) (fun W_ => cellsAt W_ p2 0 [.slice A46 a2.L.length c47, .int .i64 a2.Time] ∧ cellsAt W_ b52 0 [.int .i64 a3.Kind, .int .i64 a3.On, .int .i64 a3.N, .int .i64 a3.Many, .int .i64 a3.P.From, .int .i64 a3.P.To, .string (bs a3.P.Data)] ∧ True) T.mixed (by kernel_rfl) (by intro _ _ d _ _ h; cases d <;> exact h) rfl rfl (by kernel_rfl) ?_ ?_
        all_goals have S485 := S55.drew
        all_goals generalize w53.drew = w486 at *
        · exact ⟨cellsAt.of_blk (S485.blk 1 rfl) rfl, cellsAt.of_blk (S485.blk 0 rfl) rfl, trivial⟩
        refine WH.p rfl wants (G.move rfl) rfl ?_
        refine WH.p rfl wants (G.nilp rfl) rfl ?_
        refine WH.p rfl wants (G.field T.fld135_0 rfl (show 0 + 0 = 0 from rfl)) rfl ?_
        refine WH.p rfl wants (G.field T.fld39_2 rfl (show 0 + 2 = 2 from rfl)) rfl ?_
        refine WH.r rfl wants (fun _ h_ => G.load1 T.one43 rfl (cellsAt.at h_.1 0 rfl)) rfl ?_
        refine WH.p rfl wants (G.len T.el43 rfl) rfl ?_
        refine WH.p rfl wants (G.sub rfl rfl (r := (w64 ((a2.L.length : Int) - 1))) rfl) rfl ?_
        refine WH.r rfl wants (fun _ h_ => G.load1 T.one3 rfl (cellsAt.at h_.2.1 2 rfl)) rfl ?_
        obtain ⟨t487, hc488, hF⟩ := bind_some hF
        refine WH.call rfl wants T.call16 (evs_cons rfl (evs_cons rfl evs_nil)) rfl ?_
        refine (ypick_calls k a3.N 2 hc488).mono ?_
        rintro _ w489 ⟨rfl, T490⟩
        have S491 := St.callN (As := []) S485 T490
        change St _ _ _ [[(b52, .cells #[.int .i64 a3.Kind, .int .i64 a3.On, .int .i64 a3.N, .int .i64 a3.Many, .int .i64 a3.P.From, .int .i64 a3.P.To, .string (bs a3.P.Data)] 39 (0, 0))], [(p2, .cells #[.slice A46 a2.L.length c47, .int .i64 a2.Time] 135 (0, 0))], G48, [(p1, .cells #[.slice A35 a1.flying.length c36, .int .i64 a1.time] 133 (0, 0))], G37, [(p0, .cells #[.slice A8 a0.free.length c9, .slice A12 a0.was.length c13, .slice A16 a0.lists.length c17, .slice A20 a0.grown.length c21, .slice A24 a0.whose.length c25] 35 (0, 0))], G10, G14, G18, G22, G26] at S491
        refine ⟨_, rfl, ?_⟩
        refine ⟨⟨cellsAt.of_blk (S491.blk 1 rfl) rfl, cellsAt.of_blk (S491.blk 0 rfl) rfl, trivial⟩, ?_⟩
        refine WH.p rfl wants (G.add rfl rfl (r := (w64 ((w64 ((a2.L.length : Int) - 1)) + t487))) rfl) rfl ?_
        refine WH.p rfl wants (G.assign rfl) rfl ?_
        refine WH.nil ?_
        refine WEx.then_ ?_
        refine WCode.forget (l' := [(1, .pointer (some ⟨p1, 0, none⟩)), (2, .pointer (some ⟨p2, 0, none⟩)), (22, .int .i64 (w64 ((w64 ((a2.L.length : Int) - 1)) + t487)))]) ⟨rfl, rfl, rfl, trivial⟩ ?_
        refine WCode.seq ?_
        refine WCode.region ?_
        refine WOps.p (G.move rfl) rfl ?_
        refine WOps.p (G.move rfl) rfl ?_
        have S492 := (S491.front 4 rfl).front 4 rfl
        change St _ _ _ [[(p1, .cells #[.slice A35 a1.flying.length c36, .int .i64 a1.time] 133 (0, 0))], G37, [(b52, .cells #[.int .i64 a3.Kind, .int .i64 a3.On, .int .i64 a3.N, .int .i64 a3.Many, .int .i64 a3.P.From, .int .i64 a3.P.To, .string (bs a3.P.Data)] 39 (0, 0))], [(p2, .cells #[.slice A46 a2.L.length c47, .int .i64 a2.Time] 135 (0, 0))], G48, [(p0, .cells #[.slice A8 a0.free.length c9, .slice A12 a0.was.length c13, .slice A16 a0.lists.length c17, .slice A20 a0.grown.length c21, .slice A24 a0.whose.length c25] 35 (0, 0))], G10, G14, G18, G22, G26] at S492
        have hO493 : ObjO 133 Air.rp p1 a1 ([(p1, .cells #[.slice A35 a1.flying.length c36, .int .i64 a1.time] 133 (0, 0))] ++ (G37)) := ⟨_, _, ⟨A35, c36, G37, rfl, hO38, rfl⟩, rfl⟩
        have S494 : St _ _ _ [[(p1, .cells #[.slice A35 a1.flying.length c36, .int .i64 a1.time] 133 (0, 0))] ++ (G37), [(b52, .cells #[.int .i64 a3.Kind, .int .i64 a3.On, .int .i64 a3.N, .int .i64 a3.Many, .int .i64 a3.P.From, .int .i64 a3.P.To, .string (bs a3.P.Data)] 39 (0, 0))], [(p2, .cells #[.slice A46 a2.L.length c47, .int .i64 a2.Time] 135 (0, 0))], G48, [(p0, .cells #[.slice A8 a0.free.length c9, .slice A12 a0.was.length c13, .slice A16 a0.lists.length c17, .slice A20 a0.grown.length c21, .slice A24 a0.whose.length c25] 35 (0, 0))], G10, G14, G18, G22, G26] := S492.objs (by simp)
        obtain ⟨t495, hc496, hF⟩ := bind_some hF
        refine WOps.call T.call19 (evs_cons rfl (evs_cons rfl evs_nil)) rfl ?_
        refine (ya_Deliver_calls k a1 (w64 ((w64 ((a2.L.length : Int) - 1)) + t487)) hO493 hc496 (St.hpN (As := [[(p1, .cells #[.slice A35 a1.flying.length c36, .int .i64 a1.time] 133 (0, 0))] ++ (G37)]) S494)).mono ?_
        rintro _ w497 ⟨G500, rfl, hO501, T498⟩
        have S499 := St.callN (As := [[(p1, .cells #[.slice A35 a1.flying.length c36, .int .i64 a1.time] 133 (0, 0))] ++ (G37)]) S494 T498
        change St _ _ _ [G500, [(b52, .cells #[.int .i64 a3.Kind, .int .i64 a3.On, .int .i64 a3.N, .int .i64 a3.Many, .int .i64 a3.P.From, .int .i64 a3.P.To, .string (bs a3.P.Data)] 39 (0, 0))], [(p2, .cells #[.slice A46 a2.L.length c47, .int .i64 a2.Time] 135 (0, 0))], G48, [(p0, .cells #[.slice A8 a0.free.length c9, .slice A12 a0.was.length c13, .slice A16 a0.lists.length c17, .slice A20 a0.grown.length c21, .slice A24 a0.whose.length c25] 35 (0, 0))], G10, G14, G18, G22, G26] at S499
        refine ⟨_, rfl, ?_⟩
        obtain ⟨cs502, G503, ho504, hg505⟩ := hO501
        obtain ⟨A506, c507, G508, rfl, hO509, hq510⟩ := ho504
        have S511 : St _ _ _ [[(p1, .cells #[.slice A506 t495.2.2.flying.length c507, .int .i64 t495.2.2.time] 133 (0, 0))], G508, [(b52, .cells #[.int .i64 a3.Kind, .int .i64 a3.On, .int .i64 a3.N, .int .i64 a3.Many, .int .i64 a3.P.From, .int .i64 a3.P.To, .string (bs a3.P.Data)] 39 (0, 0))], [(p2, .cells #[.slice A46 a2.L.length c47, .int .i64 a2.Time] 135 (0, 0))], G48, [(p0, .cells #[.slice A8 a0.free.length c9, .slice A12 a0.was.length c13, .slice A16 a0.lists.length c17, .slice A20 a0.grown.length c21, .slice A24 a0.whose.length c25] 35 (0, 0))], G10, G14, G18, G22, G26] := S499.objs (by rw [hg505, hq510]; simp)
        refine WOps.p (G.move rfl) rfl ?_
        refine WOps.p (G.extract rfl rfl) rfl ?_
        refine WOps.p (G.extract rfl rfl) rfl ?_
        obtain ⟨b512, w513, E514, S515, X516, L517⟩ := St.var S511 (z := .agg #[.int .i64 0, .int .i64 0, .string (bs ([] : List UInt8))]) T.zero37
        change St _ _ _ [[(b512, .cells #[.int .i64 0, .int .i64 0, .string (bs ([] : List UInt8))] 37 (0, 0))], [(p1, .cells #[.slice A506 t495.2.2.flying.length c507, .int .i64 t495.2.2.time] 133 (0, 0))], G508, [(b52, .cells #[.int .i64 a3.Kind, .int .i64 a3.On, .int .i64 a3.N, .int .i64 a3.Many, .int .i64 a3.P.From, .int .i64 a3.P.To, .string (bs a3.P.Data)] 39 (0, 0))], [(p2, .cells #[.slice A46 a2.L.length c47, .int .i64 a2.Time] 135 (0, 0))], G48, [(p0, .cells #[.slice A8 a0.free.length c9, .slice A12 a0.was.length c13, .slice A16 a0.lists.length c17, .slice A20 a0.grown.length c21, .slice A24 a0.whose.length c25] 35 (0, 0))], G10, G14, G18, G22, G26] at S515
        refine WOps.e E514 rfl ?_
        obtain ⟨w518, E519, S520⟩ := St.store (P := Try.prog) S515 0 37 (.agg #[.int .i64 t495.1.From, .int .i64 t495.1.To, .string (bs t495.1.Data)]) (off := 0) (cur' := #[.int .i64 t495.1.From, .int .i64 t495.1.To, .string (bs t495.1.Data)]) rfl T.size37_3 rfl rfl rfl
        change St _ _ _ [[(b512, .cells #[.int .i64 t495.1.From, .int .i64 t495.1.To, .string (bs t495.1.Data)] 37 (0, 0))], [(p1, .cells #[.slice A506 t495.2.2.flying.length c507, .int .i64 t495.2.2.time] 133 (0, 0))], G508, [(b52, .cells #[.int .i64 a3.Kind, .int .i64 a3.On, .int .i64 a3.N, .int .i64 a3.Many, .int .i64 a3.P.From, .int .i64 a3.P.To, .string (bs a3.P.Data)] 39 (0, 0))], [(p2, .cells #[.slice A46 a2.L.length c47, .int .i64 a2.Time] 135 (0, 0))], G48, [(p0, .cells #[.slice A8 a0.free.length c9, .slice A12 a0.was.length c13, .slice A16 a0.lists.length c17, .slice A20 a0.grown.length c21, .slice A24 a0.whose.length c25] 35 (0, 0))], G10, G14, G18, G22, G26] at S520
        refine WOps.u (E519 rfl rfl) ?_
        refine WOps.p (G.assign rfl) rfl ?_
        refine WOps.nil ?_
        refine WEx.then_ ?_
        refine WCode.seq ?_
        refine WCode.region ?_
        refine WOps.p (G.move rfl) rfl ?_
        refine WOps.p (G.move rfl) rfl ?_
        have S521 := (S520.front 5 rfl).front 5 rfl
        change St _ _ _ [[(p2, .cells #[.slice A46 a2.L.length c47, .int .i64 a2.Time] 135 (0, 0))], G48, [(b512, .cells #[.int .i64 t495.1.From, .int .i64 t495.1.To, .string (bs t495.1.Data)] 37 (0, 0))], [(p1, .cells #[.slice A506 t495.2.2.flying.length c507, .int .i64 t495.2.2.time] 133 (0, 0))], G508, [(b52, .cells #[.int .i64 a3.Kind, .int .i64 a3.On, .int .i64 a3.N, .int .i64 a3.Many, .int .i64 a3.P.From, .int .i64 a3.P.To, .string (bs a3.P.Data)] 39 (0, 0))], [(p0, .cells #[.slice A8 a0.free.length c9, .slice A12 a0.was.length c13, .slice A16 a0.lists.length c17, .slice A20 a0.grown.length c21, .slice A24 a0.whose.length c25] 35 (0, 0))], G10, G14, G18, G22, G26] at S521
        have hO522 : ObjO 135 Air135.rp p2 a2 ([(p2, .cells #[.slice A46 a2.L.length c47, .int .i64 a2.Time] 135 (0, 0))] ++ (G48)) := ⟨_, _, ⟨A46, c47, G48, rfl, hO49, rfl⟩, rfl⟩
        have S523 : St _ _ _ [[(p2, .cells #[.slice A46 a2.L.length c47, .int .i64 a2.Time] 135 (0, 0))] ++ (G48), [(b512, .cells #[.int .i64 t495.1.From, .int .i64 t495.1.To, .string (bs t495.1.Data)] 37 (0, 0))], [(p1, .cells #[.slice A506 t495.2.2.flying.length c507, .int .i64 t495.2.2.time] 133 (0, 0))], G508, [(b52, .cells #[.int .i64 a3.Kind, .int .i64 a3.On, .int .i64 a3.N, .int .i64 a3.Many, .int .i64 a3.P.From, .int .i64 a3.P.To, .string (bs a3.P.Data)] 39 (0, 0))], [(p0, .cells #[.slice A8 a0.free.length c9, .slice A12 a0.was.length c13, .slice A16 a0.lists.length c17, .slice A20 a0.grown.length c21, .slice A24 a0.whose.length c25] 35 (0, 0))], G10, G14, G18, G22, G26] := S521.objs (by simp)
        obtain ⟨t524, hc525, hF⟩ := bind_some hF
        refine WOps.call T.call69 (evs_cons rfl (evs_cons rfl evs_nil)) rfl ?_
        refine (yr_Deliver_calls k a2 (w64 ((w64 ((a2.L.length : Int) - 1)) + t487)) hO522 hc525 (St.hpN (As := [[(p2, .cells #[.slice A46 a2.L.length c47, .int .i64 a2.Time] 135 (0, 0))] ++ (G48)]) S523)).mono ?_
        rintro _ w526 ⟨G529, rfl, hO530, T527⟩
        have S528 := St.callN (As := [[(p2, .cells #[.slice A46 a2.L.length c47, .int .i64 a2.Time] 135 (0, 0))] ++ (G48)]) S523 T527
        change St _ _ _ [G529, [(b512, .cells #[.int .i64 t495.1.From, .int .i64 t495.1.To, .string (bs t495.1.Data)] 37 (0, 0))], [(p1, .cells #[.slice A506 t495.2.2.flying.length c507, .int .i64 t495.2.2.time] 133 (0, 0))], G508, [(b52, .cells #[.int .i64 a3.Kind, .int .i64 a3.On, .int .i64 a3.N, .int .i64 a3.Many, .int .i64 a3.P.From, .int .i64 a3.P.To, .string (bs a3.P.Data)] 39 (0, 0))], [(p0, .cells #[.slice A8 a0.free.length c9, .slice A12 a0.was.length c13, .slice A16 a0.lists.length c17, .slice A20 a0.grown.length c21, .slice A24 a0.whose.length c25] 35 (0, 0))], G10, G14, G18, G22, G26] at S528
        refine ⟨_, rfl, ?_⟩
        obtain ⟨cs531, G532, ho533, hg534⟩ := hO530
        obtain ⟨A535, c536, G537, rfl, hO538, hq539⟩ := ho533
        have S540 : St _ _ _ [[(p2, .cells #[.slice A535 t524.2.2.L.length c536, .int .i64 t524.2.2.Time] 135 (0, 0))], G537, [(b512, .cells #[.int .i64 t495.1.From, .int .i64 t495.1.To, .string (bs t495.1.Data)] 37 (0, 0))], [(p1, .cells #[.slice A506 t495.2.2.flying.length c507, .int .i64 t495.2.2.time] 133 (0, 0))], G508, [(b52, .cells #[.int .i64 a3.Kind, .int .i64 a3.On, .int .i64 a3.N, .int .i64 a3.Many, .int .i64 a3.P.From, .int .i64 a3.P.To, .string (bs a3.P.Data)] 39 (0, 0))], [(p0, .cells #[.slice A8 a0.free.length c9, .slice A12 a0.was.length c13, .slice A16 a0.lists.length c17, .slice A20 a0.grown.length c21, .slice A24 a0.whose.length c25] 35 (0, 0))], G10, G14, G18, G22, G26] := S528.objs (by rw [hg534, hq539]; simp)
        refine WOps.p (G.move rfl) rfl ?_
        refine WOps.p (G.extract rfl rfl) rfl ?_
        refine WOps.p (G.extract rfl rfl) rfl ?_
        obtain ⟨b541, w542, E543, S544, X545, L546⟩ := St.var S540 (z := .agg #[.int .i64 0, .int .i64 0, .string (bs ([] : List UInt8))]) T.zero37
        change St _ _ _ [[(b541, .cells #[.int .i64 0, .int .i64 0, .string (bs ([] : List UInt8))] 37 (0, 0))], [(p2, .cells #[.slice A535 t524.2.2.L.length c536, .int .i64 t524.2.2.Time] 135 (0, 0))], G537, [(b512, .cells #[.int .i64 t495.1.From, .int .i64 t495.1.To, .string (bs t495.1.Data)] 37 (0, 0))], [(p1, .cells #[.slice A506 t495.2.2.flying.length c507, .int .i64 t495.2.2.time] 133 (0, 0))], G508, [(b52, .cells #[.int .i64 a3.Kind, .int .i64 a3.On, .int .i64 a3.N, .int .i64 a3.Many, .int .i64 a3.P.From, .int .i64 a3.P.To, .string (bs a3.P.Data)] 39 (0, 0))], [(p0, .cells #[.slice A8 a0.free.length c9, .slice A12 a0.was.length c13, .slice A16 a0.lists.length c17, .slice A20 a0.grown.length c21, .slice A24 a0.whose.length c25] 35 (0, 0))], G10, G14, G18, G22, G26] at S544
        refine WOps.e E543 rfl ?_
        obtain ⟨w547, E548, S549⟩ := St.store (P := Try.prog) S544 0 37 (.agg #[.int .i64 t524.1.From, .int .i64 t524.1.To, .string (bs t524.1.Data)]) (off := 0) (cur' := #[.int .i64 t524.1.From, .int .i64 t524.1.To, .string (bs t524.1.Data)]) rfl T.size37_3 rfl rfl rfl
        change St _ _ _ [[(b541, .cells #[.int .i64 t524.1.From, .int .i64 t524.1.To, .string (bs t524.1.Data)] 37 (0, 0))], [(p2, .cells #[.slice A535 t524.2.2.L.length c536, .int .i64 t524.2.2.Time] 135 (0, 0))], G537, [(b512, .cells #[.int .i64 t495.1.From, .int .i64 t495.1.To, .string (bs t495.1.Data)] 37 (0, 0))], [(p1, .cells #[.slice A506 t495.2.2.flying.length c507, .int .i64 t495.2.2.time] 133 (0, 0))], G508, [(b52, .cells #[.int .i64 a3.Kind, .int .i64 a3.On, .int .i64 a3.N, .int .i64 a3.Many, .int .i64 a3.P.From, .int .i64 a3.P.To, .string (bs a3.P.Data)] 39 (0, 0))], [(p0, .cells #[.slice A8 a0.free.length c9, .slice A12 a0.was.length c13, .slice A16 a0.lists.length c17, .slice A20 a0.grown.length c21, .slice A24 a0.whose.length c25] 35 (0, 0))], G10, G14, G18, G22, G26] at S549
        refine WOps.u (E548 rfl rfl) ?_
        refine WOps.p (G.assign rfl) rfl ?_
        refine WOps.nil ?_
        refine WEx.then_ ?_
        refine WCode.forget (l' := [(23, .pointer (some ⟨b512, 0, none⟩)), (24, .int .i64 t495.2.1), (25, .pointer (some ⟨b541, 0, none⟩)), (26, .int .i64 t524.2.1)]) ⟨rfl, rfl, rfl, rfl, trivial⟩ ?_
        refine WCode.cutseq (fun l_ w_ => ∃ q553 : Nat, ∃ b550 : Bool, l_ = [(8, .bool b550)] ∧ y_step.j4 q553 a0 t495 t524 b550 = some r_ ∧ St w (KS [G0, G1, G2]) w_ [[(p2, .cells #[.slice A535 t524.2.2.L.length c536, .int .i64 t524.2.2.Time] 135 (0, 0))], [(p1, .cells #[.slice A506 t495.2.2.flying.length c507, .int .i64 t495.2.2.time] 133 (0, 0))], [(p0, .cells #[.slice A8 a0.free.length c9, .slice A12 a0.was.length c13, .slice A16 a0.lists.length c17, .slice A20 a0.grown.length c21, .slice A24 a0.whose.length c25] 35 (0, 0))], G537, G508, G10, G14, G18, G22, G26]) ?_ ?_
        ·
         refine WCode.region ?_
         refine WOps.r (G.loada T.agg37_3 rfl (cs := [.int .i64 t495.1.From, .int .i64 t495.1.To, .string (bs t495.1.Data)]) (cellsAt.of_blk (S549.blk 3 rfl) rfl)) rfl ?_
         refine WOps.r (G.loada T.agg37_3 rfl (cs := [.int .i64 t524.1.From, .int .i64 t524.1.To, .string (bs t524.1.Data)]) (cellsAt.of_blk (S549.blk 0 rfl) rfl)) rfl ?_
         refine WOps.p (G.eqa rfl rfl (by kernel_rfl) (Packet.eqIn37 t495.1 t524.1) rfl) rfl ?_
         refine WOps.p (G.move rfl) rfl ?_
         rcases ite_some hF with ⟨h555, hF⟩ | ⟨h555, hF⟩
         ·
          refine WOps.on rfl (kbl (b := decide (t495.1 = t524.1)) rfl (decide_eq_true h555)) ?_
          refine WOps.p (G.move rfl) rfl ?_
          refine WOps.on rfl (kbl (b := decide (t495.1 = t524.1)) rfl (decide_eq_true h555)) ?_
          refine WOps.p (G.move rfl) rfl ?_
          refine WOps.on rfl (kbl (b := decide (t495.1 = t524.1)) rfl (decide_eq_true h555)) ?_
          refine WOps.p (G.eql rfl rfl rfl) rfl ?_
          refine WOps.p (G.pick_t (kb (b := decide (t495.1 = t524.1)) rfl (decide_eq_true h555)) rfl) rfl ?_
          refine WOps.p (G.assign rfl) rfl ?_
          refine WOps.nil ?_
          have S556 : St _ _ _ [[(p2, .cells #[.slice A535 t524.2.2.L.length c536, .int .i64 t524.2.2.Time] 135 (0, 0))], [(p1, .cells #[.slice A506 t495.2.2.flying.length c507, .int .i64 t495.2.2.time] 133 (0, 0))], [(p0, .cells #[.slice A8 a0.free.length c9, .slice A12 a0.was.length c13, .slice A16 a0.lists.length c17, .slice A20 a0.grown.length c21, .slice A24 a0.whose.length c25] 35 (0, 0))], G537, G508, G10, G14, G18, G22, G26, [(b541, .cells #[.int .i64 t524.1.From, .int .i64 t524.1.To, .string (bs t524.1.Data)] 37 (0, 0))], [(b512, .cells #[.int .i64 t495.1.From, .int .i64 t495.1.To, .string (bs t495.1.Data)] 37 (0, 0))], [(b52, .cells #[.int .i64 a3.Kind, .int .i64 a3.On, .int .i64 a3.N, .int .i64 a3.Many, .int .i64 a3.P.From, .int .i64 a3.P.To, .string (bs a3.P.Data)] 39 (0, 0))]] := St.reord S549 [1, 4, 7, 2, 5, 8, 9, 10, 11, 12, 0, 3, 6] 13 rfl (by decide) rfl
          have S557 := St.keep (As := [[(p2, .cells #[.slice A535 t524.2.2.L.length c536, .int .i64 t524.2.2.Time] 135 (0, 0))], [(p1, .cells #[.slice A506 t495.2.2.flying.length c507, .int .i64 t495.2.2.time] 133 (0, 0))], [(p0, .cells #[.slice A8 a0.free.length c9, .slice A12 a0.was.length c13, .slice A16 a0.lists.length c17, .slice A20 a0.grown.length c21, .slice A24 a0.whose.length c25] 35 (0, 0))], G537, G508, G10, G14, G18, G22, G26]) S556
          refine WEx.cutend _ ?_ ⟨k, decide (t495.2.1 = t524.2.1), rfl, hF, S557⟩
          exact ⟨rfl, trivial⟩
         ·
          refine WOps.off rfl (kbl (b := decide (t495.1 = t524.1)) rfl (decide_eq_false h555)) rfl rfl ?_
          refine WOps.off rfl (kbl (b := decide (t495.1 = t524.1)) rfl (decide_eq_false h555)) rfl rfl ?_
          refine WOps.off rfl (kbl (b := decide (t495.1 = t524.1)) rfl (decide_eq_false h555)) rfl rfl ?_
          refine WOps.p (G.pick_f (kb (b := decide (t495.1 = t524.1)) rfl (decide_eq_false h555)) rfl) rfl ?_
          refine WOps.p (G.assign rfl) rfl ?_
          refine WOps.nil ?_
          have S558 : St _ _ _ [[(p2, .cells #[.slice A535 t524.2.2.L.length c536, .int .i64 t524.2.2.Time] 135 (0, 0))], [(p1, .cells #[.slice A506 t495.2.2.flying.length c507, .int .i64 t495.2.2.time] 133 (0, 0))], [(p0, .cells #[.slice A8 a0.free.length c9, .slice A12 a0.was.length c13, .slice A16 a0.lists.length c17, .slice A20 a0.grown.length c21, .slice A24 a0.whose.length c25] 35 (0, 0))], G537, G508, G10, G14, G18, G22, G26, [(b541, .cells #[.int .i64 t524.1.From, .int .i64 t524.1.To, .string (bs t524.1.Data)] 37 (0, 0))], [(b512, .cells #[.int .i64 t495.1.From, .int .i64 t495.1.To, .string (bs t495.1.Data)] 37 (0, 0))], [(b52, .cells #[.int .i64 a3.Kind, .int .i64 a3.On, .int .i64 a3.N, .int .i64 a3.Many, .int .i64 a3.P.From, .int .i64 a3.P.To, .string (bs a3.P.Data)] 39 (0, 0))]] := St.reord S549 [1, 4, 7, 2, 5, 8, 9, 10, 11, 12, 0, 3, 6] 13 rfl (by decide) rfl
          have S559 := St.keep (As := [[(p2, .cells #[.slice A535 t524.2.2.L.length c536, .int .i64 t524.2.2.Time] 135 (0, 0))], [(p1, .cells #[.slice A506 t495.2.2.flying.length c507, .int .i64 t495.2.2.time] 133 (0, 0))], [(p0, .cells #[.slice A8 a0.free.length c9, .slice A12 a0.was.length c13, .slice A16 a0.lists.length c17, .slice A20 a0.grown.length c21, .slice A24 a0.whose.length c25] 35 (0, 0))], G537, G508, G10, G14, G18, G22, G26]) S558
          refine WEx.cutend _ ?_ ⟨k, false, rfl, hF, S559⟩
          exact ⟨rfl, trivial⟩
        ·
         rintro _ w551 ⟨q553, b550, rfl, hF, S552⟩
         unfold y_step.j4 at hF
         refine WCode.ret ?_
         refine WEx.in_ret ?_
         refine WEx.then_ret ?_
         obtain rfl := some_eq hF
         refine WEx.ret1 rfl rfl ?_
         have S560 : St _ _ _ [[(p0, .cells #[.slice A8 a0.free.length c9, .slice A12 a0.was.length c13, .slice A16 a0.lists.length c17, .slice A20 a0.grown.length c21, .slice A24 a0.whose.length c25] 35 (0, 0))], G10, G14, G18, G22, G26, [(p2, .cells #[.slice A535 t524.2.2.L.length c536, .int .i64 t524.2.2.Time] 135 (0, 0))], [(p1, .cells #[.slice A506 t495.2.2.flying.length c507, .int .i64 t495.2.2.time] 133 (0, 0))], G537, G508] := St.reord S552 [2, 5, 6, 7, 8, 9, 0, 1, 3, 4] 10 rfl (by decide) rfl
         have hO561 : ObjO 35 BookA.rp p0 a0 ([(p0, .cells #[.slice A8 a0.free.length c9, .slice A12 a0.was.length c13, .slice A16 a0.lists.length c17, .slice A20 a0.grown.length c21, .slice A24 a0.whose.length c25] 35 (0, 0))] ++ (G10 ++ (G14 ++ (G18 ++ (G22 ++ (G26)))))) := ⟨_, _, ⟨A8, c9, G10, A12, c13, G14, A16, c17, G18, A20, c21, G22, A24, c25, G26, rfl, hO11, hO15, hO19, hO23, hO27, rfl⟩, rfl⟩
         have S562 : St _ _ _ [[(p0, .cells #[.slice A8 a0.free.length c9, .slice A12 a0.was.length c13, .slice A16 a0.lists.length c17, .slice A20 a0.grown.length c21, .slice A24 a0.whose.length c25] 35 (0, 0))] ++ (G10 ++ (G14 ++ (G18 ++ (G22 ++ (G26))))), [(p2, .cells #[.slice A535 t524.2.2.L.length c536, .int .i64 t524.2.2.Time] 135 (0, 0))], [(p1, .cells #[.slice A506 t495.2.2.flying.length c507, .int .i64 t495.2.2.time] 133 (0, 0))], G537, G508] := S560.objs (by simp)
         have S563 := (S562.front 4 rfl).front 3 rfl
         change St _ _ _ [[(p1, .cells #[.slice A506 t495.2.2.flying.length c507, .int .i64 t495.2.2.time] 133 (0, 0))], G508, [(p0, .cells #[.slice A8 a0.free.length c9, .slice A12 a0.was.length c13, .slice A16 a0.lists.length c17, .slice A20 a0.grown.length c21, .slice A24 a0.whose.length c25] 35 (0, 0))] ++ (G10 ++ (G14 ++ (G18 ++ (G22 ++ (G26))))), [(p2, .cells #[.slice A535 t524.2.2.L.length c536, .int .i64 t524.2.2.Time] 135 (0, 0))], G537] at S563
         have hO564 : ObjO 133 Air.rp p1 t495.2.2 ([(p1, .cells #[.slice A506 t495.2.2.flying.length c507, .int .i64 t495.2.2.time] 133 (0, 0))] ++ (G508)) := ⟨_, _, ⟨A506, c507, G508, rfl, hO509, rfl⟩, rfl⟩
         have S565 : St _ _ _ [[(p1, .cells #[.slice A506 t495.2.2.flying.length c507, .int .i64 t495.2.2.time] 133 (0, 0))] ++ (G508), [(p0, .cells #[.slice A8 a0.free.length c9, .slice A12 a0.was.length c13, .slice A16 a0.lists.length c17, .slice A20 a0.grown.length c21, .slice A24 a0.whose.length c25] 35 (0, 0))] ++ (G10 ++ (G14 ++ (G18 ++ (G22 ++ (G26))))), [(p2, .cells #[.slice A535 t524.2.2.L.length c536, .int .i64 t524.2.2.Time] 135 (0, 0))], G537] := S563.objs (by simp)
         have S566 := (S565.front 3 rfl).front 3 rfl
         change St _ _ _ [[(p2, .cells #[.slice A535 t524.2.2.L.length c536, .int .i64 t524.2.2.Time] 135 (0, 0))], G537, [(p1, .cells #[.slice A506 t495.2.2.flying.length c507, .int .i64 t495.2.2.time] 133 (0, 0))] ++ (G508), [(p0, .cells #[.slice A8 a0.free.length c9, .slice A12 a0.was.length c13, .slice A16 a0.lists.length c17, .slice A20 a0.grown.length c21, .slice A24 a0.whose.length c25] 35 (0, 0))] ++ (G10 ++ (G14 ++ (G18 ++ (G22 ++ (G26)))))] at S566
         have hO567 : ObjO 135 Air135.rp p2 t524.2.2 ([(p2, .cells #[.slice A535 t524.2.2.L.length c536, .int .i64 t524.2.2.Time] 135 (0, 0))] ++ (G537)) := ⟨_, _, ⟨A535, c536, G537, rfl, hO538, rfl⟩, rfl⟩
         have S568 : St _ _ _ [[(p2, .cells #[.slice A535 t524.2.2.L.length c536, .int .i64 t524.2.2.Time] 135 (0, 0))] ++ (G537), [(p1, .cells #[.slice A506 t495.2.2.flying.length c507, .int .i64 t495.2.2.time] 133 (0, 0))] ++ (G508), [(p0, .cells #[.slice A8 a0.free.length c9, .slice A12 a0.was.length c13, .slice A16 a0.lists.length c17, .slice A20 a0.grown.length c21, .slice A24 a0.whose.length c25] 35 (0, 0))] ++ (G10 ++ (G14 ++ (G18 ++ (G22 ++ (G26)))))] := S566.objs (by simp)
         have S569 := (S568.front 1 rfl).front 2 rfl
         change St _ _ _ [[(p0, .cells #[.slice A8 a0.free.length c9, .slice A12 a0.was.length c13, .slice A16 a0.lists.length c17, .slice A20 a0.grown.length c21, .slice A24 a0.whose.length c25] 35 (0, 0))] ++ (G10 ++ (G14 ++ (G18 ++ (G22 ++ (G26))))), [(p1, .cells #[.slice A506 t495.2.2.flying.length c507, .int .i64 t495.2.2.time] 133 (0, 0))] ++ (G508), [(p2, .cells #[.slice A535 t524.2.2.L.length c536, .int .i64 t524.2.2.Time] 135 (0, 0))] ++ (G537)] at S569
         exact ⟨[(p0, .cells #[.slice A8 a0.free.length c9, .slice A12 a0.was.length c13, .slice A16 a0.lists.length c17, .slice A20 a0.grown.length c21, .slice A24 a0.whose.length c25] 35 (0, 0))] ++ (G10 ++ (G14 ++ (G18 ++ (G22 ++ (G26))))), [(p1, .cells #[.slice A506 t495.2.2.flying.length c507, .int .i64 t495.2.2.time] 133 (0, 0))] ++ (G508), [(p2, .cells #[.slice A535 t524.2.2.L.length c536, .int .i64 t524.2.2.Time] 135 (0, 0))] ++ (G537), rfl, hO561, hO564, hO567, St.keep (As := [[(p0, .cells #[.slice A8 a0.free.length c9, .slice A12 a0.was.length c13, .slice A16 a0.lists.length c17, .slice A20 a0.grown.length c21, .slice A24 a0.whose.length c25] 35 (0, 0))] ++ (G10 ++ (G14 ++ (G18 ++ (G22 ++ (G26))))), [(p1, .cells #[.slice A506 t495.2.2.flying.length c507, .int .i64 t495.2.2.time] 133 (0, 0))] ++ (G508), [(p2, .cells #[.slice A535 t524.2.2.L.length c536, .int .i64 t524.2.2.Time] 135 (0, 0))] ++ (G537)]) S569⟩
       ·
        refine WCode.cond_f (kb (b := decide (a3.Kind = 7)) rfl (decide_eq_false h484)) ?_
        refine WCode.skip ?_
        refine WEx.in_normal ?_
        refine WEx.then_ ?_
        refine WCode.forget (l' := [(1, .pointer (some ⟨p1, 0, none⟩)), (2, .pointer (some ⟨p2, 0, none⟩))]) ⟨rfl, rfl, trivial⟩ ?_
        refine WCode.seq ?_
        refine WCode.region ?_
        refine WOps.p (G.move rfl) rfl ?_
        obtain ⟨t570, hc571, hF⟩ := bind_some hF
        have S572 := (S55.front 4 rfl).front 4 rfl
        change St _ _ _ [[(p1, .cells #[.slice A35 a1.flying.length c36, .int .i64 a1.time] 133 (0, 0))], G37, [(b52, .cells #[.int .i64 a3.Kind, .int .i64 a3.On, .int .i64 a3.N, .int .i64 a3.Many, .int .i64 a3.P.From, .int .i64 a3.P.To, .string (bs a3.P.Data)] 39 (0, 0))], [(p2, .cells #[.slice A46 a2.L.length c47, .int .i64 a2.Time] 135 (0, 0))], G48, [(p0, .cells #[.slice A8 a0.free.length c9, .slice A12 a0.was.length c13, .slice A16 a0.lists.length c17, .slice A20 a0.grown.length c21, .slice A24 a0.whose.length c25] 35 (0, 0))], G10, G14, G18, G22, G26] at S572
        have hP573 : PtR 133 Air.rp w53 (KS [[(p1, .cells #[.slice A35 a1.flying.length c36, .int .i64 a1.time] 133 (0, 0))], G37]) p1 a1 := ⟨_, S572.blk 0 rfl, KS_at 0 rfl (by simp [keys]), ⟨A35, c36, rfl, ((hO38.rd (fun b o hb => S572.grp 1 rfl hb)).mono (fun b hb => KS_at 1 rfl hb))⟩⟩
        refine WOps.call T.call25 (evs_cons rfl evs_nil) rfl ?_
        refine (ya_Now_calls k a1 hP573 (St.outN (Bs := []) (As := [[(p1, .cells #[.slice A35 a1.flying.length c36, .int .i64 a1.time] 133 (0, 0))], G37]) S572) hc571).mono ?_
        rintro _ w574 ⟨rfl, T575⟩
        have S576 := St.callN (As := []) S572 T575
        change St _ _ _ [[(p1, .cells #[.slice A35 a1.flying.length c36, .int .i64 a1.time] 133 (0, 0))], G37, [(b52, .cells #[.int .i64 a3.Kind, .int .i64 a3.On, .int .i64 a3.N, .int .i64 a3.Many, .int .i64 a3.P.From, .int .i64 a3.P.To, .string (bs a3.P.Data)] 39 (0, 0))], [(p2, .cells #[.slice A46 a2.L.length c47, .int .i64 a2.Time] 135 (0, 0))], G48, [(p0, .cells #[.slice A8 a0.free.length c9, .slice A12 a0.was.length c13, .slice A16 a0.lists.length c17, .slice A20 a0.grown.length c21, .slice A24 a0.whose.length c25] 35 (0, 0))], G10, G14, G18, G22, G26] at S576
        refine ⟨_, rfl, ?_⟩
        refine WOps.p (G.move rfl) rfl ?_
        obtain ⟨t577, hc578, hF⟩ := bind_some hF
        have S579 := (S576.front 4 rfl).front 4 rfl
        change St _ _ _ [[(p2, .cells #[.slice A46 a2.L.length c47, .int .i64 a2.Time] 135 (0, 0))], G48, [(p1, .cells #[.slice A35 a1.flying.length c36, .int .i64 a1.time] 133 (0, 0))], G37, [(b52, .cells #[.int .i64 a3.Kind, .int .i64 a3.On, .int .i64 a3.N, .int .i64 a3.Many, .int .i64 a3.P.From, .int .i64 a3.P.To, .string (bs a3.P.Data)] 39 (0, 0))], [(p0, .cells #[.slice A8 a0.free.length c9, .slice A12 a0.was.length c13, .slice A16 a0.lists.length c17, .slice A20 a0.grown.length c21, .slice A24 a0.whose.length c25] 35 (0, 0))], G10, G14, G18, G22, G26] at S579
        have hP580 : PtR 135 Air135.rp w574 (KS [[(p2, .cells #[.slice A46 a2.L.length c47, .int .i64 a2.Time] 135 (0, 0))], G48]) p2 a2 := ⟨_, S579.blk 0 rfl, KS_at 0 rfl (by simp [keys]), ⟨A46, c47, rfl, ((hO49.rd (fun b o hb => S579.grp 1 rfl hb)).mono (fun b hb => KS_at 1 rfl hb))⟩⟩
        refine WOps.call T.call74 (evs_cons rfl evs_nil) rfl ?_
        refine (yr_Now_calls k a2 hP580 (St.outN (Bs := []) (As := [[(p2, .cells #[.slice A46 a2.L.length c47, .int .i64 a2.Time] 135 (0, 0))], G48]) S579) hc578).mono ?_
        rintro _ w581 ⟨rfl, T582⟩
        have S583 := St.callN (As := []) S579 T582
        change St _ _ _ [[(p2, .cells #[.slice A46 a2.L.length c47, .int .i64 a2.Time] 135 (0, 0))], G48, [(p1, .cells #[.slice A35 a1.flying.length c36, .int .i64 a1.time] 133 (0, 0))], G37, [(b52, .cells #[.int .i64 a3.Kind, .int .i64 a3.On, .int .i64 a3.N, .int .i64 a3.Many, .int .i64 a3.P.From, .int .i64 a3.P.To, .string (bs a3.P.Data)] 39 (0, 0))], [(p0, .cells #[.slice A8 a0.free.length c9, .slice A12 a0.was.length c13, .slice A16 a0.lists.length c17, .slice A20 a0.grown.length c21, .slice A24 a0.whose.length c25] 35 (0, 0))], G10, G14, G18, G22, G26] at S583
        refine ⟨_, rfl, ?_⟩
        refine WOps.p (G.eql rfl rfl rfl) rfl ?_
        refine WOps.p (G.assign rfl) rfl ?_
        refine WOps.nil ?_
        refine WEx.then_ ?_
        refine WCode.ret ?_
        obtain rfl := some_eq hF
        refine WEx.ret1 rfl rfl ?_
        have S584 : St _ _ _ [[(p0, .cells #[.slice A8 a0.free.length c9, .slice A12 a0.was.length c13, .slice A16 a0.lists.length c17, .slice A20 a0.grown.length c21, .slice A24 a0.whose.length c25] 35 (0, 0))], G10, G14, G18, G22, G26, [(p2, .cells #[.slice A46 a2.L.length c47, .int .i64 a2.Time] 135 (0, 0))], G48, [(p1, .cells #[.slice A35 a1.flying.length c36, .int .i64 a1.time] 133 (0, 0))], G37, [(b52, .cells #[.int .i64 a3.Kind, .int .i64 a3.On, .int .i64 a3.N, .int .i64 a3.Many, .int .i64 a3.P.From, .int .i64 a3.P.To, .string (bs a3.P.Data)] 39 (0, 0))]] := St.reord S583 [5, 6, 7, 8, 9, 10, 0, 1, 2, 3, 4] 11 rfl (by decide) rfl
        have hO585 : ObjO 35 BookA.rp p0 a0 ([(p0, .cells #[.slice A8 a0.free.length c9, .slice A12 a0.was.length c13, .slice A16 a0.lists.length c17, .slice A20 a0.grown.length c21, .slice A24 a0.whose.length c25] 35 (0, 0))] ++ (G10 ++ (G14 ++ (G18 ++ (G22 ++ (G26)))))) := ⟨_, _, ⟨A8, c9, G10, A12, c13, G14, A16, c17, G18, A20, c21, G22, A24, c25, G26, rfl, hO11, hO15, hO19, hO23, hO27, rfl⟩, rfl⟩
        have S586 : St _ _ _ [[(p0, .cells #[.slice A8 a0.free.length c9, .slice A12 a0.was.length c13, .slice A16 a0.lists.length c17, .slice A20 a0.grown.length c21, .slice A24 a0.whose.length c25] 35 (0, 0))] ++ (G10 ++ (G14 ++ (G18 ++ (G22 ++ (G26))))), [(p2, .cells #[.slice A46 a2.L.length c47, .int .i64 a2.Time] 135 (0, 0))], G48, [(p1, .cells #[.slice A35 a1.flying.length c36, .int .i64 a1.time] 133 (0, 0))], G37, [(b52, .cells #[.int .i64 a3.Kind, .int .i64 a3.On, .int .i64 a3.N, .int .i64 a3.Many, .int .i64 a3.P.From, .int .i64 a3.P.To, .string (bs a3.P.Data)] 39 (0, 0))]] := S584.objs (by simp)
        have S587 := (S586.front 4 rfl).front 4 rfl
        change St _ _ _ [[(p1, .cells #[.slice A35 a1.flying.length c36, .int .i64 a1.time] 133 (0, 0))], G37, [(p0, .cells #[.slice A8 a0.free.length c9, .slice A12 a0.was.length c13, .slice A16 a0.lists.length c17, .slice A20 a0.grown.length c21, .slice A24 a0.whose.length c25] 35 (0, 0))] ++ (G10 ++ (G14 ++ (G18 ++ (G22 ++ (G26))))), [(p2, .cells #[.slice A46 a2.L.length c47, .int .i64 a2.Time] 135 (0, 0))], G48, [(b52, .cells #[.int .i64 a3.Kind, .int .i64 a3.On, .int .i64 a3.N, .int .i64 a3.Many, .int .i64 a3.P.From, .int .i64 a3.P.To, .string (bs a3.P.Data)] 39 (0, 0))]] at S587
        have hO588 : ObjO 133 Air.rp p1 a1 ([(p1, .cells #[.slice A35 a1.flying.length c36, .int .i64 a1.time] 133 (0, 0))] ++ (G37)) := ⟨_, _, ⟨A35, c36, G37, rfl, hO38, rfl⟩, rfl⟩
        have S589 : St _ _ _ [[(p1, .cells #[.slice A35 a1.flying.length c36, .int .i64 a1.time] 133 (0, 0))] ++ (G37), [(p0, .cells #[.slice A8 a0.free.length c9, .slice A12 a0.was.length c13, .slice A16 a0.lists.length c17, .slice A20 a0.grown.length c21, .slice A24 a0.whose.length c25] 35 (0, 0))] ++ (G10 ++ (G14 ++ (G18 ++ (G22 ++ (G26))))), [(p2, .cells #[.slice A46 a2.L.length c47, .int .i64 a2.Time] 135 (0, 0))], G48, [(b52, .cells #[.int .i64 a3.Kind, .int .i64 a3.On, .int .i64 a3.N, .int .i64 a3.Many, .int .i64 a3.P.From, .int .i64 a3.P.To, .string (bs a3.P.Data)] 39 (0, 0))]] := S587.objs (by simp)
        have S590 := (S589.front 3 rfl).front 3 rfl
        change St _ _ _ [[(p2, .cells #[.slice A46 a2.L.length c47, .int .i64 a2.Time] 135 (0, 0))], G48, [(p1, .cells #[.slice A35 a1.flying.length c36, .int .i64 a1.time] 133 (0, 0))] ++ (G37), [(p0, .cells #[.slice A8 a0.free.length c9, .slice A12 a0.was.length c13, .slice A16 a0.lists.length c17, .slice A20 a0.grown.length c21, .slice A24 a0.whose.length c25] 35 (0, 0))] ++ (G10 ++ (G14 ++ (G18 ++ (G22 ++ (G26))))), [(b52, .cells #[.int .i64 a3.Kind, .int .i64 a3.On, .int .i64 a3.N, .int .i64 a3.Many, .int .i64 a3.P.From, .int .i64 a3.P.To, .string (bs a3.P.Data)] 39 (0, 0))]] at S590
        have hO591 : ObjO 135 Air135.rp p2 a2 ([(p2, .cells #[.slice A46 a2.L.length c47, .int .i64 a2.Time] 135 (0, 0))] ++ (G48)) := ⟨_, _, ⟨A46, c47, G48, rfl, hO49, rfl⟩, rfl⟩
        have S592 : St _ _ _ [[(p2, .cells #[.slice A46 a2.L.length c47, .int .i64 a2.Time] 135 (0, 0))] ++ (G48), [(p1, .cells #[.slice A35 a1.flying.length c36, .int .i64 a1.time] 133 (0, 0))] ++ (G37), [(p0, .cells #[.slice A8 a0.free.length c9, .slice A12 a0.was.length c13, .slice A16 a0.lists.length c17, .slice A20 a0.grown.length c21, .slice A24 a0.whose.length c25] 35 (0, 0))] ++ (G10 ++ (G14 ++ (G18 ++ (G22 ++ (G26))))), [(b52, .cells #[.int .i64 a3.Kind, .int .i64 a3.On, .int .i64 a3.N, .int .i64 a3.Many, .int .i64 a3.P.From, .int .i64 a3.P.To, .string (bs a3.P.Data)] 39 (0, 0))]] := S590.objs (by simp)
        have S593 := (S592.front 1 rfl).front 2 rfl
        change St _ _ _ [[(p0, .cells #[.slice A8 a0.free.length c9, .slice A12 a0.was.length c13, .slice A16 a0.lists.length c17, .slice A20 a0.grown.length c21, .slice A24 a0.whose.length c25] 35 (0, 0))] ++ (G10 ++ (G14 ++ (G18 ++ (G22 ++ (G26))))), [(p1, .cells #[.slice A35 a1.flying.length c36, .int .i64 a1.time] 133 (0, 0))] ++ (G37), [(p2, .cells #[.slice A46 a2.L.length c47, .int .i64 a2.Time] 135 (0, 0))] ++ (G48), [(b52, .cells #[.int .i64 a3.Kind, .int .i64 a3.On, .int .i64 a3.N, .int .i64 a3.Many, .int .i64 a3.P.From, .int .i64 a3.P.To, .string (bs a3.P.Data)] 39 (0, 0))]] at S593
        exact ⟨[(p0, .cells #[.slice A8 a0.free.length c9, .slice A12 a0.was.length c13, .slice A16 a0.lists.length c17, .slice A20 a0.grown.length c21, .slice A24 a0.whose.length c25] 35 (0, 0))] ++ (G10 ++ (G14 ++ (G18 ++ (G22 ++ (G26))))), [(p1, .cells #[.slice A35 a1.flying.length c36, .int .i64 a1.time] 133 (0, 0))] ++ (G37), [(p2, .cells #[.slice A46 a2.L.length c47, .int .i64 a2.Time] 135 (0, 0))] ++ (G48), rfl, hO585, hO588, hO591, St.keep (As := [[(p0, .cells #[.slice A8 a0.free.length c9, .slice A12 a0.was.length c13, .slice A16 a0.lists.length c17, .slice A20 a0.grown.length c21, .slice A24 a0.whose.length c25] 35 (0, 0))] ++ (G10 ++ (G14 ++ (G18 ++ (G22 ++ (G26))))), [(p1, .cells #[.slice A35 a1.flying.length c36, .int .i64 a1.time] 133 (0, 0))] ++ (G37), [(p2, .cells #[.slice A46 a2.L.length c47, .int .i64 a2.Time] 135 (0, 0))] ++ (G48)]) S593⟩

end Go.Proofs.Ytoahkjehjmbojaa
