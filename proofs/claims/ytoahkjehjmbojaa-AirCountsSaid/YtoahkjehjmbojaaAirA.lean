/- The Airs: what they hold, and what their calls come to. -/
import Derived.Test.YtoahkjehjmbojaaProg
import Derived.Test.YtoahkjehjmbojaaEng
namespace Go.Proofs.Ytoahkjehjmbojaa
open Go Go.Eng

/-- A datagram. -/
structure Pk where
  f : Int
  t : Int
  d : ByteArray
def Pk.cs (p : Pk) : List Value := [.int .i64 p.f, .int .i64 p.t, .string p.d]
def Pk.zero : Pk := ⟨0, 0, ⟨#[]⟩⟩
def Pk.v (p : Pk) : Value := .agg #[.int .i64 p.f, .int .i64 p.t, .string p.d]
theorem Pk.len (p : Pk) : p.cs.length = 3 := rfl
theorem Pk.one (p : Pk) : ∀ u ∈ p.cs, u.oneCell' = true := one_of_all rfl
theorem Pk.ones (L : List Pk) : ∀ u ∈ cellsOf Pk.cs L, u.oneCell' = true := by
  intro u hu
  obtain ⟨x, _, hx⟩ := List.mem_flatMap.1 hu
  exact x.one u hx

theorem Pk.eq_iff (x y : Pk) : x = y ↔ x.f = y.f ∧ x.t = y.t ∧ x.d = y.d := by
  cases x; cases y; simp
instance : DecidableEq Pk := fun x y => decidable_of_iff _ (Pk.eq_iff x y).symm
theorem pk_eqIn (x y : Pk) (w : World) : (Op.equalIn 10000 37 (.agg #[.int .i64 x.f, .int .i64 x.t, .string x.d]) (.agg #[.int .i64 y.f, .int .i64 y.t, .string y.d])).run Try.prog w = .ok (decide (x = y)) w := by
  rw [run_equalIn_struct w 9999 37 _ _ (by kernel_rfl) (by kernel_rfl), show (Try.prog.fieldsOf 37) = _ from by unfold Program.fieldsOf; rw [Try.underlying37]]
  simp only [Op.eqFields]
  simp only [Pk.eq_iff]
  by_cases h1 : x.f = y.f <;> by_cases h2 : x.t = y.t <;> by_cases h3 : x.d = y.d <;> simp [go_sem, toList_iff, h1, h2, h3]

/-- An Air at block p (of the struct type T): what flies, the time. -/
def AirG (T p : Nat) (L : List Pk) (tm : Int) (G : Grp) : Prop := ∃ A c R, G = [(p, .cells #[.slice A L.length c, .int .i64 tm] T (0, 0))] ++ R ∧ RowG 37 3 (.slice A L.length c) L.length (cellsOf Pk.cs L) R
theorem AirG.mk {T p : Nat} {L : List Pk} {n : Nat} {tm : Int} {A : Option Addr} {c : Nat} {R : Grp} {xs : List Value} (h : RowG 37 3 (.slice A n c) n xs R) (hn : n = L.length) (hx : xs = cellsOf Pk.cs L) :
    AirG T p L tm ([(p, .cells #[.slice A n c, .int .i64 tm] T (0, 0))] ++ R) := by
  subst hn; subst hx
  exact ⟨A, c, R, rfl, h⟩

/-! what the calls come to -/
def putL (L : List Pk) (x : Pk) : List Pk := if L.length ≥ 1000 then L else L ++ [x]
def putE (L : List Pk) : Int := if L.length ≥ 1000 then 132 else 0
def sendL (L : List Pk) (x : Pk) : List Pk := if x.d.size > 1500 then L else putL L x
def sendE (L : List Pk) (x : Pk) : Int := if x.d.size > 1500 then 131 else putE L
def isAt (L : List Pk) (n : Int) : Prop := 0 ≤ n ∧ n < L.length
instance (L : List Pk) (n : Int) : Decidable (isAt L n) := inferInstanceAs (Decidable (_ ∧ _))
def delL (L : List Pk) (n : Int) : List Pk := if isAt L n then L.eraseIdx n.toNat else L
def delP (L : List Pk) (n : Int) : Pk := if isAt L n then L[n.toNat]?.getD Pk.zero else Pk.zero
def delE (L : List Pk) (n : Int) : Int := if isAt L n then 0 else 130
def dblL (L : List Pk) (n : Int) : List Pk := if isAt L n then putL L (L[n.toNat]?.getD Pk.zero) else L
def dblE (L : List Pk) (n : Int) : Int := if isAt L n then putE L else 130
theorem at_nat {L : List Pk} {n : Int} (h : isAt L n) : ∃ (j : Nat) (x : Pk), n = (j : Int) ∧ L[j]? = some x := by
  obtain ⟨h0, h1⟩ := h
  obtain ⟨j, rfl⟩ := Int.eq_ofNat_of_zero_le h0
  exact ⟨j, L[j]'(by omega), rfl, List.getElem?_eq_getElem _⟩
theorem erase_eq (L : List Pk) (j : Nat) : L.eraseIdx j = L.take j ++ L.drop (j + 1) := List.eraseIdx_eq_take_drop_succ L j
theorem erase_len {L : List Pk} {j : Nat} (h : j < L.length) : j + (L.length - (j + 1)) = (L.eraseIdx j).length := by
  rw [List.length_eraseIdx_of_lt h]; omega
theorem erase_cells (L : List Pk) (j : Nat) : (cellsOf Pk.cs L).take (j * 3) ++ (cellsOf Pk.cs L).drop ((j + 1) * 3) = cellsOf Pk.cs (L.eraseIdx j) := by
  rw [erase_eq, cellsOf_append, cellsOf_take Pk.len, cellsOf_drop Pk.len]
end Go.Proofs.Ytoahkjehjmbojaa
