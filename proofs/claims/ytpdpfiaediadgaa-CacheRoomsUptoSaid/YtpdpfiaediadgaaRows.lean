/-
  No cell of these rows narrows 'for every input' (looked for: loops, veiled, ifaces, maps, wideKeys, modest, calm, conditions, laid).
  DERIVED. THE GIVEN ROWS OF THIS SEAT. 6 by the template 'for every input the law returns true; each argument reads behind the call as it read before'; 0 by the template 'total and deterministic' (their statements: YtpdpfiaediadgaaTotals.lean).
  GIVEN WITH THE SEED: the statements are not yours to turn. If you find one false, say at which input.
  Laid BY PROGRAM, IN A SANDBOX (cutbox-rows.mjs): the forced cells as the released guide's own fill.sh prints them over the translation e8c52095d6c5b9f8… (all of the seat's roots in one cut). By AI agents, Wed Nov 11 2026. No macro, syntax, notation, axiom, sorry.
-/
import Derived.Test.YtpdpfiaediadgaaChecked
import GoSem.Claim
import GoSem.ClaimJoined
import GoSem.ClaimMapViews
import Derived.JoinedTies
import Derived.KernelRfl
namespace Go.Proofs.Ytpdpfiaediadgaa
/- THE CELL 'sum', in the pinned program and in every row, IS THE sha256 OF THE DUMP (.gsa) THAT YtpdpfiaediadgaaProg.lean LOADS. Nothing in Lean hashes anything: it is a label: what it is worth is what the hold of that sum in a sandbox is worth. -/
noncomputable def Try.pinned : Pinned := { name := "ytpdpfiaediadgaa", sum := "e8c52095d6c5b9f853e4bac193a7d6776f347b981320a0f6aeef3e439ccd9e2d", checked := Try.checked }
namespace Rows
def none {H : Type} : Left H := { results := [], args := [] }

/-- 'callboxtop.Names': WHATEVER THE INPUT: true; the input reads as it did. -/
def namesSpec : ChangeSpec := { name := "names", fn := fun _ => fun
  | [] => { results := [.lit (.bool true)], args := [] }
  | _ => none }
def namesRow : OpenClaim := { program := "ytpdpfiaediadgaa", sum := "e8c52095d6c5b9f853e4bac193a7d6776f347b981320a0f6aeef3e439ccd9e2d", func := "callbox/callboxtop.Names", spec := "names", plainKeys := false, apart := false }
def NamesSaid : Prop := namesRow.holds Try.pinned (OpenSpec.ofChange namesSpec)

/-- ITS FALSE NEIGHBOUR: 'it returns false'. Refute it at one input. -/
def namesWrong : ChangeSpec := { name := "names", fn := fun _ => fun
  | [] => { results := [.lit (.bool false)], args := [] }
  | _ => none }
def NamesWrongFalsely : Prop := namesRow.holds Try.pinned (OpenSpec.ofChange namesWrong)

/-- 'callboxlaw15.CacheOnce': WHATEVER THE INPUT: true; the input reads as it did. -/
def cacheOnceSpec : ChangeSpec := { name := "cacheOnce", fn := fun _ => fun
  | [d1, d2] => { results := [.lit (.bool true)], args := [d1, d2] }
  | _ => none }
def cacheOnceRow : OpenClaim := { program := "ytpdpfiaediadgaa", sum := "e8c52095d6c5b9f853e4bac193a7d6776f347b981320a0f6aeef3e439ccd9e2d", func := "callbox/callboxlaw15.CacheOnce", spec := "cacheOnce", plainKeys := false, apart := false }
def CacheOnceSaid : Prop := cacheOnceRow.holds Try.pinned (OpenSpec.ofChange cacheOnceSpec)

/-- ITS FALSE NEIGHBOUR: 'it returns false'. Refute it at one input. -/
def cacheOnceWrong : ChangeSpec := { name := "cacheOnce", fn := fun _ => fun
  | [d1, d2] => { results := [.lit (.bool false)], args := [d1, d2] }
  | _ => none }
def CacheOnceWrongFalsely : Prop := cacheOnceRow.holds Try.pinned (OpenSpec.ofChange cacheOnceWrong)

/-- 'callboxlaw15.CacheRooms': WHATEVER THE INPUT: true; the input reads as it did. -/
def cacheRoomsSpec : ChangeSpec := { name := "cacheRooms", fn := fun _ => fun
  | [d1, d2, d3] => { results := [.lit (.bool true)], args := [d1, d2, d3] }
  | _ => none }
def cacheRoomsRow : OpenClaim := { program := "ytpdpfiaediadgaa", sum := "e8c52095d6c5b9f853e4bac193a7d6776f347b981320a0f6aeef3e439ccd9e2d", func := "callbox/callboxlaw15.CacheRooms", spec := "cacheRooms", plainKeys := false, apart := false }
def CacheRoomsSaid : Prop := cacheRoomsRow.holds Try.pinned (OpenSpec.ofChange cacheRoomsSpec)

/-- ITS FALSE NEIGHBOUR: 'it returns false'. Refute it at one input. -/
def cacheRoomsWrong : ChangeSpec := { name := "cacheRooms", fn := fun _ => fun
  | [d1, d2, d3] => { results := [.lit (.bool false)], args := [d1, d2, d3] }
  | _ => none }
def CacheRoomsWrongFalsely : Prop := cacheRoomsRow.holds Try.pinned (OpenSpec.ofChange cacheRoomsWrong)

/-- 'callboxlaw15.CachePlays': WHATEVER THE INPUT: true; the input reads as it did. -/
def cachePlaysSpec : ChangeSpec := { name := "cachePlays", fn := fun _ => fun
  | [d1, d2, d3] => { results := [.lit (.bool true)], args := [d1, d2, d3] }
  | _ => none }
def cachePlaysRow : OpenClaim := { program := "ytpdpfiaediadgaa", sum := "e8c52095d6c5b9f853e4bac193a7d6776f347b981320a0f6aeef3e439ccd9e2d", func := "callbox/callboxlaw15.CachePlays", spec := "cachePlays", plainKeys := false, apart := false }
def CachePlaysSaid : Prop := cachePlaysRow.holds Try.pinned (OpenSpec.ofChange cachePlaysSpec)

/-- ITS FALSE NEIGHBOUR: 'it returns false'. Refute it at one input. -/
def cachePlaysWrong : ChangeSpec := { name := "cachePlays", fn := fun _ => fun
  | [d1, d2, d3] => { results := [.lit (.bool false)], args := [d1, d2, d3] }
  | _ => none }
def CachePlaysWrongFalsely : Prop := cachePlaysRow.holds Try.pinned (OpenSpec.ofChange cachePlaysWrong)

/-- 'callboxlaw18.ServicePlays': WHATEVER THE INPUT: true; the input reads as it did. -/
def servicePlaysSpec : ChangeSpec := { name := "servicePlays", fn := fun _ => fun
  | [d] => { results := [.lit (.bool true)], args := [d] }
  | _ => none }
def servicePlaysRow : OpenClaim := { program := "ytpdpfiaediadgaa", sum := "e8c52095d6c5b9f853e4bac193a7d6776f347b981320a0f6aeef3e439ccd9e2d", func := "callbox/callboxlaw18.ServicePlays", spec := "servicePlays", unfollowed := true, recurses := true, plainKeys := false, apart := false }
def ServicePlaysSaid : Prop := servicePlaysRow.holds Try.pinned (OpenSpec.ofChange servicePlaysSpec)

/-- ITS FALSE NEIGHBOUR: 'it returns false'. Refute it at one input. -/
def servicePlaysWrong : ChangeSpec := { name := "servicePlays", fn := fun _ => fun
  | [d] => { results := [.lit (.bool false)], args := [d] }
  | _ => none }
def ServicePlaysWrongFalsely : Prop := servicePlaysRow.holds Try.pinned (OpenSpec.ofChange servicePlaysWrong)

/-- 'callboxlaw18.ServiceFinds': WHATEVER THE INPUT: true; the input reads as it did. -/
def serviceFindsSpec : ChangeSpec := { name := "serviceFinds", fn := fun _ => fun
  | [d1, d2, d3, d4] => { results := [.lit (.bool true)], args := [d1, d2, d3, d4] }
  | _ => none }
def serviceFindsRow : OpenClaim := { program := "ytpdpfiaediadgaa", sum := "e8c52095d6c5b9f853e4bac193a7d6776f347b981320a0f6aeef3e439ccd9e2d", func := "callbox/callboxlaw18.ServiceFinds", spec := "serviceFinds", unfollowed := true, recurses := true, plainKeys := false, apart := false }
def ServiceFindsSaid : Prop := serviceFindsRow.holds Try.pinned (OpenSpec.ofChange serviceFindsSpec)

/-- ITS FALSE NEIGHBOUR: 'it returns false'. Refute it at one input. -/
def serviceFindsWrong : ChangeSpec := { name := "serviceFinds", fn := fun _ => fun
  | [d1, d2, d3, d4] => { results := [.lit (.bool false)], args := [d1, d2, d3, d4] }
  | _ => none }
def ServiceFindsWrongFalsely : Prop := serviceFindsRow.holds Try.pinned (OpenSpec.ofChange serviceFindsWrong)

/- THE SECOND FORM. 'bulk': how many values and letters a reading holds, each counted each time it is reached (what is shared counts as often as it is met; a slice's spare places count too). A statement '..UptoSaid' is the law's where the arguments, and the package variables that the reading takes, are together of bulk at most 1048576: NARROWER than '..Said'. Prove '..Said' where nothing that the law and all that it calls make is longer than what came in: it says more and counts as full. Else prove '..UptoSaid'. A law counts once. -/
mutual
def uptoBulk {H : Type} : DataW H → Nat
  | .lit (.string bytes) => bytes.length + 1
  | .lit _ => 1
  | .nil => 1
  | .ptr d => uptoBulk d + 1
  | .slice elems spare => uptoBulkAll elems + uptoBulkAll spare + 1
  | .agg parts => uptoBulkAll parts + 1
  | .iface _ d => uptoBulk d + 1
  | .map entries => uptoBulkEntries entries + 1
  | .held _ => 1
def uptoBulkAll {H : Type} : List (DataW H) → Nat
  | [] => 0
  | d :: r => uptoBulk d + uptoBulkAll r
def uptoBulkEntries {H : Type} : List (Lit × DataW H) → Nat
  | [] => 0
  | x :: r => uptoBulkEntry x + uptoBulkEntries r
def uptoBulkEntry {H : Type} : Lit × DataW H → Nat
  | (.string bytes, d) => bytes.length + uptoBulk d + 1
  | (_, d) => uptoBulk d + 1
 end
def uptoSmall : (H : Type) → List (DataW H) → Bool := fun _ ds => decide (uptoBulkAll ds ≤ 1048576)
def OpenSpec.upto (s : _root_.Go.ChangeSpec) : _root_.Go.OpenSpec := { _root_.Go.OpenSpec.ofChange s with cond := some uptoSmall }

/-- 'callboxtop.Names', WHERE WHAT IT READS IS OF BULK AT MOST 1048576: true; the input reads as it did. -/
def namesUptoRow : OpenClaim := { program := "ytpdpfiaediadgaa", sum := "e8c52095d6c5b9f853e4bac193a7d6776f347b981320a0f6aeef3e439ccd9e2d", func := "callbox/callboxtop.Names", spec := "names", plainKeys := false, apart := false, narrowed := true }
def NamesUptoSaid : Prop := namesUptoRow.holds Try.pinned (OpenSpec.upto namesSpec)

/-- 'callboxlaw15.CacheOnce', WHERE WHAT IT READS IS OF BULK AT MOST 1048576: true; the input reads as it did. -/
def cacheOnceUptoRow : OpenClaim := { program := "ytpdpfiaediadgaa", sum := "e8c52095d6c5b9f853e4bac193a7d6776f347b981320a0f6aeef3e439ccd9e2d", func := "callbox/callboxlaw15.CacheOnce", spec := "cacheOnce", plainKeys := false, apart := false, narrowed := true }
def CacheOnceUptoSaid : Prop := cacheOnceUptoRow.holds Try.pinned (OpenSpec.upto cacheOnceSpec)

/-- 'callboxlaw15.CacheRooms', WHERE WHAT IT READS IS OF BULK AT MOST 1048576: true; the input reads as it did. -/
def cacheRoomsUptoRow : OpenClaim := { program := "ytpdpfiaediadgaa", sum := "e8c52095d6c5b9f853e4bac193a7d6776f347b981320a0f6aeef3e439ccd9e2d", func := "callbox/callboxlaw15.CacheRooms", spec := "cacheRooms", plainKeys := false, apart := false, narrowed := true }
def CacheRoomsUptoSaid : Prop := cacheRoomsUptoRow.holds Try.pinned (OpenSpec.upto cacheRoomsSpec)

/-- 'callboxlaw15.CachePlays', WHERE WHAT IT READS IS OF BULK AT MOST 1048576: true; the input reads as it did. -/
def cachePlaysUptoRow : OpenClaim := { program := "ytpdpfiaediadgaa", sum := "e8c52095d6c5b9f853e4bac193a7d6776f347b981320a0f6aeef3e439ccd9e2d", func := "callbox/callboxlaw15.CachePlays", spec := "cachePlays", plainKeys := false, apart := false, narrowed := true }
def CachePlaysUptoSaid : Prop := cachePlaysUptoRow.holds Try.pinned (OpenSpec.upto cachePlaysSpec)

/-- 'callboxlaw18.ServicePlays', WHERE WHAT IT READS IS OF BULK AT MOST 1048576: true; the input reads as it did. -/
def servicePlaysUptoRow : OpenClaim := { program := "ytpdpfiaediadgaa", sum := "e8c52095d6c5b9f853e4bac193a7d6776f347b981320a0f6aeef3e439ccd9e2d", func := "callbox/callboxlaw18.ServicePlays", spec := "servicePlays", unfollowed := true, recurses := true, plainKeys := false, apart := false, narrowed := true }
def ServicePlaysUptoSaid : Prop := servicePlaysUptoRow.holds Try.pinned (OpenSpec.upto servicePlaysSpec)

/-- 'callboxlaw18.ServiceFinds', WHERE WHAT IT READS IS OF BULK AT MOST 1048576: true; the input reads as it did. -/
def serviceFindsUptoRow : OpenClaim := { program := "ytpdpfiaediadgaa", sum := "e8c52095d6c5b9f853e4bac193a7d6776f347b981320a0f6aeef3e439ccd9e2d", func := "callbox/callboxlaw18.ServiceFinds", spec := "serviceFinds", unfollowed := true, recurses := true, plainKeys := false, apart := false, narrowed := true }
def ServiceFindsUptoSaid : Prop := serviceFindsUptoRow.holds Try.pinned (OpenSpec.upto serviceFindsSpec)

end Rows
end Go.Proofs.Ytpdpfiaediadgaa
