/- Functions that compute what the Go functions compute, proofs that the machine's calls do so, or the row of a law over them. No further condition. Written by xp.py, a program of this session, over the kit's print. -/
import Derived.Test.YtijioimbgmcpaaaProg
import Derived.Below
import Derived.Deep.Draws
import Derived.Deep.AppendLies
import Derived.Maps.AppendAt
import Derived.OwnWalk
import Derived.Laws.BytesArg
import Derived.Laws.MakeOwn
import Derived.Laws.OwnMore
import Derived.Deep.OwnRows
import Derived.Tactics
import Derived.Lib.ConvBytes
import Derived.Laws.Slices
import Derived.WalkKit
import Derived.KernelRfl
import Derived.RowKit3
import Derived.Deep.LoopGhost
import Derived.Deep.QuietTactic
import Derived.BigQuiet
import Derived.WideLaws
import Derived.Deep.DeepCutAuto
import Derived.Deep.CutBlock
import Derived.Deep.RegionHeld3
import Derived.Laws.Rows
import Derived.Lib.AppendStr
import Derived.ArgAppend
import Derived.Laws.IdiomCopy
import Derived.OrdersHeld
import Derived.Laws.BitsLemmas
import Derived.RowKit
import Derived.Test.YtijioimbgmcpaaaXWord
import Derived.Laws.EntriesVeiled
import Derived.Test.YtijioimbgmcpaaaWWords
import Derived.Test.YtijioimbgmcpaaaWLast
import Derived.Test.YtijioimbgmcpaaaWTab
import Derived.Test.YtijioimbgmcpaaaWFour
import Derived.Test.YtijioimbgmcpaaaWQPut
import Derived.Test.YtijioimbgmcpaaaWApart
import Derived.Test.YtijioimbgmcpaaaWArr
import Derived.Test.YtijioimbgmcpaaaWZeros
import Derived.Test.YtijioimbgmcpaaaWFoot
import Derived.Test.YtijioimbgmcpaaaWKept
import Derived.Test.YtijioimbgmcpaaaWShare
import Derived.Test.YtijioimbgmcpaaaWN
import Derived.Test.YtijioimbgmcpaaaWFootNe
import Derived.Test.YtijioimbgmcpaaaWAt
import Derived.Test.YtijioimbgmcpaaaWEqStruct
import Derived.Test.YtijioimbgmcpaaaWRepsOne
import Derived.Test.YtijioimbgmcpaaaWInv
import Derived.Test.YtijioimbgmcpaaaWInvWords
import Derived.Test.YtijioimbgmcpaaaWGuard
import Derived.Test.YtijioimbgmcpaaaWNEv
import Derived.Test.YtijioimbgmcpaaaWMore
namespace Go.Proofs.Ytijioimbgmcpaaa.Q
open Go.RowKit Go.Proofs.YtijioimbgmcpaaaW.PrintWords Go.Proofs.YtijioimbgmcpaaaW.PrintLast Go.Proofs.YtijioimbgmcpaaaW.PrintMore
attribute [local go_sem] max2_int min2_int max_two min_two max_three min_three max_four min_four   -- for this text's walks alone
set_option linter.unusedVariables false
set_option linter.unusedSimpArgs false



def errW : Option Int → Value
  | none => .nilIface
  | some c => .iface 0 (.int .i64 c)
theorem errW_none : errW none = .nilIface := rfl
theorem errW_some (c : Int) : errW (some c) = .iface 0 (.int .i64 c) := rfl

theorem info3 : (Try.prog.info? 3).map (fun i => (i.zero, i.size, i.bytes)) = some (some (.int .i64 0), 1, 8) := by kernel_rfl
-- the values' own types
/-! #### struct type 23 -/
structure S23 where
  f0 : Int
  f1 : Bool
def z23 : S23 := ⟨(0 : Int), false⟩
def k23 : Kd S23 := Kd.iso (Kd.pair (Kd.int .i64) Kd.bool) (fun x : S23 => (x.f0, x.f1))
theorem k23_open {w : World} {x : S23} {cs : List Value} (h : k23.K w x cs) : cs = [.int .i64 x.f0, .bool x.f1] := by
  obtain ⟨_, _, rfl, rfl, rfl⟩ := h
  exact rfl
theorem k23_openM {w : World} {base : Nat} {ok : Nat → Prop} {x : S23} {cs : List Value} (h : k23.M w base ok x cs) : cs = [.int .i64 x.f0, .bool x.f1] := by
  obtain ⟨_, _, rfl, rfl, rfl⟩ := h
  exact rfl
theorem k23_mk (w : World) (x : S23)  : k23.K w x [.int .i64 x.f0, .bool x.f1] := ⟨[.int .i64 x.f0], [.bool x.f1], rfl, rfl, rfl⟩
theorem k23_mkM (w : World) (base : Nat) (ok : Nat → Prop) (x : S23)  : k23.M w base ok x [.int .i64 x.f0, .bool x.f1] := ⟨[.int .i64 x.f0], [.bool x.f1], rfl, rfl, rfl⟩
def rd_T23 (xs : List S23) (i : Int) : S23 := xs.getD i.toNat z23
theorem at_T23 {w : World} {A : Option Addr} {n : Nat} {xs : List S23} (h : Kd.C k23 w A n xs) (i : Int) (h0 : 0 ≤ i) (h1 : i < n) : ∃ ad , A = some ad ∧ w.cell? (ad.add (i.toNat * 2)) = some (.int .i64 (rd_T23 xs i).f0) ∧ w.cell? ⟨(ad.add (i.toNat * 2)).block, (ad.add (i.toNat * 2)).off + 1, none⟩ = some (.bool (rd_T23 xs i).f1) := by
  obtain ⟨ad, c, e, _, hK, hc0⟩ := Kd.C_get h z23 i h0 h1
  have hc : ∀ j u, c[j]? = some u → w.cell? (ad.add (i.toNat * 2 + j)) = some u := hc0
  obtain rfl := k23_open hK
  exact ⟨ad, e, hc 0 _ rfl, by rw [← add_field _ _ 1 (by omega)]; exact hc 1 _ rfl⟩

@[go_sem] theorem idxA44_0 (a0 : Int) (a1 : Int) (w : World) : (Instr.index 44 (.agg #[.int .i64 a0, .int .i64 a1]) (.int .i64 0)).run Try.prog w = .ok (.int .i64 a0) w := by kernel_rfl
@[go_sem] theorem idxA44_1 (a0 : Int) (a1 : Int) (w : World) : (Instr.index 44 (.agg #[.int .i64 a0, .int .i64 a1]) (.int .i64 1)).run Try.prog w = .ok (.int .i64 a1) w := by kernel_rfl
@[go_sem] theorem idxA77_0 (a0 : Int) (a1 : Int) (a2 : Int) (w : World) : (Instr.index 77 (.agg #[.int .i64 a0, .int .i64 a1, .int .i64 a2]) (.int .i64 0)).run Try.prog w = .ok (.int .i64 a0) w := by kernel_rfl
@[go_sem] theorem idxA77_1 (a0 : Int) (a1 : Int) (a2 : Int) (w : World) : (Instr.index 77 (.agg #[.int .i64 a0, .int .i64 a1, .int .i64 a2]) (.int .i64 1)).run Try.prog w = .ok (.int .i64 a1) w := by kernel_rfl
@[go_sem] theorem idxA77_2 (a0 : Int) (a1 : Int) (a2 : Int) (w : World) : (Instr.index 77 (.agg #[.int .i64 a0, .int .i64 a1, .int .i64 a2]) (.int .i64 2)).run Try.prog w = .ok (.int .i64 a2) w := by kernel_rfl
end Go.Proofs.Ytijioimbgmcpaaa.Q
