/- Functions that compute what the Go functions compute, proofs that the machine's calls do so, or the row of a law over them. No further condition. Written by xp.py, a program of this session, over the kit's print. -/
import Derived.Test.YtdobphmkflkciaaProg
import Derived.Below
import Derived.Deep.Draws
import Derived.Deep.AppendLies
import Derived.Maps.AppendAt
import Derived.OwnWalk
import Derived.Laws.BytesArg
import Derived.Laws.MakeOwn
import Derived.Laws.OwnMore
import Derived.Deep.OwnRows
import Derived.Tactics
import Derived.Lib.ConvBytes
import Derived.Laws.Slices
import Derived.WalkKit
import Derived.KernelRfl
import Derived.RowKit3
import Derived.Deep.LoopGhost
import Derived.Deep.QuietTactic
import Derived.BigQuiet
import Derived.WideLaws
import Derived.Deep.DeepCutAuto
import Derived.Deep.CutBlock
import Derived.Deep.RegionHeld3
import Derived.Laws.Rows
import Derived.Lib.AppendStr
import Derived.ArgAppend
import Derived.Laws.IdiomCopy
import Derived.OrdersHeld
import Derived.Laws.BitsLemmas
import Derived.RowKit
import Derived.Test.YtdobphmkflkciaaXWord
import Derived.Test.YtdobphmkflkciaaWWords
import Derived.Test.YtdobphmkflkciaaWLast
import Derived.Test.YtdobphmkflkciaaWTab
import Derived.Test.YtdobphmkflkciaaWFour
import Derived.Test.YtdobphmkflkciaaWQPut
import Derived.Test.YtdobphmkflkciaaWApart
import Derived.Test.YtdobphmkflkciaaWArr
import Derived.Test.YtdobphmkflkciaaWZeros
import Derived.Test.YtdobphmkflkciaaWFoot
import Derived.Test.YtdobphmkflkciaaWKept
import Derived.Test.YtdobphmkflkciaaWShare
import Derived.Test.YtdobphmkflkciaaWN
import Derived.Test.YtdobphmkflkciaaWFootNe
import Derived.Test.YtdobphmkflkciaaWAt
import Derived.Test.YtdobphmkflkciaaWEqStruct
import Derived.Test.YtdobphmkflkciaaWRepsOne
import Derived.Test.YtdobphmkflkciaaWInv
import Derived.Test.YtdobphmkflkciaaWInvWords
import Derived.Test.YtdobphmkflkciaaWGuard
import Derived.Test.YtdobphmkflkciaaWNEv
import Derived.Test.YtdobphmkflkciaaWMore
namespace Go.Proofs.Ytdobphmkflkciaa.Q
open Go.RowKit Go.Proofs.YtdobphmkflkciaaW.PrintWords Go.Proofs.YtdobphmkflkciaaW.PrintLast Go.Proofs.YtdobphmkflkciaaW.PrintMore
attribute [local go_sem] max2_int min2_int max_two min_two max_three min_three max_four min_four   -- for this text's walks alone
set_option linter.unusedVariables false
set_option linter.unusedSimpArgs false



def errW : Option Int → Value
  | none => .nilIface
  | some c => .iface 0 (.int .i64 c)
theorem errW_none : errW none = .nilIface := rfl
theorem errW_some (c : Int) : errW (some c) = .iface 0 (.int .i64 c) := rfl

theorem info3 : (Try.prog.info? 3).map (fun i => (i.zero, i.size, i.bytes)) = some (some (.int .i64 0), 1, 8) := by kernel_rfl
-- the values' own types
/-! #### struct type 23 -/
structure S23 where
  f0 : ByteArray
  f1 : Int
  f2 : Int
  f3 : Int
  f4 : Int
  f5 : Int
def z23 : S23 := ⟨(⟨#[]⟩ : ByteArray), (0 : Int), (0 : Int), (0 : Int), (0 : Int), (0 : Int)⟩
def k23 : Kd S23 := Kd.iso (Kd.pair Kd.string (Kd.pair (Kd.int .i64) (Kd.pair (Kd.int .i64) (Kd.pair (Kd.int .i64) (Kd.pair (Kd.int .i64) (Kd.int .i64)))))) (fun x : S23 => (x.f0, x.f1, x.f2, x.f3, x.f4, x.f5))
theorem k23_open {w : World} {x : S23} {cs : List Value} (h : k23.K w x cs) : cs = [.string x.f0, .int .i64 x.f1, .int .i64 x.f2, .int .i64 x.f3, .int .i64 x.f4, .int .i64 x.f5] := by
  obtain ⟨_, _, rfl, rfl, ⟨_, _, rfl, rfl, ⟨_, _, rfl, rfl, ⟨_, _, rfl, rfl, ⟨_, _, rfl, rfl, rfl⟩⟩⟩⟩⟩ := h
  exact rfl
theorem k23_openM {w : World} {base : Nat} {ok : Nat → Prop} {x : S23} {cs : List Value} (h : k23.M w base ok x cs) : cs = [.string x.f0, .int .i64 x.f1, .int .i64 x.f2, .int .i64 x.f3, .int .i64 x.f4, .int .i64 x.f5] := by
  obtain ⟨_, _, rfl, rfl, ⟨_, _, rfl, rfl, ⟨_, _, rfl, rfl, ⟨_, _, rfl, rfl, ⟨_, _, rfl, rfl, rfl⟩⟩⟩⟩⟩ := h
  exact rfl
theorem k23_mk (w : World) (x : S23)  : k23.K w x [.string x.f0, .int .i64 x.f1, .int .i64 x.f2, .int .i64 x.f3, .int .i64 x.f4, .int .i64 x.f5] := ⟨[.string x.f0], [.int .i64 x.f1, .int .i64 x.f2, .int .i64 x.f3, .int .i64 x.f4, .int .i64 x.f5], rfl, rfl, ⟨[.int .i64 x.f1], [.int .i64 x.f2, .int .i64 x.f3, .int .i64 x.f4, .int .i64 x.f5], rfl, rfl, ⟨[.int .i64 x.f2], [.int .i64 x.f3, .int .i64 x.f4, .int .i64 x.f5], rfl, rfl, ⟨[.int .i64 x.f3], [.int .i64 x.f4, .int .i64 x.f5], rfl, rfl, ⟨[.int .i64 x.f4], [.int .i64 x.f5], rfl, rfl, rfl⟩⟩⟩⟩⟩
theorem k23_mkM (w : World) (base : Nat) (ok : Nat → Prop) (x : S23)  : k23.M w base ok x [.string x.f0, .int .i64 x.f1, .int .i64 x.f2, .int .i64 x.f3, .int .i64 x.f4, .int .i64 x.f5] := ⟨[.string x.f0], [.int .i64 x.f1, .int .i64 x.f2, .int .i64 x.f3, .int .i64 x.f4, .int .i64 x.f5], rfl, rfl, ⟨[.int .i64 x.f1], [.int .i64 x.f2, .int .i64 x.f3, .int .i64 x.f4, .int .i64 x.f5], rfl, rfl, ⟨[.int .i64 x.f2], [.int .i64 x.f3, .int .i64 x.f4, .int .i64 x.f5], rfl, rfl, ⟨[.int .i64 x.f3], [.int .i64 x.f4, .int .i64 x.f5], rfl, rfl, ⟨[.int .i64 x.f4], [.int .i64 x.f5], rfl, rfl, rfl⟩⟩⟩⟩⟩
def rd_T23 (xs : List S23) (i : Int) : S23 := xs.getD i.toNat z23
theorem at_T23 {w : World} {A : Option Addr} {n : Nat} {xs : List S23} (h : Kd.C k23 w A n xs) (i : Int) (h0 : 0 ≤ i) (h1 : i < n) : ∃ ad , A = some ad ∧ w.cell? (ad.add (i.toNat * 6)) = some (.string (rd_T23 xs i).f0) ∧ w.cell? ⟨(ad.add (i.toNat * 6)).block, (ad.add (i.toNat * 6)).off + 1, none⟩ = some (.int .i64 (rd_T23 xs i).f1) ∧ w.cell? ⟨(ad.add (i.toNat * 6)).block, (ad.add (i.toNat * 6)).off + 2, none⟩ = some (.int .i64 (rd_T23 xs i).f2) ∧ w.cell? ⟨(ad.add (i.toNat * 6)).block, (ad.add (i.toNat * 6)).off + 3, none⟩ = some (.int .i64 (rd_T23 xs i).f3) ∧ w.cell? ⟨(ad.add (i.toNat * 6)).block, (ad.add (i.toNat * 6)).off + 4, none⟩ = some (.int .i64 (rd_T23 xs i).f4) ∧ w.cell? ⟨(ad.add (i.toNat * 6)).block, (ad.add (i.toNat * 6)).off + 5, none⟩ = some (.int .i64 (rd_T23 xs i).f5) := by
  obtain ⟨ad, c, e, _, hK, hc0⟩ := Kd.C_get h z23 i h0 h1
  have hc : ∀ j u, c[j]? = some u → w.cell? (ad.add (i.toNat * 6 + j)) = some u := hc0
  obtain rfl := k23_open hK
  exact ⟨ad, e, hc 0 _ rfl, by rw [← add_field _ _ 1 (by omega)]; exact hc 1 _ rfl, by rw [← add_field _ _ 2 (by omega)]; exact hc 2 _ rfl, by rw [← add_field _ _ 3 (by omega)]; exact hc 3 _ rfl, by rw [← add_field _ _ 4 (by omega)]; exact hc 4 _ rfl, by rw [← add_field _ _ 5 (by omega)]; exact hc 5 _ rfl⟩

@[go_sem] theorem idxA68_0 (a0 : ByteArray) (a1 : ByteArray) (w : World) : (Instr.index 68 (.agg #[.string a0, .string a1]) (.int .i64 0)).run Try.prog w = .ok (.string a0) w := by kernel_rfl
@[go_sem] theorem idxA68_1 (a0 : ByteArray) (a1 : ByteArray) (w : World) : (Instr.index 68 (.agg #[.string a0, .string a1]) (.int .i64 1)).run Try.prog w = .ok (.string a1) w := by kernel_rfl
@[go_sem] theorem idxA83_0 (a0 : Int) (a1 : Int) (a2 : Int) (w : World) : (Instr.index 83 (.agg #[.int .i64 a0, .int .i64 a1, .int .i64 a2]) (.int .i64 0)).run Try.prog w = .ok (.int .i64 a0) w := by kernel_rfl
@[go_sem] theorem idxA83_1 (a0 : Int) (a1 : Int) (a2 : Int) (w : World) : (Instr.index 83 (.agg #[.int .i64 a0, .int .i64 a1, .int .i64 a2]) (.int .i64 1)).run Try.prog w = .ok (.int .i64 a1) w := by kernel_rfl
@[go_sem] theorem idxA83_2 (a0 : Int) (a1 : Int) (a2 : Int) (w : World) : (Instr.index 83 (.agg #[.int .i64 a0, .int .i64 a1, .int .i64 a2]) (.int .i64 2)).run Try.prog w = .ok (.int .i64 a2) w := by kernel_rfl
end Go.Proofs.Ytdobphmkflkciaa.Q
