/- What is shown here: the evaluator may stop behind one operation and go on. -/
import Derived.Test.YtbhojnofdeihdaaEE
namespace Go.Proofs.Ytbhojnofdeihdaa.E
set_option autoImplicit false
set_option linter.unusedVariables false
set_option linter.unusedSimpArgs false
section
variable {α β : Type}
theorem cond_bind (b : Bool) (x y : Option α) (f : α → Option β) : (bif b then x else y).bind f = bif b then x.bind f else y.bind f := by cases b <;> rfl
theorem bind_assoc3 {γ : Type} (x : Option α) (f : α → Option β) (g : β → Option γ) : (x.bind f).bind g = x.bind fun a => (f a).bind g := by cases x <;> rfl
variable (P : Program) (H : Heap)
theorem decT_bind (t : TypeId) (x : Option C) (K : V → Option α) : decT P t x K = (decT P t x some).bind K := by
  unfold decT; split <;> simp [bind_assoc3]
theorem decT_bind2 {γ : Type} (t : TypeId) (x : Option C) (K : V → Option α) (f : α → Option γ) : (decT P t x K).bind f = decT P t x fun v => (K v).bind f := by
  unfold decT; split <;> simp [bind_assoc3]
theorem loadK_bind (t : TypeId) (a : V) (K : V → List Rd → Option α) : loadK P H t a K = (loadK P H t a fun v r => some (v, r)).bind fun x => K x.1 x.2 := by
  unfold loadK
  split
  · split
    · simp only [cond_bind, decT_bind2, Option.bind_some, Option.bind_none]
    · simp only [cond_bind, Option.bind_some, Option.bind_none]
      refine congrArg (cond _ _) ?_
      split <;> rfl
    · rfl
  · split
    · simp only [bind_assoc3, cond_bind, decT_bind2, Option.bind_some, Option.bind_none]
    · rfl
  · simp only [cond_bind, decT_bind2, Option.bind_some, Option.bind_none]
  · rfl
theorem storeK_bind (t : TypeId) (a x : V) (K : List Rd → List Dl → Option α) : storeK P H t a x K = (storeK P H t a x fun r l => some (r, l)).bind fun x => K x.1 x.2 := by
  unfold storeK
  split
  · split
    · split <;> simp [cond_bind, bind_assoc3]
    · split <;> simp [cond_bind, bind_assoc3]
    · rfl
  · split
    · simp [cond_bind, bind_assoc3]
    · rfl
  · rfl
theorem binK_bind (op : BinOp) (t : TypeId) (x y : V) (K : V → Option α) : binK P op t x y K = (binK P op t x y some).bind K := by
  unfold binK
  repeat' split
  all_goals simp [cond_bind, bind_assoc3]
theorem unK_bind (op : UnOp) (x : V) (K : V → Option α) : unK op x K = (unK op x some).bind K := by
  unfold unK
  repeat' split
  all_goals simp [cond_bind, bind_assoc3]
theorem convK_bind (s t : TypeId) (x : V) (K : V → Option α) : convK P s t x K = (convK P s t x some).bind K := by
  unfold convK
  repeat' split
  all_goals simp [cond_bind, bind_assoc3]
theorem sliceK_bind (t : TypeId) (x : V) (lo hi : Option V) (K : V → List Rd → List Dl → Option α) : sliceK P H t x lo hi K = (sliceK P H t x lo hi fun v r l => some (v, r, l)).bind fun x => K x.1 x.2.1 x.2.2 := by
  unfold sliceK
  repeat' split
  all_goals simp [cond_bind, bind_assoc3]
theorem fieldAddrK_bind (s : TypeId) (x : V) (f : Nat) (K : V → Option α) : fieldAddrK P s x f K = (fieldAddrK P s x f some).bind K := by
  unfold fieldAddrK
  repeat' split
  all_goals simp [cond_bind, bind_assoc3]
theorem fieldK_bind (s : TypeId) (x : V) (f : Nat) (K : V → Option α) : fieldK P s x f K = (fieldK P s x f some).bind K := by
  unfold fieldK
  split
  · split
    · simp only [cond_bind, Option.bind_some, Option.bind_none]
      refine congrArg (cond _ _) ?_
      split <;> rfl
    · simp only [cond_bind, decT_bind2, Option.bind_some, Option.bind_none]
    · rfl
  · rfl
theorem indexAddrK_bind (t : TypeId) (x i : V) (K : V → Option α) : indexAddrK P t x i K = (indexAddrK P t x i some).bind K := by
  unfold indexAddrK
  repeat' split
  all_goals simp [cond_bind, bind_assoc3]
theorem indexK_bind (t : TypeId) (x i : V) (K : V → Option α) : indexK P t x i K = (indexK P t x i some).bind K := by
  unfold indexK
  split
  · simp [cond_bind, bind_assoc3]
  · simp only [cond_bind, Option.bind_none]
    refine congrArg (fun x => cond _ x none) ?_
    split <;> rfl
  · simp only [cond_bind, decT_bind2, Option.bind_some, Option.bind_none]
  · rfl
theorem lookupIn_bind2 {γ : Type} (e : TypeId) (es : List (ByteArray × C)) (key : ByteArray) (ok : Bool) (K : V → Option α) (f : α → Option γ) : (lookupIn P e es key ok K).bind f = lookupIn P e es key ok fun v => (K v).bind f := by
  unfold lookupIn
  repeat' split
  all_goals simp [cond_bind, bind_assoc3]
theorem lookupIn_bind (e : TypeId) (es : List (ByteArray × C)) (key : ByteArray) (ok : Bool) (K : V → Option α) : lookupIn P e es key ok K = (lookupIn P e es key ok some).bind K := by
  unfold lookupIn
  repeat' split
  all_goals simp [cond_bind, bind_assoc3]
theorem lookupK_bind (t : TypeId) (m k : V) (ok : Bool) (K : V → List Rd → Option α) : lookupK P H t m k ok K = (lookupK P H t m k ok fun v r => some (v, r)).bind fun x => K x.1 x.2 := by
  unfold lookupK
  split
  · split
    · simp only [lookupIn_bind2, Option.bind_some]
    · rfl
  · split
    · simp only [lookupIn_bind2, Option.bind_some]
    · rfl
  · rfl
theorem mapUpdateK_bind (t : TypeId) (m k x : V) (K : List Rd → List Dl → Option α) : mapUpdateK P H t m k x K = (mapUpdateK P H t m k x fun r l => some (r, l)).bind fun x => K x.1 x.2 := by
  unfold mapUpdateK
  repeat' split
  all_goals rfl
theorem appendK_bind (d : Nat) (st : TypeId) (s x : V) (K : V → List Rd → List Dl → Option α) : appendK P H d st s x K = (appendK P H d st s x fun v r l => some (v, r, l)).bind fun x => K x.1 x.2.1 x.2.2 := by
  unfold appendK
  split
  · simp only [bind_assoc3]
    congr 1; funext src
    repeat' split
    all_goals simp [cond_bind, bind_assoc3]
  · rfl
theorem builtinK_bind (d : Nat) (b : Builtin) (ts : Array TypeId) (vs : List V) (K : V → List Rd → List Dl → Option α) : builtinK P H d b ts vs K = (builtinK P H d b ts vs fun v r l => some (v, r, l)).bind fun x => K x.1 x.2.1 x.2.2 := by
  unfold builtinK
  split
  · split
    · split <;> rfl
    · rfl
  · split
    · split
      · exact appendK_bind P H ..
      · rfl
    · rfl
  · simp [bind_assoc3]
  · simp [bind_assoc3]
  · rfl
theorem opK_bind (ρ : Operand → V) (d : Nat) (o : Op) (K : V → List Rd → List Dl → Option α) : opK P H ρ d o K = (opK P H ρ d o fun v r l => some (v, r, l)).bind fun x => K x.1 x.2.1 x.2.2 := by
  unfold opK
  split
  any_goals rfl
  any_goals (split <;> simp only [cond_bind, bind_assoc3, Option.bind_some, Option.bind_none] <;> done)
  any_goals (simp only [cond_bind, bind_assoc3, Option.bind_some, Option.bind_none] <;> done)
  · split
    · split <;> simp only [cond_bind, bind_assoc3, Option.bind_some, Option.bind_none]
    · rfl
  · rw [loadK_bind]; conv => rhs; rw [loadK_bind]
    simp only [bind_assoc3, Option.bind_some]
  · rw [storeK_bind]; conv => rhs; rw [storeK_bind]
    simp only [bind_assoc3, Option.bind_some]
  · rw [binK_bind]; conv => rhs; rw [binK_bind]
    simp only [bind_assoc3, Option.bind_some]
  · rw [unK_bind]; conv => rhs; rw [unK_bind]
    simp only [bind_assoc3, Option.bind_some]
  · rw [convK_bind]; conv => rhs; rw [convK_bind]
    simp only [bind_assoc3, Option.bind_some]
  · exact sliceK_bind P H ..
  · rw [fieldAddrK_bind]; conv => rhs; rw [fieldAddrK_bind]
    simp only [bind_assoc3, Option.bind_some]
  · rw [fieldK_bind]; conv => rhs; rw [fieldK_bind]
    simp only [bind_assoc3, Option.bind_some]
  · rw [indexAddrK_bind]; conv => rhs; rw [indexAddrK_bind]
    simp only [bind_assoc3, Option.bind_some]
  · rw [indexK_bind]; conv => rhs; rw [indexK_bind]
    simp only [bind_assoc3, Option.bind_some]
  · rw [lookupK_bind]; conv => rhs; rw [lookupK_bind]
    simp only [bind_assoc3, Option.bind_some]
  · rw [mapUpdateK_bind]; conv => rhs; rw [mapUpdateK_bind]
    simp only [bind_assoc3, Option.bind_some]
  · split
    · split <;> rfl
    · rfl
  · exact builtinK_bind P H ..
end
end Go.Proofs.Ytbhojnofdeihdaa.E
