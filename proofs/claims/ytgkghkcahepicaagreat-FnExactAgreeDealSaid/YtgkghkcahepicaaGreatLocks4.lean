/-
  What TakeLock gives.
  No condition.
-/
import Derived.Test.YtgkghkcahepicaaGreatLocks3
namespace Go.Proofs.YtgkghkcahepicaaGreat
open Go.Ab
set_option linter.unusedSimpArgs false
set_option maxRecDepth 20000
set_option maxHeartbeats 4000000
set_option linter.unusedVariables false

theorem ix_own {α : Type} {f : α → List AV} {xs : List α} {n : Int} {Q : List AV → Prop} (h : n.toNat < xs.length) (hQ : ∀ x, xs[n.toNat]? = some x → Q (f x)) : ∃ y, (xs.map f)[n.toNat]? = some y ∧ Q y :=
  ⟨f xs[n.toNat], by simp [h], hQ _ (by simp [h])⟩
def sameL (x y : LockT) : Bool := decide (y.Key = x.Key) && decide (y.Txn = x.Txn)
def orW (x y : LockT) : LockT := { y with Write := y.Write || x.Write }
def takeL (l : List LockT) (x : LockT) : List LockT :=
  if idxF (sameL x) 0 l < 0 then l ++ [x] else match l[(idxF (sameL x) 0 l).toNat]? with | some y => l.set (idxF (sameL x) 0 l).toNat (orW x y) | none => l
def okTk (l : List LockT) (x : LockT) : Bool := decide (waitS l x = []) && decide (((takeL l x).length : Int) ≤ 60)
def resT (b : Bool) (l : List LockT) : List LockT := match b with | true => l | false => []
def okT2 (l : List LockT) (x : LockT) : Bool := okW l x && okTk l x
def takeR (l : List LockT) (x : LockT) : List LockT := resT (okT2 l x) (takeL l x)
end Go.Proofs.YtgkghkcahepicaaGreat
