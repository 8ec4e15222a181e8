/-
  What the laws' functions on Lock, LockS give.
  No condition.
-/
import Derived.Test.YtgkghkcahepicaaGreatTypesA
import Derived.Test.YtgkghkcahepicaaGreatProg
import Derived.KernelRfl
namespace Go.Proofs.YtgkghkcahepicaaGreat
open Go.Ab
set_option linter.unusedSimpArgs false
set_option maxRecDepth 20000
set_option maxHeartbeats 4000000
set_option linter.unusedVariables false

structure LockT where
  Key : List UInt8
  Txn : Int
  Write : Bool
deriving DecidableEq
def LockT.cells (x : LockT) : List AV := [.str x.Key, .int .i64 x.Txn, .bool x.Write]
def LockT.ok (x : LockT) : Prop := okS x.Key ∧ okT x.Txn ∧ okT x.Write
def LockT.w (x : LockT) : Nat := x.Key.length
theorem LockT.same {x y : LockT} (hKey : x.Key = y.Key) (hTxn : x.Txn = y.Txn) (hWrite : x.Write = y.Write) : x = y := by cases x; cases y; simp_all
def LockT.shp : List Shp := [.leaf, .leaf, .leaf]
def LockT.mkM (x : LockT) (k : Int) : LockT := ⟨mText k, k + 1, ((k + 1 + 1).tmod 3 == 0)⟩
def LockT.cnt (x : LockT) : Nat := 1 + 1 + 1
end Go.Proofs.YtgkghkcahepicaaGreat
