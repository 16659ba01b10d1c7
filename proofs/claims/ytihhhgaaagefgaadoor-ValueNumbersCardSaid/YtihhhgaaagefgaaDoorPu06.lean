/- Numbers read, where they are numbers. -/
import Derived.Test.YtihhhgaaagefgaaDoorShelf
import Derived.WalkKit
import Derived.BigCall
import Derived.BigGuard
import Derived.Lib.AtoiErrMem
namespace Go.Proofs
open Go.Shelf Go.RowKit Go.Lib
set_option maxHeartbeats 6400000 in
set_option maxRecDepth 100000 in
theorem Tryd.ParseUint_ok (t : ByteArray) (n : Nat) (hmax : t.size ≤ 9223372036854775806) (hp : Lib.parseUintB 64 t.data.toList = .ok n) (w : World) :
  Calls Tryd.prog 49 #[.string t, .int .i64 10, .int .i64 64] w fun e w' => e = .returned (.tuple #[.int .u64 n, .nilIface]) ∧ Below w.heap.size w w' := by
 have hc := Tryd.internal_strconv_ParseUint_10_at64 t hmax w
 rw [hp, show Lib.uintTupleM 101 18446744073709551615 (.ok n) = .tuple #[.int .u64 n, .nilIface] from rfl] at hc
 go_enter Tryd.func49, Tryd.ntmps49
 go_wp2_with (go_at_call 66; refine hc.mono ?_; rintro e w1 ⟨rfl, h⟩)
 have hb : Below w.heap.size w w1 := by
  rcases h with rfl | rfl
  ·exact Below.refl _ _
  ·exact Lib.bytesWorld_below _ _ _
 go_ret2
 exact ⟨rfl, hb⟩
end Go.Proofs
