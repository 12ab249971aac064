/- agiolaw02.awake. -/
import Derived.Test.YtmnoahglajilhaaDoorErrs6
import Derived.Test.YtmnoahglajilhaaDoorReader3
import Derived.Lib.SlBytesConst
namespace Go.Proofs.YtmnoahglajilhaaDoor
open Go.RowKit Agio

theorem leb300 : leb 300 = [172, 2] := by rw [leb_ge (by decide), leb_lt (by decide)]; rfl
theorem zig1 : zig (-1) = 1 := rfl
theorem uv_awake : uv [5, 128, 0] = (5, 1, 0) := by rw [uv, uvA_last (by decide) (by decide) (by decide)]; rfl
theorem uv_awake2 : uv [128, 0] = (0, 0, 2) := by rw [uv, uvA_more (by decide) (by decide), uvA_zero (by decide) (by decide)]

theorem told_awake : ([] : List UInt8) ++ leb (Int.toNat 300) ++ leb (zig (-1)) ++ leb ([97, 98] : List UInt8).length ++ [97, 98] = [172, 2, 1, 2, 97, 98] := by
  rw [show (300 : Int).toNat = 300 from rfl, leb300, zig1, leb_lt (n := 1) (by decide), show ([97, 98] : List UInt8).length = 2 from rfl, leb_lt (n := 2) (by decide)]; rfl
end Go.Proofs.YtmnoahglajilhaaDoor
