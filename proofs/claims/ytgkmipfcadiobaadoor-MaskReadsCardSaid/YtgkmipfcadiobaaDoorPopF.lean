/- math/bits.OnesCount64 and (mask.Set).Len, as the printed readings have them, count a set's cores. -/
import Derived.Test.YtgkmipfcadiobaaDoorPop
import Derived.Test.YtgkmipfcadiobaaDoorGMx1
namespace Go.Proofs.YtgkmipfcadiobaaDoor.GM
open Go Go.RowKit Go.Proofs.YtgkmipfcadiobaaDoor Pl
def S1 (a : Int) : Int := IntKind.u64.wrap (Go.bits .and .u64 (a / 2) 6148914691236517205 + Go.bits .and .u64 a 6148914691236517205)
def S2 (a : Int) : Int := IntKind.u64.wrap (Go.bits .and .u64 (a / 4) 3689348814741910323 + Go.bits .and .u64 a 3689348814741910323)
def S3 (a : Int) : Int := Go.bits .and .u64 (IntKind.u64.wrap (a / 16 + a)) 1085102592571150095
def S4 (a : Int) : Int := IntKind.u64.wrap (a + a / 256)
def S5 (a : Int) : Int := IntKind.u64.wrap (a + a / 65536)
def S6 (a : Int) : Int := IntKind.u64.wrap (a + a / 4294967296)
theorem pop_eq (a : Int) : bits_OnesCount64.f a = some (Go.bits .and .i64 (wrap64 (S6 (S5 (S4 (S3 (S2 (S1 a))))))) 127) := by
  delta bits_OnesCount64.f S6 S5 S4 S3 S2 S1
  rfl
theorem fin127 (q l : Nat) (h : q < 9223372036854775808) (e : q % 128 = l) : some (Go.bits .and .i64 (wrap64 (q : Int)) 127) = some (l : Int) := by
  have hw : wrap64 (q : Int) = (q : Int) := by unfold wrap64; omega
  have k2 := bits_mask .i64 63 (by decide) (fun n h0 h1 => by rw [IntKind.wrap_i64]; omega) 7 (by decide) (q : Int) (by omega) (by omega)
  have k3 : bits .and .i64 (q : Int) 127 = (q : Int) % 128 := by simpa using k2
  rw [hw, k3]
  congr 1
  omega
theorem pop_f (x : Nat) (hx : x < 18446744073709551616) : bits_OnesCount64.f (x : Int) = some ((cores x).length : Int) := by
  obtain ⟨y, z, v, t, u, hy, hz, hv, ht, hu, ey, ez, e3, ev, et, eu, e4, e5⟩ := pop_stages x hx
  have g1 : S1 (x : Int) = (y : Int) := st1 x y hx 2 6148914691236517205 2 6148914691236517205 (by omega) (by omega) (by omega) ey hy
  have g2 : S2 (y : Int) = (z : Int) := st1 y z hy 4 3689348814741910323 4 3689348814741910323 (by omega) (by omega) (by omega) ez hz
  have g3 : S3 (z : Int) = (v : Int) := by
    rw [ev]
    unfold S3
    rw [st2 z 16 16 (by omega) e3]
    exact st4 (z / 16 + z) 1085102592571150095 1085102592571150095 (by omega) e3 (by omega)
  have g5 : S4 (v : Int) = (t : Int) := by rw [et]; exact st3 v 256 256 (by omega) (by omega)
  have g6 : S5 (t : Int) = (u : Int) := by rw [eu]; exact st3 t 65536 65536 (by omega) (by omega)
  have g7 : S6 (u : Int) = ((u + u / 4294967296 : Nat) : Int) := st3 u 4294967296 4294967296 (by omega) (by omega)
  rw [pop_eq, g1, g2, g3, g5, g6, g7]
  exact fin127 _ _ e4 e5
theorem len_f (x : Nat) (hx : x < 18446744073709551616) : mask_Set_Len.f (x : Int) = some ((cores x).length : Int) := by
  unfold mask_Set_Len.f; rw [pop_f x hx]; rfl
end Go.Proofs.YtgkmipfcadiobaaDoor.GM
