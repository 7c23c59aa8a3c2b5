/- More places of a list of memory parts. No program in sight. -/
import Derived.Test.YtabibfabieghpaaGreatDoorSl
namespace Go.Proofs.YtabibfabieghpaaGreatDoor
section
variable {E w : World} {L : List Hp} {A A1 A2 A3 A4 A5 A6 A7 A8 A9 A10 A11 A12 A13 A14 A15 : Hp}
theorem Own.f8 (h : Own E w (A1 :: A2 :: A3 :: A4 :: A5 :: A6 :: A7 :: A8 :: A :: L)) : Own E w (A :: A1 :: A2 :: A3 :: A4 :: A5 :: A6 :: A7 :: A8 :: L) := h.perm (perm_mid A [A1, A2, A3, A4, A5, A6, A7, A8])
theorem Own.f9 (h : Own E w (A1 :: A2 :: A3 :: A4 :: A5 :: A6 :: A7 :: A8 :: A9 :: A :: L)) : Own E w (A :: A1 :: A2 :: A3 :: A4 :: A5 :: A6 :: A7 :: A8 :: A9 :: L) := h.perm (perm_mid A [A1, A2, A3, A4, A5, A6, A7, A8, A9])
theorem Own.f10 (h : Own E w (A1 :: A2 :: A3 :: A4 :: A5 :: A6 :: A7 :: A8 :: A9 :: A10 :: A :: L)) : Own E w (A :: A1 :: A2 :: A3 :: A4 :: A5 :: A6 :: A7 :: A8 :: A9 :: A10 :: L) := h.perm (perm_mid A [A1, A2, A3, A4, A5, A6, A7, A8, A9, A10])
theorem Own.f11 (h : Own E w (A1 :: A2 :: A3 :: A4 :: A5 :: A6 :: A7 :: A8 :: A9 :: A10 :: A11 :: A :: L)) : Own E w (A :: A1 :: A2 :: A3 :: A4 :: A5 :: A6 :: A7 :: A8 :: A9 :: A10 :: A11 :: L) := h.perm (perm_mid A [A1, A2, A3, A4, A5, A6, A7, A8, A9, A10, A11])
theorem Own.f12 (h : Own E w (A1 :: A2 :: A3 :: A4 :: A5 :: A6 :: A7 :: A8 :: A9 :: A10 :: A11 :: A12 :: A :: L)) : Own E w (A :: A1 :: A2 :: A3 :: A4 :: A5 :: A6 :: A7 :: A8 :: A9 :: A10 :: A11 :: A12 :: L) := h.perm (perm_mid A [A1, A2, A3, A4, A5, A6, A7, A8, A9, A10, A11, A12])
theorem Own.f13 (h : Own E w (A1 :: A2 :: A3 :: A4 :: A5 :: A6 :: A7 :: A8 :: A9 :: A10 :: A11 :: A12 :: A13 :: A :: L)) : Own E w (A :: A1 :: A2 :: A3 :: A4 :: A5 :: A6 :: A7 :: A8 :: A9 :: A10 :: A11 :: A12 :: A13 :: L) := h.perm (perm_mid A [A1, A2, A3, A4, A5, A6, A7, A8, A9, A10, A11, A12, A13])
theorem Own.f14 (h : Own E w (A1 :: A2 :: A3 :: A4 :: A5 :: A6 :: A7 :: A8 :: A9 :: A10 :: A11 :: A12 :: A13 :: A14 :: A :: L)) : Own E w (A :: A1 :: A2 :: A3 :: A4 :: A5 :: A6 :: A7 :: A8 :: A9 :: A10 :: A11 :: A12 :: A13 :: A14 :: L) := h.perm (perm_mid A [A1, A2, A3, A4, A5, A6, A7, A8, A9, A10, A11, A12, A13, A14])
theorem Own.f15 (h : Own E w (A1 :: A2 :: A3 :: A4 :: A5 :: A6 :: A7 :: A8 :: A9 :: A10 :: A11 :: A12 :: A13 :: A14 :: A15 :: A :: L)) : Own E w (A :: A1 :: A2 :: A3 :: A4 :: A5 :: A6 :: A7 :: A8 :: A9 :: A10 :: A11 :: A12 :: A13 :: A14 :: A15 :: L) := h.perm (perm_mid A [A1, A2, A3, A4, A5, A6, A7, A8, A9, A10, A11, A12, A13, A14, A15])
end
end Go.Proofs.YtabibfabieghpaaGreatDoor
