/- The examples' numbers. -/
import Derived.Test.YtldloociaoflkaaRun
import Derived.KernelRfl
namespace Go.Proofs.Ytldloociaoflkaa
theorem crc_known : Crc.crc [49, 50, 51, 52, 53, 54, 55, 56, 57] = 0xcbf43926#32 := by kernel_rfl
theorem sum_known0 : (Sha.sum [97, 98, 99]).getD 0 0 = 186 := by kernel_rfl
theorem sum_known1 : (Sha.sum [97, 98, 99]).getD 1 0 = 120 := by kernel_rfl
theorem sum_known31 : (Sha.sum [97, 98, 99]).getD 31 0 = 173 := by kernel_rfl
theorem mac_known0 : (Sha.mac [107, 101, 121] [108, 97, 116, 99, 104]).getD 0 0 = 21 := by kernel_rfl
theorem mac_known31 : (Sha.mac [107, 101, 121] [108, 97, 116, 99, 104]).getD 31 0 = 22 := by kernel_rfl
end Go.Proofs.Ytldloociaoflkaa
