/-
  The digest of one text, worked out.
  No conditions.
-/
import Derived.Test.YtbmfinobafcmiaaDoorDigS
namespace Go.Dig
def abcV : List UInt8 := [186, 120, 22, 191, 143, 1, 207, 234, 65, 65, 64, 222, 93, 174, 34, 35, 176, 3, 97, 163, 150, 23, 122, 156, 180, 16, 255, 97, 242, 0, 21, 173]
theorem sha_abc : shaR [97, 98, 99] = abcV := by decide +kernel
theorem sumV_abc : sumV [[97], [98, 99]] = abcV := by rw [sumV_eq]; exact sha_abc
def oneL : List UInt8 := 1 :: 254 :: List.replicate 30 0
theorem hex_one_ok : okHex (hexV oneL) = true := by decide +kernel
theorem hex_one_back : unhexV (hexV oneL) = oneL := by decide +kernel
end Go.Dig
