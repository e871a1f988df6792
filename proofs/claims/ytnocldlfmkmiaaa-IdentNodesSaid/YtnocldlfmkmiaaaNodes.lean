/-
  WHAT THE IDS OF NODES ARE: the hashes of "node" and a byte; the table's first ten; all 256 are unlike. Reckoned by the kernel.
-/
import Derived.Test.YtnocldlfmkmiaaaShaSpec
namespace Go.Proofs.Ytnocldlfmkmiaaa
set_option linter.unusedSimpArgs false
set_option linter.unusedVariables false
set_option maxRecDepth 100000

/-- A node's id. -/
def nodeId (b : UInt8) : List UInt8 := hash [110, 111, 100, 101, b]
theorem nodeId_length (b : UInt8) : (nodeId b).length = 32 := hash_length _
/-- The first two bytes of an id, as a number. -/
def headN (l : List UInt8) : Nat := (gb l 0).toNat * 256 + (gb l 1).toNat
def heads : List Nat := [
  41339, 27375, 5402, 28076, 44090, 19835, 13078, 54866, 36000, 10806, 14491, 37242, 55817, 23268, 1277, 39811,
  14476, 22936, 163, 2660, 62606, 8317, 5691, 14175, 40871, 20665, 3930, 53333, 12071, 53823, 61090, 55881,
  766, 60881, 51127, 31908, 25249, 16402, 41337, 4892, 26999, 38579, 11271, 25060, 12002, 63706, 48005, 15965,
  41053, 51730, 5553, 15195, 53944, 9135, 36390, 39907, 52876, 7803, 4845, 53579, 7262, 6880, 7201, 56173,
  36695, 59665, 23088, 40820, 54355, 32955, 39, 6914, 32486, 44879, 21553, 45946, 39424, 13735, 6218, 61421,
  47229, 25069, 37812, 16071, 57514, 57239, 61731, 12539, 4962, 36752, 13818, 64050, 51411, 31461, 47425, 60445,
  40215, 44114, 16072, 30513, 3737, 62702, 45947, 18320, 24699, 55439, 39162, 12503, 25753, 51015, 46770, 48230,
  10946, 43579, 52859, 17815, 3708, 10068, 7459, 55002, 21109, 57531, 20530, 6514, 43395, 63324, 30529, 60925,
  46076, 6518, 61139, 3993, 58917, 9859, 2359, 63947, 9631, 1453, 47355, 63224, 4721, 11079, 61441, 519,
  21024, 7890, 23914, 49013, 16804, 4960, 10321, 50340, 54656, 60932, 40136, 62468, 33401, 33292, 12822, 28808,
  62478, 48713, 57757, 55445, 2437, 56611, 44922, 6069, 23959, 1179, 42382, 24575, 57070, 31889, 15641, 10411,
  17888, 522, 29341, 7758, 63612, 2265, 4416, 45333, 13874, 14030, 37557, 64562, 35187, 56233, 63713, 4390,
  7592, 8336, 17131, 36694, 17744, 54087, 33551, 31208, 28340, 42711, 10532, 26409, 21665, 62709, 54347, 62735,
  51236, 28875, 28643, 14411, 48841, 38569, 48571, 5766, 24365, 19517, 46282, 54988, 45600, 8659, 23853, 15548,
  35420, 36583, 15888, 54736, 10409, 26663, 26168, 32688, 3486, 7538, 38519, 53964, 34564, 10737, 8792, 42172,
  48990, 14445, 40477, 9227, 55703, 19003, 36971, 56672, 39576, 56306, 57059, 59499, 3483, 61497, 8099, 21330]
theorem heads_0 : (List.range 32).all (fun i => headN (nodeId (UInt8.ofNat (0 + i))) == heads.getD (0 + i) 0) = true := by decide +kernel
theorem heads_1 : (List.range 32).all (fun i => headN (nodeId (UInt8.ofNat (32 + i))) == heads.getD (32 + i) 0) = true := by decide +kernel
theorem heads_2 : (List.range 32).all (fun i => headN (nodeId (UInt8.ofNat (64 + i))) == heads.getD (64 + i) 0) = true := by decide +kernel
theorem heads_3 : (List.range 32).all (fun i => headN (nodeId (UInt8.ofNat (96 + i))) == heads.getD (96 + i) 0) = true := by decide +kernel
theorem heads_4 : (List.range 32).all (fun i => headN (nodeId (UInt8.ofNat (128 + i))) == heads.getD (128 + i) 0) = true := by decide +kernel
theorem heads_5 : (List.range 32).all (fun i => headN (nodeId (UInt8.ofNat (160 + i))) == heads.getD (160 + i) 0) = true := by decide +kernel
theorem heads_6 : (List.range 32).all (fun i => headN (nodeId (UInt8.ofNat (192 + i))) == heads.getD (192 + i) 0) = true := by decide +kernel
theorem heads_7 : (List.range 32).all (fun i => headN (nodeId (UInt8.ofNat (224 + i))) == heads.getD (224 + i) 0) = true := by decide +kernel
theorem heads_nodup : heads.Nodup := by decide +kernel
theorem heads_length : heads.length = 256 := rfl
theorem heads_at (i : Nat) (h : i < 256) : headN (nodeId (UInt8.ofNat i)) = heads.getD i 0 := by
  have key : ∀ k, k < 32 → ∀ o : Nat, (List.range 32).all (fun i => headN (nodeId (UInt8.ofNat (o + i))) == heads.getD (o + i) 0) = true → headN (nodeId (UInt8.ofNat (o + k))) = heads.getD (o + k) 0 := fun k hk o ho => by
    have := List.all_eq_true.1 ho k (List.mem_range.2 hk)
    simpa using this
  have hm : i % 32 < 32 := Nat.mod_lt _ (by omega)
  by_cases h0 : i / 32 = 0
  · have := key (i % 32) hm 0 heads_0
    rwa [show 0 + i % 32 = i by omega] at this
  by_cases h1 : i / 32 = 1
  · have := key (i % 32) hm 32 heads_1
    rwa [show 32 + i % 32 = i by omega] at this
  by_cases h2 : i / 32 = 2
  · have := key (i % 32) hm 64 heads_2
    rwa [show 64 + i % 32 = i by omega] at this
  by_cases h3 : i / 32 = 3
  · have := key (i % 32) hm 96 heads_3
    rwa [show 96 + i % 32 = i by omega] at this
  by_cases h4 : i / 32 = 4
  · have := key (i % 32) hm 128 heads_4
    rwa [show 128 + i % 32 = i by omega] at this
  by_cases h5 : i / 32 = 5
  · have := key (i % 32) hm 160 heads_5
    rwa [show 160 + i % 32 = i by omega] at this
  by_cases h6 : i / 32 = 6
  · have := key (i % 32) hm 192 heads_6
    rwa [show 192 + i % 32 = i by omega] at this
  by_cases h7 : i / 32 = 7
  · have := key (i % 32) hm 224 heads_7
    rwa [show 224 + i % 32 = i by omega] at this
  omega
theorem nodeId_inj (i j : Nat) (hi : i < 256) (hj : j < 256) (h : nodeId (UInt8.ofNat i) = nodeId (UInt8.ofNat j)) : i = j := by
  have h1 := heads_at i hi
  have h2 := heads_at j hj
  rw [h, h2] at h1
  have li : i < heads.length := by rw [heads_length]; exact hi
  have lj : j < heads.length := by rw [heads_length]; exact hj
  simp only [List.getD, List.getElem?_eq_getElem li, List.getElem?_eq_getElem lj, Option.getD_some] at h1
  have e : heads[i]? = heads[j]? := by
    rw [List.getElem?_eq_getElem li, List.getElem?_eq_getElem lj]
    exact congrArg some h1.symm
  exact (List.getElem?_inj li heads_nodup).1 e
def tab0 : List UInt8 := [161, 123, 198, 120, 104, 166, 240, 113, 203, 168, 183, 250, 174, 188, 38, 234, 139, 106, 226, 245, 239, 157, 209, 215, 80, 38, 71, 213, 53, 30, 211, 41]
theorem tab0_eq : nodeId 0 = tab0 := by decide +kernel
def tab1 : List UInt8 := [106, 239, 126, 131, 145, 120, 105, 85, 202, 253, 208, 98, 91, 190, 45, 154, 216, 119, 223, 141, 146, 246, 160, 181, 99, 112, 64, 195, 180, 215, 103, 245]
theorem tab1_eq : nodeId 1 = tab1 := by decide +kernel
def tab2 : List UInt8 := [21, 26, 135, 191, 98, 125, 140, 181, 178, 228, 11, 124, 42, 150, 22, 48, 31, 191, 74, 51, 250, 107, 201, 161, 225, 14, 196, 252, 70, 153, 113, 33]
theorem tab2_eq : nodeId 2 = tab2 := by decide +kernel
def tab3 : List UInt8 := [109, 172, 237, 207, 24, 42, 65, 15, 57, 254, 136, 163, 253, 252, 110, 140, 26, 140, 134, 17, 195, 196, 123, 22, 1, 140, 243, 151, 191, 148, 39, 49]
theorem tab3_eq : nodeId 3 = tab3 := by decide +kernel
def tab4 : List UInt8 := [172, 58, 246, 129, 70, 222, 113, 9, 63, 188, 247, 76, 108, 7, 64, 78, 244, 109, 183, 62, 189, 176, 183, 32, 14, 108, 202, 185, 80, 176, 245, 120]
theorem tab4_eq : nodeId 4 = tab4 := by decide +kernel
def tab5 : List UInt8 := [77, 123, 192, 24, 101, 123, 85, 127, 214, 135, 151, 100, 50, 56, 187, 43, 177, 153, 70, 121, 255, 212, 178, 229, 98, 73, 129, 198, 167, 159, 90, 166]
theorem tab5_eq : nodeId 5 = tab5 := by decide +kernel
def tab6 : List UInt8 := [51, 22, 38, 67, 43, 75, 148, 28, 52, 234, 159, 222, 112, 147, 144, 164, 86, 162, 67, 147, 78, 11, 5, 165, 102, 177, 15, 167, 120, 236, 193, 59]
theorem tab6_eq : nodeId 6 = tab6 := by decide +kernel
def tab7 : List UInt8 := [214, 82, 33, 105, 27, 165, 145, 13, 203, 215, 163, 212, 175, 61, 133, 120, 115, 37, 168, 197, 77, 25, 228, 170, 122, 156, 245, 77, 114, 190, 130, 100]
theorem tab7_eq : nodeId 7 = tab7 := by decide +kernel
def tab8 : List UInt8 := [140, 160, 155, 68, 152, 139, 54, 213, 47, 228, 45, 115, 121, 172, 184, 15, 181, 120, 157, 196, 23, 143, 71, 88, 55, 14, 195, 134, 251, 79, 192, 64]
theorem tab8_eq : nodeId 8 = tab8 := by decide +kernel
def tab9 : List UInt8 := [42, 54, 125, 57, 109, 252, 172, 174, 240, 13, 184, 235, 248, 195, 135, 134, 49, 38, 239, 200, 43, 65, 222, 154, 76, 186, 104, 7, 211, 222, 215, 58]
theorem tab9_eq : nodeId 9 = tab9 := by decide +kernel
end Go.Proofs.Ytnocldlfmkmiaaa
