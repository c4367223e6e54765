/- The tags of long bodies of zeros under the key "k": none of them is zero. -/
import Derived.Test.YtiakgohipnbdbaaShaZ
import Derived.Test.YtiakgohipnbdbaaSe6
namespace Go.Proofs.Ytiakgohipnbdbaa
set_option linter.unusedVariables false
set_option linter.unusedSimpArgs false

def kdB : List UInt8 := [55, 86, 78, 161, 169, 221, 93, 84, 177, 233, 125, 58, 239, 45, 234, 109, 141, 35, 19, 191, 91, 101, 13, 158, 105, 40, 38, 188, 117, 10, 58, 86]
def b54 : List UInt8 := [1, 96, 120, 151, 159, 235, 107, 98, 135, 223, 75, 12, 217, 27, 220, 91, 187, 21, 37, 137, 109, 83, 59, 168, 95, 30, 16, 138, 67, 60, 12, 96, 54, 54, 54, 54, 54, 54, 54, 54, 54, 54, 54, 54, 54, 54, 54, 54, 54, 54, 54, 54, 54, 54, 54, 54, 54, 54, 54, 54, 54, 54, 54, 54]
def b92 : List UInt8 := [107, 10, 18, 253, 245, 129, 1, 8, 237, 181, 33, 102, 179, 113, 182, 49, 209, 127, 79, 227, 7, 57, 81, 194, 53, 116, 122, 224, 41, 86, 102, 10, 92, 92, 92, 92, 92, 92, 92, 92, 92, 92, 92, 92, 92, 92, 92, 92, 92, 92, 92, 92, 92, 92, 92, 92, 92, 92, 92, 92, 92, 92, 92, 92]
theorem kd_eq : bindK [107] = kdB := by kernel_rfl
theorem b54_eq : fillB kdB 54 = b54 := by kernel_rfl
theorem b92_eq : fillB kdB 92 = b92 := by kernel_rfl
def sA : H8 := ⟨1775210914#32, 1317511446#32, 2195575460#32, 3469709308#32, 203065183#32, 91869440#32, 4039214103#32, 3491917219#32⟩
theorem sA_eq : mixW h0 b54 = sA := by kernel_rfl
theorem frame_z (x : List UInt8) : frameB [[], [], x] = [0, 0, 0, 0, 0, 0, 0, 0] ++ (len4 x.length ++ x) := by
  simp [frameB, framesL, len4]
theorem inner_gen (n r : Nat) (B0 B1 T : List UInt8) (hn : n = 52 + (64 * 1023 + r)) (h0' : B0.length = 64) (h1 : B1 = [0, 0, 0, 0, 0, 0, 0, 0] ++ (len4 n ++ List.replicate 52 0)) (hT : T = List.replicate r 0 ++ padL (n + 76)) (hTl : T.length = 64) :
    sha (B0 ++ frameB [[], [], List.replicate n 0]) = outW (mixW (zN (mixW (mixW h0 B0) B1) 1023) T) := by
  have hl : (B0 ++ frameB [[], [], List.replicate n 0]).length = n + 76 := by
    rw [frame_z]
    simp [len4]
    omega
  have hb : B1.length = 64 := by rw [h1]; simp [len4]
  have hr : List.replicate n (0 : UInt8) = List.replicate 52 0 ++ (List.replicate (64 * 1023) 0 ++ List.replicate r 0) := by
    rw [List.replicate_append_replicate, List.replicate_append_replicate, ← hn]
  rw [sha, hl, ← shaA_chain h0 B0 B1 T 1023 h0' hb hTl, frame_z, List.length_replicate, hr, h1, hT]
  simp only [List.append_assoc]
theorem outer_gen (n : Nat) (I T : List UInt8) (h1 : sha (b54 ++ frameB [[], [], List.replicate n 0]) = I) (h2 : sha (b92 ++ I) = T) : sTag [107] [] [] (List.replicate n 0) = T := by
  rw [sTag, kd_eq, macT, b54_eq, b92_eq, h1, h2]
def sB0 : H8 := ⟨1942830647#32, 281987416#32, 3906607372#32, 610196425#32, 687052276#32, 3425712475#32, 2869457341#32, 1897754103#32⟩
def sC0 : H8 := ⟨3168756118#32, 1112505219#32, 3888677248#32, 1067636585#32, 2496376006#32, 1157044551#32, 73439955#32, 4215616420#32⟩
def t0 : List UInt8 := [0, 0, 0, 0, 0, 0, 0, 0, 0, 0, 128, 0, 0, 0, 0, 0, 0, 0, 0, 0, 0, 0, 0, 0, 0, 0, 0, 0, 0, 0, 0, 0, 0, 0, 0, 0, 0, 0, 0, 0, 0, 0, 0, 0, 0, 0, 0, 0, 0, 0, 0, 0, 0, 0, 0, 0, 0, 0, 0, 0, 0, 8, 2, 80]
def in0 : List UInt8 := [156, 107, 129, 193, 164, 229, 41, 37, 124, 136, 106, 213, 245, 104, 214, 140, 249, 52, 184, 89, 64, 192, 198, 167, 99, 181, 99, 85, 97, 45, 107, 151]
def tg0 : List UInt8 := [98, 131, 232, 239, 195, 242, 193, 219, 225, 253, 235, 18, 136, 149, 45, 13, 77, 251, 127, 74, 180, 199, 127, 129, 144, 216, 63, 2, 165, 208, 34, 202]
theorem sB0_eq : mixW sA ([0, 0, 0, 0, 0, 0, 0, 0] ++ (len4 65534 ++ List.replicate 52 0)) = sB0 := by kernel_rfl
theorem it0 : on8 sB0 (itZ 1023) = L8 sC0 := by kernel_rfl
theorem sC0_eq : zN sB0 1023 = sC0 := L8_inj (by rw [← itZ_eq]; exact it0)
theorem in0_eq : outW (mixW sC0 t0) = in0 := by kernel_rfl
theorem t0_eq : t0 = List.replicate 10 0 ++ padL (65534 + 76) := by kernel_rfl
theorem tg0_eq : sha (b92 ++ in0) = tg0 := by kernel_rfl
theorem ztag0 : sTag [107] [] [] (List.replicate 65534 0) = tg0 := outer_gen 65534 in0 tg0 (by
  rw [inner_gen 65534 10 b54 _ t0 (by decide) (by decide) rfl t0_eq (by decide), sA_eq, sB0_eq, sC0_eq, in0_eq]) tg0_eq
def sB1 : H8 := ⟨2839513664#32, 1031662754#32, 3485366146#32, 4086937927#32, 1861260438#32, 3980066630#32, 622006052#32, 971623813#32⟩
def sC1 : H8 := ⟨274414793#32, 2115374060#32, 3551792504#32, 4221064976#32, 3293280277#32, 2126543189#32, 622184665#32, 2156099097#32⟩
def t1 : List UInt8 := [0, 0, 0, 0, 0, 0, 0, 0, 0, 0, 0, 128, 0, 0, 0, 0, 0, 0, 0, 0, 0, 0, 0, 0, 0, 0, 0, 0, 0, 0, 0, 0, 0, 0, 0, 0, 0, 0, 0, 0, 0, 0, 0, 0, 0, 0, 0, 0, 0, 0, 0, 0, 0, 0, 0, 0, 0, 0, 0, 0, 0, 8, 2, 88]
def in1 : List UInt8 := [119, 68, 41, 139, 77, 132, 153, 254, 119, 142, 82, 245, 197, 47, 76, 115, 59, 240, 39, 42, 185, 40, 241, 34, 83, 106, 246, 126, 92, 70, 245, 24]
def tg1 : List UInt8 := [243, 56, 93, 28, 71, 222, 195, 183, 248, 243, 93, 174, 49, 96, 232, 181, 42, 202, 244, 142, 220, 72, 60, 69, 225, 132, 100, 231, 132, 77, 47, 12]
theorem sB1_eq : mixW sA ([0, 0, 0, 0, 0, 0, 0, 0] ++ (len4 65535 ++ List.replicate 52 0)) = sB1 := by kernel_rfl
theorem it1 : on8 sB1 (itZ 1023) = L8 sC1 := by kernel_rfl
theorem sC1_eq : zN sB1 1023 = sC1 := L8_inj (by rw [← itZ_eq]; exact it1)
theorem in1_eq : outW (mixW sC1 t1) = in1 := by kernel_rfl
theorem t1_eq : t1 = List.replicate 11 0 ++ padL (65535 + 76) := by kernel_rfl
theorem tg1_eq : sha (b92 ++ in1) = tg1 := by kernel_rfl
theorem ztag1 : sTag [107] [] [] (List.replicate 65535 0) = tg1 := outer_gen 65535 in1 tg1 (by
  rw [inner_gen 65535 11 b54 _ t1 (by decide) (by decide) rfl t1_eq (by decide), sA_eq, sB1_eq, sC1_eq, in1_eq]) tg1_eq
def sB2 : H8 := ⟨2436204503#32, 845872576#32, 318735522#32, 709462547#32, 1023006765#32, 1441020051#32, 1881540814#32, 3515015743#32⟩
def sC2 : H8 := ⟨2615977740#32, 386699356#32, 2602280946#32, 2311471315#32, 4044017704#32, 75978130#32, 3198625633#32, 1791771314#32⟩
def t2 : List UInt8 := [0, 0, 0, 0, 0, 0, 0, 0, 0, 0, 0, 0, 128, 0, 0, 0, 0, 0, 0, 0, 0, 0, 0, 0, 0, 0, 0, 0, 0, 0, 0, 0, 0, 0, 0, 0, 0, 0, 0, 0, 0, 0, 0, 0, 0, 0, 0, 0, 0, 0, 0, 0, 0, 0, 0, 0, 0, 0, 0, 0, 0, 8, 2, 96]
def in2 : List UInt8 := [186, 60, 230, 113, 80, 190, 194, 44, 3, 222, 74, 185, 204, 244, 214, 4, 66, 83, 7, 169, 60, 205, 18, 155, 155, 98, 32, 215, 155, 143, 239, 103]
def tg2 : List UInt8 := [60, 242, 235, 27, 144, 109, 69, 8, 200, 164, 158, 27, 177, 240, 173, 8, 227, 93, 147, 10, 221, 61, 189, 42, 214, 207, 143, 117, 48, 10, 11, 30]
theorem sB2_eq : mixW sA ([0, 0, 0, 0, 0, 0, 0, 0] ++ (len4 65536 ++ List.replicate 52 0)) = sB2 := by kernel_rfl
theorem it2 : on8 sB2 (itZ 1023) = L8 sC2 := by kernel_rfl
theorem sC2_eq : zN sB2 1023 = sC2 := L8_inj (by rw [← itZ_eq]; exact it2)
theorem in2_eq : outW (mixW sC2 t2) = in2 := by kernel_rfl
theorem t2_eq : t2 = List.replicate 12 0 ++ padL (65536 + 76) := by kernel_rfl
theorem tg2_eq : sha (b92 ++ in2) = tg2 := by kernel_rfl
theorem ztag2 : sTag [107] [] [] (List.replicate 65536 0) = tg2 := outer_gen 65536 in2 tg2 (by
  rw [inner_gen 65536 12 b54 _ t2 (by decide) (by decide) rfl t2_eq (by decide), sA_eq, sB2_eq, sC2_eq, in2_eq]) tg2_eq
/-- A body of zeros is not opened. -/
theorem zero_no (n : Nat) (h : 65534 ≤ n ∧ n ≤ 65536) : opOk [107] [] [] (List.replicate (n + 32) 0) = false := by
  rw [opOk, List.length_replicate, show n + 32 - 32 = n from rfl, List.take_replicate, List.drop_replicate, show min n (n + 32) = n by omega, show n + 32 - n = 32 by omega]
  have : n = 65534 ∨ n = 65535 ∨ n = 65536 := by omega
  rcases this with rfl | rfl | rfl
  · rw [ztag0]; decide
  · rw [ztag1]; decide
  · rw [ztag2]; decide
end Go.Proofs.Ytiakgohipnbdbaa
