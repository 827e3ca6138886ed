/- Plain law: the published examples, reckoned out round by round. -/
import Derived.Test.YtmpcjaoemfnjcaaInv
namespace Go.Proofs.Ytmpcjaoemfnjcaa

def SBn (x : Nat) : UInt8 := sbList.getD x 0
/-- The next key of a list. -/
def stK (n : Nat) (k : List UInt8) : List UInt8 := bList 16 (nextK SBn (gb k) (rconF n))
def kIter (k : List UInt8) : Nat → List UInt8
  | 0 => k
  | n + 1 => stK n (kIter k n)
/-- One round of the encryption. -/
def stE (n : Nat) (s k : List UInt8) : List UInt8 :=
  bList 16 fun j => (if n + 1 < 10 then mixF mixE (rotF 1 fun j => SB (gb s j)) j else rotF 1 (fun j => SB (gb s j)) j) ^^^ gb k j
def eIter (k l : List UInt8) : Nat → List UInt8
  | 0 => bList 16 fun j => gb l j ^^^ gb (kIter k 0) j
  | n + 1 => stE n (eIter k l n) (kIter k (n + 1))
theorem kwF_old {T old old' : Nat → UInt8} (h : ∀ j, j < 16 → old j = old' j) (c : UInt8) (n : Nat) (hn : n ≤ 16) : kwF T old c n = kwF T old' c n := by
  induction n with
  | zero =>
    show kw0 T old c = kw0 T old' c
    funext r
    unfold kw0
    rw [h 13 (by omega), h 14 (by omega), h 15 (by omega), h 12 (by omega)]
  | succ n ih =>
    unfold kwF
    rw [ih (by omega), h n (by omega)]
theorem fwd_SBn (x : UInt8) : fwd x.toNat = SBn x.toNat := fwd_SB x
theorem keyF_kIter (k : List UInt8) (hk : k.length = 16) (n : Nat) : bList 16 (keyF fwd (gb k) n) = kIter k n := by
  induction n with
  | zero => exact bList_of k 16 hk
  | succ n ih =>
    show bList 16 (nextK fwd (keyF fwd (gb k) n) (rconF n)) = stK n (kIter k n)
    rw [← ih]
    refine bList_congr fun j hj => ?_
    unfold nextK
    rw [kwF_congr fwd_SBn, kwF_old (fun i hi => (bList_getD 16 (keyF fwd (gb k) n) i hi).symm) _ _ (by omega)]
theorem encS_eIter (k l : List UInt8) (hk : k.length = 16) (n : Nat) : bList 16 (encS (gb k) (gb l) n) = eIter k l n := by
  induction n with
  | zero =>
    show bList 16 (fun j => gb l j ^^^ keyF fwd (gb k) 0 j) = bList 16 fun j => gb l j ^^^ gb (kIter k 0) j
    refine bList_congr fun j hj => ?_
    rw [← keyF_kIter k hk 0, bList_getD _ _ _ hj]
  | succ n ih =>
    show bList 16 (fun j => (if n + 1 < 10 then mixF mixE (rotF 1 fun j => fwd (encS (gb k) (gb l) n j).toNat) j else rotF 1 (fun j => fwd (encS (gb k) (gb l) n j).toNat) j) ^^^ keyF fwd (gb k) (n + 1) j) = stE n (eIter k l n) (kIter k (n + 1))
    rw [← ih, ← keyF_kIter k hk (n + 1)]
    have hs : ∀ j, j < 16 → (rotF 1 fun j => fwd (encS (gb k) (gb l) n j).toNat) j = (rotF 1 fun j => SB (gb (bList 16 (encS (gb k) (gb l) n)) j)) j := fun j hj =>
      rotF_congr 1 (fun i hi => by rw [bList_getD _ _ _ hi]; exact fwd_SB _) j
    refine bList_congr fun j hj => ?_
    rw [bList_getD _ _ _ hj, mixF_congr mixE hs j hj, hs j hj]

def lk0 : List UInt8 := [0, 1, 2, 3, 4, 5, 6, 7, 8, 9, 10, 11, 12, 13, 14, 15]
def lk1 : List UInt8 := [214, 170, 116, 253, 210, 175, 114, 250, 218, 166, 120, 241, 214, 171, 118, 254]
def lk2 : List UInt8 := [182, 146, 207, 11, 100, 61, 189, 241, 190, 155, 197, 0, 104, 48, 179, 254]
def lk3 : List UInt8 := [182, 255, 116, 78, 210, 194, 201, 191, 108, 89, 12, 191, 4, 105, 191, 65]
def lk4 : List UInt8 := [71, 247, 247, 188, 149, 53, 62, 3, 249, 108, 50, 188, 253, 5, 141, 253]
def lk5 : List UInt8 := [60, 170, 163, 232, 169, 159, 157, 235, 80, 243, 175, 87, 173, 246, 34, 170]
def lk6 : List UInt8 := [94, 57, 15, 125, 247, 166, 146, 150, 167, 85, 61, 193, 10, 163, 31, 107]
def lk7 : List UInt8 := [20, 249, 112, 26, 227, 95, 226, 140, 68, 10, 223, 77, 78, 169, 192, 38]
def lk8 : List UInt8 := [71, 67, 135, 53, 164, 28, 101, 185, 224, 22, 186, 244, 174, 191, 122, 210]
def lk9 : List UInt8 := [84, 153, 50, 209, 240, 133, 87, 104, 16, 147, 237, 156, 190, 44, 151, 78]
def lk10 : List UInt8 := [19, 17, 29, 127, 227, 148, 74, 23, 243, 7, 167, 139, 77, 43, 48, 197]
theorem lks0 : stK 0 lk0 = lk1 := by decide +kernel
theorem lks1 : stK 1 lk1 = lk2 := by decide +kernel
theorem lks2 : stK 2 lk2 = lk3 := by decide +kernel
theorem lks3 : stK 3 lk3 = lk4 := by decide +kernel
theorem lks4 : stK 4 lk4 = lk5 := by decide +kernel
theorem lks5 : stK 5 lk5 = lk6 := by decide +kernel
theorem lks6 : stK 6 lk6 = lk7 := by decide +kernel
theorem lks7 : stK 7 lk7 = lk8 := by decide +kernel
theorem lks8 : stK 8 lk8 = lk9 := by decide +kernel
theorem lks9 : stK 9 lk9 = lk10 := by decide +kernel
theorem lki0 : kIter lk0 0 = lk0 := rfl
theorem lki1 : kIter lk0 1 = lk1 := by rw [kIter, lki0, lks0]
theorem lki2 : kIter lk0 2 = lk2 := by rw [kIter, lki1, lks1]
theorem lki3 : kIter lk0 3 = lk3 := by rw [kIter, lki2, lks2]
theorem lki4 : kIter lk0 4 = lk4 := by rw [kIter, lki3, lks3]
theorem lki5 : kIter lk0 5 = lk5 := by rw [kIter, lki4, lks4]
theorem lki6 : kIter lk0 6 = lk6 := by rw [kIter, lki5, lks5]
theorem lki7 : kIter lk0 7 = lk7 := by rw [kIter, lki6, lks6]
theorem lki8 : kIter lk0 8 = lk8 := by rw [kIter, lki7, lks7]
theorem lki9 : kIter lk0 9 = lk9 := by rw [kIter, lki8, lks8]
theorem lki10 : kIter lk0 10 = lk10 := by rw [kIter, lki9, lks9]
def lq0 : List UInt8 := [43, 126, 21, 22, 40, 174, 210, 166, 171, 247, 21, 136, 9, 207, 79, 60]
def lq1 : List UInt8 := [160, 250, 254, 23, 136, 84, 44, 177, 35, 163, 57, 57, 42, 108, 118, 5]
def lq2 : List UInt8 := [242, 194, 149, 242, 122, 150, 185, 67, 89, 53, 128, 122, 115, 89, 246, 127]
def lq3 : List UInt8 := [61, 128, 71, 125, 71, 22, 254, 62, 30, 35, 126, 68, 109, 122, 136, 59]
def lq4 : List UInt8 := [239, 68, 165, 65, 168, 82, 91, 127, 182, 113, 37, 59, 219, 11, 173, 0]
def lq5 : List UInt8 := [212, 209, 198, 248, 124, 131, 157, 135, 202, 242, 184, 188, 17, 249, 21, 188]
def lq6 : List UInt8 := [109, 136, 163, 122, 17, 11, 62, 253, 219, 249, 134, 65, 202, 0, 147, 253]
def lq7 : List UInt8 := [78, 84, 247, 14, 95, 95, 201, 243, 132, 166, 79, 178, 78, 166, 220, 79]
def lq8 : List UInt8 := [234, 210, 115, 33, 181, 141, 186, 210, 49, 43, 245, 96, 127, 141, 41, 47]
def lq9 : List UInt8 := [172, 119, 102, 243, 25, 250, 220, 33, 40, 209, 41, 65, 87, 92, 0, 110]
def lq10 : List UInt8 := [208, 20, 249, 168, 201, 238, 37, 137, 225, 63, 12, 200, 182, 99, 12, 166]
theorem lqs0 : stK 0 lq0 = lq1 := by decide +kernel
theorem lqs1 : stK 1 lq1 = lq2 := by decide +kernel
theorem lqs2 : stK 2 lq2 = lq3 := by decide +kernel
theorem lqs3 : stK 3 lq3 = lq4 := by decide +kernel
theorem lqs4 : stK 4 lq4 = lq5 := by decide +kernel
theorem lqs5 : stK 5 lq5 = lq6 := by decide +kernel
theorem lqs6 : stK 6 lq6 = lq7 := by decide +kernel
theorem lqs7 : stK 7 lq7 = lq8 := by decide +kernel
theorem lqs8 : stK 8 lq8 = lq9 := by decide +kernel
theorem lqs9 : stK 9 lq9 = lq10 := by decide +kernel
theorem lqi0 : kIter lq0 0 = lq0 := rfl
theorem lqi1 : kIter lq0 1 = lq1 := by rw [kIter, lqi0, lqs0]
theorem lqi2 : kIter lq0 2 = lq2 := by rw [kIter, lqi1, lqs1]
theorem lqi3 : kIter lq0 3 = lq3 := by rw [kIter, lqi2, lqs2]
theorem lqi4 : kIter lq0 4 = lq4 := by rw [kIter, lqi3, lqs3]
theorem lqi5 : kIter lq0 5 = lq5 := by rw [kIter, lqi4, lqs4]
theorem lqi6 : kIter lq0 6 = lq6 := by rw [kIter, lqi5, lqs5]
theorem lqi7 : kIter lq0 7 = lq7 := by rw [kIter, lqi6, lqs6]
theorem lqi8 : kIter lq0 8 = lq8 := by rw [kIter, lqi7, lqs7]
theorem lqi9 : kIter lq0 9 = lq9 := by rw [kIter, lqi8, lqs8]
theorem lqi10 : kIter lq0 10 = lq10 := by rw [kIter, lqi9, lqs9]
def lz : List UInt8 := [0, 0, 0, 0, 0, 0, 0, 0, 0, 0, 0, 0, 0, 0, 0, 0]
def lz0 : List UInt8 := [0, 1, 2, 3, 4, 5, 6, 7, 8, 9, 10, 11, 12, 13, 14, 15]
theorem lzi0 : eIter lk0 lz 0 = lz0 := by rw [eIter, lki0]; decide +kernel
def lz1 : List UInt8 := [188, 192, 40, 184, 254, 194, 65, 171, 106, 127, 37, 144, 241, 55, 87, 162]
theorem lzs1 : stE 0 lz0 lk1 = lz1 := by decide +kernel
theorem lzi1 : eIter lk0 lz 1 = lz1 := by rw [eIter, lzi0, lki1, lzs1]
def lz2 : List UInt8 := [22, 198, 191, 202, 83, 184, 214, 118, 89, 136, 147, 108, 7, 0, 21, 255]
theorem lzs2 : stE 1 lz1 lk2 = lz2 := by decide +kernel
theorem lzi2 : eIter lk0 lz 2 = lz2 := by rw [eIter, lzi1, lki2, lzs2]
def lz3 : List UInt8 := [70, 9, 198, 27, 105, 35, 206, 230, 116, 116, 252, 226, 244, 142, 201, 247]
theorem lzs3 : stE 2 lz2 lk3 = lz3 := by decide +kernel
theorem lzi3 : eIter lk0 lz 3 = lz3 := by rw [eIter, lzi2, lki3, lzs3]
def lz4 : List UInt8 := [65, 66, 72, 20, 163, 32, 30, 25, 215, 133, 67, 187, 136, 166, 141, 134]
theorem lzs4 : stE 3 lz3 lk4 = lz4 := by decide +kernel
theorem lzi4 : eIter lk0 lz 4 = lz4 := by rw [eIter, lzi3, lki4, lzs4]
def lz5 : List UInt8 := [189, 54, 111, 83, 184, 189, 175, 208, 166, 151, 70, 128, 210, 22, 11, 108]
theorem lzs5 : stE 4 lz4 lk5 = lz5 := by decide +kernel
theorem lzi5 : eIter lk0 lz 5 = lz5 := by rw [eIter, lzi4, lki5, lzs5]
def lz6 : List UInt8 := [46, 9, 75, 115, 106, 81, 12, 64, 254, 108, 133, 162, 192, 90, 17, 82]
theorem lzs6 : stE 5 lz5 lk6 = lz6 := by decide +kernel
theorem lzi6 : eIter lk0 lz 6 = lz6 := by rw [eIter, lzi5, lki6, lzs6]
def lz7 : List UInt8 := [137, 211, 165, 15, 26, 239, 37, 93, 74, 17, 188, 132, 230, 50, 210, 120]
theorem lzs7 : stE 6 lz6 lk7 = lz7 := by decide +kernel
theorem lzi7 : eIter lk0 lz 7 = lz7 := by rw [eIter, lzi6, lki7, lzs7]
def lz8 : List UInt8 := [177, 82, 234, 30, 165, 19, 174, 159, 120, 192, 151, 40, 99, 227, 13, 188]
theorem lzs8 : stE 7 lz7 lk8 = lz8 := by decide +kernel
theorem lzi8 : eIter lk0 lz 8 = lz8 := by rw [eIter, lzi7, lki8, lzs8]
def lz9 : List UInt8 := [181, 77, 35, 173, 140, 252, 200, 235, 28, 68, 35, 120, 131, 212, 227, 212]
theorem lzs9 : stE 8 lz8 lk9 = lz9 := by decide +kernel
theorem lzi9 : eIter lk0 lz 9 = lz9 := by rw [eIter, lzi8, lki9, lzs9]
def lz10 : List UInt8 := [198, 161, 59, 55, 135, 143, 91, 130, 111, 79, 129, 98, 161, 200, 216, 121]
theorem lzs10 : stE 9 lz9 lk10 = lz10 := by decide +kernel
theorem lzi10 : eIter lk0 lz 10 = lz10 := by rw [eIter, lzi9, lki10, lzs10]
def lp : List UInt8 := [0, 17, 34, 51, 68, 85, 102, 119, 136, 153, 170, 187, 204, 221, 238, 255]
def lp0 : List UInt8 := [0, 16, 32, 48, 64, 80, 96, 112, 128, 144, 160, 176, 192, 208, 224, 240]
theorem lpi0 : eIter lk0 lp 0 = lp0 := by rw [eIter, lki0]; decide +kernel
def lp1 : List UInt8 := [137, 216, 16, 232, 133, 90, 206, 104, 45, 24, 67, 216, 203, 18, 143, 228]
theorem lps1 : stE 0 lp0 lk1 = lp1 := by decide +kernel
theorem lpi1 : eIter lk0 lp 1 = lp1 := by rw [eIter, lpi0, lki1, lps1]
def lp2 : List UInt8 := [73, 21, 89, 143, 85, 229, 215, 160, 218, 202, 148, 250, 31, 10, 99, 247]
theorem lps2 : stE 1 lp1 lk2 = lp2 := by decide +kernel
theorem lpi2 : eIter lk0 lp 2 = lp2 := by rw [eIter, lpi1, lki2, lps2]
def lp3 : List UInt8 := [250, 99, 106, 40, 37, 179, 57, 201, 64, 102, 138, 49, 87, 36, 77, 23]
theorem lps3 : stE 2 lp2 lk3 = lp3 := by decide +kernel
theorem lpi3 : eIter lk0 lp 3 = lp3 := by rw [eIter, lpi2, lki3, lps3]
def lp4 : List UInt8 := [36, 114, 64, 35, 105, 102, 179, 250, 110, 210, 117, 50, 136, 66, 91, 108]
theorem lps4 : stE 3 lp3 lk4 = lp4 := by decide +kernel
theorem lpi4 : eIter lk0 lp 4 = lp4 := by rw [eIter, lpi3, lki4, lps4]
def lp5 : List UInt8 := [200, 22, 119, 188, 155, 122, 201, 59, 37, 2, 121, 146, 176, 38, 25, 150]
theorem lps5 : stE 4 lp4 lk5 = lp5 := by decide +kernel
theorem lpi5 : eIter lk0 lp 5 = lp5 := by rw [eIter, lpi4, lki5, lps5]
def lp6 : List UInt8 := [198, 47, 225, 9, 247, 94, 237, 195, 204, 121, 57, 93, 132, 249, 207, 93]
theorem lps6 : stE 5 lp5 lk6 = lp6 := by decide +kernel
theorem lpi6 : eIter lk0 lp 6 = lp6 := by rw [eIter, lpi5, lki6, lps6]
def lp7 : List UInt8 := [209, 135, 108, 15, 121, 196, 48, 10, 180, 85, 148, 173, 214, 111, 244, 31]
theorem lps7 : stE 6 lp6 lk7 = lp7 := by decide +kernel
theorem lpi7 : eIter lk0 lp 7 = lp7 := by rw [eIter, lpi6, lki7, lps7]
def lp8 : List UInt8 := [253, 227, 186, 210, 5, 229, 208, 215, 53, 71, 150, 78, 241, 254, 55, 241]
theorem lps8 : stE 7 lp7 lk8 = lp8 := by decide +kernel
theorem lpi8 : eIter lk0 lp 8 = lp8 := by rw [eIter, lpi7, lki8, lps8]
def lp9 : List UInt8 := [189, 110, 124, 61, 242, 181, 119, 158, 11, 97, 33, 110, 139, 16, 182, 137]
theorem lps9 : stE 8 lp8 lk9 = lp9 := by decide +kernel
theorem lpi9 : eIter lk0 lp 9 = lp9 := by rw [eIter, lpi8, lki9, lps9]
def lp10 : List UInt8 := [105, 196, 224, 216, 106, 123, 4, 48, 216, 205, 183, 128, 112, 180, 197, 90]
theorem lps10 : stE 9 lp9 lk10 = lp10 := by decide +kernel
theorem lpi10 : eIter lk0 lp 10 = lp10 := by rw [eIter, lpi9, lki10, lps10]
end Go.Proofs.Ytmpcjaoemfnjcaa
