/- Plain law: the published check codes, reckoned out round by round. Printed by gen/lit6.py. -/
import Derived.Test.YtmpcjaoemfnjcaaLit
import Derived.Test.YtmpcjaoemfnjcaaCode
namespace Go.Proofs.Ytmpcjaoemfnjcaa

theorem blk_all (x : List UInt8) (h : x.length = 16) : blk x 0 = x := by unfold blk; rw [Nat.mul_zero, List.drop_zero, List.take_of_length_le (by omega)]
theorem sealO_one (k iv x : List UInt8) (h : x.length = 16) : sealO k iv x = encL k (xorL x iv) := by
  rw [sealO_sP k iv x (m := 1) (by omega), sP_succ, sP_zero, sC_succ, sC_zero, blk_all x h, List.nil_append]
def la : List UInt8 := [0, 0, 0, 0, 0, 0, 0, 0, 0, 0, 0, 0, 0, 0, 0, 0]
def la0 : List UInt8 := [43, 126, 21, 22, 40, 174, 210, 166, 171, 247, 21, 136, 9, 207, 79, 60]
theorem lai0 : eIter lq0 la 0 = la0 := by rw [eIter, lqi0]; decide +kernel
def la1 : List UInt8 := [220, 216, 127, 111, 155, 96, 170, 143, 31, 1, 15, 4, 87, 144, 162, 211]
theorem las1 : stE 0 la0 lq1 = la1 := by decide +kernel
theorem lai1 : eIter lq0 la 1 = la1 := by rw [eIter, lai0, lqi1, las1]
def la2 : List UInt8 := [158, 3, 133, 9, 68, 156, 70, 114, 195, 43, 10, 117, 56, 221, 130, 160]
theorem las2 : stE 1 la1 lq2 = la2 := by decide +kernel
theorem lai2 : eIter lq0 la 2 = la2 := by rw [eIter, lai1, lqi2, las2]
def la3 : List UInt8 := [213, 101, 103, 2, 107, 192, 49, 243, 205, 118, 100, 224, 41, 248, 252, 50]
theorem las3 : stE 2 la2 lq3 = la3 := by decide +kernel
theorem lai3 : eIter lq0 la 3 = la3 := by rw [eIter, lai2, lqi3, las3]
def la4 : List UInt8 := [92, 206, 255, 251, 217, 225, 254, 152, 156, 215, 223, 57, 123, 135, 232, 167]
theorem las4 : stE 3 la3 lq4 = la4 := by decide +kernel
theorem lai4 : eIter lq0 la 4 = la4 := by rw [eIter, lai3, lqi4, las4]
def la5 : List UInt8 := [145, 149, 183, 248, 144, 19, 154, 83, 4, 126, 151, 72, 124, 17, 228, 203]
theorem las5 : stE 4 la4 lq5 = la5 := by decide +kernel
theorem lai5 : eIter lq0 la 5 = la5 := by rw [eIter, lai4, lqi5, las5]
def la6 : List UInt8 := [100, 111, 117, 41, 247, 108, 188, 69, 253, 25, 147, 166, 126, 197, 52, 251]
theorem las6 : stE 5 la5 lq6 = la6 := by decide +kernel
theorem lai6 : eIter lq0 la 6 = la6 := by rw [eIter, lai5, lqi6, las6]
def la7 : List UInt8 := [235, 199, 86, 89, 85, 9, 177, 214, 46, 119, 46, 169, 17, 149, 33, 196]
theorem las7 : stE 6 la6 lq7 = la7 := by decide +kernel
theorem lai7 : eIter lq0 la 7 = la7 := by rw [eIter, lai6, lqi7, las7]
def la8 : List UInt8 := [13, 118, 221, 9, 100, 87, 20, 72, 106, 112, 150, 95, 42, 8, 136, 1]
theorem las8 : stE 7 la7 lq8 = la8 := by decide +kernel
theorem lai8 : eIter lq0 la 8 = la8 := by rw [eIter, lai7, lqi8, las8]
def la9 : List UInt8 := [24, 193, 85, 162, 169, 77, 94, 115, 239, 185, 116, 18, 251, 19, 120, 29]
theorem las9 : stE 8 la8 lq9 = la9 := by decide +kernel
theorem lai9 : eIter lq0 la 9 = la9 := by rw [eIter, lai8, lqi9, las9]
def la10 : List UInt8 := [125, 247, 107, 12, 26, 184, 153, 179, 62, 66, 240, 71, 185, 27, 84, 111]
theorem las10 : stE 9 la9 lq10 = la10 := by decide +kernel
theorem lai10 : eIter lq0 la 10 = la10 := by rw [eIter, lai9, lqi10, las10]
theorem lae : encL lq0 la = la10 := by
  show encL lq0 la = _
  unfold encL
  show bList 16 (encS (gb lq0) (gb la) 10) = _
  rw [encS_eIter lq0 la rfl 10, lai10]
def ls1 : List UInt8 := [251, 238, 214, 24, 53, 113, 51, 102, 124, 133, 224, 143, 114, 54, 168, 222]
def ls2 : List UInt8 := [247, 221, 172, 48, 106, 226, 102, 204, 249, 11, 193, 30, 228, 109, 81, 59]
def lm : List UInt8 := [107, 193, 190, 226, 46, 64, 159, 150, 233, 61, 126, 17, 115, 147, 23, 42]
theorem la_z : Z16 = la := by unfold Z16; decide +kernel
theorem dbl_1 : dblL la10 = ls1 := by decide +kernel
theorem dbl_2 : dblL ls1 = ls2 := by decide +kernel
theorem sub_q : subK lq0 = ls1 := by unfold subK; rw [la_z, lae, dbl_1]
def lb : List UInt8 := [119, 221, 172, 48, 106, 226, 102, 204, 249, 11, 193, 30, 228, 109, 81, 59]
def lb0 : List UInt8 := [92, 163, 185, 38, 66, 76, 180, 106, 82, 252, 212, 150, 237, 162, 30, 7]
theorem lbi0 : eIter lq0 lb 0 = lb0 := by rw [eIter, lqi0]; decide +kernel
def lb1 : List UInt8 := [194, 255, 89, 57, 158, 98, 86, 242, 57, 47, 169, 81, 131, 49, 131, 70]
theorem lbs1 : stE 0 lb0 lq1 = lb1 := by decide +kernel
theorem lbi1 : eIter lq0 lb 1 = lb1 := by rw [eIter, lbi0, lqi1, lbs1]
def lb2 : List UInt8 := [212, 156, 73, 80, 173, 138, 82, 131, 109, 125, 88, 73, 234, 128, 29, 78]
theorem lbs2 : stE 1 lb1 lq2 = lb2 := by decide +kernel
theorem lbi2 : eIter lq0 lb 2 = lb2 := by rw [eIter, lbi1, lqi2, lbs2]
def lb3 : List UInt8 := [106, 165, 212, 239, 155, 194, 50, 103, 253, 63, 214, 53, 58, 97, 156, 1]
theorem lbs3 : stE 2 lb2 lq3 = lb3 := by decide +kernel
theorem lbi3 : eIter lq0 lb 3 = lb3 := by rw [eIter, lbi2, lqi3, lbs3]
def lb4 : List UInt8 := [14, 113, 241, 108, 30, 10, 231, 77, 249, 189, 154, 113, 127, 116, 204, 137]
theorem lbs4 : stE 3 lb3 lq4 = lb4 := by decide +kernel
theorem lbi4 : eIter lq0 lb 4 = lb4 := by rw [eIter, lbi3, lqi4, lbs4]
def lb5 : List UInt8 := [47, 192, 147, 148, 13, 136, 243, 128, 12, 79, 212, 226, 103, 114, 169, 187]
theorem lbs5 : stE 4 lb4 lq5 = lb5 := by decide +kernel
theorem lbi5 : eIter lq0 lb 5 = lb5 := by rw [eIter, lbi4, lqi5, lbs5]
def lb6 : List UInt8 := [178, 60, 199, 6, 194, 131, 182, 140, 237, 53, 215, 69, 155, 101, 5, 245]
theorem lbs6 : stE 5 lb5 lq6 = lb6 := by decide +kernel
theorem lbi6 : eIter lq0 lb 6 = lb6 := by rw [eIter, lbi5, lqi6, lbs6]
def lb7 : List UInt8 := [231, 84, 1, 98, 176, 159, 29, 191, 91, 92, 108, 14, 96, 195, 13, 10]
theorem lbs7 : stE 6 lb6 lq7 = lb7 := by decide +kernel
theorem lbi7 : eIter lq0 lb 7 = lb7 := by rw [eIter, lbi6, lqi7, lbs7]
def lb8 : List UInt8 := [152, 124, 53, 195, 195, 54, 71, 50, 69, 194, 2, 105, 171, 65, 108, 141]
theorem lbs8 : stE 7 lb7 lq8 = lb8 := by decide +kernel
theorem lbi8 : eIter lq0 lb 8 = lb8 := by rw [eIter, lbi7, lqi8, lbs8]
def lb9 : List UInt8 := [5, 255, 44, 241, 84, 64, 5, 122, 223, 32, 150, 160, 250, 28, 57, 145]
theorem lbs9 : stE 8 lb8 lq9 = lb9 := by decide +kernel
theorem lbi9 : eIter lq0 lb 9 = lb9 := by rw [eIter, lbi8, lqi9, lbs9]
def lb10 : List UInt8 := [187, 29, 105, 41, 233, 89, 55, 40, 127, 163, 125, 18, 155, 117, 103, 70]
theorem lbs10 : stE 9 lb9 lq10 = lb10 := by decide +kernel
theorem lbi10 : eIter lq0 lb 10 = lb10 := by rw [eIter, lbi9, lqi10, lbs10]
theorem lbe : encL lq0 lb = lb10 := by
  show encL lq0 lb = _
  unfold encL
  show bList 16 (encS (gb lq0) (gb lb) 10) = _
  rw [encS_eIter lq0 lb rfl 10, lbi10]
def lc : List UInt8 := [144, 47, 104, 250, 27, 49, 172, 240, 149, 184, 158, 158, 1, 165, 191, 244]
def lc0 : List UInt8 := [187, 81, 125, 236, 51, 159, 126, 86, 62, 79, 139, 22, 8, 106, 240, 200]
theorem lci0 : eIter lq0 lc 0 = lc0 := by rw [eIter, lqi0]; decide +kernel
def lc1 : List UInt8 := [204, 18, 150, 31, 192, 197, 33, 96, 20, 190, 164, 112, 150, 172, 163, 249]
theorem lcs1 : stE 0 lc0 lq1 = lc1 := by decide +kernel
theorem lci1 : eIter lq0 lc 1 = lc1 := by rw [eIter, lci0, lqi1, lcs1]
def lc2 : List UInt8 := [69, 156, 90, 233, 54, 181, 226, 169, 94, 141, 187, 213, 164, 13, 189, 66]
theorem lcs2 : stE 1 lc1 lq2 = lc2 := by decide +kernel
theorem lci2 : eIter lq0 lc 2 = lc2 := by rw [eIter, lci1, lqi2, lcs2]
def lc3 : List UInt8 := [67, 86, 71, 168, 206, 57, 112, 42, 161, 196, 248, 120, 29, 36, 49, 160]
theorem lcs3 : stE 2 lc2 lq3 = lc3 := by decide +kernel
theorem lci3 : eIter lq0 lc 3 = lc3 := by rw [eIter, lci2, lqi3, lcs3]
def lc4 : List UInt8 := [76, 89, 20, 231, 132, 113, 4, 189, 205, 49, 78, 42, 173, 153, 197, 116]
theorem lcs4 : stE 3 lc3 lq4 = lc4 := by decide +kernel
theorem lci4 : eIter lq0 lc 4 = lc4 := by rw [eIter, lci3, lqi4, lcs4]
def lc5 : List UInt8 := [197, 70, 191, 48, 162, 44, 245, 52, 2, 231, 138, 128, 113, 9, 128, 240]
theorem lcs5 : stE 4 lc4 lq5 = lc5 := by decide +kernel
theorem lci5 : eIter lq0 lc 5 = lc5 := by rw [eIter, lci4, lqi5, lcs5]
def lc6 : List UInt8 := [91, 194, 7, 135, 11, 74, 29, 226, 38, 140, 200, 225, 82, 235, 241, 62]
theorem lcs6 : stE 5 lc5 lq6 = lc6 := by decide +kernel
theorem lci6 : eIter lq0 lc 6 = lc6 := by rw [eIter, lci5, lqi6, lcs6]
def lc7 : List UInt8 := [7, 75, 30, 4, 19, 83, 230, 101, 12, 84, 115, 183, 125, 227, 185, 37]
theorem lcs7 : stE 6 lc6 lq7 = lc7 := by decide +kernel
theorem lci7 : eIter lq0 lc 7 = lc7 := by rw [eIter, lci6, lqi7, lcs7]
def lc8 : List UInt8 := [231, 99, 31, 105, 139, 184, 70, 220, 218, 44, 41, 128, 115, 47, 130, 65]
theorem lcs8 : stE 7 lc7 lq8 = lc8 := by decide +kernel
theorem lci8 : eIter lq0 lc 8 = lc8 := by rw [eIter, lci7, lqi8, lcs8]
def lc9 : List UInt8 := [13, 76, 81, 128, 26, 233, 166, 237, 255, 113, 97, 122, 211, 29, 140, 196]
theorem lcs9 : stE 8 lc8 lq9 = lc9 := by decide +kernel
theorem lci9 : eIter lq0 lc 9 = lc9 := by rw [eIter, lci8, lqi9, lcs9]
def lc10 : List UInt8 := [7, 10, 22, 180, 107, 77, 65, 68, 247, 155, 221, 157, 208, 74, 40, 124]
theorem lcs10 : stE 9 lc9 lq10 = lc10 := by decide +kernel
theorem lci10 : eIter lq0 lc 10 = lc10 := by rw [eIter, lci9, lqi10, lcs10]
theorem lce : encL lq0 lc = lc10 := by
  show encL lq0 lc = _
  unfold encL
  show bList 16 (encS (gb lq0) (gb lc) 10) = _
  rw [encS_eIter lq0 lc rfl 10, lci10]
theorem odd_nil : codeOdd [] := Or.inl rfl
theorem odd_m : ¬ codeOdd lm := by decide
theorem last_a : xorL (lastX (padL []) ls2) la = lb := by decide +kernel
theorem last_b : xorL (lastX lm ls1) la = lc := by decide +kernel
theorem codeA : codeO lq0 [] = lb10 := by
  have h1 : codeX [] = padL [] := if_pos odd_nil
  have h2 : codeK lq0 [] = ls2 := by unfold codeK; rw [if_pos odd_nil, sub_q, dbl_2]
  have h3 : (padL []).length = 16 := by decide
  unfold codeO
  rw [if_pos (show lq0.length = 16 from rfl), h1, h2, h3, sealO_one _ _ _ (by rw [lastX_len _ (by omega), h3]), la_z, last_a, lbe]
  rfl
theorem codeB : codeO lq0 lm = lc10 := by
  have h1 : codeX lm = lm := if_neg odd_m
  have h2 : codeK lq0 lm = ls1 := by unfold codeK; rw [if_neg odd_m, sub_q]
  have h3 : lm.length = 16 := rfl
  unfold codeO
  rw [if_pos (show lq0.length = 16 from rfl), h1, h2, h3, sealO_one _ _ _ (by rw [lastX_len _ (by omega), h3]), la_z, last_b, lce]
  rfl
end Go.Proofs.Ytmpcjaoemfnjcaa
